/- JournalScans: the law's walk. -/
import Derived.Test.YtddeffdgldjdjaaDoorNx
import Derived.Test.YtddeffdgldjdjaaDoorNy
namespace Go.Proofs.YtddeffdgldjdjaaDoor.W
set_option linter.unusedSimpArgs false
set_option linter.unusedVariables false
set_option linter.defProp false
open Go Go.Abs
set_option maxHeartbeats 16000000
theorem noRec_ok : recOK noRec:=by unfold recOK noRec okN noE i64ok; simp [dat,idat]
theorem oneS_ok {b : List (BitVec 8)} (hl : b.length ≤ 150000000000000) : recOK (oneS b).1:=by
  have hT:=ttT_le b 4096
  rw [refS_is hl,refS]
  split
  · exact noRec_ok
  · split
    · exact refX_ok (by omega)
    · exact noRec_ok
theorem scanF_oks : ∀ (n : Nat) (b : List (BitVec 8)),b.length ≤ n → n ≤ 150000000000000 → ∀ e ∈ (scanF oneS b).1,recOK e
  | n,b,hn,hm=>by
    by_cases h : (oneS b).2 = 0
    · rw [scanF_no h]; simp
    · have h1 := oneS_le b
      rw [scanF_go oneS_le h]
      match n with
      | 0=>omega
      | n + 1 =>
        have:=scanF_oks n (b.drop (oneS b).2) (by rw [List.length_drop]; omega) (by omega)
        intro e he
        rcases List.mem_cons.1 he with rfl | he
        · exact oneS_ok (by omega)
        · exact this e he
theorem pf50_at {n : Nat} {b : List (BitVec 8)} {fl : Fl} (h : n = b.length) (h2 : b.length ≤ 1000000000000) : pf50 [.sl n (nums .u8 b) fl] = some (.tup [.sl (scanF oneS b).1.length (recsA (scanF oneS b).1) .bor,.raw (.int .i64 (scanF oneS b).2)]):=by
  simp only [pf50,row?_at h,Option.bind_some,if_pos h2]
theorem same_self {b : List (BitVec 8)} (hb : b.length ≤ 1000000000000) {n k : Nat} {fl gl : Fl} (h : n = (scanF oneS b).1.length) (h' : k = (scanF oneS b).1.length) : pf52 [.sl n (recsA (scanF oneS b).1) fl,.sl k (recsA (scanF oneS b).1) gl] = some (.raw (.bool true)):=by
  have hle:=scanF_le oneS_le b.length b (Nat.le_refl _)
  have hok:=scanF_oks b.length b (Nat.le_refl _) (by omega)
  exact pf52_at h h' (by omega) rfl hok hok (fun j _=>sameR_self _)
theorem shown_s : pf44 [] = some (.raw (.bool true)):=rfl
noncomputable def ELZ : Env:=(((ES0.know 44 pf44).know 50 pf50).know 51 pf51).know 52 pf52
theorem okLZ : EnvOK Tryd.prog ELZ:=(((okS0.know sound44).know sound50).know sound51).know sound52
theorem ELZ_te : ELZ.te = te:=rfl
theorem ELZ_glob : ELZ.glob = globS:=rfl
theorem ELZ_gs : ELZ.gs = []:=rfl
theorem ELZ_dyn : ELZ.dyn = false:=rfl
theorem ELZ_mu (d : Nat) : ELZ.mu d = false:=rfl
theorem ELZ_h : ELZ.tbl 44 = some (.val pf44):=rfl
theorem ELZ_s : ELZ.tbl 50 = some (.val pf50):=rfl
theorem ELZ_r : ELZ.tbl 51 = some (.val pf51):=rfl
theorem ELZ_e : ELZ.tbl 52 = some (.val pf52):=rfl
noncomputable def pf14 : List AV → Option AV
  | [v]=>(row? .u8 8 v).bind fun b=>if b.length ≤ 9223372036854775807 then some (.raw (.bool true)) else none
  | _=>none
def tbNz0:=(And.intro (And.intro (And.intro (And.intro @teE @shown_s) (And.intro @recsA_pure @recsA_oneA)) (And.intro (And.intro @recsA_snap @recsA_noview) (And.intro @recsA_len (And.intro @ELZ_te @ELZ_glob)))) (And.intro (And.intro (And.intro @ELZ_gs @ELZ_dyn) (And.intro @ELZ_mu (And.intro @ELZ_h @ELZ_s))) (And.intro (And.intro @ELZ_r @ELZ_e) (And.intro @ev4 (And.intro @zz0 @zz1)))))
theorem sound14 : SoundV Tryd.prog globS 14 pf14:=by
  refine SoundV.walk ELZ okLZ mixed Tryd.func14 rfl Tryd.call14 (by kernel_rfl) ?_
  intro args r hr
  unfold pf14 at hr
  split at hr
  · simp only [Option.bind_eq_some_iff] at hr
    obtain ⟨b,hb,hr⟩:=hr
    split at hr
    · rename_i hn
      cases hr
      obtain ⟨fl,rfl⟩:=row?_of hb
      rw [Tryd.ntmps14,Tryd.results14]
      refine ⟨by simp,?_⟩
      by_cases hl : (b.length : Int) > 3000
      · have d0 := decide_eq_true hl
        have hc : (b.take 3000).length = 3000:=by rw [List.length_take]; omega
        have f1:=fun fl=>pf50_at (n:=3000) (b:=b.take 3000) (fl:=fl) hc.symm (by omega)
        have f2:=fun fl=>pf51_at (n:=3000) (b:=b.take 3000) (fl:=fl) hc.symm (by omega)
        have f3:=fun fl gl=>same_self (b:=b.take 3000) (fl:=fl) (gl:=gl) (by omega) rfl rfl
        generalize scanF oneS (b.take 3000) = X at f1 f2 f3
        simp (maxSteps:=1000000) (disch:=first | omega | (simp only [shaB_lenW,lnB] <;> omega) | fail) only [ev0,ev1,ev2,ev3,↓reduceIte,reduceCtorEq,Nat.reduceAdd,Nat.reduceSub,Nat.reduceMul,Nat.reduceLT,Nat.reduceLeDiff,Nat.reduceEqDiff,Nat.reduceBEq,BitVec.reduceOfInt,Int.reduceLE,Int.reduceLT,Int.reduceGT,Int.reduceGE,Int.reduceNeg,Int.reduceAdd,Int.reduceSub,Int.reduceMul,Int.reduceToNat,↓bind_go,↓map_go,wantedV,isWrite,grow,write,ofV,AV.cells,Abs.start,Abs.strip,endQ,resV,rawsRes,rawRes,exports,export1,AS.grown,AS.put,Env.know,Env.boxed,isSelf,convSelf,convV,loadV,storeV,fieldAddrV,fieldV,indexAddrV,indexV,partV,isAggK,isStr,place,ipS,lenV,min2V,makeV,freshSl,sliceV,boundOr,bound,bounds,cutFl,copyV,slCells,srcV,appendV,room,zerosOf,eqNeg,kd,takeR,hasViewL,hasView,freshR,freshC,snapAll,snap,snapL,flatL,pureL,pureA,fillC,arrOK,oneA,partB,AV.laid,ren1,CR.gr,applyW,useL,AS.mute,isGen,startG,ev5,tbNz0,globS,beq_self_eq_true,d0,f1,f2,f3]
        exact ResQ.same rfl
      · have d0 := decide_eq_false hl
        have f1:=fun fl=>pf50_at (n:=b.length) (b:=b) (fl:=fl) rfl (by omega)
        have f2:=fun fl=>pf51_at (n:=b.length) (b:=b) (fl:=fl) rfl (by omega)
        have f3:=fun fl gl=>same_self (b:=b) (fl:=fl) (gl:=gl) (by omega) rfl rfl
        generalize scanF oneS b = X at f1 f2 f3
        simp (maxSteps:=1000000) (disch:=first | omega | (simp only [shaB_lenW,lnB] <;> omega) | fail) only [ev0,ev1,ev2,ev3,↓reduceIte,reduceCtorEq,Nat.reduceAdd,Nat.reduceSub,Nat.reduceMul,Nat.reduceLT,Nat.reduceLeDiff,Nat.reduceEqDiff,Nat.reduceBEq,BitVec.reduceOfInt,Int.reduceLE,Int.reduceLT,Int.reduceGT,Int.reduceGE,Int.reduceNeg,Int.reduceAdd,Int.reduceSub,Int.reduceMul,Int.reduceToNat,↓bind_go,↓map_go,wantedV,isWrite,grow,write,ofV,AV.cells,Abs.start,Abs.strip,endQ,resV,rawsRes,rawRes,exports,export1,AS.grown,AS.put,Env.know,Env.boxed,isSelf,convSelf,convV,loadV,storeV,fieldAddrV,fieldV,indexAddrV,indexV,partV,isAggK,isStr,place,ipS,lenV,min2V,makeV,freshSl,sliceV,boundOr,bound,bounds,cutFl,copyV,slCells,srcV,appendV,room,zerosOf,eqNeg,kd,takeR,hasViewL,hasView,freshR,freshC,snapAll,snap,snapL,flatL,pureL,pureA,fillC,arrOK,oneA,partB,AV.laid,ren1,CR.gr,applyW,useL,AS.mute,isGen,startG,ev5,tbNz0,globS,beq_self_eq_true,d0,f1,f2,f3]
        exact ResQ.same rfl
    · cases hr
  · cases hr
end Go.Proofs.YtddeffdgldjdjaaDoor.W
