/- JournalPuts: the law's walk. -/
import Derived.Test.YtddeffdgldjdjaaDoorNm
import Derived.Test.YtddeffdgldjdjaaDoorNt
namespace Go.Proofs.YtddeffdgldjdjaaDoor.W
set_option linter.unusedSimpArgs false
set_option linter.unusedVariables false
set_option linter.defProp false
open Go Go.Abs
set_option maxHeartbeats 16000000
theorem recA_take' (r : Rec) : (recA r).take 10 = recA r := rfl
theorem recA_drop' (r : Rec) : (recA r).drop 10 = [] := rfl
theorem shown_u : pf44 [] = some (.raw (.bool true)) := rfl
theorem make_at : pf47' [] = some (.agg tabA) := rfl
noncomputable def ERU : Env := (ES0.know 47 pf47').know 82 pf82
theorem okRU : EnvOK Tryd.prog ERU := (okS0.know sound47').know sound82
theorem ERU_te : ERU.te = te := rfl
theorem ERU_glob : ERU.glob = globS := rfl
theorem ERU_gs : ERU.gs = [] := rfl
theorem ERU_dyn : ERU.dyn = false := rfl
theorem ERU_mu (d : Nat) : ERU.mu d = false := rfl
theorem ERU_m : ERU.tbl 47 = some (.val pf47') := rfl
theorem ERU_p : ERU.tbl 82 = some (.val pf82) := rfl
noncomputable def pf49 : List AV → Option AV
  | [.agg cs] => (rec? (cs.map strip)).bind fun r => open Classical in if recOK r then some (.tup [.sl (putF r).1.length (nums .u8 (putF r).1) .bor,.raw (.int .i64 (putF r).2)]) else none
  | _ => none
theorem pf49_at {r : Rec} (h : recOK r) : pf49 [.agg (recA r)] = some (.tup [.sl (putF r).1.length (nums .u8 (putF r).1) .bor,.raw (.int .i64 (putF r).2)]) := by
  simp only [pf49,recA_strip,rec?_at,Option.bind_some]
  exact if_pos h
theorem sound49 : SoundV Tryd.prog globS 49 pf49 := by
  refine SoundV.walk ERU okRU mixed Tryd.func49 rfl Tryd.call49 (by kernel_rfl) ?_
  intro args r hr
  unfold pf49 at hr
  split at hr
  · simp only [Option.bind_eq_some_iff] at hr
    obtain ⟨q,hq,hr⟩ := hr
    split at hr
    · rename_i hn
      cases hr
      have hcs := rec?_of hq
      have hp := pf82_at hn
      rw [Tryd.ntmps49,Tryd.results49]
      refine ⟨by simp,?_⟩
      simp (maxSteps := 1000000) (disch := first | omega | (simp only [shaB_lenW,lnB] <;> omega) | fail) only [ev0,ev1,ev2,ev3,↓reduceIte,reduceCtorEq,Nat.reduceAdd,Nat.reduceSub,Nat.reduceMul,Nat.reduceLT,Nat.reduceLeDiff,Nat.reduceEqDiff,Nat.reduceBEq,BitVec.reduceOfInt,Int.reduceLE,Int.reduceLT,Int.reduceGT,Int.reduceGE,Int.reduceNeg,Int.reduceAdd,Int.reduceSub,Int.reduceMul,Int.reduceToNat,↓bind_go,↓map_go,wantedV,isWrite,grow,write,ofV,AV.cells,Abs.start,Abs.strip,endQ,resV,rawsRes,rawRes,exports,export1,AS.grown,AS.put,Env.know,Env.boxed,isSelf,convSelf,convV,loadV,storeV,fieldAddrV,fieldV,indexAddrV,indexV,partV,isAggK,isStr,place,ipS,lenV,min2V,makeV,freshSl,sliceV,boundOr,bound,bounds,cutFl,copyV,slCells,srcV,appendV,room,zerosOf,eqNeg,kd,takeR,hasViewL,hasView,freshR,freshC,snapAll,snap,snapL,flatL,pureL,pureA,fillC,arrOK,oneA,partB,AV.laid,ren1,CR.gr,applyW,useL,AS.mute,isGen,startG,ev5,teE,make_at,recA_take',recA_drop',tabA_len,tabA_strip,tabA_one,tabA_snap,tabA_noview,recA_len,recA_strip,recA_oneA,recA_snap,recA_noview,ERU_te,ERU_glob,ERU_gs,ERU_dyn,ERU_mu,ERU_m,ERU_p,globS,ev4,zz0,zz1,hcs,hp]
      exact resQ_2
    · cases hr
  · cases hr
noncomputable def ELU : Env := (((((ES0.know 44 pf44).know 45 pf45).know 46 pf46).know 48 pf48).know 49 pf49).know 47 pf47'
theorem okLU : EnvOK Tryd.prog ELU := (((((okS0.know sound44).know sound45).know sound46).know sound48).know sound49).know sound47'
theorem ELU_te : ELU.te = te := rfl
theorem ELU_glob : ELU.glob = globS := rfl
theorem ELU_gs : ELU.gs = [] := rfl
theorem ELU_dyn : ELU.dyn = false := rfl
theorem ELU_mu (d : Nat) : ELU.mu d = false := rfl
theorem ELU_s : ELU.tbl 44 = some (.val pf44) := rfl
theorem ELU_f : ELU.tbl 45 = some (.val pf45) := rfl
theorem ELU_g : ELU.tbl 46 = some (.val pf46) := rfl
theorem ELU_p : ELU.tbl 48 = some (.val pf48) := rfl
theorem ELU_r : ELU.tbl 49 = some (.val pf49) := rfl
theorem ELU_m : ELU.tbl 47 = some (.val pf47') := rfl
noncomputable def pf13 : List AV → Option AV
  | [v,.agg cs] => (row? .u8 8 v).bind fun b => (rec? (cs.map strip)).bind fun r => open Classical in if b.length ≤ 9223372036854775807 ∧ recOK r then some (.raw (.bool true)) else none
  | _ => none
theorem sound13 : SoundV Tryd.prog globS 13 pf13 := by
  refine SoundV.walk ELU okLU mixed Tryd.func13 rfl Tryd.call13 (by kernel_rfl) ?_
  intro args r hr
  unfold pf13 at hr
  split at hr
  · simp only [Option.bind_eq_some_iff] at hr
    obtain ⟨b,hb,q,hq,hr⟩ := hr
    split at hr
    · rename_i hn
      cases hr
      have hcs := rec?_of hq
      obtain ⟨fl,rfl⟩ := row?_of hb
      obtain ⟨hn1,hn2⟩ := hn
      have f1 := fun fl => pf45_at (n := b.length) (b := b) (fl := fl) rfl hn1
      have f2 := fun fl => pf46_at (n := b.length) (b := b) (fl := fl) rfl hn1
      have f3 := put_at hn2
      have f4 := pf49_at hn2
      rw [Tryd.ntmps13,Tryd.results13]
      refine ⟨by simp,?_⟩
      generalize frF b = X at f1 f2
      generalize putF q = Y at f3 f4
      simp (maxSteps := 1000000) (disch := first | omega | (simp only [shaB_lenW,lnB] <;> omega) | fail) only [ev0,ev1,ev2,ev3,↓reduceIte,reduceCtorEq,Nat.reduceAdd,Nat.reduceSub,Nat.reduceMul,Nat.reduceLT,Nat.reduceLeDiff,Nat.reduceEqDiff,Nat.reduceBEq,BitVec.reduceOfInt,Int.reduceLE,Int.reduceLT,Int.reduceGT,Int.reduceGE,Int.reduceNeg,Int.reduceAdd,Int.reduceSub,Int.reduceMul,Int.reduceToNat,↓bind_go,↓map_go,wantedV,isWrite,grow,write,ofV,AV.cells,Abs.start,Abs.strip,endQ,resV,rawsRes,rawRes,exports,export1,AS.grown,AS.put,Env.know,Env.boxed,isSelf,convSelf,convV,loadV,storeV,fieldAddrV,fieldV,indexAddrV,indexV,partV,isAggK,isStr,place,ipS,lenV,min2V,makeV,freshSl,sliceV,boundOr,bound,bounds,cutFl,copyV,slCells,srcV,appendV,room,zerosOf,eqNeg,kd,takeR,hasViewL,hasView,freshR,freshC,snapAll,snap,snapL,flatL,pureL,pureA,fillC,arrOK,oneA,partB,AV.laid,ren1,CR.gr,applyW,useL,AS.mute,isGen,startG,ev5,teE,make_at,recA_take',recA_drop',shown_u,tabA_len,tabA_strip,tabA_one,tabA_snap,tabA_noview,recA_len,recA_strip,recA_oneA,recA_snap,recA_noview,ELU_te,ELU_glob,ELU_gs,ELU_dyn,ELU_mu,ELU_s,ELU_f,ELU_g,ELU_p,ELU_r,ELU_m,globS,ev4,zz0,zz1,beq_self_eq_true,hcs,f1,f2,f3,f4]
      exact ResQ.same rfl
    · cases hr
  · cases hr
end Go.Proofs.YtddeffdgldjdjaaDoor.W
