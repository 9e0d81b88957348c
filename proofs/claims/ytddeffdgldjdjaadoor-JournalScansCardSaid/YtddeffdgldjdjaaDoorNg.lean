/- A record is read from the front,or there is none: what the walk comes to. -/
import Derived.Test.YtddeffdgldjdjaaDoorNf
namespace Go.Proofs.YtddeffdgldjdjaaDoor.W
set_option linter.unusedSimpArgs false
set_option linter.unusedVariables false
set_option linter.defProp false
open Go Go.Abs
open Nat renaming reduceAdd→zaa,reduceSub→zab,reduceMul→zac,reduceLT→zad,reduceLeDiff→zae,reduceEqDiff→zaf,reduceBEq→zag
open BitVec renaming reduceOfInt→zah
open Int renaming reduceLE→zai,reduceLT→zaj,reduceGT→zak,reduceGE→zal,reduceNeg→zam,reduceAdd→zan,reduceSub→zao,reduceMul→zap,reduceToNat→zaq
open Go.Abs renaming bind_go→zar,map_go→zas,wantedV→zat,isWrite→zau,grow→zav,write→zaw,ofV→zax,start→zaz,strip→zba,endQ→zbb,resV→zbc,rawsRes→zbd,rawRes→zbe,exports→zbf,export1→zbg,isSelf→zbl,convSelf→zbm,convV→zbn,loadV→zbo,storeV→zbp,fieldAddrV→zbq,fieldV→zbr,indexAddrV→zbs,indexV→zbt,partV→zbu,isAggK→zbv,isStr→zbw,place→zbx,ipS→zby,lenV→zbz,min2V→zca,makeV→zcb,freshSl→zcc,sliceV→zcd,boundOr→zce,bound→zcf,bounds→zcg,cutFl→zch,copyV→zci,slCells→zcj,srcV→zck,appendV→zcl,room→zcm,zerosOf→zcn,eqNeg→zco,kd→zcp,takeR→zcq,hasViewL→zcr,hasView→zcs,freshR→zct,freshC→zcu,snapAll→zcv,snap→zcw,snapL→zcx,flatL→zcy,pureL→zcz,pureA→zda,fillC→zdb,arrOK→zdc,oneA→zdd,partB→zde,ren1→zdg,applyW→zdi,useL→zdj,isGen→zdl,startG→zdm
open Go.Abs.AV renaming cells→zay,laid→zdf
open Go.Abs.AS renaming grown→zbh,put→zbi,mute→zdk
open Go.Abs.Env renaming know→zbj,boxed→zbk
open Go.Abs.CR renaming gr→zdh
set_option maxHeartbeats 16000000
theorem recX_ok {b : List (BitVec 8)} {r : Rec} (hl : b.length ≤ 150000000000000) (h : recX b = some r) : recOK r:=by
  have n0 : okN noE:=by unfold okN noE; simp [dat,idat]
  have t0 : ∀ c,i64ok (tkN c : Int):=fun c=>by have:=tkN_lt c; unfold i64ok; omega
  have z0 : i64ok 0:=by unfold i64ok; omega
  have l1:=tkR_le b
  have l2:=tkR_le (tkR b)
  have l3:=ttT_le (tkR (tkR b)) 4096
  unfold recX at h
  split at h
  · cases h
  · split at h
    · split at h
      · cases h
      · split at h
        · cases h
        · cases h; exact ⟨n0,(show i64ok 1 by unfold i64ok; omega),z0,z0,z0,t0 _,t0 _⟩
    · split at h
      · split at h
        · cases h
        · split at h
          · cases h
          · split at h
            · cases h; exact ⟨entF_ok (by omega),(show i64ok 2 by unfold i64ok; omega),t0 _,z0,z0,z0,z0⟩
            · cases h
      · split at h
        · split at h
          · cases h
          · split at h
            · cases h
            · split at h
              · cases h
              · cases h; exact ⟨n0,(show i64ok 3 by unfold i64ok; omega),t0 _,t0 _,t0 _,z0,z0⟩
        · cases h
def oneX (b : List (BitVec 8)) : Option (Rec × Nat) :=
  if ttE b 4096 ≠ 0 then none else match recX (ttT b 4096) with
    | none=>none
    | some r=>if (putF r).2 = 0 ∧ preB b (putF r).1 = true then some (r,(putF r).1.length) else none
def oneR : Option (Rec × Nat) → Rec × Nat
  | some p=>p
  | none=>(noRec,0)
noncomputable def gx83 (args : List AV) (bx : Boxes) (us : Abs.Id → Bool) : Option CR := match args with
  | [v]=>(row? .u8 8 v).bind fun b=>if b.length ≤ 150000000000000 then some { v:=.ret (.tup [.agg (recA (oneR (oneX b)).1),.raw (.int .i64 (oneR (oneX b)).2)]) } else none
  | _=>none
noncomputable def EO : Env:=(((ES0.know 48 pf48).know 119 (fun xs=>pf119 (xs.map norm))).knowG 118 gx118).knowG 117 gx117
theorem okEO : EnvOK Tryd.prog EO:=(((okS0.know sound48).know (liftS sound119.norm)).knowG (liftG sound118.toG)).knowG (liftG sound117.toG)
def pp1 : PP:={ fs:=[118,117] }
theorem okP1 : EnvP Tryd.prog EO pp1:=⟨okEO,(fun f gf h h2=>by
  have h3 : f = 118 ∨ f = 117:=by simpa [pp1] using h2
  rcases h3 with rfl | rfl
  · have : gf = gx118:=by
      have e : EO.tbl 118 = some (.gen gx118):=rfl
      rw [e] at h; cases h; rfl
    rw [this]; exact liftX sound118
  · have : gf = gx117:=by
      have e : EO.tbl 117 = some (.gen gx117):=rfl
      rw [e] at h; cases h; rfl
    rw [this]; exact liftX sound117),(fun _ h=>by simp [pp1] at h)⟩
theorem EO_te : EO.te = te:=rfl
theorem EO_glob : EO.glob = globS:=rfl
theorem EO_gs : EO.gs = [117,118]:=rfl
theorem EO_dyn : EO.dyn = false:=rfl
theorem EO_mu (d : Nat) : EO.mu d = false:=rfl
theorem EO_t : EO.tbl 118 = some (.gen gx118):=rfl
theorem EO_r : EO.tbl 117 = some (.gen gx117):=rfl
theorem EO_p : EO.tbl 48 = some (.val pf48):=rfl
theorem EO_h : EO.tbl 119 = some (.val (fun xs=>pf119 (xs.map norm))):=rfl
theorem pp1_fs : pp1.fs = [118,117]:=rfl
theorem pp1_is : pp1.is = []:=rfl
theorem record_at {n : Nat} {b : List (BitVec 8)} {fl : Fl} {bx : Boxes} {us : Abs.Id → Bool} (h : n = b.length) (hl : b.length ≤ 150000000000000) : gx117 [.sl n (nums .u8 b) fl] bx us = match recX b with
      | some r=>some { v:=.ret (.agg (recA r)) }
      | none=>some { v:=.pan (.raw brk) }:=by
  simp only [gx117,row?_at h,Option.bind_some,if_pos hl]
  cases recX b <;> rfl
theorem put_at {r : Rec} (h : recOK r) : pf48 [.agg (recA r)] = some (.tup [.sl (putF r).1.length (nums .u8 (putF r).1) .bor,.raw (.int .i64 (putF r).2)]):=by
  simp only [pf48,recA_strip,rec?_at,Option.bind_some]
  exact if_pos h
theorem recA_len (r : Rec) : (recA r).length = 10:=rfl
theorem recA_take (r : Rec) : (recA r).take 10 = recA r:=rfl
theorem recA_drop (r : Rec) : (recA r).drop 10 = []:=rfl
theorem recA_snap {bx : Boxes} (r : Rec) : snapL bx (recA r) = some (recA r):=by simp only [recA,snapL,snap,entA_snap]; rfl
theorem recA_noview (r : Rec) : hasViewL (recA r) = false:=by simp only [recA,hasViewL,hasView,entA_noview]; rfl
theorem splice_rec (a b c d e f g h i j : AV) (r : Rec) : splice [a,b,c,d,e,f,g,h,i,j] 0 (recA r) = recA r:=by simp [splice,recA_len]
theorem splice_rec' (q r : Rec) : splice (recA q) 0 (recA r) = recA r:=by
  obtain ⟨k,i,t,n,h,v,⟨a,b,c,d⟩⟩:=q
  simp [splice,recA_len,recA,entA]
noncomputable def DO : DTab:=fun f=>if f = 116 then some gdOne else none
theorem thenD_nrm {T : List (FuncId × List AV)→AS→Prop} {Q : List (FuncId × List AV)→AX→AS→Prop} {l : List (FuncId × List AV)} {σ : AS} : thenD T Q l .nrm σ = T l σ:=rfl
theorem one_end {σ : AS} {L : Nat} {bx : Boxes} {us : Abs.Id → Bool} (m : Option Value) (r : Rec) (n : Nat) (cs : List AV) (c : AV) (hs2 : σ.slots 2 = .ptr (.own L 2 1) 0) (hs3 : σ.slots 3 = .ptr (.own L 3 1) 0) (hb2 : σ.box (.own L 2 1) = some cs) (hb3 : σ.box (.own L 3 1) = some [c]) (hl : cs.length = 10)
    (hm : (m = none ∧ cs = recA r ∧ c = .raw (.int .i64 n)) ∨ (m = some brk ∧ r = noRec ∧ n = 0)) (hw : ∀ b,b.lvl < L→σ.box b = bx b) (hu : ∀ i,i.lvl < L→σ.used i = us i) :
    offQ DO te [.cell 2 68,.cell 3 3] L bx us { v:=.ret (.tup [.agg (recA r),.raw (.int .i64 n)]) } [(116,[.ptr (.own L 2 1) 0,.ptr (.own L 3 1) 0])] m σ:=by
  have key : ∀ σ' : AS,σ'.slots = σ.slots → σ'.box (.own L 2 1) = some (recA r) → σ'.box (.own L 3 1) = some [.raw (.int .i64 n)] → (∀ b,b.lvl < L → σ'.box b = bx b) → (∀ i,i.lvl < L → σ'.used i = us i) →
      EndG te [.cell 2 68,.cell 3 3] L bx us { v:=.ret (.tup [.agg (recA r),.raw (.int .i64 n)]) } σ':=fun σ' e1 e2 e3 e4 e5=>by
    have hx : rawsRes te σ' [.cell 2 68,.cell 3 3] = some [.agg (recA r),.raw (.int .i64 n)]:=by
      have h : partB te 68 (recA r) 0 = some (.agg (recA r)):=by
        obtain ⟨k,i,t,n,h,v,⟨a,b,c,d⟩⟩:=r
        cases c <;> cases d <;> rfl
      have h2 : partB te 3 [.raw (.int .i64 n)] 0 = some (.raw (.int .i64 n)):=by simp [partB,te3,isAggK]
      simp only [rawsRes,rawRes,loadV,e1,hs2,hs3,e2,e3,Option.bind_some,Option.map_some,h,h2]
    refine EndG.r0 _ [.agg (recA r),.raw (.int .i64 n)] hx ?_ rfl e4 e5
    exact .cons (.low _ (lowA_pure _ (recA_pure r)) (by simp) (by simp) (by simp)) (.cons (.low _ (lowA_pure _ rfl) (by simp) (by simp) (by simp)) .nil)
  rcases hm with ⟨rfl,rfl,rfl⟩ | ⟨rfl,rfl,rfl⟩
  · exact ⟨gdOne,{ v:=.ret (.tup []) },none,.tup [],rfl,rfl,rfl,_,rfl,key _ rfl hb2 hb3 hw hu⟩
  · refine ⟨gdOne,{ v := .ret (.tup []),wr := [(.own L 2 1,recA noRec),(.own L 3 1,[.raw (.int .i64 0)])] },none,.tup [],rfl,if_pos ⟨rfl,⟨cs,hb2,hl⟩,⟨c,hb3⟩,by simp⟩,rfl,_,rfl,key _ rfl ?_ ?_ ?_ hu⟩
    · simp only [CR.gr,List.map_cons,List.map_nil,applyW,updB]
      rw [if_neg (by simp),if_pos trivial]
      rfl
    · simp only [CR.gr,List.map_cons,List.map_nil,applyW,updB]
      rw [if_pos trivial]
      rfl
    · intro b hb
      have e1 : b ≠ .own L 2 1:=fun e=>by rw [e] at hb; exact Nat.lt_irrefl _ hb
      have e2 : b ≠ .own L 3 1:=fun e=>by rw [e] at hb; exact Nat.lt_irrefl _ hb
      simp only [CR.gr,List.map_cons,List.map_nil,Option.map_none,applyW,updB,if_neg e1,if_neg e2]
      exact hw b hb
def tbNg0:=(And.intro (And.intro (And.intro (And.intro (And.intro @teE @awpP_skip) (And.intro @awpP_label (And.intro @awpP_exit @awpP_ret))) (And.intro (And.intro @awpP_seq (And.intro @awpP_draw @awpP_region)) (And.intro @awpP_cond (And.intro @awpP_block @awpP_scope)))) (And.intro (And.intro (And.intro @awpP_loop @thenQ_pan) (And.intro @blockQ_pan (And.intro @regsQO_nil @regsQO_cons))) (And.intro (And.intro @stepV_O (And.intro @EO_te @EO_glob)) (And.intro @EO_gs (And.intro @EO_dyn @EO_mu))))) (And.intro (And.intro (And.intro (And.intro @EO_t @EO_r) (And.intro @EO_p (And.intro @EO_h @pp1_fs))) (And.intro (And.intro @pp1_is (And.intro @jtext_is @zeroRec)) (And.intro @ev4 (And.intro @zz0 @recA_len)))) (And.intro (And.intro (And.intro @recA_take @recA_drop) (And.intro @recA_snap (And.intro @recA_noview @recA_strip))) (And.intro (And.intro @recA_oneA (And.intro @splice_rec @splice_rec')) (And.intro @own_ne (And.intro @own_ne' @thenD_nrm))))))
theorem sound83 : SoundX Tryd.prog globS 83 gx83:=by
  refine SoundX.offs EO okEO DO (fun f gd h=>?_) Tryd.func83 rfl Tryd.call83 ?_
  · unfold DO at h
    split at h
    · rename_i e; cases h; rw [e]; exact sound116
    · cases h
  intro args bx us cr hr
  unfold gx83 at hr
  split at hr
  · simp only [Option.bind_eq_some_iff] at hr
    obtain ⟨b,h1,hr⟩:=hr
    split at hr
    · rename_i hc
      cases hr
      obtain ⟨fl,rfl⟩:=row?_of h1
      rw [Tryd.ntmps83,Tryd.results83]
      refine ⟨by simp,fun N hn hlow hus hbf hN=>?_⟩
      obtain ⟨L,hL⟩ : ∃ L,L = N.lvl:=⟨_,rfl⟩
      refine AWD_seq (AWD_of okP1 hN mixed (by kernel_rfl) ?_)
      rw [hn,← hL]
      rw [← hL] at hlow hus hbf
      simp (maxSteps:=1000000) (disch:=first | omega | assumption | (simp only [updB,updI,dsB,reduceCtorEq,Nat.reduceEqDiff,Bx.own.injEq,Abs.Id.mk.injEq,and_false,false_and,and_true,true_and,if_false,↓reduceIte,Option.isSome_some, *]; done) | (simp only [lnB] <;> omega) | fail) only [ev0,ev1,ev2,ev3,↓reduceIte,reduceCtorEq,zaa,zab,zac,zad,zae,zaf,zag,zah,zai,zaj,zak,zal,zam,zan,zao,zap,zaq,↓zar,↓zas,zat,zau,zav,zaw,zax,zay,zaz,zba,zbb,zbc,zbd,zbe,zbf,zbg,zbh,zbi,zbj,zbk,zbl,zbm,zbn,zbo,zbp,zbq,zbr,zbs,zbt,zbu,zbv,zbw,zbx,zby,zbz,zca,zcb,zcc,zcd,zce,zcf,zcg,zch,zci,zcj,zck,zcl,zcm,zcn,zco,zcp,zcq,zcr,zcs,zct,zcu,zcv,zcw,zcx,zcy,zcz,zda,zdb,zdc,zdd,zde,zdf,zdg,zdh,zdi,zdj,zdk,zdl,zdm,ev5,tbNg0,panV,stepP,ifcV,rawOf,rawsOf,endXQ,Option.getD_some,Option.getD_none,rdB?_lit,rdB,globS,Bx.own.injEq,and_false,false_and,and_true,true_and,List.size_toArray,Array.size_empty,List.length_nil,List.map_nil,List.all_nil,List.drop_zero,Int.reduceBEq,Int.reduceBNe,beq_self_eq_true]
      refine AWD_seq (AWD_defer (pre:=[_]) okEO hN rfl rfl rfl rfl (by rw [hn,← hL]; simp (maxSteps:=1000000) (disch:=first | omega | assumption | (simp only [updB,updI,dsB,reduceCtorEq,Nat.reduceEqDiff,Bx.own.injEq,Abs.Id.mk.injEq,and_false,false_and,and_true,true_and,if_false,↓reduceIte,Option.isSome_some, *]; done) | (simp only [lnB] <;> omega) | fail) only [ev0,ev1,ev2,ev3,↓reduceIte,reduceCtorEq,zaa,zab,zac,zad,zae,zaf,zag,zah,zai,zaj,zak,zal,zam,zan,zao,zap,zaq,↓zar,↓zas,zat,zau,zav,zaw,zax,zay,zaz,zba,zbb,zbc,zbd,zbe,zbf,zbg,zbh,zbi,zbj,zbk,zbl,zbm,zbn,zbo,zbp,zbq,zbr,zbs,zbt,zbu,zbv,zbw,zbx,zby,zbz,zca,zcb,zcc,zcd,zce,zcf,zcg,zch,zci,zcj,zck,zcl,zcm,zcn,zco,zcp,zcq,zcr,zcs,zct,zcu,zcv,zcw,zcx,zcy,zcz,zda,zdb,zdc,zdd,zde,zdf,zdg,zdh,zdi,zdj,zdk,zdl,zdm,ev5,tbNg0,panV,stepP,ifcV,rawOf,rawsOf,endXQ,Option.getD_some,Option.getD_none,rdB?_lit,rdB,globS,Bx.own.injEq,and_false,false_and,and_true,true_and,List.size_toArray,Array.size_empty,List.length_nil,List.map_nil,List.all_nil,List.drop_zero,Int.reduceBEq,Int.reduceBNe,beq_self_eq_true]; exact rfl) (by simp (maxSteps:=1000000) (disch:=first | omega | assumption | (simp only [updB,updI,dsB,reduceCtorEq,Nat.reduceEqDiff,Bx.own.injEq,Abs.Id.mk.injEq,and_false,false_and,and_true,true_and,if_false,↓reduceIte,Option.isSome_some, *]; done) | (simp only [lnB] <;> omega) | fail) only [ev0,ev1,ev2,ev3,↓reduceIte,reduceCtorEq,zaa,zab,zac,zad,zae,zaf,zag,zah,zai,zaj,zak,zal,zam,zan,zao,zap,zaq,↓zar,↓zas,zat,zau,zav,zaw,zax,zay,zaz,zba,zbb,zbc,zbd,zbe,zbf,zbg,zbh,zbi,zbj,zbk,zbl,zbm,zbn,zbo,zbp,zbq,zbr,zbs,zbt,zbu,zbv,zbw,zbx,zby,zbz,zca,zcb,zcc,zcd,zce,zcf,zcg,zch,zci,zcj,zck,zcl,zcm,zcn,zco,zcp,zcq,zcr,zcs,zct,zcu,zcv,zcw,zcx,zcy,zcz,zda,zdb,zdc,zdd,zde,zdf,zdg,zdh,zdi,zdj,zdk,zdl,zdm,ev5,tbNg0,panV,stepP,ifcV,rawOf,rawsOf,endXQ,Option.getD_some,Option.getD_none,rdB?_lit,rdB,globS,Bx.own.injEq,and_false,false_and,and_true,true_and,List.size_toArray,Array.size_empty,List.length_nil,List.map_nil,List.all_nil,List.drop_zero,Int.reduceBEq,Int.reduceBNe,beq_self_eq_true]; exact rfl) (by rfl) ?_)
      rw [thenD_nrm]
      refine AWD_of okP1 hN mixed (by kernel_rfl) ?_
      rw [hn,← hL]
      have m0:=eq_true hc
      by_cases e0 : ttE b 4096 = 0
      rotate_left
      · have ho : oneX b = none := by rw [oneX,if_pos e0]
        rw [ho]
        simp (maxSteps:=1000000) (disch:=first | omega | assumption | (simp only [updB,updI,dsB,reduceCtorEq,Nat.reduceEqDiff,Bx.own.injEq,Abs.Id.mk.injEq,and_false,false_and,and_true,true_and,if_false,↓reduceIte,Option.isSome_some, *]; done) | (simp only [lnB] <;> omega) | fail) only [ev0,ev1,ev2,ev3,↓reduceIte,reduceCtorEq,zaa,zab,zac,zad,zae,zaf,zag,zah,zai,zaj,zak,zal,zam,zan,zao,zap,zaq,↓zar,↓zas,zat,zau,zav,zaw,zax,zay,zaz,zba,zbb,zbc,zbd,zbe,zbf,zbg,zbh,zbi,zbj,zbk,zbl,zbm,zbn,zbo,zbp,zbq,zbr,zbs,zbt,zbu,zbv,zbw,zbx,zby,zbz,zca,zcb,zcc,zcd,zce,zcf,zcg,zch,zci,zcj,zck,zcl,zcm,zcn,zco,zcp,zcq,zcr,zcs,zct,zcu,zcv,zcw,zcx,zcy,zcz,zda,zdb,zdc,zdd,zde,zdf,zdg,zdh,zdi,zdj,zdk,zdl,zdm,ev5,tbNg0,panV,stepP,ifcV,rawOf,rawsOf,endXQ,Option.getD_some,Option.getD_none,rdB?_lit,rdB,globS,Bx.own.injEq,and_false,false_and,and_true,true_and,List.size_toArray,Array.size_empty,List.length_nil,List.map_nil,List.all_nil,List.drop_zero,Int.reduceBEq,Int.reduceBNe,beq_self_eq_true,m0,eq_false e0]
        exact one_end (some brk) noRec 0 _ _ rfl rfl (by simp only [updB,reduceCtorEq,Nat.reduceEqDiff,Bx.own.injEq,and_false,false_and,and_true,true_and,if_false,↓reduceIte] <;> rfl) (by simp only [updB,reduceCtorEq,Nat.reduceEqDiff,Bx.own.injEq,and_false,false_and,and_true,true_and,if_false,↓reduceIte] <;> rfl) rfl (.inr ⟨rfl,rfl,rfl⟩) (fun _ h=>by simp only [updB_low h]) (fun _ _=>rfl)
      have lt : (ttT b 4096).length ≤ 150000000000000:=by have:=ttT_le b 4096; omega
      have R:=fun fl bx us=>record_at (b:=ttT b 4096) (fl:=fl) (bx:=bx) (us:=us) rfl lt
      cases hx : recX (ttT b 4096) with
      | none =>
        have ho : oneX b = none:=by rw [oneX,if_neg (not_not_intro e0),hx]
        rw [ho]
        simp only [hx] at R
        simp (maxSteps:=1000000) (disch:=first | omega | assumption | (simp only [updB,updI,dsB,reduceCtorEq,Nat.reduceEqDiff,Bx.own.injEq,Abs.Id.mk.injEq,and_false,false_and,and_true,true_and,if_false,↓reduceIte,Option.isSome_some, *]; done) | (simp only [lnB] <;> omega) | fail) only [ev0,ev1,ev2,ev3,↓reduceIte,reduceCtorEq,zaa,zab,zac,zad,zae,zaf,zag,zah,zai,zaj,zak,zal,zam,zan,zao,zap,zaq,↓zar,↓zas,zat,zau,zav,zaw,zax,zay,zaz,zba,zbb,zbc,zbd,zbe,zbf,zbg,zbh,zbi,zbj,zbk,zbl,zbm,zbn,zbo,zbp,zbq,zbr,zbs,zbt,zbu,zbv,zbw,zbx,zby,zbz,zca,zcb,zcc,zcd,zce,zcf,zcg,zch,zci,zcj,zck,zcl,zcm,zcn,zco,zcp,zcq,zcr,zcs,zct,zcu,zcv,zcw,zcx,zcy,zcz,zda,zdb,zdc,zdd,zde,zdf,zdg,zdh,zdi,zdj,zdk,zdl,zdm,ev5,tbNg0,panV,stepP,ifcV,rawOf,rawsOf,endXQ,Option.getD_some,Option.getD_none,rdB?_lit,rdB,globS,Bx.own.injEq,and_false,false_and,and_true,true_and,List.size_toArray,Array.size_empty,List.length_nil,List.map_nil,List.all_nil,List.drop_zero,Int.reduceBEq,Int.reduceBNe,beq_self_eq_true,m0,eq_true e0,R]
        exact one_end (some brk) noRec 0 _ _ rfl rfl (by simp only [updB,reduceCtorEq,Nat.reduceEqDiff,Bx.own.injEq,and_false,false_and,and_true,true_and,if_false,↓reduceIte] <;> rfl) (by simp only [updB,reduceCtorEq,Nat.reduceEqDiff,Bx.own.injEq,and_false,false_and,and_true,true_and,if_false,↓reduceIte] <;> rfl) rfl (.inr ⟨rfl,rfl,rfl⟩) (fun _ h=>by simp only [updB_low h]) (fun _ _=>rfl)
      | some r =>
        have hok:=recX_ok lt hx
        have hp:=put_at hok
        simp only [hx] at R
        by_cases e1 : (putF r).2 = 0
        rotate_left
        · have ho : oneX b = none:=by
            rw [oneX,if_neg (not_not_intro e0),hx]
            exact if_neg fun h=>e1 h.1
          have d1 : ((putF r).2 != 0) = true:=by rw [bne_iff_ne]; exact e1
          rw [ho]
          simp (maxSteps:=1000000) (disch:=first | omega | assumption | (simp only [updB,updI,dsB,reduceCtorEq,Nat.reduceEqDiff,Bx.own.injEq,Abs.Id.mk.injEq,and_false,false_and,and_true,true_and,if_false,↓reduceIte,Option.isSome_some, *]; done) | (simp only [lnB] <;> omega) | fail) only [ev0,ev1,ev2,ev3,↓reduceIte,reduceCtorEq,zaa,zab,zac,zad,zae,zaf,zag,zah,zai,zaj,zak,zal,zam,zan,zao,zap,zaq,↓zar,↓zas,zat,zau,zav,zaw,zax,zay,zaz,zba,zbb,zbc,zbd,zbe,zbf,zbg,zbh,zbi,zbj,zbk,zbl,zbm,zbn,zbo,zbp,zbq,zbr,zbs,zbt,zbu,zbv,zbw,zbx,zby,zbz,zca,zcb,zcc,zcd,zce,zcf,zcg,zch,zci,zcj,zck,zcl,zcm,zcn,zco,zcp,zcq,zcr,zcs,zct,zcu,zcv,zcw,zcx,zcy,zcz,zda,zdb,zdc,zdd,zde,zdf,zdg,zdh,zdi,zdj,zdk,zdl,zdm,ev5,tbNg0,panV,stepP,ifcV,rawOf,rawsOf,endXQ,Option.getD_some,Option.getD_none,rdB?_lit,rdB,globS,Bx.own.injEq,and_false,false_and,and_true,true_and,List.size_toArray,Array.size_empty,List.length_nil,List.map_nil,List.all_nil,List.drop_zero,Int.reduceBEq,Int.reduceBNe,beq_self_eq_true,m0,eq_true e0,R,hp,d1]
          exact one_end (some brk) noRec 0 _ _ rfl rfl (by simp only [updB,reduceCtorEq,Nat.reduceEqDiff,Bx.own.injEq,and_false,false_and,and_true,true_and,if_false,↓reduceIte] <;> rfl) (by simp only [updB,reduceCtorEq,Nat.reduceEqDiff,Bx.own.injEq,and_false,false_and,and_true,true_and,if_false,↓reduceIte] <;> rfl) rfl (.inr ⟨rfl,rfl,rfl⟩) (fun _ h=>by simp only [updB_low h]) (fun _ _=>rfl)
        have d1 : ((putF r).2 != 0) = false:=by rw [e1]; rfl
        have hh:=fun fl gl=>pf119_at (b:=b) (c:=(putF r).1) (fl:=fl) (gl:=gl) rfl rfl
        cases e2 : preB b (putF r).1
        · have ho : oneX b = none:=by
            rw [oneX,if_neg (not_not_intro e0),hx]
            exact if_neg fun h=>by rw [e2] at h; exact absurd h.2 (by decide)
          rw [ho]
          rw [e2] at hh
          simp (maxSteps:=1000000) (disch:=first | omega | assumption | (simp only [updB,updI,dsB,reduceCtorEq,Nat.reduceEqDiff,Bx.own.injEq,Abs.Id.mk.injEq,and_false,false_and,and_true,true_and,if_false,↓reduceIte,Option.isSome_some, *]; done) | (simp only [lnB] <;> omega) | fail) only [ev0,ev1,ev2,ev3,↓reduceIte,reduceCtorEq,zaa,zab,zac,zad,zae,zaf,zag,zah,zai,zaj,zak,zal,zam,zan,zao,zap,zaq,↓zar,↓zas,zat,zau,zav,zaw,zax,zay,zaz,zba,zbb,zbc,zbd,zbe,zbf,zbg,zbh,zbi,zbj,zbk,zbl,zbm,zbn,zbo,zbp,zbq,zbr,zbs,zbt,zbu,zbv,zbw,zbx,zby,zbz,zca,zcb,zcc,zcd,zce,zcf,zcg,zch,zci,zcj,zck,zcl,zcm,zcn,zco,zcp,zcq,zcr,zcs,zct,zcu,zcv,zcw,zcx,zcy,zcz,zda,zdb,zdc,zdd,zde,zdf,zdg,zdh,zdi,zdj,zdk,zdl,zdm,ev5,tbNg0,panV,stepP,ifcV,rawOf,rawsOf,endXQ,Option.getD_some,Option.getD_none,rdB?_lit,rdB,globS,Bx.own.injEq,and_false,false_and,and_true,true_and,List.size_toArray,Array.size_empty,List.length_nil,List.map_nil,List.all_nil,List.drop_zero,Int.reduceBEq,Int.reduceBNe,beq_self_eq_true,m0,eq_true e0,R,hp,d1,hh]
          exact one_end (some brk) noRec 0 _ _ rfl rfl (by simp only [updB,reduceCtorEq,Nat.reduceEqDiff,Bx.own.injEq,and_false,false_and,and_true,true_and,if_false,↓reduceIte] <;> rfl) (by simp only [updB,reduceCtorEq,Nat.reduceEqDiff,Bx.own.injEq,and_false,false_and,and_true,true_and,if_false,↓reduceIte] <;> rfl) rfl (.inr ⟨rfl,rfl,rfl⟩) (fun _ h=>by simp only [updB_low h]) (fun _ _=>rfl)
        · have ho : oneX b = some (r,(putF r).1.length):=by
            rw [oneX,if_neg (not_not_intro e0),hx]
            exact if_pos ⟨e1,e2⟩
          rw [ho]
          rw [e2] at hh
          simp (maxSteps:=1000000) (disch:=first | omega | assumption | (simp only [updB,updI,dsB,reduceCtorEq,Nat.reduceEqDiff,Bx.own.injEq,Abs.Id.mk.injEq,and_false,false_and,and_true,true_and,if_false,↓reduceIte,Option.isSome_some, *]; done) | (simp only [lnB] <;> omega) | fail) only [ev0,ev1,ev2,ev3,↓reduceIte,reduceCtorEq,zaa,zab,zac,zad,zae,zaf,zag,zah,zai,zaj,zak,zal,zam,zan,zao,zap,zaq,↓zar,↓zas,zat,zau,zav,zaw,zax,zay,zaz,zba,zbb,zbc,zbd,zbe,zbf,zbg,zbh,zbi,zbj,zbk,zbl,zbm,zbn,zbo,zbp,zbq,zbr,zbs,zbt,zbu,zbv,zbw,zbx,zby,zbz,zca,zcb,zcc,zcd,zce,zcf,zcg,zch,zci,zcj,zck,zcl,zcm,zcn,zco,zcp,zcq,zcr,zcs,zct,zcu,zcv,zcw,zcx,zcy,zcz,zda,zdb,zdc,zdd,zde,zdf,zdg,zdh,zdi,zdj,zdk,zdl,zdm,ev5,tbNg0,panV,stepP,ifcV,rawOf,rawsOf,endXQ,Option.getD_some,Option.getD_none,rdB?_lit,rdB,globS,Bx.own.injEq,and_false,false_and,and_true,true_and,List.size_toArray,Array.size_empty,List.length_nil,List.map_nil,List.all_nil,List.drop_zero,Int.reduceBEq,Int.reduceBNe,beq_self_eq_true,m0,eq_true e0,R,hp,d1,hh]
          exact one_end none r _ _ _ rfl rfl (by simp only [updB,reduceCtorEq,Nat.reduceEqDiff,Bx.own.injEq,and_false,false_and,and_true,true_and,if_false,↓reduceIte] <;> rfl) (by simp only [updB,reduceCtorEq,Nat.reduceEqDiff,Bx.own.injEq,and_false,false_and,and_true,true_and,if_false,↓reduceIte] <;> rfl) rfl (.inl ⟨rfl,rfl,rfl⟩) (fun _ h=>by simp only [updB_low h]) (fun _ _=>rfl)
    · cases hr
  · cases hr
end Go.Proofs.YtddeffdgldjdjaaDoor.W
