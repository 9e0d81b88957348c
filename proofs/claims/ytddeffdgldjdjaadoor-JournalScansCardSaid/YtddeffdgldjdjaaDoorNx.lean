/- Records are the same: what the walks come to. -/
import Derived.Test.YtddeffdgldjdjaaDoorNm
import Derived.Test.YtddeffdgldjdjaaDoorNt
namespace Go.Proofs.YtddeffdgldjdjaaDoor.W
set_option linter.unusedSimpArgs false
set_option linter.unusedVariables false
set_option linter.defProp false
open Go Go.Abs
open Nat renaming reduceAdd→zaa,reduceSub→zab,reduceMul→zac,reduceLT→zad,reduceLeDiff→zae,reduceEqDiff→zaf,reduceBEq→zag
open BitVec renaming reduceOfInt→zah
open Int renaming reduceLE→zai,reduceLT→zaj,reduceGT→zak,reduceGE→zal,reduceNeg→zam,reduceAdd→zan,reduceSub→zao,reduceMul→zap,reduceToNat→zaq
open Go.Abs renaming bind_go→zar,map_go→zas,wantedV→zat,isWrite→zau,grow→zav,write→zaw,ofV→zax,start→zaz,strip→zba,endQ→zbb,resV→zbc,rawsRes→zbd,rawRes→zbe,exports→zbf,export1→zbg,isSelf→zbl,convSelf→zbm,convV→zbn,loadV→zbo,storeV→zbp,fieldAddrV→zbq,fieldV→zbr,indexAddrV→zbs,indexV→zbt,partV→zbu,isAggK→zbv,isStr→zbw,place→zbx,ipS→zby,lenV→zbz,min2V→zca,makeV→zcb,freshSl→zcc,sliceV→zcd,boundOr→zce,bound→zcf,bounds→zcg,cutFl→zch,copyV→zci,slCells→zcj,srcV→zck,appendV→zcl,room→zcm,zerosOf→zcn,eqNeg→zco,kd→zcp,takeR→zcq,hasViewL→zcr,hasView→zcs,freshR→zct,freshC→zcu,snapAll→zcv,snap→zcw,snapL→zcx,flatL→zcy,pureL→zcz,pureA→zda,fillC→zdb,arrOK→zdc,oneA→zdd,partB→zde,ren1→zdg,applyW→zdi,useL→zdj,isGen→zdl,startG→zdm
open Go.Abs.AV renaming cells→zay,laid→zdf
open Go.Abs.AS renaming grown→zbh,put→zbi,mute→zdk
open Go.Abs.Env renaming know→zbj,boxed→zbk
open Go.Abs.CR renaming gr→zdh
set_option maxHeartbeats 16000000
def sameR (r q : Rec) : Prop:=r.k = q.k ∧ r.i = q.i ∧ r.t = q.t ∧ r.n = q.n ∧ r.h = q.h ∧ r.v = q.v ∧ sameE r.e q.e = true
theorem sameR_self (r : Rec) : sameR r r:=⟨rfl,rfl,rfl,rfl,rfl,rfl,sameE_self _⟩
noncomputable def pf85 : List AV → Option AV
  | [.agg cs,.agg ds]=>(rec? (cs.map strip)).bind fun r=>(rec? (ds.map strip)).bind fun q=>open Classical in if recOK r ∧ recOK q ∧ sameR r q then some (.raw (.bool true)) else none
  | _=>none
theorem pf85_at {r q : Rec} (h1 : recOK r) (h2 : recOK q) (h3 : sameR r q) : pf85 [.agg (recA r),.agg (recA q)] = some (.raw (.bool true)):=by
  simp only [pf85,recA_strip,rec?_at,Option.bind_some]
  exact if_pos ⟨h1,h2,h3⟩
noncomputable def ESN : Env:=ES0.know 89 (fun xs=>pf89 (xs.map norm3))
theorem okSN : EnvOK Tryd.prog ESN:=okS0.know (liftS (SoundV.norm3 sound89))
theorem ESN_te : ESN.te = te:=rfl
theorem ESN_glob : ESN.glob = globS:=rfl
theorem ESN_gs : ESN.gs = []:=rfl
theorem ESN_dyn : ESN.dyn = false:=rfl
theorem ESN_mu (d : Nat) : ESN.mu d = false:=rfl
theorem ESN_s : ESN.tbl 89 = some (.val (fun xs=>pf89 (xs.map norm3))):=rfl
theorem sound85 : SoundV Tryd.prog globS 85 pf85:=by
  refine SoundV.walk ESN okSN mixed Tryd.func85 rfl Tryd.call85 (by kernel_rfl) ?_
  intro args r hr
  unfold pf85 at hr
  split at hr
  · simp only [Option.bind_eq_some_iff] at hr
    obtain ⟨r,h1,q,h2,hr⟩:=hr
    split at hr
    · rename_i hc
      obtain ⟨c1,c2,g1,g2,g3,g4,g5,g6,g7⟩:=hc
      cases hr
      have e1:=rec?_of h1
      have e2:=rec?_of h2
      have e3:=samee_at' c1.1 c2.1
      rw [g7] at e3
      rw [Tryd.ntmps85,Tryd.results85]
      refine ⟨by simp,?_⟩
      simp (maxSteps:=1000000) (disch:=first | omega | (simp only [shaB_lenW,lnB] <;> omega) | fail) only [ev0,ev1,ev2,ev3,↓reduceIte,reduceCtorEq,zaa,zab,zac,zad,zae,zaf,zag,zah,zai,zaj,zak,zal,zam,zan,zao,zap,zaq,↓zar,↓zas,zat,zau,zav,zaw,zax,zay,zaz,zba,zbb,zbc,zbd,zbe,zbf,zbg,zbh,zbi,zbj,zbk,zbl,zbm,zbn,zbo,zbp,zbq,zbr,zbs,zbt,zbu,zbv,zbw,zbx,zby,zbz,zca,zcb,zcc,zcd,zce,zcf,zcg,zch,zci,zcj,zck,zcl,zcm,zcn,zco,zcp,zcq,zcr,zcs,zct,zcu,zcv,zcw,zcx,zcy,zcz,zda,zdb,zdc,zdd,zde,zdf,zdg,zdh,zdi,zdj,zdk,zdl,zdm,ev5,teE,hardP_eq,ESN_te,ESN_glob,ESN_gs,ESN_dyn,ESN_mu,ESN_s,globS,ev4,zz0,zz1,recA_len,recA_strip,recA_oneA,recA_take,recA_drop,recA_snap,recA_noview,rAt,rAi,rAk,rAn,rAhh,rAvv,rAhv,rAen,entA_strip,entA_len,entA_one,entA_take,entA_snap,entA_noview,List.map_cons,List.map_nil,beq_self_eq_true,e1,e2,e3,g1,g2,g3,g4,g5,g6]
      exact ResQ.same rfl
    · cases hr
  · cases hr
noncomputable def pf52 : List AV → Option AV
  | [v,w]=>(recs? v).bind fun l=>(recs? w).bind fun m=>open Classical in if l.length ≤ 1000000000000 ∧ l.length = m.length ∧ (∀ e ∈ l,recOK e) ∧ (∀ e ∈ m,recOK e) ∧ (∀ j,j < l.length→sameR (l.getD j noRec) (m.getD j noRec)) then some (.raw (.bool true)) else none
  | _=>none
theorem pf52_at {n k : Nat} {l m : List Rec} {fl gl : Fl} (h : n = l.length) (h' : k = m.length) (h1 : l.length ≤ 1000000000000) (h2 : l.length = m.length) (h3 : ∀ e ∈ l,recOK e) (h4 : ∀ e ∈ m,recOK e) (h5 : ∀ j,j < l.length→sameR (l.getD j noRec) (m.getD j noRec)) : pf52 [.sl n (recsA l) fl,.sl k (recsA m) gl] = some (.raw (.bool true)):=by
  simp only [pf52,recs?_at h,recs?_at h',Option.bind_some]
  exact if_pos ⟨h1,h2,h3,h4,h5⟩
noncomputable def ESQ : Env:=ES0.know 85 pf85
theorem okSQ : EnvOK Tryd.prog ESQ:=okS0.know sound85
theorem ESQ_te : ESQ.te = te:=rfl
theorem ESQ_glob : ESQ.glob = globS:=rfl
theorem ESQ_gs : ESQ.gs = []:=rfl
theorem ESQ_dyn : ESQ.dyn = false:=rfl
theorem ESQ_mu (d : Nat) : ESQ.mu d = false:=rfl
theorem ESQ_s : ESQ.tbl 85 = some (.val pf85):=rfl
theorem getD_memX {l : List Rec} {j : Nat} (h : j < l.length) : l.getD j noRec ∈ l:=by
  rw [List.getD_eq_getElem?_getD,List.getElem?_eq_getElem h]; exact List.getElem_mem _
def tbNx1:=(And.intro (And.intro (And.intro (And.intro @teE @ESQ_te) (And.intro @ESQ_glob (And.intro @ESQ_gs @ESQ_dyn))) (And.intro (And.intro @ESQ_mu @ESQ_s) (And.intro @ev4 (And.intro @recA_len @recA_strip)))) (And.intro (And.intro (And.intro @recA_oneA @recA_take) (And.intro @recA_drop (And.intro @recA_snap @recA_noview))) (And.intro (And.intro @recsA_len @recsA_pure) (And.intro @recsA_oneA (And.intro @recsA_snap @recsA_noview)))))
theorem sound52 : SoundV Tryd.prog globS 52 pf52:=by
  refine SoundV.walk ESQ okSQ mixed Tryd.func52 rfl Tryd.call52 (by kernel_rfl) ?_
  intro args r hr
  unfold pf52 at hr
  split at hr
  · simp only [Option.bind_eq_some_iff] at hr
    obtain ⟨l,h1,m,h2,hr⟩:=hr
    split at hr
    · rename_i hc
      obtain ⟨c1,c2,c3,c4,c5⟩:=hc
      cases hr
      obtain ⟨fl,rfl⟩:=recs?_of h1
      obtain ⟨gl,rfl⟩:=recs?_of h2
      rw [Tryd.ntmps52,Tryd.results52]
      refine ⟨by simp,?_⟩
      rw [← c2]
      simp (maxSteps:=1000000) (disch:=first | omega | (simp only [shaB_lenW,lnB] <;> omega) | fail) only [ev0,ev1,ev2,ev3,↓reduceIte,reduceCtorEq,zaa,zab,zac,zad,zae,zaf,zag,zah,zai,zaj,zak,zal,zam,zan,zao,zap,zaq,↓zar,↓zas,zat,zau,zav,zaw,zax,zay,zaz,zba,zbb,zbc,zbd,zbe,zbf,zbg,zbh,zbi,zbj,zbk,zbl,zbm,zbn,zbo,zbp,zbq,zbr,zbs,zbt,zbu,zbv,zbw,zbx,zby,zbz,zca,zcb,zcc,zcd,zce,zcf,zcg,zch,zci,zcj,zck,zcl,zcm,zcn,zco,zcp,zcq,zcr,zcs,zct,zcu,zcv,zcw,zcx,zcy,zcz,zda,zdb,zdc,zdd,zde,zdf,zdg,zdh,zdi,zdj,zdk,zdl,zdm,ev5,tbNx1,globS,bne_self_eq_false,Int.natCast_inj,Bool.not_false,Bool.not_true,List.size_toArray,Array.size_empty,List.length_nil,List.map_cons,List.map_nil]
      refine loopQ_of (fun n σ=>∃ j,j ≤ l.length ∧ n = l.length - j ∧ σ.slots 5 = .raw (.int .i64 (j : Int)) ∧ σ.slots 0 = .sl l.length (recsA l) .bor ∧ σ.slots 1 = .sl l.length (recsA m) .bor) l.length ?_ ?_
      · refine ⟨0,by omega,by omega,?_⟩
        simp (maxSteps:=1000000) (disch:=first | omega | (simp only [shaB_lenW,lnB] <;> omega) | fail) only [ev0,ev1,ev2,ev3,↓reduceIte,reduceCtorEq,zaa,zab,zac,zad,zae,zaf,zag,zah,zai,zaj,zak,zal,zam,zan,zao,zap,zaq,↓zar,↓zas,zat,zau,zav,zaw,zax,zay,zaz,zba,zbb,zbc,zbd,zbe,zbf,zbg,zbh,zbi,zbj,zbk,zbl,zbm,zbn,zbo,zbp,zbq,zbr,zbs,zbt,zbu,zbv,zbw,zbx,zby,zbz,zca,zcb,zcc,zcd,zce,zcf,zcg,zch,zci,zcj,zck,zcl,zcm,zcn,zco,zcp,zcq,zcr,zcs,zct,zcu,zcv,zcw,zcx,zcy,zcz,zda,zdb,zdc,zdd,zde,zdf,zdg,zdh,zdi,zdj,zdk,zdl,zdm,ev5,tbNx1,globS,bne_self_eq_false,Int.natCast_inj,Bool.not_false,Bool.not_true,List.size_toArray,Array.size_empty,List.length_nil,List.map_cons,List.map_nil]
        rfl
      · rintro n ⟨sl,gn,bx,us⟩ ⟨j,hj,rfl,s5,s0,s1⟩
        dsimp only at s5 s0 s1
        simp (maxSteps:=1000000) (disch:=first | omega | (simp only [shaB_lenW,lnB] <;> omega) | fail) only [ev0,ev1,ev2,ev3,↓reduceIte,reduceCtorEq,zaa,zab,zac,zad,zae,zaf,zag,zah,zai,zaj,zak,zal,zam,zan,zao,zap,zaq,↓zar,↓zas,zat,zau,zav,zaw,zax,zay,zaz,zba,zbb,zbc,zbd,zbe,zbf,zbg,zbh,zbi,zbj,zbk,zbl,zbm,zbn,zbo,zbp,zbq,zbr,zbs,zbt,zbu,zbv,zbw,zbx,zby,zbz,zca,zcb,zcc,zcd,zce,zcf,zcg,zch,zci,zcj,zck,zcl,zcm,zcn,zco,zcp,zcq,zcr,zcs,zct,zcu,zcv,zcw,zcx,zcy,zcz,zda,zdb,zdc,zdd,zde,zdf,zdg,zdh,zdi,zdj,zdk,zdl,zdm,ev5,tbNx1,globS,bne_self_eq_false,Int.natCast_inj,Bool.not_false,Bool.not_true,List.size_toArray,Array.size_empty,List.length_nil,List.map_cons,List.map_nil,s5,s0,s1]
        refine condQ_dec (fun hlt=>?_) (fun hge=>?_)
        · have hlt : j < l.length := by omega
          have hlt2 : j < m.length:=by omega
          have e1:=recsA_at l j hlt
          have e2:=recsA_at m j hlt2
          have e3:=pf85_at (c3 _ (getD_memX hlt)) (c4 _ (getD_memX hlt2)) (c5 j hlt)
          simp (maxSteps:=1000000) (disch:=first | omega | (simp only [shaB_lenW,lnB] <;> omega) | fail) only [ev0,ev1,ev2,ev3,↓reduceIte,reduceCtorEq,zaa,zab,zac,zad,zae,zaf,zag,zah,zai,zaj,zak,zal,zam,zan,zao,zap,zaq,↓zar,↓zas,zat,zau,zav,zaw,zax,zay,zaz,zba,zbb,zbc,zbd,zbe,zbf,zbg,zbh,zbi,zbj,zbk,zbl,zbm,zbn,zbo,zbp,zbq,zbr,zbs,zbt,zbu,zbv,zbw,zbx,zby,zbz,zca,zcb,zcc,zcd,zce,zcf,zcg,zch,zci,zcj,zck,zcl,zcm,zcn,zco,zcp,zcq,zcr,zcs,zct,zcu,zcv,zcw,zcx,zcy,zcz,zda,zdb,zdc,zdd,zde,zdf,zdg,zdh,zdi,zdj,zdk,zdl,zdm,ev5,tbNx1,globS,bne_self_eq_false,Int.natCast_inj,Bool.not_false,Bool.not_true,List.size_toArray,Array.size_empty,List.length_nil,List.map_cons,List.map_nil,s5,s0,s1,e1,e2,e3]
          exact ⟨l.length - (j + 1),by omega,j + 1,by omega,rfl,rfl⟩
        · have hj : j = l.length := by omega
          subst hj
          simp (maxSteps:=1000000) (disch:=first | omega | (simp only [shaB_lenW,lnB] <;> omega) | fail) only [ev0,ev1,ev2,ev3,↓reduceIte,reduceCtorEq,zaa,zab,zac,zad,zae,zaf,zag,zah,zai,zaj,zak,zal,zam,zan,zao,zap,zaq,↓zar,↓zas,zat,zau,zav,zaw,zax,zay,zaz,zba,zbb,zbc,zbd,zbe,zbf,zbg,zbh,zbi,zbj,zbk,zbl,zbm,zbn,zbo,zbp,zbq,zbr,zbs,zbt,zbu,zbv,zbw,zbx,zby,zbz,zca,zcb,zcc,zcd,zce,zcf,zcg,zch,zci,zcj,zck,zcl,zcm,zcn,zco,zcp,zcq,zcr,zcs,zct,zcu,zcv,zcw,zcx,zcy,zcz,zda,zdb,zdc,zdd,zde,zdf,zdg,zdh,zdi,zdj,zdk,zdl,zdm,ev5,tbNx1,globS,bne_self_eq_false,Int.natCast_inj,Bool.not_false,Bool.not_true,List.size_toArray,Array.size_empty,List.length_nil,List.map_cons,List.map_nil,s5,s0,s1]
          exact ResQ.same rfl
    · cases hr
  · cases hr
end Go.Proofs.YtddeffdgldjdjaaDoor.W
