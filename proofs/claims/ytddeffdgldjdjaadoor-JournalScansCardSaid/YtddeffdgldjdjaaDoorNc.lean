/- Whether a number is out of bounds; whether one of some is: what the walks come to. -/
import Derived.Test.YtddeffdgldjdjaaDoorNb
namespace Go.Proofs.YtddeffdgldjdjaaDoor.W
set_option linter.unusedSimpArgs false
set_option linter.unusedVariables false
set_option linter.defProp false
open Go Go.Abs
open Nat renaming reduceAdd→zaa,reduceSub→zab,reduceMul→zac,reduceLT→zad,reduceLeDiff→zae,reduceEqDiff→zaf,reduceBEq→zag
open BitVec renaming reduceOfInt→zah
open Int renaming reduceLE→zai,reduceLT→zaj,reduceGT→zak,reduceGE→zal,reduceNeg→zam,reduceAdd→zan,reduceSub→zao,reduceMul→zap,reduceToNat→zaq
open Go.Abs renaming bind_go→zar,map_go→zas,wantedV→zat,isWrite→zau,grow→zav,write→zaw,ofV→zax,start→zaz,strip→zba,endQ→zbb,resV→zbc,rawsRes→zbd,rawRes→zbe,exports→zbf,export1→zbg,isSelf→zbl,convSelf→zbm,convV→zbn,loadV→zbo,storeV→zbp,fieldAddrV→zbq,fieldV→zbr,indexAddrV→zbs,indexV→zbt,partV→zbu,isAggK→zbv,isStr→zbw,place→zbx,ipS→zby,lenV→zbz,min2V→zca,makeV→zcb,freshSl→zcc,sliceV→zcd,boundOr→zce,bound→zcf,bounds→zcg,cutFl→zch,copyV→zci,slCells→zcj,srcV→zck,appendV→zcl,room→zcm,zerosOf→zcn,eqNeg→zco,kd→zcp,takeR→zcq,hasViewL→zcr,hasView→zcs,freshR→zct,freshC→zcu,snapAll→zcv,snap→zcw,snapL→zcx,flatL→zcy,pureL→zcz,pureA→zda,fillC→zdb,arrOK→zdc,oneA→zdd,partB→zde,ren1→zdg,applyW→zdi,useL→zdj,isGen→zdl,startG→zdm
open Go.Abs.AV renaming cells→zay,laid→zdf
open Go.Abs.AS renaming grown→zbh,put→zbi,mute→zdk
open Go.Abs.Env renaming know→zbj,boxed→zbk
open Go.Abs.CR renaming gr→zdh
set_option maxHeartbeats 4000000
def oob (n : Int) : Prop:=n < 0 ∨ n > 1099511627776
instance (n : Int) : Decidable (oob n):=by unfold oob; infer_instance
def pf79 : List AV → Option AV
  | [v]=>(int? v).bind fun n=>some (.raw (.bool (decide (oob n))))
  | _=>none
theorem pf79_at {n : Int} : pf79 [.raw (.int .i64 n)] = some (.raw (.bool (decide (oob n)))):=rfl
def tbNc0:=(And.intro (And.intro @teE (And.intro @E0_te @E0_glob)) (And.intro @E0_gs (And.intro @E0_dyn @E0_mu)))
theorem sound79 : SoundV Tryd.prog glob 79 pf79:=by
  refine SoundV.walk E0 ok0 mixed Tryd.func79 rfl Tryd.call79 (by kernel_rfl) ?_
  intro args r hr
  unfold pf79 at hr
  split at hr
  · simp only [Option.bind_eq_some_iff] at hr
    obtain ⟨n,h1,hr⟩:=hr
    cases hr
    rw [int?_of h1,Tryd.ntmps79,Tryd.results79]
    refine ⟨by simp,?_⟩
    by_cases c1 : n < 0
    · rw [decide_eq_true (show oob n from .inl c1)]
      simp (maxSteps:=1000000) (disch:=first | omega | (simp only [nums_len,lnB] <;> omega) | fail) only [ev0,ev1,ev2,ev3,↓reduceIte,reduceCtorEq,zaa,zab,zac,zad,zae,zaf,zag,zah,zai,zaj,zak,zal,zam,zan,zao,zap,zaq,↓zar,↓zas,zat,zau,zav,zaw,zax,zay,zaz,zba,zbb,zbc,zbd,zbe,zbf,zbg,zbh,zbi,zbj,zbk,zbl,zbm,zbn,zbo,zbp,zbq,zbr,zbs,zbt,zbu,zbv,zbw,zbx,zby,zbz,zca,zcb,zcc,zcd,zce,zcf,zcg,zch,zci,zcj,zck,zcl,zcm,zcn,zco,zcp,zcq,zcr,zcs,zct,zcu,zcv,zcw,zcx,zcy,zcz,zda,zdb,zdc,zdd,zde,zdf,zdg,zdh,zdi,zdj,zdk,zdl,zdm,ev5,tbNc0,glob,decide_eq_true c1]
      exact ResQ.same rfl
    · by_cases c2 : n > 1099511627776
      · rw [decide_eq_true (show oob n from .inr c2)]
        simp (maxSteps:=1000000) (disch:=first | omega | (simp only [nums_len,lnB] <;> omega) | fail) only [ev0,ev1,ev2,ev3,↓reduceIte,reduceCtorEq,zaa,zab,zac,zad,zae,zaf,zag,zah,zai,zaj,zak,zal,zam,zan,zao,zap,zaq,↓zar,↓zas,zat,zau,zav,zaw,zax,zay,zaz,zba,zbb,zbc,zbd,zbe,zbf,zbg,zbh,zbi,zbj,zbk,zbl,zbm,zbn,zbo,zbp,zbq,zbr,zbs,zbt,zbu,zbv,zbw,zbx,zby,zbz,zca,zcb,zcc,zcd,zce,zcf,zcg,zch,zci,zcj,zck,zcl,zcm,zcn,zco,zcp,zcq,zcr,zcs,zct,zcu,zcv,zcw,zcx,zcy,zcz,zda,zdb,zdc,zdd,zde,zdf,zdg,zdh,zdi,zdj,zdk,zdl,zdm,ev5,tbNc0,glob,decide_eq_false c1,decide_eq_true c2]
        exact ResQ.same rfl
      · rw [decide_eq_false (show ¬ oob n from fun h => h.elim c1 c2)]
        simp (maxSteps:=1000000) (disch:=first | omega | (simp only [nums_len,lnB] <;> omega) | fail) only [ev0,ev1,ev2,ev3,↓reduceIte,reduceCtorEq,zaa,zab,zac,zad,zae,zaf,zag,zah,zai,zaj,zak,zal,zam,zan,zao,zap,zaq,↓zar,↓zas,zat,zau,zav,zaw,zax,zay,zaz,zba,zbb,zbc,zbd,zbe,zbf,zbg,zbh,zbi,zbj,zbk,zbl,zbm,zbn,zbo,zbp,zbq,zbr,zbs,zbt,zbu,zbv,zbw,zbx,zby,zbz,zca,zcb,zcc,zcd,zce,zcf,zcg,zch,zci,zcj,zck,zcl,zcm,zcn,zco,zcp,zcq,zcr,zcs,zct,zcu,zcv,zcw,zcx,zcy,zcz,zda,zdb,zdc,zdd,zde,zdf,zdg,zdh,zdi,zdj,zdk,zdl,zdm,ev5,tbNc0,glob,decide_eq_false c1,decide_eq_false c2]
        exact ResQ.same rfl
  · cases hr
def EP : Env:=E0.know 79 pf79
theorem okP : EnvOK Tryd.prog EP:=ok0.know sound79
theorem EP_te : EP.te = te:=rfl
theorem EP_gs : EP.gs = []:=rfl
theorem EP_dyn : EP.dyn = false:=rfl
theorem EP_glob : EP.glob = glob:=rfl
theorem EP_mu (d : Nat) : EP.mu d = false:=rfl
theorem EP_1' {g : Nat} (h : g = 79) : EP.tbl g = some (.val pf79):=by rw [h]; rfl
def oobF (l : List Int) : Int:=match l.findIdx? (fun n=>decide (oob n)) with | some i=>(i : Int) | none=>-1
theorem oobF_at {l : List Int} {k : Nat} (hk : k < l.length) (hn : oob (l.getD k 0)) (hs : ∀ i,i < k→¬ oob (l.getD i 0)) : oobF l = (k : Int):=by
  have : l.findIdx? (fun n=>decide (oob n)) = some k:=by
    rw [List.findIdx?_eq_some_iff_getElem]
    refine ⟨hk,?_,?_⟩
    · rw [List.getD_eq_getElem?_getD,List.getElem?_eq_getElem hk] at hn
      exact decide_eq_true hn
    · intro j hj
      have:=hs j hj
      rw [List.getD_eq_getElem?_getD,List.getElem?_eq_getElem (show j < l.length by omega)] at this
      simpa using this
  rw [oobF,this]
theorem oobF_no {l : List Int} (hs : ∀ i,i < l.length→¬ oob (l.getD i 0)) : oobF l = -1:=by
  have : l.findIdx? (fun n=>decide (oob n)) = none:=by
    rw [List.findIdx?_eq_none_iff]
    intro x hx
    obtain ⟨i,hi,rfl⟩:=List.mem_iff_getElem.1 hx
    have:=hs i hi
    rw [List.getD_eq_getElem?_getD,List.getElem?_eq_getElem hi] at this
    simpa using this
  rw [oobF,this]
theorem oobF_any (l : List Int) : decide (oobF l ≥ 0) = l.any fun n=>decide (oob n):=by
  rw [oobF,← List.findIdx?_isSome]
  cases l.findIdx? (fun n=>decide (oob n)) with
  | none=>rfl
  | some i=>simp
def pfo108 : List AV → Option AV
  | [v,.fn g []]=>if g = 79 then (irow? v).bind fun l=>if l.length ≤ 9223372036854775807 then some (.raw (.int .i64 (oobF l))) else none else none
  | _=>none
set_option maxHeartbeats 4000000
def tbNc1:=(And.intro (And.intro (And.intro @teE @EP_te) (And.intro @EP_gs @EP_dyn)) (And.intro (And.intro @EP_glob @EP_mu) (And.intro @pf79_at @ev4)))
theorem soundo108 : SoundV Tryd.prog glob 108 pfo108:=by
  refine SoundV.walk EP okP mixed Tryd.func108 rfl Tryd.call108 (by kernel_rfl) ?_
  intro args r hr
  unfold pfo108 at hr
  split at hr
  · rename_i v g
    split at hr
    · rename_i hg
      have hg':=EP_1' hg
      simp only [Option.bind_eq_some_iff] at hr
      obtain ⟨l,h1,hr⟩:=hr
      split at hr
      · rename_i hc
        cases hr
        obtain ⟨⟨fl,rfl⟩,hl⟩:=irow?_of h1
        rw [Tryd.ntmps108,Tryd.results108]
        refine ⟨by simp,?_⟩
        simp (maxSteps:=1000000) (disch:=first | omega | (simp only [nums_len,lnB] <;> omega) | fail) only [ev0,ev1,ev2,ev3,↓reduceIte,reduceCtorEq,zaa,zab,zac,zad,zae,zaf,zag,zah,zai,zaj,zak,zal,zam,zan,zao,zap,zaq,↓zar,↓zas,zat,zau,zav,zaw,zax,zay,zaz,zba,zbb,zbc,zbd,zbe,zbf,zbg,zbh,zbi,zbj,zbk,zbl,zbm,zbn,zbo,zbp,zbq,zbr,zbs,zbt,zbu,zbv,zbw,zbx,zby,zbz,zca,zcb,zcc,zcd,zce,zcf,zcg,zch,zci,zcj,zck,zcl,zcm,zcn,zco,zcp,zcq,zcr,zcs,zct,zcu,zcv,zcw,zcx,zcy,zcz,zda,zdb,zdc,zdd,zde,zdf,zdg,zdh,zdi,zdj,zdk,zdl,zdm,ev5,tbNc1,glob,hg']
        refine loopQ_of (fun n σ=>∃ k,k ≤ l.length ∧ n = l.length - k ∧ (∀ i,i < k→¬ oob (l.getD i 0)) ∧ σ.slots 8 = .raw (.int .i64 (k : Int)) ∧ σ.slots 7 = .raw (.int .i64 (l.length : Int)) ∧ σ.slots 0 = .sl l.length (ints .i64 l) .bor ∧ σ.slots 1 = .fn g []) l.length ?_ ?_
        · refine ⟨0,by omega,by omega,by omega,?_⟩
          simp (maxSteps:=1000000) (disch:=first | omega | (simp only [nums_len,lnB] <;> omega) | fail) only [ev0,ev1,ev2,ev3,↓reduceIte,reduceCtorEq,zaa,zab,zac,zad,zae,zaf,zag,zah,zai,zaj,zak,zal,zam,zan,zao,zap,zaq,↓zar,↓zas,zat,zau,zav,zaw,zax,zay,zaz,zba,zbb,zbc,zbd,zbe,zbf,zbg,zbh,zbi,zbj,zbk,zbl,zbm,zbn,zbo,zbp,zbq,zbr,zbs,zbt,zbu,zbv,zbw,zbx,zby,zbz,zca,zcb,zcc,zcd,zce,zcf,zcg,zch,zci,zcj,zck,zcl,zcm,zcn,zco,zcp,zcq,zcr,zcs,zct,zcu,zcv,zcw,zcx,zcy,zcz,zda,zdb,zdc,zdd,zde,zdf,zdg,zdh,zdi,zdj,zdk,zdl,zdm,ev5,tbNc1,glob,hg']
          rfl
        · rintro n ⟨sl,gn,bx,us⟩ ⟨k,hk,rfl,hs,s8,s7,s0,s1⟩
          dsimp only at s8 s7 s0 s1
          simp (maxSteps:=1000000) (disch:=first | omega | (simp only [nums_len,lnB] <;> omega) | fail) only [ev0,ev1,ev2,ev3,↓reduceIte,reduceCtorEq,zaa,zab,zac,zad,zae,zaf,zag,zah,zai,zaj,zak,zal,zam,zan,zao,zap,zaq,↓zar,↓zas,zat,zau,zav,zaw,zax,zay,zaz,zba,zbb,zbc,zbd,zbe,zbf,zbg,zbh,zbi,zbj,zbk,zbl,zbm,zbn,zbo,zbp,zbq,zbr,zbs,zbt,zbu,zbv,zbw,zbx,zby,zbz,zca,zcb,zcc,zcd,zce,zcf,zcg,zch,zci,zcj,zck,zcl,zcm,zcn,zco,zcp,zcq,zcr,zcs,zct,zcu,zcv,zcw,zcx,zcy,zcz,zda,zdb,zdc,zdd,zde,zdf,zdg,zdh,zdi,zdj,zdk,zdl,zdm,ev5,tbNc1,glob,hg',s8,s7,s0,s1]
          refine condQ_dec (fun hlt=>?_) (fun hge=>?_)
          · have hlt : k < l.length := by omega
            simp (maxSteps:=1000000) (disch:=first | omega | (simp only [nums_len,lnB] <;> omega) | fail) only [ev0,ev1,ev2,ev3,↓reduceIte,reduceCtorEq,zaa,zab,zac,zad,zae,zaf,zag,zah,zai,zaj,zak,zal,zam,zan,zao,zap,zaq,↓zar,↓zas,zat,zau,zav,zaw,zax,zay,zaz,zba,zbb,zbc,zbd,zbe,zbf,zbg,zbh,zbi,zbj,zbk,zbl,zbm,zbn,zbo,zbp,zbq,zbr,zbs,zbt,zbu,zbv,zbw,zbx,zby,zbz,zca,zcb,zcc,zcd,zce,zcf,zcg,zch,zci,zcj,zck,zcl,zcm,zcn,zco,zcp,zcq,zcr,zcs,zct,zcu,zcv,zcw,zcx,zcy,zcz,zda,zdb,zdc,zdd,zde,zdf,zdg,zdh,zdi,zdj,zdk,zdl,zdm,ev5,tbNc1,glob,hg',s8,s7,s0,s1]
            refine condQ_dec (fun hn=>?_) (fun hn=>?_)
            · rw [oobF_at hlt hn hs]
              simp (maxSteps:=1000000) (disch:=first | omega | (simp only [nums_len,lnB] <;> omega) | fail) only [ev0,ev1,ev2,ev3,↓reduceIte,reduceCtorEq,zaa,zab,zac,zad,zae,zaf,zag,zah,zai,zaj,zak,zal,zam,zan,zao,zap,zaq,↓zar,↓zas,zat,zau,zav,zaw,zax,zay,zaz,zba,zbb,zbc,zbd,zbe,zbf,zbg,zbh,zbi,zbj,zbk,zbl,zbm,zbn,zbo,zbp,zbq,zbr,zbs,zbt,zbu,zbv,zbw,zbx,zby,zbz,zca,zcb,zcc,zcd,zce,zcf,zcg,zch,zci,zcj,zck,zcl,zcm,zcn,zco,zcp,zcq,zcr,zcs,zct,zcu,zcv,zcw,zcx,zcy,zcz,zda,zdb,zdc,zdd,zde,zdf,zdg,zdh,zdi,zdj,zdk,zdl,zdm,ev5,tbNc1,glob,hg',s8,s7,s0,s1]
              exact ResQ.same rfl
            · simp (maxSteps := 1000000) (disch := first | omega | (simp only [nums_len,lnB] <;> omega) | fail) only [ev0,ev1,ev2,ev3,↓reduceIte,reduceCtorEq,zaa,zab,zac,zad,zae,zaf,zag,zah,zai,zaj,zak,zal,zam,zan,zao,zap,zaq,↓zar,↓zas,zat,zau,zav,zaw,zax,zay,zaz,zba,zbb,zbc,zbd,zbe,zbf,zbg,zbh,zbi,zbj,zbk,zbl,zbm,zbn,zbo,zbp,zbq,zbr,zbs,zbt,zbu,zbv,zbw,zbx,zby,zbz,zca,zcb,zcc,zcd,zce,zcf,zcg,zch,zci,zcj,zck,zcl,zcm,zcn,zco,zcp,zcq,zcr,zcs,zct,zcu,zcv,zcw,zcx,zcy,zcz,zda,zdb,zdc,zdd,zde,zdf,zdg,zdh,zdi,zdj,zdk,zdl,zdm,ev5,tbNc1,glob,hg',s8,s7,s0,s1]
              refine ⟨l.length - (k + 1),by omega,k + 1,by omega,rfl,?_,rfl⟩
              intro i hi
              rcases Nat.lt_or_eq_of_le (Nat.le_of_lt_succ hi) with h | h
              · exact hs i h
              · rw [h]; exact hn
          · have hk : k = l.length := by omega
            subst hk
            rw [oobF_no hs]
            simp (maxSteps:=1000000) (disch:=first | omega | (simp only [nums_len,lnB] <;> omega) | fail) only [ev0,ev1,ev2,ev3,↓reduceIte,reduceCtorEq,zaa,zab,zac,zad,zae,zaf,zag,zah,zai,zaj,zak,zal,zam,zan,zao,zap,zaq,↓zar,↓zas,zat,zau,zav,zaw,zax,zay,zaz,zba,zbb,zbc,zbd,zbe,zbf,zbg,zbh,zbi,zbj,zbk,zbl,zbm,zbn,zbo,zbp,zbq,zbr,zbs,zbt,zbu,zbv,zbw,zbx,zby,zbz,zca,zcb,zcc,zcd,zce,zcf,zcg,zch,zci,zcj,zck,zcl,zcm,zcn,zco,zcp,zcq,zcr,zcs,zct,zcu,zcv,zcw,zcx,zcy,zcz,zda,zdb,zdc,zdd,zde,zdf,zdg,zdh,zdi,zdj,zdk,zdl,zdm,ev5,tbNc1,glob,hg',s8,s7,s0,s1]
            exact ResQ.same rfl
      · cases hr
    · cases hr
  · cases hr
def EP6 : Env:=EP.know 108 pfo108
theorem okP6 : EnvOK Tryd.prog EP6:=okP.know soundo108
theorem EP6_te : EP6.te = te:=rfl
theorem EP6_gs : EP6.gs = []:=rfl
theorem EP6_dyn : EP6.dyn = false:=rfl
theorem EP6_glob : EP6.glob = glob:=rfl
theorem EP6_mu (d : Nat) : EP6.mu d = false:=rfl
theorem EP6_108 : EP6.tbl 108 = some (.val pfo108):=rfl
theorem pfo108_at {n : Nat} {l : List Int} {fl : Fl} (h : n = l.length) (h2 : ∀ n ∈ l,i64ok n) (h3 : l.length ≤ 9223372036854775807) {g : Nat} (hg : g = 79) : pfo108 [.sl n (ints .i64 l) fl,.fn g []] = some (.raw (.int .i64 (oobF l))):=by
  simp only [pfo108,if_pos hg,irow?_at h h2,Option.bind_some,if_pos h3]
def pfo78 : List AV → Option AV
  | [v,.fn g []]=>if g = 79 then (irow? v).bind fun l=>if l.length ≤ 9223372036854775807 then some (.raw (.bool (l.any fun n=>decide (oob n)))) else none else none
  | _=>none
theorem soundo78 : SoundV Tryd.prog glob 78 pfo78:=by
  refine SoundV.walk EP6 okP6 mixed Tryd.func78 rfl Tryd.call78 (by kernel_rfl) ?_
  intro args r hr
  unfold pfo78 at hr
  split at hr
  · rename_i v g
    split at hr
    · rename_i hg
      have hg':=EP_1' hg
      simp only [Option.bind_eq_some_iff] at hr
      obtain ⟨l,h1,hr⟩:=hr
      split at hr
      · rename_i hc
        cases hr
        obtain ⟨⟨fl,rfl⟩,hl⟩:=irow?_of h1
        rw [Tryd.ntmps78,Tryd.results78]
        refine ⟨by simp,?_⟩
        have hp:=pfo108_at (l:=l) (fl:=.bor) rfl hl hc hg
        rw [← oobF_any]
        simp (maxSteps:=1000000) (disch:=first | omega | (simp only [nums_len,lnB] <;> omega) | fail) only [ev0,ev1,ev2,ev3,↓reduceIte,reduceCtorEq,zaa,zab,zac,zad,zae,zaf,zag,zah,zai,zaj,zak,zal,zam,zan,zao,zap,zaq,↓zar,↓zas,zat,zau,zav,zaw,zax,zay,zaz,zba,zbb,zbc,zbd,zbe,zbf,zbg,zbh,zbi,zbj,zbk,zbl,zbm,zbn,zbo,zbp,zbq,zbr,zbs,zbt,zbu,zbv,zbw,zbx,zby,zbz,zca,zcb,zcc,zcd,zce,zcf,zcg,zch,zci,zcj,zck,zcl,zcm,zcn,zco,zcp,zcq,zcr,zcs,zct,zcu,zcv,zcw,zcx,zcy,zcz,zda,zdb,zdc,zdd,zde,zdf,zdg,zdh,zdi,zdj,zdk,zdl,zdm,ev5,teE,EP6_te,EP6_gs,EP6_dyn,EP6_glob,EP6_mu,EP6_108,glob,ev4,hp,List.isEmpty_nil]
        exact ResQ.same rfl
      · cases hr
    · cases hr
  · cases hr
end Go.Proofs.YtddeffdgldjdjaaDoor.W
