/- The document's keys and nonces: what their walks come to. -/
import Derived.Test.YtddeffdgldjdjaaDoorGd
import Derived.Test.YtddeffdgldjdjaaDoorIg
namespace Go.Proofs.YtddeffdgldjdjaaDoor
set_option linter.unusedSimpArgs false
set_option linter.unusedVariables false
set_option linter.defProp false
open Go Go.Abs
open Nat renaming reduceAdd → zaa, reduceSub → zab, reduceMul → zac, reduceLT → zad, reduceLeDiff → zae, reduceEqDiff → zaf, reduceBEq → zag
open BitVec renaming reduceOfInt → zah
open Int renaming reduceLE → zai, reduceLT → zaj, reduceGT → zak, reduceGE → zal, reduceNeg → zam, reduceAdd → zan, reduceSub → zao, reduceMul → zap, reduceToNat → zaq
open Go.Abs renaming bind_go → zar, map_go → zas, wantedV → zat, isWrite → zau, grow → zav, write → zaw, ofV → zax, start → zaz, strip → zba, endQ → zbb, resV → zbc, rawsRes → zbd, rawRes → zbe, exports → zbf, export1 → zbg, isSelf → zbl, convSelf → zbm, convV → zbn, loadV → zbo, storeV → zbp, fieldAddrV → zbq, fieldV → zbr, indexAddrV → zbs, indexV → zbt, partV → zbu, isAggK → zbv, isStr → zbw, place → zbx, lenV → zby, min2V → zbz, makeV → zca, freshSl → zcb, sliceV → zcc, boundOr → zcd, bound → zce, bounds → zcf, cutFl → zcg, copyV → zch, slCells → zci, srcV → zcj, appendV → zck, room → zcl, zerosOf → zcm, eqNeg → zcn, kd → zco, takeR → zcp, hasViewL → zcq, hasView → zcr, freshR → zcs, freshC → zct, snapAll → zcu, snap → zcv, snapL → zcw, flatL → zcx, pureL → zcy, pureA → zcz, fillC → zda, arrOK → zdb, oneA → zdc, partB → zdd, ren1 → zdf, applyW → zdh, useL → zdi, isGen → zdk, startG → zdl
open Go.Abs.AV renaming cells → zay, laid → zde
open Go.Abs.AS renaming grown → zbh, put → zbi, mute → zdj
open Go.Abs.Env renaming know → zbj, boxed → zbk
open Go.Abs.CR renaming gr → zdg
set_option maxHeartbeats 16000000
def pf65 : List AV → Option AV
  | [x, y, z] => (int? x).bind fun d => (int? y).bind fun t => (int? z).bind fun i => some (.raw (.bool (decide (argOK d t i))))
  | _ => none
theorem may_at {d t i : Int} : pf65 [.raw (.int .i64 d), .raw (.int .i64 t), .raw (.int .i64 i)] = some (.raw (.bool (decide (argOK d t i)))) := by
  simp only [pf65, int?_at, Option.bind_some]
def tbGf0 := (And.intro (And.intro (And.intro @teE @evY) (And.intro @E0_te @E0_glob)) (And.intro (And.intro @E0_gs @E0_dyn) (And.intro @E0_mu (And.intro @nums_strip @nums_set8))))
theorem sound65 : SoundV Tryd.prog glob 65 pf65 := by
  refine SoundV.walk E0 ok0 mixed Tryd.func65 rfl Tryd.call65 (by kernel_rfl) ?_
  intro args r hr
  unfold pf65 at hr
  split at hr
  · rename_i x y z
    simp only [Option.bind_eq_some_iff] at hr
    obtain ⟨d, h1, t, h2, i, h3, hr⟩ := hr
    cases hr
    rw [int?_of h1, int?_of h2, int?_of h3, Tryd.ntmps65, Tryd.results65]
    refine ⟨by simp, ?_⟩
    by_cases hb : argOK d t i
    · rw [decide_eq_true hb]
      unfold argOK at hb
      have e1 : (d ≥ 0) = True := eq_true (by omega)
      have e2 : (d ≤ 255) = True := eq_true (by omega)
      have e3 : (t ≥ 0) = True := eq_true (by omega)
      have e4 : (t < 1099511627776) = True := eq_true (by omega)
      have e5 : (i ≥ 0) = True := eq_true (by omega)
      have e6 : (i < 1099511627776) = True := eq_true (by omega)
      simp (maxSteps := 1000000) (disch := first | omega | (simp only [nums_len, lnB] <;> omega) | fail) only [ev0, ev1, ev2, ev3, ↓reduceIte, reduceCtorEq, zaa, zab, zac, zad, zae, zaf, zag, zah, zai, zaj, zak, zal, zam, zan, zao, zap, zaq, ↓zar, ↓zas, zat, zau, zav, zaw, zax, zay, zaz, zba, zbb, zbc, zbd, zbe, zbf, zbg, zbh, zbi, zbj, zbk, zbl, zbm, zbn, zbo, zbp, zbq, zbr, zbs, zbt, zbu, zbv, zbw, zbx, zby, zbz, zca, zcb, zcc, zcd, zce, zcf, zcg, zch, zci, zcj, zck, zcl, zcm, zcn, zco, zcp, zcq, zcr, zcs, zct, zcu, zcv, zcw, zcx, zcy, zcz, zda, zdb, zdc, zdd, zde, zdf, zdg, zdh, zdi, zdj, zdk, zdl, ev5, tbGf0, glob, Nat.reduceMod, e1, e2, e3, e4, e5, e6, decide_true]
      exact ResQ.same rfl
    · rw [decide_eq_false hb]
      have hb' := Decidable.of_not_not hb
      by_cases f0 : d ≥ 0
      case neg =>
        have e0 := eq_false f0
        simp (maxSteps := 1000000) (disch := first | omega | (simp only [nums_len, lnB] <;> omega) | fail) only [ev0, ev1, ev2, ev3, ↓reduceIte, reduceCtorEq, zaa, zab, zac, zad, zae, zaf, zag, zah, zai, zaj, zak, zal, zam, zan, zao, zap, zaq, ↓zar, ↓zas, zat, zau, zav, zaw, zax, zay, zaz, zba, zbb, zbc, zbd, zbe, zbf, zbg, zbh, zbi, zbj, zbk, zbl, zbm, zbn, zbo, zbp, zbq, zbr, zbs, zbt, zbu, zbv, zbw, zbx, zby, zbz, zca, zcb, zcc, zcd, zce, zcf, zcg, zch, zci, zcj, zck, zcl, zcm, zcn, zco, zcp, zcq, zcr, zcs, zct, zcu, zcv, zcw, zcx, zcy, zcz, zda, zdb, zdc, zdd, zde, zdf, zdg, zdh, zdi, zdj, zdk, zdl, ev5, tbGf0, glob, Nat.reduceMod, e0, decide_true, decide_false]
        exact ResQ.same rfl
      have e0 := eq_true f0
      by_cases f1 : d ≤ 255
      case neg =>
        have e1 := eq_false f1
        simp (maxSteps := 1000000) (disch := first | omega | (simp only [nums_len, lnB] <;> omega) | fail) only [ev0, ev1, ev2, ev3, ↓reduceIte, reduceCtorEq, zaa, zab, zac, zad, zae, zaf, zag, zah, zai, zaj, zak, zal, zam, zan, zao, zap, zaq, ↓zar, ↓zas, zat, zau, zav, zaw, zax, zay, zaz, zba, zbb, zbc, zbd, zbe, zbf, zbg, zbh, zbi, zbj, zbk, zbl, zbm, zbn, zbo, zbp, zbq, zbr, zbs, zbt, zbu, zbv, zbw, zbx, zby, zbz, zca, zcb, zcc, zcd, zce, zcf, zcg, zch, zci, zcj, zck, zcl, zcm, zcn, zco, zcp, zcq, zcr, zcs, zct, zcu, zcv, zcw, zcx, zcy, zcz, zda, zdb, zdc, zdd, zde, zdf, zdg, zdh, zdi, zdj, zdk, zdl, ev5, tbGf0, glob, Nat.reduceMod, e0, e1, decide_true, decide_false]
        exact ResQ.same rfl
      have e1 := eq_true f1
      by_cases f2 : t ≥ 0
      case neg =>
        have e2 := eq_false f2
        simp (maxSteps := 1000000) (disch := first | omega | (simp only [nums_len, lnB] <;> omega) | fail) only [ev0, ev1, ev2, ev3, ↓reduceIte, reduceCtorEq, zaa, zab, zac, zad, zae, zaf, zag, zah, zai, zaj, zak, zal, zam, zan, zao, zap, zaq, ↓zar, ↓zas, zat, zau, zav, zaw, zax, zay, zaz, zba, zbb, zbc, zbd, zbe, zbf, zbg, zbh, zbi, zbj, zbk, zbl, zbm, zbn, zbo, zbp, zbq, zbr, zbs, zbt, zbu, zbv, zbw, zbx, zby, zbz, zca, zcb, zcc, zcd, zce, zcf, zcg, zch, zci, zcj, zck, zcl, zcm, zcn, zco, zcp, zcq, zcr, zcs, zct, zcu, zcv, zcw, zcx, zcy, zcz, zda, zdb, zdc, zdd, zde, zdf, zdg, zdh, zdi, zdj, zdk, zdl, ev5, tbGf0, glob, Nat.reduceMod, e0, e1, e2, decide_true, decide_false]
        exact ResQ.same rfl
      have e2 := eq_true f2
      by_cases f3 : t < 1099511627776
      case neg =>
        have e3 := eq_false f3
        simp (maxSteps := 1000000) (disch := first | omega | (simp only [nums_len, lnB] <;> omega) | fail) only [ev0, ev1, ev2, ev3, ↓reduceIte, reduceCtorEq, zaa, zab, zac, zad, zae, zaf, zag, zah, zai, zaj, zak, zal, zam, zan, zao, zap, zaq, ↓zar, ↓zas, zat, zau, zav, zaw, zax, zay, zaz, zba, zbb, zbc, zbd, zbe, zbf, zbg, zbh, zbi, zbj, zbk, zbl, zbm, zbn, zbo, zbp, zbq, zbr, zbs, zbt, zbu, zbv, zbw, zbx, zby, zbz, zca, zcb, zcc, zcd, zce, zcf, zcg, zch, zci, zcj, zck, zcl, zcm, zcn, zco, zcp, zcq, zcr, zcs, zct, zcu, zcv, zcw, zcx, zcy, zcz, zda, zdb, zdc, zdd, zde, zdf, zdg, zdh, zdi, zdj, zdk, zdl, ev5, tbGf0, glob, Nat.reduceMod, e0, e1, e2, e3, decide_true, decide_false]
        exact ResQ.same rfl
      have e3 := eq_true f3
      by_cases f4 : i ≥ 0
      case neg =>
        have e4 := eq_false f4
        simp (maxSteps := 1000000) (disch := first | omega | (simp only [nums_len, lnB] <;> omega) | fail) only [ev0, ev1, ev2, ev3, ↓reduceIte, reduceCtorEq, zaa, zab, zac, zad, zae, zaf, zag, zah, zai, zaj, zak, zal, zam, zan, zao, zap, zaq, ↓zar, ↓zas, zat, zau, zav, zaw, zax, zay, zaz, zba, zbb, zbc, zbd, zbe, zbf, zbg, zbh, zbi, zbj, zbk, zbl, zbm, zbn, zbo, zbp, zbq, zbr, zbs, zbt, zbu, zbv, zbw, zbx, zby, zbz, zca, zcb, zcc, zcd, zce, zcf, zcg, zch, zci, zcj, zck, zcl, zcm, zcn, zco, zcp, zcq, zcr, zcs, zct, zcu, zcv, zcw, zcx, zcy, zcz, zda, zdb, zdc, zdd, zde, zdf, zdg, zdh, zdi, zdj, zdk, zdl, ev5, tbGf0, glob, Nat.reduceMod, e0, e1, e2, e3, e4, decide_true, decide_false]
        exact ResQ.same rfl
      have e4 := eq_true f4
      have e5 : (i < 1099511627776) = False := eq_false (by omega)
      simp (maxSteps := 1000000) (disch := first | omega | (simp only [nums_len, lnB] <;> omega) | fail) only [ev0, ev1, ev2, ev3, ↓reduceIte, reduceCtorEq, zaa, zab, zac, zad, zae, zaf, zag, zah, zai, zaj, zak, zal, zam, zan, zao, zap, zaq, ↓zar, ↓zas, zat, zau, zav, zaw, zax, zay, zaz, zba, zbb, zbc, zbd, zbe, zbf, zbg, zbh, zbi, zbj, zbk, zbl, zbm, zbn, zbo, zbp, zbq, zbr, zbs, zbt, zbu, zbv, zbw, zbx, zby, zbz, zca, zcb, zcc, zcd, zce, zcf, zcg, zch, zci, zcj, zck, zcl, zcm, zcn, zco, zcp, zcq, zcr, zcs, zct, zcu, zcv, zcw, zcx, zcy, zcz, zda, zdb, zdc, zdd, zde, zdf, zdg, zdh, zdi, zdj, zdk, zdl, ev5, tbGf0, glob, Nat.reduceMod, e0, e1, e2, e3, e4, e5, decide_true, decide_false]
      exact ResQ.same rfl
  · cases hr
def EMR : Env := E0.know 65 pf65
theorem okMR : EnvOK Tryd.prog EMR := ok0.know sound65
theorem EMR_te : EMR.te = te := rfl
theorem EMR_glob : EMR.glob = glob := rfl
theorem EMR_gs : EMR.gs = [] := rfl
theorem EMR_dyn : EMR.dyn = false := rfl
theorem EMR_mu (d : Nat) : EMR.mu d = false := rfl
theorem EMR_m : EMR.tbl 65 = some (.val pf65) := rfl
def tbGf1 := (And.intro (And.intro (And.intro @teE @evY) (And.intro @EMR_te (And.intro @EMR_glob @EMR_gs))) (And.intro (And.intro @EMR_dyn (And.intro @EMR_mu @EMR_m)) (And.intro @may_at (And.intro @nums_strip @nums_set8))))
set_option maxRecDepth 20000 in
theorem sound37 : SoundV Tryd.prog glob 37 pf36 := by
  refine SoundV.walkY EMR [(0, 6), (2, 7)] okMR mixed Tryd.func37 rfl Tryd.call37 (by kernel_rfl) ?_
  intro args r hr
  unfold pf36 at hr
  split at hr
  · rename_i x y z
    simp only [Option.bind_eq_some_iff] at hr
    obtain ⟨d, h1, t, h2, i, h3, hr⟩ := hr
    cases hr
    rw [int?_of h1, int?_of h2, int?_of h3, Tryd.ntmps37, Tryd.results37]
    refine ⟨by simp, ?_⟩
    by_cases hb : argOK d t i
    · rw [nonceV, nonceE, if_pos hb, if_pos hb]
      have e1 := decide_eq_true hb
      simp (maxSteps := 1000000) (disch := first | omega | (simp only [nums_len, lnB] <;> omega) | fail) only [ev0, ev1, ev2, ev3, ↓reduceIte, reduceCtorEq, zaa, zab, zac, zad, zae, zaf, zag, zah, zai, zaj, zak, zal, zam, zan, zao, zap, zaq, ↓zar, ↓zas, zat, zau, zav, zaw, zax, zay, zaz, zba, zbb, zbc, zbd, zbe, zbf, zbg, zbh, zbi, zbj, zbk, zbl, zbm, zbn, zbo, zbp, zbq, zbr, zbs, zbt, zbu, zbv, zbw, zbx, zby, zbz, zca, zcb, zcc, zcd, zce, zcf, zcg, zch, zci, zcj, zck, zcl, zcm, zcn, zco, zcp, zcq, zcr, zcs, zct, zcu, zcv, zcw, zcx, zcy, zcz, zda, zdb, zdc, zdd, zde, zdf, zdg, zdh, zdi, zdj, zdk, zdl, ev5, tbGf1, glob, Nat.reduceMod, e1]
      exact ResQ.same rfl
    · rw [nonceV, nonceE, if_neg hb, if_neg hb]
      have e1 := decide_eq_false hb
      simp (maxSteps := 1000000) (disch := first | omega | (simp only [nums_len, lnB] <;> omega) | fail) only [ev0, ev1, ev2, ev3, ↓reduceIte, reduceCtorEq, zaa, zab, zac, zad, zae, zaf, zag, zah, zai, zaj, zak, zal, zam, zan, zao, zap, zaq, ↓zar, ↓zas, zat, zau, zav, zaw, zax, zay, zaz, zba, zbb, zbc, zbd, zbe, zbf, zbg, zbh, zbi, zbj, zbk, zbl, zbm, zbn, zbo, zbp, zbq, zbr, zbs, zbt, zbu, zbv, zbw, zbx, zby, zbz, zca, zcb, zcc, zcd, zce, zcf, zcg, zch, zci, zcj, zck, zcl, zcm, zcn, zco, zcp, zcq, zcr, zcs, zct, zcu, zcv, zcw, zcx, zcy, zcz, zda, zdb, zdc, zdd, zde, zdf, zdg, zdh, zdi, zdj, zdk, zdl, ev5, tbGf1, glob, Nat.reduceMod, e1]
      exact ResQ.same rfl
  · cases hr
theorem keyOK_is {d : Int} : argOK d 0 0 ↔ keyOK d := by unfold argOK keyOK; omega
def ERK : Env := ((ES0.know 66 (fun xs => pf64 (xs.map norm))).know 65 pf65).boxed (fun d => d == 65553)
theorem okRK : EnvOK Tryd.prog ERK := ((okS0.know sound66.norm).know (toS sound65)).boxed _
theorem ERK_te : ERK.te = te := rfl
theorem ERK_glob : ERK.glob = globS := rfl
theorem ERK_gs : ERK.gs = [] := rfl
theorem ERK_dyn : ERK.dyn = false := rfl
theorem ERK_mu (d : Nat) : ERK.mu d = (d == 65553) := rfl
theorem ERK_x : ERK.tbl 66 = some (.val (fun xs => pf64 (xs.map norm))) := rfl
theorem ERK_m : ERK.tbl 65 = some (.val pf65) := rfl
/-- the first k bytes, laid one by one -/
def cpF (b : List (BitVec 8)) : Nat → List (BitVec 8)
  | 0 => List.replicate 32 0#8
  | k + 1 => (cpF b k).set k (b.getD k 0#8)
theorem cpF_len (b : List (BitVec 8)) (k : Nat) : (cpF b k).length = 32 := by
  induction k with
  | zero => rfl
  | succ k ih => rw [cpF, List.length_set, ih]
theorem cpF_get (b : List (BitVec 8)) (k j : Nat) (h : j < k) (hk : k ≤ 32) : (cpF b k).getD j 0#8 = b.getD j 0#8 := by
  induction k with
  | zero => omega
  | succ k ih =>
    rw [cpF, List.getD_eq_getElem?_getD, List.getElem?_set]
    by_cases hj : k = j
    · rw [if_pos hj, if_pos (by rw [cpF_len]; omega), hj]; rfl
    · rw [if_neg hj, ← List.getD_eq_getElem?_getD]
      exact ih (by omega) (by omega)
theorem ext_getD' {l m : List (BitVec 8)} (hl : l.length = m.length) (h : ∀ i, i < l.length → l.getD i 0#8 = m.getD i 0#8) : l = m := by
  apply List.ext_getElem hl
  intro i h1 h2
  have := h i h1
  rw [List.getD_eq_getElem?_getD, List.getD_eq_getElem?_getD, List.getElem?_eq_getElem h1, List.getElem?_eq_getElem h2] at this
  exact this
theorem cpF_all {b : List (BitVec 8)} (h : b.length = 32) : cpF b 32 = b :=
  ext_getD' (by rw [cpF_len, h]) fun i hi => cpF_get b 32 i (by rw [cpF_len] at hi; exact hi) (Nat.le_refl _)
def tbGf2 := (And.intro (And.intro (And.intro (And.intro @teE @ERK_te) (And.intro @ERK_glob @ERK_gs)) (And.intro (And.intro @ERK_dyn @ERK_mu) (And.intro @ERK_x @ERK_m))) (And.intro (And.intro (And.intro @may_at @exp_key) (And.intro @nm_lit @ns_strip)) (And.intro (And.intro @ns_set @sp32) (And.intro @tk32 @nums_ren))))
theorem sound35 : SoundV Tryd.prog globS 35 pf34 := by
  refine SoundV.walk ERK okRK mixed Tryd.func35 rfl Tryd.call35 (by kernel_rfl) ?_
  intro args r hr
  unfold pf34 at hr
  split at hr
  · rename_i k x
    simp only [Option.bind_eq_some_iff] at hr
    obtain ⟨m, h0, d, h1, hr⟩ := hr
    cases hr
    obtain ⟨rfl, hm⟩ := agg?_of h0
    rw [int?_of h1, Tryd.ntmps35, Tryd.results35]
    refine ⟨by simp, ?_⟩
    by_cases hb : keyOK d
    · rw [keyV, keyE, if_pos hb, if_pos hb]
      have e0 := decide_eq_true (keyOK_is.2 hb)
      obtain ⟨kb, hkb⟩ : ∃ kb, keyB m d = kb := ⟨_, rfl⟩
      have lk : kb.length = 32 := by rw [← hkb]; exact keyB_len _ _
      rw [hkb]
      simp (maxSteps := 1000000) (disch := first | omega | (simp only [nums_len, keyB_len, keyV_len, cpF_len, lnB] <;> omega) | fail) only [ev0, ev1, ev2, ev3, ↓reduceIte, reduceCtorEq, zaa, zab, zac, zad, zae, zaf, zag, zah, zai, zaj, zak, zal, zam, zan, zao, zap, zaq, ↓zar, ↓zas, zat, zau, zav, zaw, zax, zay, zaz, zba, zbb, zbc, zbd, zbe, zbf, zbg, zbh, zbi, zbj, zbk, zbl, zbm, zbn, zbo, zbp, zbq, zbr, zbs, zbt, zbu, zbv, zbw, zbx, zby, zbz, zca, zcb, zcc, zcd, zce, zcf, zcg, zch, zci, zcj, zck, zcl, zcm, zcn, zco, zcp, zcq, zcr, zcs, zct, zcu, zcv, zcw, zcx, zcy, zcz, zda, zdb, zdc, zdd, zde, zdf, zdg, zdh, zdi, zdj, zdk, zdl, ev5, tbGf2, globS, if_true, e0, hm, hkb]
      refine loopQ_of (fun n σ => ∃ k, k ≤ 32 ∧ n = 32 - k ∧ σ.slots 9 = .raw (.int .i64 (k : Int)) ∧ (∃ i, σ.slots 7 = .sl 32 (nums .u8 kb) (.own i 1)) ∧ σ.slots 4 = .ptr (.own 0 4 1) 0 ∧ σ.slots 6 = .ptr (.own 0 6 1) 0 ∧ σ.box (.own 0 4 1) = some (nums .u8 (List.replicate 32 0#8)) ∧ σ.box (.own 0 6 1) = some (nums .u8 (cpF kb k))) 32 ?_ ?_
      · refine ⟨0, by omega, by omega, ?_⟩
        simp (maxSteps := 1000000) (disch := first | omega | (simp only [nums_len, keyB_len, keyV_len, cpF_len, lnB] <;> omega) | fail) only [ev0, ev1, ev2, ev3, ↓reduceIte, reduceCtorEq, zaa, zab, zac, zad, zae, zaf, zag, zah, zai, zaj, zak, zal, zam, zan, zao, zap, zaq, ↓zar, ↓zas, zat, zau, zav, zaw, zax, zay, zaz, zba, zbb, zbc, zbd, zbe, zbf, zbg, zbh, zbi, zbj, zbk, zbl, zbm, zbn, zbo, zbp, zbq, zbr, zbs, zbt, zbu, zbv, zbw, zbx, zby, zbz, zca, zcb, zcc, zcd, zce, zcf, zcg, zch, zci, zcj, zck, zcl, zcm, zcn, zco, zcp, zcq, zcr, zcs, zct, zcu, zcv, zcw, zcx, zcy, zcz, zda, zdb, zdc, zdd, zde, zdf, zdg, zdh, zdi, zdj, zdk, zdl, ev5, tbGf2, globS, if_true]
        exact ⟨rfl, ⟨_, rfl⟩, rfl⟩
      · rintro n ⟨sl, gn, bx, us⟩ ⟨k, hk, rfl, s9, ⟨i, s7⟩, s4, s6, b4, b6⟩
        dsimp only at s9 s7 s4 s6 b4 b6
        have lc := cpF_len kb k
        simp (maxSteps := 1000000) (disch := first | omega | (simp only [nums_len, keyB_len, keyV_len, cpF_len, lnB] <;> omega) | fail) only [ev0, ev1, ev2, ev3, ↓reduceIte, reduceCtorEq, zaa, zab, zac, zad, zae, zaf, zag, zah, zai, zaj, zak, zal, zam, zan, zao, zap, zaq, ↓zar, ↓zas, zat, zau, zav, zaw, zax, zay, zaz, zba, zbb, zbc, zbd, zbe, zbf, zbg, zbh, zbi, zbj, zbk, zbl, zbm, zbn, zbo, zbp, zbq, zbr, zbs, zbt, zbu, zbv, zbw, zbx, zby, zbz, zca, zcb, zcc, zcd, zce, zcf, zcg, zch, zci, zcj, zck, zcl, zcm, zcn, zco, zcp, zcq, zcr, zcs, zct, zcu, zcv, zcw, zcx, zcy, zcz, zda, zdb, zdc, zdd, zde, zdf, zdg, zdh, zdi, zdj, zdk, zdl, ev5, tbGf2, globS, if_true, s9, s7, s4, s6, b4, b6]
        refine condQ_dec (fun hlt => ?_) (fun hge => ?_)
        · have hlt : k < 32 := by omega
          simp (maxSteps := 1000000) (disch := first | omega | (simp only [nums_len, keyB_len, keyV_len, cpF_len, lnB] <;> omega) | fail) only [ev0, ev1, ev2, ev3, ↓reduceIte, reduceCtorEq, zaa, zab, zac, zad, zae, zaf, zag, zah, zai, zaj, zak, zal, zam, zan, zao, zap, zaq, ↓zar, ↓zas, zat, zau, zav, zaw, zax, zay, zaz, zba, zbb, zbc, zbd, zbe, zbf, zbg, zbh, zbi, zbj, zbk, zbl, zbm, zbn, zbo, zbp, zbq, zbr, zbs, zbt, zbu, zbv, zbw, zbx, zby, zbz, zca, zcb, zcc, zcd, zce, zcf, zcg, zch, zci, zcj, zck, zcl, zcm, zcn, zco, zcp, zcq, zcr, zcs, zct, zcu, zcv, zcw, zcx, zcy, zcz, zda, zdb, zdc, zdd, zde, zdf, zdg, zdh, zdi, zdj, zdk, zdl, ev5, tbGf2, globS, if_true, s9, s7, s4, s6, b4, b6, lk, lc]
          exact ⟨32 - (k + 1), by omega, k + 1, by omega, rfl, rfl, ⟨_, rfl⟩, rfl⟩
        · have hk : k = 32 := by omega
          subst hk
          rw [cpF_all lk] at b6
          simp (maxSteps := 1000000) (disch := first | omega | (simp only [nums_len, keyB_len, keyV_len, cpF_len, lnB] <;> omega) | fail) only [ev0, ev1, ev2, ev3, ↓reduceIte, reduceCtorEq, zaa, zab, zac, zad, zae, zaf, zag, zah, zai, zaj, zak, zal, zam, zan, zao, zap, zaq, ↓zar, ↓zas, zat, zau, zav, zaw, zax, zay, zaz, zba, zbb, zbc, zbd, zbe, zbf, zbg, zbh, zbi, zbj, zbk, zbl, zbm, zbn, zbo, zbp, zbq, zbr, zbs, zbt, zbu, zbv, zbw, zbx, zby, zbz, zca, zcb, zcc, zcd, zce, zcf, zcg, zch, zci, zcj, zck, zcl, zcm, zcn, zco, zcp, zcq, zcr, zcs, zct, zcu, zcv, zcw, zcx, zcy, zcz, zda, zdb, zdc, zdd, zde, zdf, zdg, zdh, zdi, zdj, zdk, zdl, ev5, tbGf2, globS, if_true, s9, s7, s4, s6, b4, b6, lk, sp32 lk, tk32 lk]
          exact ResQ.same rfl
    · rw [keyV, keyE, if_neg hb, if_neg hb]
      have e0 := decide_eq_false (fun h => hb (keyOK_is.1 h))
      simp (maxSteps := 1000000) (disch := first | omega | (simp only [nums_len, keyB_len, keyV_len, cpF_len, lnB] <;> omega) | fail) only [ev0, ev1, ev2, ev3, ↓reduceIte, reduceCtorEq, zaa, zab, zac, zad, zae, zaf, zag, zah, zai, zaj, zak, zal, zam, zan, zao, zap, zaq, ↓zar, ↓zas, zat, zau, zav, zaw, zax, zay, zaz, zba, zbb, zbc, zbd, zbe, zbf, zbg, zbh, zbi, zbj, zbk, zbl, zbm, zbn, zbo, zbp, zbq, zbr, zbs, zbt, zbu, zbv, zbw, zbx, zby, zbz, zca, zcb, zcc, zcd, zce, zcf, zcg, zch, zci, zcj, zck, zcl, zcm, zcn, zco, zcp, zcq, zcr, zcs, zct, zcu, zcv, zcw, zcx, zcy, zcz, zda, zdb, zdc, zdd, zde, zdf, zdg, zdh, zdi, zdj, zdk, zdl, ev5, tbGf2, globS, if_true, e0, hm]
      exact ResQ.same rfl
  · cases hr
end Go.Proofs.YtddeffdgldjdjaaDoor
