/- Whether two rows of entries are the same; at most 40 records: what the walks come to. -/
import Derived.Test.YtddeffdgldjdjaaDoorNp
import Derived.Test.YtddeffdgldjdjaaDoorMj
namespace Go.Proofs.YtddeffdgldjdjaaDoor.W
set_option linter.unusedSimpArgs false
set_option linter.unusedVariables false
set_option linter.defProp false
open Go Go.Abs
open Nat renaming reduceAdd → zaa, reduceSub → zab, reduceMul → zac, reduceLT → zad, reduceLeDiff → zae, reduceEqDiff → zaf, reduceBEq → zag
open BitVec renaming reduceOfInt → zah
open Int renaming reduceLE → zai, reduceLT → zaj, reduceGT → zak, reduceGE → zal, reduceNeg → zam, reduceAdd → zan, reduceSub → zao, reduceMul → zap, reduceToNat → zaq
open Go.Abs renaming bind_go → zar, map_go → zas, wantedV → zat, isWrite → zau, grow → zav, write → zaw, ofV → zax, start → zaz, strip → zba, endQ → zbb, resV → zbc, rawsRes → zbd, rawRes → zbe, exports → zbf, export1 → zbg, isSelf → zbl, convSelf → zbm, convV → zbn, loadV → zbo, storeV → zbp, fieldAddrV → zbq, fieldV → zbr, indexAddrV → zbs, indexV → zbt, partV → zbu, isAggK → zbv, isStr → zbw, place → zbx, ipS → zby, lenV → zbz, min2V → zca, makeV → zcb, freshSl → zcc, sliceV → zcd, boundOr → zce, bound → zcf, bounds → zcg, cutFl → zch, copyV → zci, slCells → zcj, srcV → zck, appendV → zcl, room → zcm, zerosOf → zcn, eqNeg → zco, kd → zcp, takeR → zcq, hasViewL → zcr, hasView → zcs, freshR → zct, freshC → zcu, snapAll → zcv, snap → zcw, snapL → zcx, flatL → zcy, pureL → zcz, pureA → zda, fillC → zdb, arrOK → zdc, oneA → zdd, partB → zde, ren1 → zdg, applyW → zdi, useL → zdj, isGen → zdl, startG → zdm
open Go.Abs.AV renaming cells → zay, laid → zdf
open Go.Abs.AS renaming grown → zbh, put → zbi, mute → zdk
open Go.Abs.Env renaming know → zbj, boxed → zbk
open Go.Abs.CR renaming gr → zdh
set_option maxHeartbeats 16000000
theorem entsA_at (l : List Eny) (j : Nat) (h : j < l.length) : ((entsA l).drop (j * 4)).take 4 = entA (l.getD j noE) := by
  rw [entsA_drop]
  cases hd : l.drop j with
  | nil => have := congrArg List.length hd; rw [List.length_drop] at this; simp at this; omega
  | cons e m =>
    have : l.getD j noE = e := by rw [List.getD_eq_getElem?_getD, ← List.head?_drop, hd]; rfl
    rw [this, entsA_cons, List.take_append_of_le_length (by rw [entA_len]; omega), entA_take]
/-- two rows of entries are the same -/
def sameES (l m : List Eny) : Bool := decide (l.length = m.length) && (List.range l.length).all fun i => sameE (l.getD i noE) (m.getD i noE)
theorem sameES_self (l : List Eny) : sameES l l = true := by
  simp [sameES, sameE_self]
noncomputable def pf56 : List AV → Option AV
  | [v, w] => (ents? v).bind fun l => (ents? w).bind fun m => open Classical in if l.length ≤ 1000000000 ∧ m.length ≤ 1000000000 ∧ (∀ e ∈ l, okN e) ∧ (∀ e ∈ m, okN e) then some (.raw (.bool (sameES l m))) else none
  | _ => none
theorem pf56_at {n m : Nat} {l k : List Eny} {fl gl : Fl} (h : n = l.length) (h' : m = k.length) (h1 : l.length ≤ 1000000000) (h2 : k.length ≤ 1000000000) (h3 : ∀ e ∈ l, okN e) (h4 : ∀ e ∈ k, okN e) : pf56 [.sl n (entsA l) fl, .sl m (entsA k) gl] = some (.raw (.bool (sameES l k))) := by
  simp only [pf56, ents?_at h, ents?_at h', Option.bind_some]
  exact if_pos ⟨h1, h2, h3, h4⟩
noncomputable def ESS : Env := ES0.know 89 (fun xs => pf89 (xs.map norm3))
theorem okSS : EnvOK Tryd.prog ESS := okS0.know (liftS (SoundV.norm3 sound89))
theorem ESS_te : ESS.te = te := rfl
theorem ESS_glob : ESS.glob = globS := rfl
theorem ESS_gs : ESS.gs = [] := rfl
theorem ESS_dyn : ESS.dyn = false := rfl
theorem ESS_mu (d : Nat) : ESS.mu d = false := rfl
theorem ESS_s : ESS.tbl 89 = some (.val (fun xs => pf89 (xs.map norm3))) := rfl
theorem getD_memE {l : List Eny} {j : Nat} (h : j < l.length) : l.getD j noE ∈ l := by
  rw [List.getD_eq_getElem?_getD, List.getElem?_eq_getElem h]; exact List.getElem_mem _
theorem all_no {p : Nat → Bool} {n j : Nat} (h : j < n) (hp : p j = false) : (List.range n).all p = false := by
  rw [List.all_eq_false]
  exact ⟨j, List.mem_range.2 h, by rw [hp]; decide⟩
theorem all_yes {p : Nat → Bool} {n : Nat} (h : ∀ j, j < n → p j = true) : (List.range n).all p = true := by
  rw [List.all_eq_true]
  exact fun j hj => h j (List.mem_range.1 hj)
def tbNq0 := (And.intro (And.intro (And.intro (And.intro @teE @ESS_te) (And.intro @ESS_glob @ESS_gs)) (And.intro (And.intro @ESS_dyn @ESS_mu) (And.intro @ESS_s (And.intro @ev4 @bne_dec)))) (And.intro (And.intro (And.intro @entA_strip @entA_len) (And.intro @entA_one (And.intro @entA_take @entA_snap))) (And.intro (And.intro @entA_noview @entsA_len) (And.intro @entsA_pure (And.intro @entsA_snap @entsA_noview)))))
theorem sound56 : SoundV Tryd.prog globS 56 pf56 := by
  refine SoundV.walk ESS okSS mixed Tryd.func56 rfl Tryd.call56 (by kernel_rfl) ?_
  intro args r hr
  unfold pf56 at hr
  split at hr
  · simp only [Option.bind_eq_some_iff] at hr
    obtain ⟨l, h1, m, h2, hr⟩ := hr
    split at hr
    · rename_i hc
      obtain ⟨c1, c2, c3, c4⟩ := hc
      cases hr
      obtain ⟨fl, rfl⟩ := ents?_of h1
      obtain ⟨gl, rfl⟩ := ents?_of h2
      rw [Tryd.ntmps56, Tryd.results56]
      refine ⟨by simp, ?_⟩
      by_cases hl : l.length = m.length
      rotate_left
      · have d1 : decide (l.length = m.length) = false := decide_eq_false hl
        rw [sameES, d1, Bool.false_and]
        simp (maxSteps := 1000000) (disch := first | omega | (simp only [nums_len, lnB] <;> omega) | fail) only [ev0, ev1, ev2, ev3, ↓reduceIte, reduceCtorEq, zaa, zab, zac, zad, zae, zaf, zag, zah, zai, zaj, zak, zal, zam, zan, zao, zap, zaq, ↓zar, ↓zas, zat, zau, zav, zaw, zax, zay, zaz, zba, zbb, zbc, zbd, zbe, zbf, zbg, zbh, zbi, zbj, zbk, zbl, zbm, zbn, zbo, zbp, zbq, zbr, zbs, zbt, zbu, zbv, zbw, zbx, zby, zbz, zca, zcb, zcc, zcd, zce, zcf, zcg, zch, zci, zcj, zck, zcl, zcm, zcn, zco, zcp, zcq, zcr, zcs, zct, zcu, zcv, zcw, zcx, zcy, zcz, zda, zdb, zdc, zdd, zde, zdf, zdg, zdh, zdi, zdj, zdk, zdl, zdm, ev5, tbNq0, globS, Int.natCast_inj, Bool.not_false, Bool.not_true, List.size_toArray, Array.size_empty, List.length_nil, List.map_cons, List.map_nil, d1]
        exact ResQ.same rfl
      have d1 : decide (l.length = m.length) = true := decide_eq_true hl
      rw [sameES, d1, Bool.true_and]
      simp (maxSteps := 1000000) (disch := first | omega | (simp only [nums_len, lnB] <;> omega) | fail) only [ev0, ev1, ev2, ev3, ↓reduceIte, reduceCtorEq, zaa, zab, zac, zad, zae, zaf, zag, zah, zai, zaj, zak, zal, zam, zan, zao, zap, zaq, ↓zar, ↓zas, zat, zau, zav, zaw, zax, zay, zaz, zba, zbb, zbc, zbd, zbe, zbf, zbg, zbh, zbi, zbj, zbk, zbl, zbm, zbn, zbo, zbp, zbq, zbr, zbs, zbt, zbu, zbv, zbw, zbx, zby, zbz, zca, zcb, zcc, zcd, zce, zcf, zcg, zch, zci, zcj, zck, zcl, zcm, zcn, zco, zcp, zcq, zcr, zcs, zct, zcu, zcv, zcw, zcx, zcy, zcz, zda, zdb, zdc, zdd, zde, zdf, zdg, zdh, zdi, zdj, zdk, zdl, zdm, ev5, tbNq0, globS, Int.natCast_inj, Bool.not_false, Bool.not_true, List.size_toArray, Array.size_empty, List.length_nil, List.map_cons, List.map_nil, d1]
      refine loopQ_of (fun n σ => ∃ j, j ≤ l.length ∧ n = l.length - j ∧ (∀ i, i < j → sameE (l.getD i noE) (m.getD i noE) = true) ∧ σ.slots 5 = .raw (.int .i64 (j : Int)) ∧ σ.slots 0 = .sl l.length (entsA l) .bor ∧ σ.slots 1 = .sl m.length (entsA m) .bor) l.length ?_ ?_
      · refine ⟨0, by omega, by omega, by omega, ?_⟩
        simp (maxSteps := 1000000) (disch := first | omega | (simp only [nums_len, lnB] <;> omega) | fail) only [ev0, ev1, ev2, ev3, ↓reduceIte, reduceCtorEq, zaa, zab, zac, zad, zae, zaf, zag, zah, zai, zaj, zak, zal, zam, zan, zao, zap, zaq, ↓zar, ↓zas, zat, zau, zav, zaw, zax, zay, zaz, zba, zbb, zbc, zbd, zbe, zbf, zbg, zbh, zbi, zbj, zbk, zbl, zbm, zbn, zbo, zbp, zbq, zbr, zbs, zbt, zbu, zbv, zbw, zbx, zby, zbz, zca, zcb, zcc, zcd, zce, zcf, zcg, zch, zci, zcj, zck, zcl, zcm, zcn, zco, zcp, zcq, zcr, zcs, zct, zcu, zcv, zcw, zcx, zcy, zcz, zda, zdb, zdc, zdd, zde, zdf, zdg, zdh, zdi, zdj, zdk, zdl, zdm, ev5, tbNq0, globS, Int.natCast_inj, Bool.not_false, Bool.not_true, List.size_toArray, Array.size_empty, List.length_nil, List.map_cons, List.map_nil]
        rfl
      · rintro n ⟨sl, gn, bx, us⟩ ⟨j, hj, rfl, hsm, s5, s0, s1⟩
        dsimp only at s5 s0 s1
        simp (maxSteps := 1000000) (disch := first | omega | (simp only [nums_len, lnB] <;> omega) | fail) only [ev0, ev1, ev2, ev3, ↓reduceIte, reduceCtorEq, zaa, zab, zac, zad, zae, zaf, zag, zah, zai, zaj, zak, zal, zam, zan, zao, zap, zaq, ↓zar, ↓zas, zat, zau, zav, zaw, zax, zay, zaz, zba, zbb, zbc, zbd, zbe, zbf, zbg, zbh, zbi, zbj, zbk, zbl, zbm, zbn, zbo, zbp, zbq, zbr, zbs, zbt, zbu, zbv, zbw, zbx, zby, zbz, zca, zcb, zcc, zcd, zce, zcf, zcg, zch, zci, zcj, zck, zcl, zcm, zcn, zco, zcp, zcq, zcr, zcs, zct, zcu, zcv, zcw, zcx, zcy, zcz, zda, zdb, zdc, zdd, zde, zdf, zdg, zdh, zdi, zdj, zdk, zdl, zdm, ev5, tbNq0, globS, Int.natCast_inj, Bool.not_false, Bool.not_true, List.size_toArray, Array.size_empty, List.length_nil, List.map_cons, List.map_nil, s5, s0, s1]
        refine condQ_dec (fun hlt => ?_) (fun hge => ?_)
        · have hlt : j < l.length := by omega
          have hlt2 : j < m.length := by omega
          have e1 := entsA_at l j hlt
          have e2 := entsA_at m j hlt2
          have e3 := samee_at' (c3 _ (getD_memE hlt)) (c4 _ (getD_memE hlt2))
          cases h : sameE (l.getD j noE) (m.getD j noE)
          · rw [h] at e3
            rw [all_no hlt h]
            simp (maxSteps := 1000000) (disch := first | omega | (simp only [nums_len, lnB] <;> omega) | fail) only [ev0, ev1, ev2, ev3, ↓reduceIte, reduceCtorEq, zaa, zab, zac, zad, zae, zaf, zag, zah, zai, zaj, zak, zal, zam, zan, zao, zap, zaq, ↓zar, ↓zas, zat, zau, zav, zaw, zax, zay, zaz, zba, zbb, zbc, zbd, zbe, zbf, zbg, zbh, zbi, zbj, zbk, zbl, zbm, zbn, zbo, zbp, zbq, zbr, zbs, zbt, zbu, zbv, zbw, zbx, zby, zbz, zca, zcb, zcc, zcd, zce, zcf, zcg, zch, zci, zcj, zck, zcl, zcm, zcn, zco, zcp, zcq, zcr, zcs, zct, zcu, zcv, zcw, zcx, zcy, zcz, zda, zdb, zdc, zdd, zde, zdf, zdg, zdh, zdi, zdj, zdk, zdl, zdm, ev5, tbNq0, globS, Int.natCast_inj, Bool.not_false, Bool.not_true, List.size_toArray, Array.size_empty, List.length_nil, List.map_cons, List.map_nil, s5, s0, s1, e1, e2, e3]
            exact ResQ.same rfl
          · rw [h] at e3
            simp (maxSteps := 1000000) (disch := first | omega | (simp only [nums_len, lnB] <;> omega) | fail) only [ev0, ev1, ev2, ev3, ↓reduceIte, reduceCtorEq, zaa, zab, zac, zad, zae, zaf, zag, zah, zai, zaj, zak, zal, zam, zan, zao, zap, zaq, ↓zar, ↓zas, zat, zau, zav, zaw, zax, zay, zaz, zba, zbb, zbc, zbd, zbe, zbf, zbg, zbh, zbi, zbj, zbk, zbl, zbm, zbn, zbo, zbp, zbq, zbr, zbs, zbt, zbu, zbv, zbw, zbx, zby, zbz, zca, zcb, zcc, zcd, zce, zcf, zcg, zch, zci, zcj, zck, zcl, zcm, zcn, zco, zcp, zcq, zcr, zcs, zct, zcu, zcv, zcw, zcx, zcy, zcz, zda, zdb, zdc, zdd, zde, zdf, zdg, zdh, zdi, zdj, zdk, zdl, zdm, ev5, tbNq0, globS, Int.natCast_inj, Bool.not_false, Bool.not_true, List.size_toArray, Array.size_empty, List.length_nil, List.map_cons, List.map_nil, s5, s0, s1, e1, e2, e3]
            refine ⟨l.length - (j + 1), by omega, j + 1, by omega, rfl, ?_, rfl⟩
            intro i hi
            rcases Nat.lt_or_eq_of_le (Nat.le_of_lt_succ hi) with h' | h'
            · exact hsm i h'
            · rw [h']; exact h
        · have hj : j = l.length := by omega
          subst hj
          rw [all_yes hsm]
          simp (maxSteps := 1000000) (disch := first | omega | (simp only [nums_len, lnB] <;> omega) | fail) only [ev0, ev1, ev2, ev3, ↓reduceIte, reduceCtorEq, zaa, zab, zac, zad, zae, zaf, zag, zah, zai, zaj, zak, zal, zam, zan, zao, zap, zaq, ↓zar, ↓zas, zat, zau, zav, zaw, zax, zay, zaz, zba, zbb, zbc, zbd, zbe, zbf, zbg, zbh, zbi, zbj, zbk, zbl, zbm, zbn, zbo, zbp, zbq, zbr, zbs, zbt, zbu, zbv, zbw, zbx, zby, zbz, zca, zcb, zcc, zcd, zce, zcf, zcg, zch, zci, zcj, zck, zcl, zcm, zcn, zco, zcp, zcq, zcr, zcs, zct, zcu, zcv, zcw, zcx, zcy, zcz, zda, zdb, zdc, zdd, zde, zdf, zdg, zdh, zdi, zdj, zdk, zdl, zdm, ev5, tbNq0, globS, Int.natCast_inj, Bool.not_false, Bool.not_true, List.size_toArray, Array.size_empty, List.length_nil, List.map_cons, List.map_nil, s5, s0, s1]
          exact ResQ.same rfl
    · cases hr
  · cases hr
/-- at most 40 records -/
noncomputable def pf53 : List AV → Option AV
  | [v] => (recs? v).bind fun l => if l.length ≤ 9223372036854775807 then some (.sl (l.take 40).length (recsA (l.take 40)) .bor) else none
  | _ => none
theorem pf53_at {n : Nat} {l : List Rec} {fl : Fl} (h : n = l.length) (h2 : l.length ≤ 9223372036854775807) : pf53 [.sl n (recsA l) fl] = some (.sl (l.take 40).length (recsA (l.take 40)) .bor) := by
  simp only [pf53, recs?_at h, Option.bind_some, if_pos h2]
theorem recsA_take' (l : List Rec) (k : Nat) : (recsA l).take (k * 10) = recsA (l.take k) := by
  induction k generalizing l with
  | zero => simp [recsA]
  | succ k ih =>
    cases l with
    | nil => simp [recsA]
    | cons e l =>
      rw [recsA_cons, List.take_succ_cons, recsA_cons, ← ih l, show (k + 1) * 10 = (recA e).length + k * 10 by rw [recA_len]; omega, List.take_append]
      simp [recA_len]
      exact List.take_of_length_le (by rw [recA_len]; omega)
def tbNq1 := (And.intro (And.intro (And.intro @teE @ES0_te) (And.intro @ES0_glob @ES0_gs)) (And.intro (And.intro @ES0_dyn @ES0_mu) (And.intro @ev4 (And.intro @recsA_len @recsA_pure))))
theorem sound53 : SoundV Tryd.prog globS 53 pf53 := by
  refine SoundV.walk ES0 okS0 mixed Tryd.func53 rfl Tryd.call53 (by kernel_rfl) ?_
  intro args r hr
  unfold pf53 at hr
  split at hr
  · simp only [Option.bind_eq_some_iff] at hr
    obtain ⟨l, h1, hr⟩ := hr
    split at hr
    · rename_i hc
      cases hr
      obtain ⟨fl, rfl⟩ := recs?_of h1
      rw [Tryd.ntmps53, Tryd.results53]
      refine ⟨by simp, ?_⟩
      by_cases c : l.length > 40
      · have d : decide ((l.length : Int) > 40) = true := decide_eq_true (by omega)
        have ht : (recsA l).take 400 = recsA (l.take 40) := recsA_take' l 40
        rw [List.length_take, Nat.min_eq_left (by omega)]
        simp (maxSteps := 1000000) (disch := first | omega | (simp only [nums_len, lnB] <;> omega) | fail) only [ev0, ev1, ev2, ev3, ↓reduceIte, reduceCtorEq, zaa, zab, zac, zad, zae, zaf, zag, zah, zai, zaj, zak, zal, zam, zan, zao, zap, zaq, ↓zar, ↓zas, zat, zau, zav, zaw, zax, zay, zaz, zba, zbb, zbc, zbd, zbe, zbf, zbg, zbh, zbi, zbj, zbk, zbl, zbm, zbn, zbo, zbp, zbq, zbr, zbs, zbt, zbu, zbv, zbw, zbx, zby, zbz, zca, zcb, zcc, zcd, zce, zcf, zcg, zch, zci, zcj, zck, zcl, zcm, zcn, zco, zcp, zcq, zcr, zcs, zct, zcu, zcv, zcw, zcx, zcy, zcz, zda, zdb, zdc, zdd, zde, zdf, zdg, zdh, zdi, zdj, zdk, zdl, zdm, ev5, tbNq1, globS, List.size_toArray, Array.size_empty, List.length_nil, d, ht]
        exact ResQ.bor
      · have d : decide ((l.length : Int) > 40) = false := decide_eq_false (by omega)
        rw [List.take_of_length_le (by omega)]
        simp (maxSteps := 1000000) (disch := first | omega | (simp only [nums_len, lnB] <;> omega) | fail) only [ev0, ev1, ev2, ev3, ↓reduceIte, reduceCtorEq, zaa, zab, zac, zad, zae, zaf, zag, zah, zai, zaj, zak, zal, zam, zan, zao, zap, zaq, ↓zar, ↓zas, zat, zau, zav, zaw, zax, zay, zaz, zba, zbb, zbc, zbd, zbe, zbf, zbg, zbh, zbi, zbj, zbk, zbl, zbm, zbn, zbo, zbp, zbq, zbr, zbs, zbt, zbu, zbv, zbw, zbx, zby, zbz, zca, zcb, zcc, zcd, zce, zcf, zcg, zch, zci, zcj, zck, zcl, zcm, zcn, zco, zcp, zcq, zcr, zcs, zct, zcu, zcv, zcw, zcx, zcy, zcz, zda, zdb, zdc, zdd, zde, zdf, zdg, zdh, zdi, zdj, zdk, zdl, zdm, ev5, tbNq1, globS, List.size_toArray, Array.size_empty, List.length_nil, d]
        exact ResQ.bor
    · cases hr
  · cases hr
end Go.Proofs.YtddeffdgldjdjaaDoor.W
