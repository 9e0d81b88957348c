/- JournalFolds: what the walk comes to. -/
import Derived.Test.YtddeffdgldjdjaaDoorNq
import Derived.Test.YtddeffdgldjdjaaDoorNm
namespace Go.Proofs.YtddeffdgldjdjaaDoor.W
set_option linter.unusedSimpArgs false
set_option linter.unusedVariables false
set_option linter.defProp false
open Go Go.Abs
open Nat renaming reduceAdd → zaa, reduceSub → zab, reduceMul → zac, reduceLT → zad, reduceLeDiff → zae, reduceEqDiff → zaf, reduceBEq → zag
open BitVec renaming reduceOfInt → zah
open Int renaming reduceLE → zai, reduceLT → zaj, reduceGT → zak, reduceGE → zal, reduceNeg → zam, reduceAdd → zan, reduceSub → zao, reduceMul → zap, reduceToNat → zaq
open Go.Abs renaming bind_go → zar, map_go → zas, wantedV → zat, isWrite → zau, grow → zav, write → zaw, ofV → zax, start → zaz, strip → zba, endQ → zbb, resV → zbc, rawsRes → zbd, rawRes → zbe, exports → zbf, export1 → zbg, isSelf → zbl, convSelf → zbm, convV → zbn, loadV → zbo, storeV → zbp, fieldAddrV → zbq, fieldV → zbr, indexAddrV → zbs, indexV → zbt, partV → zbu, isAggK → zbv, isStr → zbw, place → zbx, ipS → zby, lenV → zbz, min2V → zca, makeV → zcb, freshSl → zcc, sliceV → zcd, boundOr → zce, bound → zcf, bounds → zcg, cutFl → zch, copyV → zci, slCells → zcj, srcV → zck, appendV → zcl, room → zcm, zerosOf → zcn, eqNeg → zco, kd → zcp, takeR → zcq, hasViewL → zcr, hasView → zcs, freshR → zct, freshC → zcu, snapAll → zcv, snap → zcw, snapL → zcx, flatL → zcy, pureL → zcz, pureA → zda, fillC → zdb, arrOK → zdc, oneA → zdd, partB → zde, ren1 → zdg, applyW → zdi, useL → zdj, isGen → zdl, startG → zdm
open Go.Abs.AV renaming cells → zay, laid → zdf
open Go.Abs.AS renaming grown → zbh, put → zbi, mute → zdk
open Go.Abs.Env renaming know → zbj, boxed → zbk
open Go.Abs.CR renaming gr → zdh
set_option maxHeartbeats 16000000
theorem foldK_oks {l : List Rec} (hl : ∀ r ∈ l, recOK r) : ∀ (j : Nat) (s : St), j ≤ l.length → foldK l j = some s → ∀ e ∈ esL s.es, okN e
  | 0, s, _, h => by
    simp only [foldK, Option.some.injEq] at h
    subst h
    simp [st0, esL]
  | j + 1, s, hj, h => by
    simp only [foldK, Option.bind_eq_some_iff] at h
    obtain ⟨s', h1, h2⟩ := h
    have g := foldK_oks hl j s' (by omega) h1
    have hr : recOK (l.getD j noRec) := hl _ (by rw [List.getD_eq_getElem?_getD, List.getElem?_eq_getElem (show j < l.length by omega)]; exact List.getElem_mem _)
    generalize l.getD j noRec = r at h2 hr
    unfold foldS at h2
    split at h2
    · cases h2; exact g
    · split at h2
      · split at h2
        · cases h2; exact g
        · split at h2
          · cases h2
          · cases h2
            intro e he
            rcases List.mem_append.1 he with he | he
            · exact g e (List.mem_of_mem_take he)
            · rw [List.mem_singleton.1 he]; exact hr.1
      · split at h2
        · cases h2
          unfold foldB
          split
          · exact g
          · dsimp only
            split
            · exact g
            · split
              · intro e he; exact g e (List.mem_of_mem_drop he)
              · intro e he; simp [esL] at he
        · cases h2; exact g
theorem recsA_i (l : List Rec) (j : Nat) (h : j < l.length) : (((recsA l).drop (j * 10)).drop 1)[0]? = some (.raw (.int .i64 (l.getD j noRec).i)) := by
  rw [recsA_drop]
  cases hd : l.drop j with
  | nil => have := congrArg List.length hd; rw [List.length_drop] at this; simp at this; omega
  | cons e m =>
    have : l.getD j noRec = e := by rw [List.getD_eq_getElem?_getD, ← List.head?_drop, hd]; rfl
    rw [this]; rfl
theorem getD_memR {l : List Rec} {j : Nat} (h : j < l.length) : l.getD j noRec ∈ l := by
  rw [List.getD_eq_getElem?_getD, List.getElem?_eq_getElem h]; exact List.getElem_mem _
noncomputable def EFD : Env := ((((ES0.know 44 pf44).know 53 (fun xs => pf53 (xs.map norm))).know 54 (fun xs => pf54 (xs.map norm))).know 55 (fun xs => pf55 (xs.map norm))).know 56 (fun xs => pf56 (xs.map norm))
theorem okFD : EnvOK Tryd.prog EFD := ((((okS0.know sound44).know sound53.norm).know sound54.norm).know sound55.norm).know sound56.norm
theorem EFD_te : EFD.te = te := rfl
theorem EFD_glob : EFD.glob = globS := rfl
theorem EFD_gs : EFD.gs = [] := rfl
theorem EFD_dyn : EFD.dyn = false := rfl
theorem EFD_mu (d : Nat) : EFD.mu d = false := rfl
theorem EFD_h : EFD.tbl 44 = some (.val pf44) := rfl
theorem EFD_w : EFD.tbl 53 = some (.val (fun xs => pf53 (xs.map norm))) := rfl
theorem EFD_f : EFD.tbl 54 = some (.val (fun xs => pf54 (xs.map norm))) := rfl
theorem EFD_r : EFD.tbl 55 = some (.val (fun xs => pf55 (xs.map norm))) := rfl
theorem EFD_s : EFD.tbl 56 = some (.val (fun xs => pf56 (xs.map norm))) := rfl
theorem shownF_at : pf44 [] = some (.raw (.bool true)) := rfl
theorem hardF_eq (h v h' v' : Int) : binV te .eql 63 (.agg [.raw (.int .i64 h), .raw (.int .i64 v)]) (.agg [.raw (.int .i64 h'), .raw (.int .i64 v')]) = some (.raw (.bool (([h, v] == [h', v'])))) := by
  simp only [binV, hard_kd, asInts, Option.map_some]
  simp [eqNeg, TK.isI64, kd, te3, List.range, List.range.loop]
noncomputable def pf15 : List AV → Option AV
  | [v] => (recs? v).bind fun l => open Classical in if l.length ≤ 9223372036854775807 ∧ (∀ r ∈ l, recOK r) then some (.raw (.bool true)) else none
  | _ => none
def tbNr0 := (And.intro (And.intro (And.intro (And.intro @teE @hardF_eq) (And.intro @EFD_te (And.intro @EFD_glob @EFD_gs))) (And.intro (And.intro @EFD_dyn (And.intro @EFD_mu @EFD_h)) (And.intro @EFD_w (And.intro @EFD_f @EFD_r)))) (And.intro (And.intro (And.intro @EFD_s (And.intro @ev4 @zeroSt)) (And.intro @shownF_at (And.intro @recsA_snap @recsA_noview))) (And.intro (And.intro @recsA_len (And.intro @recsA_pure @entsA_len)) (And.intro @entsA_pure (And.intro @entsA_snap @entsA_noview)))))
theorem sound15 : SoundV Tryd.prog globS 15 pf15 := by
  refine SoundV.walk EFD okFD mixed Tryd.func15 rfl Tryd.call15 (by kernel_rfl) ?_
  intro args r hr
  unfold pf15 at hr
  split at hr
  · simp only [Option.bind_eq_some_iff] at hr
    obtain ⟨l, h1, hr⟩ := hr
    split at hr
    · rename_i hc
      obtain ⟨hc, hok0⟩ := hc
      cases hr
      obtain ⟨fl, rfl⟩ := recs?_of h1
      rw [Tryd.ntmps15, Tryd.results15]
      refine ⟨by simp, ?_⟩
      have hfew := fun fl => pf53_at (n := l.length) (l := l) (fl := fl) rfl hc
      have hL40 : (l.take 40).length ≤ 40 := by rw [List.length_take]; omega
      have hok : ∀ r ∈ l.take 40, recOK r := fun r hr => hok0 r (List.mem_of_mem_take hr)
      generalize l.take 40 = L at hfew hL40 hok
      simp (maxSteps := 1000000) (disch := first | omega | (simp only [nums_len, lnB] <;> omega) | fail) only [ev0, ev1, ev2, ev3, ↓reduceIte, reduceCtorEq, zaa, zab, zac, zad, zae, zaf, zag, zah, zai, zaj, zak, zal, zam, zan, zao, zap, zaq, ↓zar, ↓zas, zat, zau, zav, zaw, zax, zay, zaz, zba, zbb, zbc, zbd, zbe, zbf, zbg, zbh, zbi, zbj, zbk, zbl, zbm, zbn, zbo, zbp, zbq, zbr, zbs, zbt, zbu, zbv, zbw, zbx, zby, zbz, zca, zcb, zcc, zcd, zce, zcf, zcg, zch, zci, zcj, zck, zcl, zcm, zcn, zco, zcp, zcq, zcr, zcs, zct, zcu, zcv, zcw, zcx, zcy, zcz, zda, zdb, zdc, zdd, zde, zdf, zdg, zdh, zdi, zdj, zdk, zdl, zdm, ev5, tbNr0, globS, List.size_toArray, Array.size_empty, List.length_nil, List.map_nil, List.all_nil, Int.reduceBEq, Int.reduceBNe, beq_self_eq_true, hfew]
      refine loopQ_of (fun n σ => ∃ j, j ≤ L.length ∧ n = L.length - j ∧ (∀ i, i < j → smallI (L.getD i noRec).i) ∧ σ.slots 4 = .raw (.int .i64 (j : Int)) ∧ σ.slots 3 = .raw (.bool true) ∧ σ.slots 0 = .sl L.length (recsA L) .bor) L.length ?_ ?_
      · refine ⟨0, by omega, by omega, by omega, ?_⟩
        simp (maxSteps := 1000000) (disch := first | omega | (simp only [nums_len, lnB] <;> omega) | fail) only [ev0, ev1, ev2, ev3, ↓reduceIte, reduceCtorEq, zaa, zab, zac, zad, zae, zaf, zag, zah, zai, zaj, zak, zal, zam, zan, zao, zap, zaq, ↓zar, ↓zas, zat, zau, zav, zaw, zax, zay, zaz, zba, zbb, zbc, zbd, zbe, zbf, zbg, zbh, zbi, zbj, zbk, zbl, zbm, zbn, zbo, zbp, zbq, zbr, zbs, zbt, zbu, zbv, zbw, zbx, zby, zbz, zca, zcb, zcc, zcd, zce, zcf, zcg, zch, zci, zcj, zck, zcl, zcm, zcn, zco, zcp, zcq, zcr, zcs, zct, zcu, zcv, zcw, zcx, zcy, zcz, zda, zdb, zdc, zdd, zde, zdf, zdg, zdh, zdi, zdj, zdk, zdl, zdm, ev5, tbNr0, globS, List.size_toArray, Array.size_empty, List.length_nil, List.map_nil, List.all_nil, Int.reduceBEq, Int.reduceBNe, beq_self_eq_true, hfew]
        rfl
      · rintro n ⟨sl, gn, bx, us⟩ ⟨j, hj, rfl, hsm, s4, s3, s0⟩
        dsimp only at s4 s3 s0
        simp (maxSteps := 1000000) (disch := first | omega | (simp only [nums_len, lnB] <;> omega) | fail) only [ev0, ev1, ev2, ev3, ↓reduceIte, reduceCtorEq, zaa, zab, zac, zad, zae, zaf, zag, zah, zai, zaj, zak, zal, zam, zan, zao, zap, zaq, ↓zar, ↓zas, zat, zau, zav, zaw, zax, zay, zaz, zba, zbb, zbc, zbd, zbe, zbf, zbg, zbh, zbi, zbj, zbk, zbl, zbm, zbn, zbo, zbp, zbq, zbr, zbs, zbt, zbu, zbv, zbw, zbx, zby, zbz, zca, zcb, zcc, zcd, zce, zcf, zcg, zch, zci, zcj, zck, zcl, zcm, zcn, zco, zcp, zcq, zcr, zcs, zct, zcu, zcv, zcw, zcx, zcy, zcz, zda, zdb, zdc, zdd, zde, zdf, zdg, zdh, zdi, zdj, zdk, zdl, zdm, ev5, tbNr0, globS, List.size_toArray, Array.size_empty, List.length_nil, List.map_nil, List.all_nil, Int.reduceBEq, Int.reduceBNe, beq_self_eq_true, s4, s3, s0]
        refine condQ_dec (fun hlt => ?_) (fun hge => ?_)
        · have hlt : j < L.length := by omega
          have e1 := recsA_i L j hlt
          obtain ⟨x, hx⟩ : ∃ x, x = (L.getD j noRec).i := ⟨_, rfl⟩
          rw [← hx] at e1
          by_cases x1 : x < -1099511627776
          · simp (maxSteps := 1000000) (disch := first | omega | (simp only [nums_len, lnB] <;> omega) | fail) only [ev0, ev1, ev2, ev3, ↓reduceIte, reduceCtorEq, zaa, zab, zac, zad, zae, zaf, zag, zah, zai, zaj, zak, zal, zam, zan, zao, zap, zaq, ↓zar, ↓zas, zat, zau, zav, zaw, zax, zay, zaz, zba, zbb, zbc, zbd, zbe, zbf, zbg, zbh, zbi, zbj, zbk, zbl, zbm, zbn, zbo, zbp, zbq, zbr, zbs, zbt, zbu, zbv, zbw, zbx, zby, zbz, zca, zcb, zcc, zcd, zce, zcf, zcg, zch, zci, zcj, zck, zcl, zcm, zcn, zco, zcp, zcq, zcr, zcs, zct, zcu, zcv, zcw, zcx, zcy, zcz, zda, zdb, zdc, zdd, zde, zdf, zdg, zdh, zdi, zdj, zdk, zdl, zdm, ev5, tbNr0, globS, List.size_toArray, Array.size_empty, List.length_nil, List.map_nil, List.all_nil, Int.reduceBEq, Int.reduceBNe, beq_self_eq_true, s4, s3, s0, e1, decide_eq_true x1]
            exact ResQ.same rfl
          by_cases x2 : x > 1099511627776
          · simp (maxSteps := 1000000) (disch := first | omega | (simp only [nums_len, lnB] <;> omega) | fail) only [ev0, ev1, ev2, ev3, ↓reduceIte, reduceCtorEq, zaa, zab, zac, zad, zae, zaf, zag, zah, zai, zaj, zak, zal, zam, zan, zao, zap, zaq, ↓zar, ↓zas, zat, zau, zav, zaw, zax, zay, zaz, zba, zbb, zbc, zbd, zbe, zbf, zbg, zbh, zbi, zbj, zbk, zbl, zbm, zbn, zbo, zbp, zbq, zbr, zbs, zbt, zbu, zbv, zbw, zbx, zby, zbz, zca, zcb, zcc, zcd, zce, zcf, zcg, zch, zci, zcj, zck, zcl, zcm, zcn, zco, zcp, zcq, zcr, zcs, zct, zcu, zcv, zcw, zcx, zcy, zcz, zda, zdb, zdc, zdd, zde, zdf, zdg, zdh, zdi, zdj, zdk, zdl, zdm, ev5, tbNr0, globS, List.size_toArray, Array.size_empty, List.length_nil, List.map_nil, List.all_nil, Int.reduceBEq, Int.reduceBNe, beq_self_eq_true, s4, s3, s0, e1, decide_eq_false x1, decide_eq_true x2]
            exact ResQ.same rfl
          simp (maxSteps := 1000000) (disch := first | omega | (simp only [nums_len, lnB] <;> omega) | fail) only [ev0, ev1, ev2, ev3, ↓reduceIte, reduceCtorEq, zaa, zab, zac, zad, zae, zaf, zag, zah, zai, zaj, zak, zal, zam, zan, zao, zap, zaq, ↓zar, ↓zas, zat, zau, zav, zaw, zax, zay, zaz, zba, zbb, zbc, zbd, zbe, zbf, zbg, zbh, zbi, zbj, zbk, zbl, zbm, zbn, zbo, zbp, zbq, zbr, zbs, zbt, zbu, zbv, zbw, zbx, zby, zbz, zca, zcb, zcc, zcd, zce, zcf, zcg, zch, zci, zcj, zck, zcl, zcm, zcn, zco, zcp, zcq, zcr, zcs, zct, zcu, zcv, zcw, zcx, zcy, zcz, zda, zdb, zdc, zdd, zde, zdf, zdg, zdh, zdi, zdj, zdk, zdl, zdm, ev5, tbNr0, globS, List.size_toArray, Array.size_empty, List.length_nil, List.map_nil, List.all_nil, Int.reduceBEq, Int.reduceBNe, beq_self_eq_true, s4, s3, s0, e1, decide_eq_false x1, decide_eq_false x2]
          refine ⟨L.length - (j + 1), by omega, j + 1, by omega, rfl, ?_, rfl⟩
          intro i hi
          rcases Nat.lt_or_eq_of_le (Nat.le_of_lt_succ hi) with h' | h'
          · exact hsm i h'
          · rw [h', ← hx]; unfold smallI; omega
        · have hj : j = L.length := by omega
          subst hj
          have hs : ∀ r ∈ L, smallI r.i := fun r hr => by
            obtain ⟨i, hi, rfl⟩ := List.mem_iff_getElem.1 hr
            have := hsm i hi
            rwa [List.getD_eq_getElem?_getD, List.getElem?_eq_getElem hi] at this
          have f1 := fun fl => pf54_at (n := L.length) (fl := fl) rfl (by omega) hs
          have f2 := fun fl => pf55_at (n := L.length) (fl := fl) rfl (by omega) hs
          have hsame := fold_same L
          have hoks := foldK_oks hok L.length
          have hle := foldK_ok hs L.length
          cases q1 : foldL L with
          | none =>
            cases q2 : foldLR L with
            | some b => rw [q1, q2] at hsame; exact hsame.elim
            | none =>
              simp only [q1, q2] at f1 f2
              have f3 : pf56 [.sl 0 [] .bor, .sl 0 [] .bor] = some (.raw (.bool true)) := by
                have := pf56_at (l := []) (k := []) (fl := .bor) (gl := .bor) rfl rfl (by simp) (by simp) (by simp) (by simp)
                rwa [sameES_self] at this
              rw [show stA st0 .bor = [.raw (.int .i64 0), .raw (.int .i64 0), .raw (.int .i64 0), .raw (.int .i64 0), .raw (.int .i64 0), .raw (.slice none 0 0)] from rfl] at f1 f2
              simp (maxSteps := 1000000) (disch := first | omega | (simp only [nums_len, lnB] <;> omega) | fail) only [ev0, ev1, ev2, ev3, ↓reduceIte, reduceCtorEq, zaa, zab, zac, zad, zae, zaf, zag, zah, zai, zaj, zak, zal, zam, zan, zao, zap, zaq, ↓zar, ↓zas, zat, zau, zav, zaw, zax, zay, zaz, zba, zbb, zbc, zbd, zbe, zbf, zbg, zbh, zbi, zbj, zbk, zbl, zbm, zbn, zbo, zbp, zbq, zbr, zbs, zbt, zbu, zbv, zbw, zbx, zby, zbz, zca, zcb, zcc, zcd, zce, zcf, zcg, zch, zci, zcj, zck, zcl, zcm, zcn, zco, zcp, zcq, zcr, zcs, zct, zcu, zcv, zcw, zcx, zcy, zcz, zda, zdb, zdc, zdd, zde, zdf, zdg, zdh, zdi, zdj, zdk, zdl, zdm, ev5, tbNr0, globS, List.size_toArray, Array.size_empty, List.length_nil, List.map_nil, List.all_nil, Int.reduceBEq, Int.reduceBNe, beq_self_eq_true, s4, s3, s0, f1, f2, f3]
              exact ResQ.same rfl
          | some a =>
            cases q2 : foldLR L with
            | none => rw [q1, q2] at hsame; exact hsame.elim
            | some b =>
              rw [q1, q2] at hsame
              simp only [q1, q2] at f1 f2
              obtain ⟨g1, g2, g3, g4, g5, g6⟩ := hsame
              have o1 := hoks a (Nat.le_refl _) q1
              have o2 := (hle a (Nat.le_refl _) q1).2
              obtain ⟨ah, av, ai, at', af, ae⟩ := a
              obtain ⟨bh, bv, bi, bt, bf, be⟩ := b
              dsimp only at g1 g2 g3 g4 g5 g6 o1 o2
              subst g1; subst g2; subst g3; subst g4; subst g5
              have f3 : pf56 [.sl (esL ae).length (entsA (esL ae)) .bor, .sl (esL be).length (entsA (esL be)) .bor] = some (.raw (.bool true)) := by
                rw [← g6]
                have := pf56_at (l := esL ae) (k := esL ae) (fl := .bor) (gl := .bor) rfl rfl (by omega) (by omega) o1 o1
                rwa [sameES_self] at this
              have q : ([ah, av] == [ah, av]) = true := by simp
              rw [stA_is] at f1 f2
              cases ae <;> cases be <;> simp only [esA, esL_none, esL_some, entsA_nil, List.length_nil] at f1 f2 f3
              · simp (maxSteps := 1000000) (disch := first | omega | (simp only [nums_len, lnB] <;> omega) | fail) only [ev0, ev1, ev2, ev3, ↓reduceIte, reduceCtorEq, zaa, zab, zac, zad, zae, zaf, zag, zah, zai, zaj, zak, zal, zam, zan, zao, zap, zaq, ↓zar, ↓zas, zat, zau, zav, zaw, zax, zay, zaz, zba, zbb, zbc, zbd, zbe, zbf, zbg, zbh, zbi, zbj, zbk, zbl, zbm, zbn, zbo, zbp, zbq, zbr, zbs, zbt, zbu, zbv, zbw, zbx, zby, zbz, zca, zcb, zcc, zcd, zce, zcf, zcg, zch, zci, zcj, zck, zcl, zcm, zcn, zco, zcp, zcq, zcr, zcs, zct, zcu, zcv, zcw, zcx, zcy, zcz, zda, zdb, zdc, zdd, zde, zdf, zdg, zdh, zdi, zdj, zdk, zdl, zdm, ev5, tbNr0, globS, List.size_toArray, Array.size_empty, List.length_nil, List.map_nil, List.all_nil, Int.reduceBEq, Int.reduceBNe, beq_self_eq_true, s4, s3, s0, f1, f2, f3, q]
                exact ResQ.same rfl
              · simp (maxSteps := 1000000) (disch := first | omega | (simp only [nums_len, lnB] <;> omega) | fail) only [ev0, ev1, ev2, ev3, ↓reduceIte, reduceCtorEq, zaa, zab, zac, zad, zae, zaf, zag, zah, zai, zaj, zak, zal, zam, zan, zao, zap, zaq, ↓zar, ↓zas, zat, zau, zav, zaw, zax, zay, zaz, zba, zbb, zbc, zbd, zbe, zbf, zbg, zbh, zbi, zbj, zbk, zbl, zbm, zbn, zbo, zbp, zbq, zbr, zbs, zbt, zbu, zbv, zbw, zbx, zby, zbz, zca, zcb, zcc, zcd, zce, zcf, zcg, zch, zci, zcj, zck, zcl, zcm, zcn, zco, zcp, zcq, zcr, zcs, zct, zcu, zcv, zcw, zcx, zcy, zcz, zda, zdb, zdc, zdd, zde, zdf, zdg, zdh, zdi, zdj, zdk, zdl, zdm, ev5, tbNr0, globS, List.size_toArray, Array.size_empty, List.length_nil, List.map_nil, List.all_nil, Int.reduceBEq, Int.reduceBNe, beq_self_eq_true, s4, s3, s0, f1, f2, f3, q]
                exact ResQ.same rfl
              · simp (maxSteps := 1000000) (disch := first | omega | (simp only [nums_len, lnB] <;> omega) | fail) only [ev0, ev1, ev2, ev3, ↓reduceIte, reduceCtorEq, zaa, zab, zac, zad, zae, zaf, zag, zah, zai, zaj, zak, zal, zam, zan, zao, zap, zaq, ↓zar, ↓zas, zat, zau, zav, zaw, zax, zay, zaz, zba, zbb, zbc, zbd, zbe, zbf, zbg, zbh, zbi, zbj, zbk, zbl, zbm, zbn, zbo, zbp, zbq, zbr, zbs, zbt, zbu, zbv, zbw, zbx, zby, zbz, zca, zcb, zcc, zcd, zce, zcf, zcg, zch, zci, zcj, zck, zcl, zcm, zcn, zco, zcp, zcq, zcr, zcs, zct, zcu, zcv, zcw, zcx, zcy, zcz, zda, zdb, zdc, zdd, zde, zdf, zdg, zdh, zdi, zdj, zdk, zdl, zdm, ev5, tbNr0, globS, List.size_toArray, Array.size_empty, List.length_nil, List.map_nil, List.all_nil, Int.reduceBEq, Int.reduceBNe, beq_self_eq_true, s4, s3, s0, f1, f2, f3, q]
                exact ResQ.same rfl
              · simp (maxSteps := 1000000) (disch := first | omega | (simp only [nums_len, lnB] <;> omega) | fail) only [ev0, ev1, ev2, ev3, ↓reduceIte, reduceCtorEq, zaa, zab, zac, zad, zae, zaf, zag, zah, zai, zaj, zak, zal, zam, zan, zao, zap, zaq, ↓zar, ↓zas, zat, zau, zav, zaw, zax, zay, zaz, zba, zbb, zbc, zbd, zbe, zbf, zbg, zbh, zbi, zbj, zbk, zbl, zbm, zbn, zbo, zbp, zbq, zbr, zbs, zbt, zbu, zbv, zbw, zbx, zby, zbz, zca, zcb, zcc, zcd, zce, zcf, zcg, zch, zci, zcj, zck, zcl, zcm, zcn, zco, zcp, zcq, zcr, zcs, zct, zcu, zcv, zcw, zcx, zcy, zcz, zda, zdb, zdc, zdd, zde, zdf, zdg, zdh, zdi, zdj, zdk, zdl, zdm, ev5, tbNr0, globS, List.size_toArray, Array.size_empty, List.length_nil, List.map_nil, List.all_nil, Int.reduceBEq, Int.reduceBNe, beq_self_eq_true, s4, s3, s0, f1, f2, f3, q]
                exact ResQ.same rfl
    · cases hr
  · cases hr
end Go.Proofs.YtddeffdgldjdjaaDoor.W
