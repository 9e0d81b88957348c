/- What the document says that records come to: what the walk comes to. -/
import Derived.Test.YtddeffdgldjdjaaDoorNk
namespace Go.Proofs.YtddeffdgldjdjaaDoor.W
set_option linter.unusedSimpArgs false
set_option linter.unusedVariables false
set_option linter.defProp false
open Go Go.Abs
open Nat renaming reduceAdd → zaa, reduceSub → zab, reduceMul → zac, reduceLT → zad, reduceLeDiff → zae, reduceEqDiff → zaf, reduceBEq → zag
open BitVec renaming reduceOfInt → zah
open Int renaming reduceLE → zai, reduceLT → zaj, reduceGT → zak, reduceGE → zal, reduceNeg → zam, reduceAdd → zan, reduceSub → zao, reduceMul → zap, reduceToNat → zaq
open Go.Abs renaming bind_go → zar, map_go → zas, wantedV → zat, isWrite → zau, grow → zav, write → zaw, ofV → zax, start → zaz, strip → zba, endQ → zbb, resV → zbc, rawsRes → zbd, rawRes → zbe, exports → zbf, export1 → zbg, isSelf → zbl, convSelf → zbm, convV → zbn, loadV → zbo, storeV → zbp, fieldAddrV → zbq, fieldV → zbr, indexAddrV → zbs, indexV → zbt, partV → zbu, isAggK → zbv, isStr → zbw, place → zbx, ipS → zby, lenV → zbz, min2V → zca, makeV → zcb, freshSl → zcc, sliceV → zcd, boundOr → zce, bound → zcf, bounds → zcg, cutFl → zch, copyV → zci, slCells → zcj, srcV → zck, appendV → zcl, room → zcm, zerosOf → zcn, eqNeg → zco, kd → zcp, takeR → zcq, hasViewL → zcr, hasView → zcs, freshR → zct, freshC → zcu, snapAll → zcv, snap → zcw, snapL → zcx, flatL → zcy, pureL → zcz, pureA → zda, fillC → zdb, arrOK → zdc, oneA → zdd, partB → zde, ren1 → zdg, applyW → zdi, useL → zdj, isGen → zdl, startG → zdm
open Go.Abs.AV renaming cells → zay, laid → zdf
open Go.Abs.AS renaming grown → zbh, put → zbi, mute → zdk
open Go.Abs.Env renaming know → zbj, boxed → zbk
open Go.Abs.CR renaming gr → zdh
set_option maxHeartbeats 16000000
def foldBR (s : St) (r : Rec) : St :=
  if r.i < s.i then s
  else { h := s.h, v := s.v, i := r.i, t := r.t, f := r.n, es :=
    if (r.i = s.i ∧ r.t = s.t) ∨ (s.i < r.i ∧ r.i ≤ s.i + ((esL s.es).length : Int) ∧ ((esL s.es).getD (r.i - s.i - 1).toNat noE).t = r.t) then some ((esL s.es).drop (r.i - s.i).toNat)
    else none }
/-- what a record does, in the document -/
def foldSR (s : St) (r : Rec) : Option St :=
  if r.k = 1 then some { s with h := r.h, v := r.v }
  else if r.k = 2 then (if r.i ≤ s.i then some s else if r.i > s.i + ((esL s.es).length : Int) + 1 then none else some { s with es := some ((esL s.es).take (r.i - s.i - 1).toNat ++ [r.e]) })
  else if r.k = 3 then some (foldBR s r)
  else some s
def foldKR (l : List Rec) : Nat → Option St
  | 0 => some st0
  | j + 1 => (foldKR l j).bind fun s => foldSR s (l.getD j noRec)
def foldLR (l : List Rec) : Option St := foldKR l l.length
/-- two states that differ at most in that one has no row where the other has an empty one -/
def SameSt (a b : St) : Prop := a.h = b.h ∧ a.v = b.v ∧ a.i = b.i ∧ a.t = b.t ∧ a.f = b.f ∧ esL a.es = esL b.es
def SameO : Option St → Option St → Prop
  | some a, some b => SameSt a b
  | none, none => True
  | _, _ => False
theorem foldS_same {a b : St} (h : SameSt a b) (r : Rec) : SameO (foldS a r) (foldSR b r) := by
  obtain ⟨h1, h2, h3, h4, h5, h6⟩ := h
  unfold foldS foldSR
  by_cases k1 : r.k = 1
  · rw [if_pos k1, if_pos k1]; exact ⟨rfl, rfl, h3, h4, h5, h6⟩
  rw [if_neg k1, if_neg k1]
  by_cases k2 : r.k = 2
  · rw [if_pos k2, if_pos k2]
    have e1 : (r.i ≤ a.i) = (r.i ≤ b.i) := by rw [h3]
    have e2 : (r.i > a.i + ((esL a.es).length : Int) + 1) = (r.i > b.i + ((esL b.es).length : Int) + 1) := by rw [h3, h6]
    simp only [e1, e2]
    split
    · exact ⟨h1, h2, h3, h4, h5, h6⟩
    · split
      · trivial
      · exact ⟨h1, h2, h3, h4, h5, (by show (esL a.es).take _ ++ _ = (esL b.es).take _ ++ _; rw [h3, h6])⟩
  rw [if_neg k2, if_neg k2]
  by_cases k3 : r.k = 3
  · rw [if_pos k3, if_pos k3]
    unfold foldB foldBR
    rw [h3, h4, h6]
    by_cases c : r.i < b.i
    · rw [if_pos c, if_pos c]; exact ⟨h1, h2, h3, h4, h5, h6⟩
    · rw [if_neg c, if_neg c]
      refine ⟨h1, h2, rfl, rfl, rfl, ?_⟩
      dsimp only
      by_cases c1 : r.i = b.i ∧ r.t = b.t
      · rw [if_pos c1, if_pos (.inl c1), h6, c1.1]; simp [esL]
      · rw [if_neg c1]
        by_cases c2 : b.i < r.i ∧ r.i ≤ b.i + ((esL b.es).length : Int) ∧ ((esL b.es).getD (r.i - b.i - 1).toNat noE).t = r.t
        · rw [if_pos c2, if_pos (.inr c2)]
        · rw [if_neg c2, if_neg (fun h => h.elim c1 c2)]
  · rw [if_neg k3, if_neg k3]; exact ⟨h1, h2, h3, h4, h5, h6⟩
theorem foldK_same (l : List Rec) : ∀ j, SameO (foldK l j) (foldKR l j)
  | 0 => ⟨rfl, rfl, rfl, rfl, rfl, rfl⟩
  | j + 1 => by
    have ih := foldK_same l j
    rw [foldK, foldKR]
    cases h1 : foldK l j <;> cases h2 : foldKR l j <;> rw [h1, h2] at ih
    · trivial
    · exact ih.elim
    · exact ih.elim
    · exact foldS_same ih _
theorem fold_same (l : List Rec) : SameO (foldL l) (foldLR l) := foldK_same l l.length
theorem foldKR_none {l : List Rec} {j : Nat} (h : foldKR l j = none) : ∀ m, foldKR l (j + m) = none
  | 0 => h
  | m + 1 => by rw [← Nat.add_assoc, foldKR, foldKR_none h m]; rfl
theorem foldKR_ok {l : List Rec} (hl : ∀ r ∈ l, smallI r.i) (j : Nat) (s : St) (hj : j ≤ l.length) (h : foldKR l j = some s) : smallI s.i ∧ (esL s.es).length ≤ j := by
  have hs := foldK_same l j
  rw [h] at hs
  cases h1 : foldK l j with
  | none => rw [h1] at hs; exact hs.elim
  | some a =>
    rw [h1] at hs
    obtain ⟨_, _, h3, _, _, h6⟩ := hs
    rw [← h3, ← h6]
    exact foldK_ok hl j a hj h1
noncomputable def pf55 : List AV → Option AV
  | [v] => (recs? v).bind fun l => open Classical in if l.length ≤ 1000000 ∧ (∀ r ∈ l, smallI r.i) then (match foldLR l with
      | some s => some (.tup [.agg (stA s .bor), .raw (.int .i64 0)])
      | none => some (.tup [.agg (stA st0 .bor), .raw (.int .i64 110)])) else none
  | _ => none
theorem pf55_at {n : Nat} {l : List Rec} {fl : Fl} (h : n = l.length) (h1 : l.length ≤ 1000000) (h2 : ∀ r ∈ l, smallI r.i) : pf55 [.sl n (recsA l) fl] = (match foldLR l with
      | some s => some (.tup [.agg (stA s .bor), .raw (.int .i64 0)])
      | none => some (.tup [.agg (stA st0 .bor), .raw (.int .i64 110)])) := by
  simp only [pf55, recs?_at h, Option.bind_some]
  exact if_pos ⟨h1, h2⟩
theorem rA2 (r : Rec) : (recA r)[2]? = some (.raw (.int .i64 r.t)) := rfl
theorem rA3 (r : Rec) : (recA r)[3]? = some (.raw (.int .i64 r.n)) := rfl
theorem foldBR_neg {s : St} {q : Rec} (h : q.i < s.i) : foldBR s q = s := if_pos h
theorem foldBR_is {s : St} {q : Rec} (h : ¬ q.i < s.i) {es : Option (List Eny)} (he : (if (q.i = s.i ∧ q.t = s.t) ∨ (s.i < q.i ∧ q.i ≤ s.i + ((esL s.es).length : Int) ∧ ((esL s.es).getD (q.i - s.i - 1).toNat noE).t = q.t) then some ((esL s.es).drop (q.i - s.i).toNat) else none) = es) : foldBR s q = { h := s.h, v := s.v, i := q.i, t := q.t, f := q.n, es := es } := by
  rw [foldBR, if_neg h, he]
def tbNp0 := (And.intro (And.intro (And.intro (And.intro (And.intro @teE @undef_is) (And.intro @ES0_te (And.intro @ES0_glob @ES0_gs))) (And.intro (And.intro @ES0_dyn @ES0_mu) (And.intro @ev4 (And.intro @zeroRec @zeroSt)))) (And.intro (And.intro (And.intro @rep_zero @rep_one) (And.intro @recsA_len (And.intro @recA_strip @recA_oneA))) (And.intro (And.intro @recA_len (And.intro @recA_take @recA_drop)) (And.intro @recA_snap (And.intro @recA_noview @splice_rec))))) (And.intro (And.intro (And.intro (And.intro @splice_rec' @rA0) (And.intro @rA1 (And.intro @rA2 @rA3))) (And.intro (And.intro @rAh (And.intro @rAe @zeroE)) (And.intro @entA_strip (And.intro @entA_len @entA_one)))) (And.intro (And.intro (And.intro @entA_take @dropE) (And.intro @splice_ent (And.intro @splice_ent' @esA_none))) (And.intro (And.intro @esA_some (And.intro @entsA_len @entsA_pure)) (And.intro @entsA_snap (And.intro @entsA_noview @entsA_oneA))))))
theorem sound55 : SoundV Tryd.prog globS 55 pf55 := by
  refine SoundV.walk ES0 okS0 mixed Tryd.func55 rfl Tryd.call55 (by kernel_rfl) ?_
  intro args r hr
  unfold pf55 at hr
  split at hr
  · simp only [Option.bind_eq_some_iff] at hr
    obtain ⟨l, h1, hr⟩ := hr
    split at hr
    · rename_i hc
      obtain ⟨hlen, hsm⟩ := hc
      obtain ⟨fl, rfl⟩ := recs?_of h1
      rw [Tryd.ntmps55, Tryd.results55]
      refine ⟨by simp, ?_⟩
      simp (maxSteps := 1000000) (disch := first | omega | (simp only [nums_len, lnB] <;> omega) | fail) only [ev0, ev1, ev2, ev3, ↓reduceIte, reduceCtorEq, zaa, zab, zac, zad, zae, zaf, zag, zah, zai, zaj, zak, zal, zam, zan, zao, zap, zaq, ↓zar, ↓zas, zat, zau, zav, zaw, zax, zay, zaz, zba, zbb, zbc, zbd, zbe, zbf, zbg, zbh, zbi, zbj, zbk, zbl, zbm, zbn, zbo, zbp, zbq, zbr, zbs, zbt, zbu, zbv, zbw, zbx, zby, zbz, zca, zcb, zcc, zcd, zce, zcf, zcg, zch, zci, zcj, zck, zcl, zcm, zcn, zco, zcp, zcq, zcr, zcs, zct, zcu, zcv, zcw, zcx, zcy, zcz, zda, zdb, zdc, zdd, zde, zdf, zdg, zdh, zdi, zdj, zdk, zdl, zdm, ev5, tbNp0, globS, List.drop_zero, List.size_toArray, Array.size_empty, List.length_nil, List.nil_append, Nat.zero_add, List.map_nil, List.all_nil, Int.reduceBEq, Int.reduceBNe, beq_self_eq_true]
      refine loopQ_of (fun m σ => ∃ j s gl, j ≤ l.length ∧ m = l.length - j ∧ foldKR l j = some s ∧ σ.slots 5 = .raw (.int .i64 (j : Int)) ∧ σ.slots 0 = .sl l.length (recsA l) .bor ∧ σ.slots 4 = .ptr (.own 0 4 1) 0 ∧ σ.slots 2 = .ptr (.own 0 2 1) 0 ∧
        σ.box (.own 0 4 1) = some (stA s gl) ∧ σ.box (.own 0 2 1) = some (stA st0 .bor) ∧ Clr σ.used 44 (σ.gen 44) ∧ Clr σ.used 49 (σ.gen 49) ∧ Clr σ.used 97 (σ.gen 97)) l.length ?_ ?_
      · refine ⟨0, st0, .bor, by omega, by omega, rfl, ?_⟩
        simp (maxSteps := 1000000) (disch := first | omega | (simp only [nums_len, lnB] <;> omega) | fail) only [ev0, ev1, ev2, ev3, ↓reduceIte, reduceCtorEq, zaa, zab, zac, zad, zae, zaf, zag, zah, zai, zaj, zak, zal, zam, zan, zao, zap, zaq, ↓zar, ↓zas, zat, zau, zav, zaw, zax, zay, zaz, zba, zbb, zbc, zbd, zbe, zbf, zbg, zbh, zbi, zbj, zbk, zbl, zbm, zbn, zbo, zbp, zbq, zbr, zbs, zbt, zbu, zbv, zbw, zbx, zby, zbz, zca, zcb, zcc, zcd, zce, zcf, zcg, zch, zci, zcj, zck, zcl, zcm, zcn, zco, zcp, zcq, zcr, zcs, zct, zcu, zcv, zcw, zcx, zcy, zcz, zda, zdb, zdc, zdd, zde, zdf, zdg, zdh, zdi, zdj, zdk, zdl, zdm, ev5, tbNp0, globS, List.drop_zero, List.size_toArray, Array.size_empty, List.length_nil, List.nil_append, Nat.zero_add, List.map_nil, List.all_nil, Int.reduceBEq, Int.reduceBNe, beq_self_eq_true]
        exact ⟨rfl, rfl, rfl, fun _ _ => rfl, fun _ _ => rfl, fun _ _ => rfl⟩
      · rintro m ⟨sl, gn, bx, us⟩ ⟨j, s, gl, hj, rfl, hk, s5, s0, s4, s2, b4, b2, u1, u2, u3⟩
        dsimp only at s5 s0 s4 s2 b4 b2 u1 u2 u3
        have v1 := u1 (gn 44 + 1) (Nat.lt_succ_self _)
        have v2 := u2 (gn 49 + 1) (Nat.lt_succ_self _)
        have v3 := u3 (gn 97 + 1) (Nat.lt_succ_self _)
        obtain ⟨hsi, hsl⟩ := foldKR_ok hsm j s hj hk
        obtain ⟨sh, sv, si, st, sf, es⟩ := s
        rw [stA_is] at b4 b2
        dsimp only at b4 hsi hsl
        obtain ⟨hs1, hs2⟩ := hsi
        simp (maxSteps := 1000000) (disch := first | omega | (simp only [nums_len, lnB] <;> omega) | fail) only [ev0, ev1, ev2, ev3, ↓reduceIte, reduceCtorEq, zaa, zab, zac, zad, zae, zaf, zag, zah, zai, zaj, zak, zal, zam, zan, zao, zap, zaq, ↓zar, ↓zas, zat, zau, zav, zaw, zax, zay, zaz, zba, zbb, zbc, zbd, zbe, zbf, zbg, zbh, zbi, zbj, zbk, zbl, zbm, zbn, zbo, zbp, zbq, zbr, zbs, zbt, zbu, zbv, zbw, zbx, zby, zbz, zca, zcb, zcc, zcd, zce, zcf, zcg, zch, zci, zcj, zck, zcl, zcm, zcn, zco, zcp, zcq, zcr, zcs, zct, zcu, zcv, zcw, zcx, zcy, zcz, zda, zdb, zdc, zdd, zde, zdf, zdg, zdh, zdi, zdj, zdk, zdl, zdm, ev5, tbNp0, globS, List.drop_zero, List.size_toArray, Array.size_empty, List.length_nil, List.nil_append, Nat.zero_add, List.map_nil, List.all_nil, Int.reduceBEq, Int.reduceBNe, beq_self_eq_true, s5, s0, s4, s2, b4, b2]
        refine condQ_dec (fun hlt => ?_) (fun hge => ?_)
        · have hlt : j < l.length := by omega
          have hat := recsA_at l j hlt
          have hfs : foldKR l (j + 1) = foldSR ⟨sh, sv, si, st, sf, es⟩ (l.getD j noRec) := by rw [foldKR, hk]; rfl
          have hri : smallI (l.getD j noRec).i := hsm _ (by rw [List.getD_eq_getElem?_getD, List.getElem?_eq_getElem hlt]; exact List.getElem_mem _)
          generalize l.getD j noRec = r at hat hfs hri
          obtain ⟨hr1, hr2⟩ := hri
          by_cases k1 : r.k = 1
          · have d1 : (r.k == 1) = true := by rw [k1]; rfl
            simp (maxSteps := 1000000) (disch := first | omega | (simp only [nums_len, lnB] <;> omega) | fail) only [ev0, ev1, ev2, ev3, ↓reduceIte, reduceCtorEq, zaa, zab, zac, zad, zae, zaf, zag, zah, zai, zaj, zak, zal, zam, zan, zao, zap, zaq, ↓zar, ↓zas, zat, zau, zav, zaw, zax, zay, zaz, zba, zbb, zbc, zbd, zbe, zbf, zbg, zbh, zbi, zbj, zbk, zbl, zbm, zbn, zbo, zbp, zbq, zbr, zbs, zbt, zbu, zbv, zbw, zbx, zby, zbz, zca, zcb, zcc, zcd, zce, zcf, zcg, zch, zci, zcj, zck, zcl, zcm, zcn, zco, zcp, zcq, zcr, zcs, zct, zcu, zcv, zcw, zcx, zcy, zcz, zda, zdb, zdc, zdd, zde, zdf, zdg, zdh, zdi, zdj, zdk, zdl, zdm, ev5, tbNp0, globS, List.drop_zero, List.size_toArray, Array.size_empty, List.length_nil, List.nil_append, Nat.zero_add, List.map_nil, List.all_nil, Int.reduceBEq, Int.reduceBNe, beq_self_eq_true, s5, s0, s4, s2, b4, b2, hat, d1]
            exact ⟨l.length - (j + 1), by omega, j + 1, ⟨r.h, r.v, si, st, sf, es⟩, gl, by omega, rfl, by rw [hfs, foldSR]; exact if_pos k1, rfl, by simp [splice, stA], rfl, u1, u2, u3⟩
          have d1 : (r.k == 1) = false := beq_eq_false_iff_ne.2 k1
          by_cases k2 : r.k = 2
          · have d2 : (r.k == 2) = true := by rw [k2]; rfl
            by_cases c1 : r.i ≤ si
            · have d4 : decide (r.i - si - 1 < 0) = true := decide_eq_true (by omega)
              simp (maxSteps := 1000000) (disch := first | omega | (simp only [nums_len, lnB] <;> omega) | fail) only [ev0, ev1, ev2, ev3, ↓reduceIte, reduceCtorEq, zaa, zab, zac, zad, zae, zaf, zag, zah, zai, zaj, zak, zal, zam, zan, zao, zap, zaq, ↓zar, ↓zas, zat, zau, zav, zaw, zax, zay, zaz, zba, zbb, zbc, zbd, zbe, zbf, zbg, zbh, zbi, zbj, zbk, zbl, zbm, zbn, zbo, zbp, zbq, zbr, zbs, zbt, zbu, zbv, zbw, zbx, zby, zbz, zca, zcb, zcc, zcd, zce, zcf, zcg, zch, zci, zcj, zck, zcl, zcm, zcn, zco, zcp, zcq, zcr, zcs, zct, zcu, zcv, zcw, zcx, zcy, zcz, zda, zdb, zdc, zdd, zde, zdf, zdg, zdh, zdi, zdj, zdk, zdl, zdm, ev5, tbNp0, globS, List.drop_zero, List.size_toArray, Array.size_empty, List.length_nil, List.nil_append, Nat.zero_add, List.map_nil, List.all_nil, Int.reduceBEq, Int.reduceBNe, beq_self_eq_true, s5, s0, s4, s2, b4, b2, hat, d1, d2, d4]
              exact ⟨l.length - (j + 1), by omega, j + 1, ⟨sh, sv, si, st, sf, es⟩, gl, by omega, rfl, by rw [hfs, foldSR]; rw [if_neg k1, if_pos k2]; exact if_pos c1, rfl, rfl, rfl, u1, u2, u3⟩
            have d4 : decide (r.i - si - 1 < 0) = false := decide_eq_false (by omega)
            cases es with
            | none =>
              by_cases c2 : r.i > si + 0 + 1
              · have d5 : decide (r.i - si - 1 > 0) = true := decide_eq_true (by omega)
                have hno : foldKR l (j + 1) = none := by
                  rw [hfs, foldSR, if_neg k1, if_pos k2]
                  exact (if_neg c1).trans (if_pos c2)
                have hL : foldLR l = none := by
                  have := foldKR_none hno (l.length - (j + 1))
                  rwa [show j + 1 + (l.length - (j + 1)) = l.length by omega] at this
                rw [hL] at hr
                cases hr
                simp (maxSteps := 1000000) (disch := first | omega | (simp only [nums_len, lnB] <;> omega) | fail) only [ev0, ev1, ev2, ev3, ↓reduceIte, reduceCtorEq, zaa, zab, zac, zad, zae, zaf, zag, zah, zai, zaj, zak, zal, zam, zan, zao, zap, zaq, ↓zar, ↓zas, zat, zau, zav, zaw, zax, zay, zaz, zba, zbb, zbc, zbd, zbe, zbf, zbg, zbh, zbi, zbj, zbk, zbl, zbm, zbn, zbo, zbp, zbq, zbr, zbs, zbt, zbu, zbv, zbw, zbx, zby, zbz, zca, zcb, zcc, zcd, zce, zcf, zcg, zch, zci, zcj, zck, zcl, zcm, zcn, zco, zcp, zcq, zcr, zcs, zct, zcu, zcv, zcw, zcx, zcy, zcz, zda, zdb, zdc, zdd, zde, zdf, zdg, zdh, zdi, zdj, zdk, zdl, zdm, ev5, tbNp0, globS, List.drop_zero, List.size_toArray, Array.size_empty, List.length_nil, List.nil_append, Nat.zero_add, List.map_nil, List.all_nil, Int.reduceBEq, Int.reduceBNe, beq_self_eq_true, s5, s0, s4, s2, b4, b2, hat, d1, d2, d4, d5]
                exact ResQ.same rfl
              have d5 : decide (r.i - si - 1 > 0) = false := decide_eq_false (by omega)
              simp (maxSteps := 1000000) (disch := first | omega | (simp only [nums_len, lnB] <;> omega) | fail) only [ev0, ev1, ev2, ev3, ↓reduceIte, reduceCtorEq, zaa, zab, zac, zad, zae, zaf, zag, zah, zai, zaj, zak, zal, zam, zan, zao, zap, zaq, ↓zar, ↓zas, zat, zau, zav, zaw, zax, zay, zaz, zba, zbb, zbc, zbd, zbe, zbf, zbg, zbh, zbi, zbj, zbk, zbl, zbm, zbn, zbo, zbp, zbq, zbr, zbs, zbt, zbu, zbv, zbw, zbx, zby, zbz, zca, zcb, zcc, zcd, zce, zcf, zcg, zch, zci, zcj, zck, zcl, zcm, zcn, zco, zcp, zcq, zcr, zcs, zct, zcu, zcv, zcw, zcx, zcy, zcz, zda, zdb, zdc, zdd, zde, zdf, zdg, zdh, zdi, zdj, zdk, zdl, zdm, ev5, tbNp0, globS, List.drop_zero, List.size_toArray, Array.size_empty, List.length_nil, List.nil_append, Nat.zero_add, List.map_nil, List.all_nil, Int.reduceBEq, Int.reduceBNe, beq_self_eq_true, s5, s0, s4, s2, b4, b2, hat, d1, d2, d4, d5, v1, v2]
              exact ⟨l.length - (j + 1), by omega, j + 1, ⟨sh, sv, si, st, sf, some [r.e]⟩, .own ⟨0, 53, 0, gn 53 + 1⟩ 4, by omega, rfl, by rw [hfs, foldSR]; rw [if_neg k1, if_pos k2]; exact (if_neg c1).trans ((if_neg c2).trans (by simp [esL])), rfl, rfl, rfl, u1.go, u2.go, u3⟩
            | some e =>
              simp only [esL_some] at hsl
              by_cases c2 : r.i > si + (e.length : Int) + 1
              · have d5 : decide (r.i - si - 1 > (e.length : Int)) = true := decide_eq_true (by omega)
                have hno : foldKR l (j + 1) = none := by
                  rw [hfs, foldSR, if_neg k1, if_pos k2]
                  exact (if_neg c1).trans (if_pos c2)
                have hL : foldLR l = none := by
                  have := foldKR_none hno (l.length - (j + 1))
                  rwa [show j + 1 + (l.length - (j + 1)) = l.length by omega] at this
                rw [hL] at hr
                cases hr
                simp (maxSteps := 1000000) (disch := first | omega | (simp only [nums_len, lnB] <;> omega) | fail) only [ev0, ev1, ev2, ev3, ↓reduceIte, reduceCtorEq, zaa, zab, zac, zad, zae, zaf, zag, zah, zai, zaj, zak, zal, zam, zan, zao, zap, zaq, ↓zar, ↓zas, zat, zau, zav, zaw, zax, zay, zaz, zba, zbb, zbc, zbd, zbe, zbf, zbg, zbh, zbi, zbj, zbk, zbl, zbm, zbn, zbo, zbp, zbq, zbr, zbs, zbt, zbu, zbv, zbw, zbx, zby, zbz, zca, zcb, zcc, zcd, zce, zcf, zcg, zch, zci, zcj, zck, zcl, zcm, zcn, zco, zcp, zcq, zcr, zcs, zct, zcu, zcv, zcw, zcx, zcy, zcz, zda, zdb, zdc, zdd, zde, zdf, zdg, zdh, zdi, zdj, zdk, zdl, zdm, ev5, tbNp0, globS, List.drop_zero, List.size_toArray, Array.size_empty, List.length_nil, List.nil_append, Nat.zero_add, List.map_nil, List.all_nil, Int.reduceBEq, Int.reduceBNe, beq_self_eq_true, s5, s0, s4, s2, b4, b2, hat, d1, d2, d4, d5]
                exact ResQ.same rfl
              have d5 : decide (r.i - si - 1 > (e.length : Int)) = false := decide_eq_false (by omega)
              have htk := entsA_take e ((r.i - si).toNat - 1)
              simp (maxSteps := 1000000) (disch := first | omega | (simp only [nums_len, lnB] <;> omega) | fail) only [ev0, ev1, ev2, ev3, ↓reduceIte, reduceCtorEq, zaa, zab, zac, zad, zae, zaf, zag, zah, zai, zaj, zak, zal, zam, zan, zao, zap, zaq, ↓zar, ↓zas, zat, zau, zav, zaw, zax, zay, zaz, zba, zbb, zbc, zbd, zbe, zbf, zbg, zbh, zbi, zbj, zbk, zbl, zbm, zbn, zbo, zbp, zbq, zbr, zbs, zbt, zbu, zbv, zbw, zbx, zby, zbz, zca, zcb, zcc, zcd, zce, zcf, zcg, zch, zci, zcj, zck, zcl, zcm, zcn, zco, zcp, zcq, zcr, zcs, zct, zcu, zcv, zcw, zcx, zcy, zcz, zda, zdb, zdc, zdd, zde, zdf, zdg, zdh, zdi, zdj, zdk, zdl, zdm, ev5, tbNp0, globS, List.drop_zero, List.size_toArray, Array.size_empty, List.length_nil, List.nil_append, Nat.zero_add, List.map_nil, List.all_nil, Int.reduceBEq, Int.reduceBNe, beq_self_eq_true, s5, s0, s4, s2, b4, b2, hat, d1, d2, d4, d5, v1, v2, htk]
              refine ⟨l.length - (j + 1), by omega, j + 1, ⟨sh, sv, si, st, sf, some (e.take (r.i - si - 1).toNat ++ [r.e])⟩, .own ⟨0, 53, 0, gn 53 + 1⟩ 4, by omega, rfl, ?_, rfl, ?_, rfl, u1.go, u2.go, u3⟩
              · rw [hfs, foldSR, if_neg k1, if_pos k2]
                exact (if_neg c1).trans (if_neg c2)
              · rw [stA_is, esA_some, show (r.i - si - 1).toNat = (r.i - si).toNat - 1 by omega, List.length_append, List.length_take, List.length_singleton, Nat.min_eq_left (by omega), entsA_snoc]
          have d2 : (r.k == 2) = false := beq_eq_false_iff_ne.2 k2
          by_cases k3 : r.k = 3
          · have d3 : (r.k == 3) = true := by rw [k3]; rfl
            by_cases c1 : r.i < si
            · have d6 : decide (r.i - si < 0) = true := decide_eq_true (by omega)
              simp (maxSteps := 1000000) (disch := first | omega | (simp only [nums_len, lnB] <;> omega) | fail) only [ev0, ev1, ev2, ev3, ↓reduceIte, reduceCtorEq, zaa, zab, zac, zad, zae, zaf, zag, zah, zai, zaj, zak, zal, zam, zan, zao, zap, zaq, ↓zar, ↓zas, zat, zau, zav, zaw, zax, zay, zaz, zba, zbb, zbc, zbd, zbe, zbf, zbg, zbh, zbi, zbj, zbk, zbl, zbm, zbn, zbo, zbp, zbq, zbr, zbs, zbt, zbu, zbv, zbw, zbx, zby, zbz, zca, zcb, zcc, zcd, zce, zcf, zcg, zch, zci, zcj, zck, zcl, zcm, zcn, zco, zcp, zcq, zcr, zcs, zct, zcu, zcv, zcw, zcx, zcy, zcz, zda, zdb, zdc, zdd, zde, zdf, zdg, zdh, zdi, zdj, zdk, zdl, zdm, ev5, tbNp0, globS, List.drop_zero, List.size_toArray, Array.size_empty, List.length_nil, List.nil_append, Nat.zero_add, List.map_nil, List.all_nil, Int.reduceBEq, Int.reduceBNe, beq_self_eq_true, s5, s0, s4, s2, b4, b2, hat, d1, d2, d3, d6]
              exact ⟨l.length - (j + 1), by omega, j + 1, ⟨sh, sv, si, st, sf, es⟩, gl, by omega, rfl, by rw [hfs, foldSR, if_neg k1, if_neg k2, if_pos k3]; exact congrArg some (foldBR_neg c1), rfl, rfl, rfl, u1, u2, u3⟩
            have d6 : decide (r.i - si < 0) = false := decide_eq_false (by omega)
            cases es with
            | none =>
              by_cases c2 : r.i = si
              · have d7 : (r.i - si == 0) = true := by rw [beq_iff_eq]; omega
                by_cases c3 : r.t = st
                · have d8 : (r.t == st) = true := by rw [beq_iff_eq]; exact c3
                  simp (maxSteps := 1000000) (disch := first | omega | (simp only [nums_len, lnB] <;> omega) | fail) only [ev0, ev1, ev2, ev3, ↓reduceIte, reduceCtorEq, zaa, zab, zac, zad, zae, zaf, zag, zah, zai, zaj, zak, zal, zam, zan, zao, zap, zaq, ↓zar, ↓zas, zat, zau, zav, zaw, zax, zay, zaz, zba, zbb, zbc, zbd, zbe, zbf, zbg, zbh, zbi, zbj, zbk, zbl, zbm, zbn, zbo, zbp, zbq, zbr, zbs, zbt, zbu, zbv, zbw, zbx, zby, zbz, zca, zcb, zcc, zcd, zce, zcf, zcg, zch, zci, zcj, zck, zcl, zcm, zcn, zco, zcp, zcq, zcr, zcs, zct, zcu, zcv, zcw, zcx, zcy, zcz, zda, zdb, zdc, zdd, zde, zdf, zdg, zdh, zdi, zdj, zdk, zdl, zdm, ev5, tbNp0, globS, List.drop_zero, List.size_toArray, Array.size_empty, List.length_nil, List.nil_append, Nat.zero_add, List.map_nil, List.all_nil, Int.reduceBEq, Int.reduceBNe, beq_self_eq_true, s5, s0, s4, s2, b4, b2, hat, d1, d2, d3, d6, d7, d8, v3]
                  exact ⟨l.length - (j + 1), by omega, j + 1, ⟨sh, sv, r.i, r.t, r.n, some []⟩, .own ⟨0, 102, 0, gn 102 + 1⟩ 4, by omega, rfl, by rw [hfs, foldSR, if_neg k1, if_neg k2, if_pos k3]; exact congrArg some (foldBR_is c1 ((if_pos (.inl ⟨c2, c3⟩)).trans (by simp [esL]))), rfl, rfl, rfl, u1, u2, u3.go⟩
                · have d8 : (r.t == st) = false := beq_eq_false_iff_ne.2 c3
                  have d9 : decide (r.i - si > 0) = false := decide_eq_false (by omega)
                  simp (maxSteps := 1000000) (disch := first | omega | (simp only [nums_len, lnB] <;> omega) | fail) only [ev0, ev1, ev2, ev3, ↓reduceIte, reduceCtorEq, zaa, zab, zac, zad, zae, zaf, zag, zah, zai, zaj, zak, zal, zam, zan, zao, zap, zaq, ↓zar, ↓zas, zat, zau, zav, zaw, zax, zay, zaz, zba, zbb, zbc, zbd, zbe, zbf, zbg, zbh, zbi, zbj, zbk, zbl, zbm, zbn, zbo, zbp, zbq, zbr, zbs, zbt, zbu, zbv, zbw, zbx, zby, zbz, zca, zcb, zcc, zcd, zce, zcf, zcg, zch, zci, zcj, zck, zcl, zcm, zcn, zco, zcp, zcq, zcr, zcs, zct, zcu, zcv, zcw, zcx, zcy, zcz, zda, zdb, zdc, zdd, zde, zdf, zdg, zdh, zdi, zdj, zdk, zdl, zdm, ev5, tbNp0, globS, List.drop_zero, List.size_toArray, Array.size_empty, List.length_nil, List.nil_append, Nat.zero_add, List.map_nil, List.all_nil, Int.reduceBEq, Int.reduceBNe, beq_self_eq_true, s5, s0, s4, s2, b4, b2, hat, d1, d2, d3, d6, d7, d8, d9]
                  exact ⟨l.length - (j + 1), by omega, j + 1, ⟨sh, sv, r.i, r.t, r.n, none⟩, .bor, by omega, rfl, by rw [hfs, foldSR, if_neg k1, if_neg k2, if_pos k3]; exact congrArg some (foldBR_is c1 (if_neg (fun h => h.elim (fun h => c3 h.2) (fun h => by have : si < r.i := h.1; omega)))), rfl, rfl, rfl, u1, u2, u3⟩
              have d7 : (r.i - si == 0) = false := beq_eq_false_iff_ne.2 (by omega)
              have d9 : decide (r.i - si > 0) = true := decide_eq_true (by omega)
              have d10 : decide (r.i - si ≤ 0) = false := decide_eq_false (by omega)
              simp (maxSteps := 1000000) (disch := first | omega | (simp only [nums_len, lnB] <;> omega) | fail) only [ev0, ev1, ev2, ev3, ↓reduceIte, reduceCtorEq, zaa, zab, zac, zad, zae, zaf, zag, zah, zai, zaj, zak, zal, zam, zan, zao, zap, zaq, ↓zar, ↓zas, zat, zau, zav, zaw, zax, zay, zaz, zba, zbb, zbc, zbd, zbe, zbf, zbg, zbh, zbi, zbj, zbk, zbl, zbm, zbn, zbo, zbp, zbq, zbr, zbs, zbt, zbu, zbv, zbw, zbx, zby, zbz, zca, zcb, zcc, zcd, zce, zcf, zcg, zch, zci, zcj, zck, zcl, zcm, zcn, zco, zcp, zcq, zcr, zcs, zct, zcu, zcv, zcw, zcx, zcy, zcz, zda, zdb, zdc, zdd, zde, zdf, zdg, zdh, zdi, zdj, zdk, zdl, zdm, ev5, tbNp0, globS, List.drop_zero, List.size_toArray, Array.size_empty, List.length_nil, List.nil_append, Nat.zero_add, List.map_nil, List.all_nil, Int.reduceBEq, Int.reduceBNe, beq_self_eq_true, s5, s0, s4, s2, b4, b2, hat, d1, d2, d3, d6, d7, d9, d10]
              exact ⟨l.length - (j + 1), by omega, j + 1, ⟨sh, sv, r.i, r.t, r.n, none⟩, .bor, by omega, rfl, by rw [hfs, foldSR, if_neg k1, if_neg k2, if_pos k3]; exact congrArg some (foldBR_is c1 (if_neg (fun h => h.elim (fun h => c2 h.1) (fun h => by have h2 : r.i ≤ si + 0 := h.2.1; omega)))), rfl, rfl, rfl, u1, u2, u3⟩
            | some e =>
              simp only [esL_some] at hsl
              by_cases c2 : r.i = si
              · have d7 : (r.i - si == 0) = true := by rw [beq_iff_eq]; omega
                by_cases c3 : r.t = st
                · have d8 : (r.t == st) = true := by rw [beq_iff_eq]; exact c3
                  have hdr := entsA_drop e (r.i - si).toNat
                  have htk : (entsA (e.drop (r.i - si).toNat)).take ((e.length - (r.i - si).toNat) * 4) = entsA (e.drop (r.i - si).toNat) := List.take_of_length_le (by rw [entsA_len, List.length_drop]; omega)
                  simp (maxSteps := 1000000) (disch := first | omega | (simp only [nums_len, lnB] <;> omega) | fail) only [ev0, ev1, ev2, ev3, ↓reduceIte, reduceCtorEq, zaa, zab, zac, zad, zae, zaf, zag, zah, zai, zaj, zak, zal, zam, zan, zao, zap, zaq, ↓zar, ↓zas, zat, zau, zav, zaw, zax, zay, zaz, zba, zbb, zbc, zbd, zbe, zbf, zbg, zbh, zbi, zbj, zbk, zbl, zbm, zbn, zbo, zbp, zbq, zbr, zbs, zbt, zbu, zbv, zbw, zbx, zby, zbz, zca, zcb, zcc, zcd, zce, zcf, zcg, zch, zci, zcj, zck, zcl, zcm, zcn, zco, zcp, zcq, zcr, zcs, zct, zcu, zcv, zcw, zcx, zcy, zcz, zda, zdb, zdc, zdd, zde, zdf, zdg, zdh, zdi, zdj, zdk, zdl, zdm, ev5, tbNp0, globS, List.drop_zero, List.size_toArray, Array.size_empty, List.length_nil, List.nil_append, Nat.zero_add, List.map_nil, List.all_nil, Int.reduceBEq, Int.reduceBNe, beq_self_eq_true, s5, s0, s4, s2, b4, b2, hat, d1, d2, d3, d6, d7, d8, v3, hdr, htk]
                  exact ⟨l.length - (j + 1), by omega, j + 1, ⟨sh, sv, r.i, r.t, r.n, some (e.drop (r.i - si).toNat)⟩, .own ⟨0, 102, 0, gn 102 + 1⟩ 4, by omega, rfl, by rw [hfs, foldSR, if_neg k1, if_neg k2, if_pos k3]; exact congrArg some (foldBR_is c1 (if_pos (.inl ⟨c2, c3⟩))), rfl, by rw [stA_is, esA_some, List.length_drop], rfl, u1, u2, u3.go⟩
                · have d8 : (r.t == st) = false := beq_eq_false_iff_ne.2 c3
                  have d9 : decide (r.i - si > 0) = false := decide_eq_false (by omega)
                  simp (maxSteps := 1000000) (disch := first | omega | (simp only [nums_len, lnB] <;> omega) | fail) only [ev0, ev1, ev2, ev3, ↓reduceIte, reduceCtorEq, zaa, zab, zac, zad, zae, zaf, zag, zah, zai, zaj, zak, zal, zam, zan, zao, zap, zaq, ↓zar, ↓zas, zat, zau, zav, zaw, zax, zay, zaz, zba, zbb, zbc, zbd, zbe, zbf, zbg, zbh, zbi, zbj, zbk, zbl, zbm, zbn, zbo, zbp, zbq, zbr, zbs, zbt, zbu, zbv, zbw, zbx, zby, zbz, zca, zcb, zcc, zcd, zce, zcf, zcg, zch, zci, zcj, zck, zcl, zcm, zcn, zco, zcp, zcq, zcr, zcs, zct, zcu, zcv, zcw, zcx, zcy, zcz, zda, zdb, zdc, zdd, zde, zdf, zdg, zdh, zdi, zdj, zdk, zdl, zdm, ev5, tbNp0, globS, List.drop_zero, List.size_toArray, Array.size_empty, List.length_nil, List.nil_append, Nat.zero_add, List.map_nil, List.all_nil, Int.reduceBEq, Int.reduceBNe, beq_self_eq_true, s5, s0, s4, s2, b4, b2, hat, d1, d2, d3, d6, d7, d8, d9]
                  exact ⟨l.length - (j + 1), by omega, j + 1, ⟨sh, sv, r.i, r.t, r.n, none⟩, .bor, by omega, rfl, by rw [hfs, foldSR, if_neg k1, if_neg k2, if_pos k3]; exact congrArg some (foldBR_is c1 (if_neg (fun h => h.elim (fun h => c3 h.2) (fun h => by have : si < r.i := h.1; omega)))), rfl, rfl, rfl, u1, u2, u3⟩
              have d7 : (r.i - si == 0) = false := beq_eq_false_iff_ne.2 (by omega)
              have d9 : decide (r.i - si > 0) = true := decide_eq_true (by omega)
              by_cases c5 : r.i ≤ si + (e.length : Int)
              rotate_left
              · have d10 : decide (r.i - si ≤ (e.length : Int)) = false := decide_eq_false (by omega)
                simp (maxSteps := 1000000) (disch := first | omega | (simp only [nums_len, lnB] <;> omega) | fail) only [ev0, ev1, ev2, ev3, ↓reduceIte, reduceCtorEq, zaa, zab, zac, zad, zae, zaf, zag, zah, zai, zaj, zak, zal, zam, zan, zao, zap, zaq, ↓zar, ↓zas, zat, zau, zav, zaw, zax, zay, zaz, zba, zbb, zbc, zbd, zbe, zbf, zbg, zbh, zbi, zbj, zbk, zbl, zbm, zbn, zbo, zbp, zbq, zbr, zbs, zbt, zbu, zbv, zbw, zbx, zby, zbz, zca, zcb, zcc, zcd, zce, zcf, zcg, zch, zci, zcj, zck, zcl, zcm, zcn, zco, zcp, zcq, zcr, zcs, zct, zcu, zcv, zcw, zcx, zcy, zcz, zda, zdb, zdc, zdd, zde, zdf, zdg, zdh, zdi, zdj, zdk, zdl, zdm, ev5, tbNp0, globS, List.drop_zero, List.size_toArray, Array.size_empty, List.length_nil, List.nil_append, Nat.zero_add, List.map_nil, List.all_nil, Int.reduceBEq, Int.reduceBNe, beq_self_eq_true, s5, s0, s4, s2, b4, b2, hat, d1, d2, d3, d6, d7, d9, d10]
                exact ⟨l.length - (j + 1), by omega, j + 1, ⟨sh, sv, r.i, r.t, r.n, none⟩, .bor, by omega, rfl, by rw [hfs, foldSR, if_neg k1, if_neg k2, if_pos k3]; exact congrArg some (foldBR_is c1 (if_neg (fun h => h.elim (fun h => c2 h.1) (fun h => c5 h.2.1)))), rfl, rfl, rfl, u1, u2, u3⟩
              have d10 : decide (r.i - si ≤ (e.length : Int)) = true := decide_eq_true (by omega)
              have e1 := ents_t e (r.i - si - 1).toNat (by omega)
              rw [show (r.i - si - 1).toNat * 4 = ((r.i - si).toNat - 1) * 4 by omega] at e1
              obtain ⟨T, hT⟩ : ∃ T, T = (e.getD (r.i - si - 1).toNat noE).t := ⟨_, rfl⟩
              rw [← hT] at e1
              by_cases c6 : T = r.t
              · have d11 : (T == r.t) = true := by rw [beq_iff_eq]; exact c6
                have hdr := entsA_drop e (r.i - si).toNat
                have htk : (entsA (e.drop (r.i - si).toNat)).take ((e.length - (r.i - si).toNat) * 4) = entsA (e.drop (r.i - si).toNat) := List.take_of_length_le (by rw [entsA_len, List.length_drop]; omega)
                simp (maxSteps := 1000000) (disch := first | omega | (simp only [nums_len, lnB] <;> omega) | fail) only [ev0, ev1, ev2, ev3, ↓reduceIte, reduceCtorEq, zaa, zab, zac, zad, zae, zaf, zag, zah, zai, zaj, zak, zal, zam, zan, zao, zap, zaq, ↓zar, ↓zas, zat, zau, zav, zaw, zax, zay, zaz, zba, zbb, zbc, zbd, zbe, zbf, zbg, zbh, zbi, zbj, zbk, zbl, zbm, zbn, zbo, zbp, zbq, zbr, zbs, zbt, zbu, zbv, zbw, zbx, zby, zbz, zca, zcb, zcc, zcd, zce, zcf, zcg, zch, zci, zcj, zck, zcl, zcm, zcn, zco, zcp, zcq, zcr, zcs, zct, zcu, zcv, zcw, zcx, zcy, zcz, zda, zdb, zdc, zdd, zde, zdf, zdg, zdh, zdi, zdj, zdk, zdl, zdm, ev5, tbNp0, globS, List.drop_zero, List.size_toArray, Array.size_empty, List.length_nil, List.nil_append, Nat.zero_add, List.map_nil, List.all_nil, Int.reduceBEq, Int.reduceBNe, beq_self_eq_true, s5, s0, s4, s2, b4, b2, hat, d1, d2, d3, d6, d7, d9, d10, e1, d11, v3, hdr, htk]
                exact ⟨l.length - (j + 1), by omega, j + 1, ⟨sh, sv, r.i, r.t, r.n, some (e.drop (r.i - si).toNat)⟩, .own ⟨0, 102, 0, gn 102 + 1⟩ 4, by omega, rfl, by rw [hfs, foldSR, if_neg k1, if_neg k2, if_pos k3]; exact congrArg some (foldBR_is c1 (if_pos (.inr ⟨by show si < r.i; omega, c5, by rw [hT] at c6; exact c6⟩))), rfl, by rw [stA_is, esA_some, List.length_drop], rfl, u1, u2, u3.go⟩
              · have d11 : (T == r.t) = false := beq_eq_false_iff_ne.2 c6
                simp (maxSteps := 1000000) (disch := first | omega | (simp only [nums_len, lnB] <;> omega) | fail) only [ev0, ev1, ev2, ev3, ↓reduceIte, reduceCtorEq, zaa, zab, zac, zad, zae, zaf, zag, zah, zai, zaj, zak, zal, zam, zan, zao, zap, zaq, ↓zar, ↓zas, zat, zau, zav, zaw, zax, zay, zaz, zba, zbb, zbc, zbd, zbe, zbf, zbg, zbh, zbi, zbj, zbk, zbl, zbm, zbn, zbo, zbp, zbq, zbr, zbs, zbt, zbu, zbv, zbw, zbx, zby, zbz, zca, zcb, zcc, zcd, zce, zcf, zcg, zch, zci, zcj, zck, zcl, zcm, zcn, zco, zcp, zcq, zcr, zcs, zct, zcu, zcv, zcw, zcx, zcy, zcz, zda, zdb, zdc, zdd, zde, zdf, zdg, zdh, zdi, zdj, zdk, zdl, zdm, ev5, tbNp0, globS, List.drop_zero, List.size_toArray, Array.size_empty, List.length_nil, List.nil_append, Nat.zero_add, List.map_nil, List.all_nil, Int.reduceBEq, Int.reduceBNe, beq_self_eq_true, s5, s0, s4, s2, b4, b2, hat, d1, d2, d3, d6, d7, d9, d10, e1, d11]
                exact ⟨l.length - (j + 1), by omega, j + 1, ⟨sh, sv, r.i, r.t, r.n, none⟩, .bor, by omega, rfl, by rw [hfs, foldSR, if_neg k1, if_neg k2, if_pos k3]; exact congrArg some (foldBR_is c1 (if_neg (fun h => h.elim (fun h => c2 h.1) (fun h => c6 (by rw [hT]; exact h.2.2))))), rfl, rfl, rfl, u1, u2, u3⟩
          have d3 : (r.k == 3) = false := beq_eq_false_iff_ne.2 k3
          simp (maxSteps := 1000000) (disch := first | omega | (simp only [nums_len, lnB] <;> omega) | fail) only [ev0, ev1, ev2, ev3, ↓reduceIte, reduceCtorEq, zaa, zab, zac, zad, zae, zaf, zag, zah, zai, zaj, zak, zal, zam, zan, zao, zap, zaq, ↓zar, ↓zas, zat, zau, zav, zaw, zax, zay, zaz, zba, zbb, zbc, zbd, zbe, zbf, zbg, zbh, zbi, zbj, zbk, zbl, zbm, zbn, zbo, zbp, zbq, zbr, zbs, zbt, zbu, zbv, zbw, zbx, zby, zbz, zca, zcb, zcc, zcd, zce, zcf, zcg, zch, zci, zcj, zck, zcl, zcm, zcn, zco, zcp, zcq, zcr, zcs, zct, zcu, zcv, zcw, zcx, zcy, zcz, zda, zdb, zdc, zdd, zde, zdf, zdg, zdh, zdi, zdj, zdk, zdl, zdm, ev5, tbNp0, globS, List.drop_zero, List.size_toArray, Array.size_empty, List.length_nil, List.nil_append, Nat.zero_add, List.map_nil, List.all_nil, Int.reduceBEq, Int.reduceBNe, beq_self_eq_true, s5, s0, s4, s2, b4, b2, hat, d1, d2, d3]
          exact ⟨l.length - (j + 1), by omega, j + 1, ⟨sh, sv, si, st, sf, es⟩, gl, by omega, rfl, by rw [hfs, foldSR]; rw [if_neg k1, if_neg k2]; exact if_neg k3, rfl, rfl, rfl, u1, u2, u3⟩
        · have hj : j = l.length := by omega
          subst hj
          rw [foldLR, hk] at hr
          cases hr
          cases es with
          | none =>
            simp (maxSteps := 1000000) (disch := first | omega | (simp only [nums_len, lnB] <;> omega) | fail) only [ev0, ev1, ev2, ev3, ↓reduceIte, reduceCtorEq, zaa, zab, zac, zad, zae, zaf, zag, zah, zai, zaj, zak, zal, zam, zan, zao, zap, zaq, ↓zar, ↓zas, zat, zau, zav, zaw, zax, zay, zaz, zba, zbb, zbc, zbd, zbe, zbf, zbg, zbh, zbi, zbj, zbk, zbl, zbm, zbn, zbo, zbp, zbq, zbr, zbs, zbt, zbu, zbv, zbw, zbx, zby, zbz, zca, zcb, zcc, zcd, zce, zcf, zcg, zch, zci, zcj, zck, zcl, zcm, zcn, zco, zcp, zcq, zcr, zcs, zct, zcu, zcv, zcw, zcx, zcy, zcz, zda, zdb, zdc, zdd, zde, zdf, zdg, zdh, zdi, zdj, zdk, zdl, zdm, ev5, tbNp0, globS, List.drop_zero, List.size_toArray, Array.size_empty, List.length_nil, List.nil_append, Nat.zero_add, List.map_nil, List.all_nil, Int.reduceBEq, Int.reduceBNe, beq_self_eq_true, s5, s0, s4, s2, b4, b2]
            exact ResQ.same rfl
          | some e =>
            simp (maxSteps := 1000000) (disch := first | omega | (simp only [nums_len, lnB] <;> omega) | fail) only [ev0, ev1, ev2, ev3, ↓reduceIte, reduceCtorEq, zaa, zab, zac, zad, zae, zaf, zag, zah, zai, zaj, zak, zal, zam, zan, zao, zap, zaq, ↓zar, ↓zas, zat, zau, zav, zaw, zax, zay, zaz, zba, zbb, zbc, zbd, zbe, zbf, zbg, zbh, zbi, zbj, zbk, zbl, zbm, zbn, zbo, zbp, zbq, zbr, zbs, zbt, zbu, zbv, zbw, zbx, zby, zbz, zca, zcb, zcc, zcd, zce, zcf, zcg, zch, zci, zcj, zck, zcl, zcm, zcn, zco, zcp, zcq, zcr, zcs, zct, zcu, zcv, zcw, zcx, zcy, zcz, zda, zdb, zdc, zdd, zde, zdf, zdg, zdh, zdi, zdj, zdk, zdl, zdm, ev5, tbNp0, globS, List.drop_zero, List.size_toArray, Array.size_empty, List.length_nil, List.nil_append, Nat.zero_add, List.map_nil, List.all_nil, Int.reduceBEq, Int.reduceBNe, beq_self_eq_true, s5, s0, s4, s2, b4, b2]
            exact ResQ.same rfl
    · cases hr
  · cases hr
end Go.Proofs.YtddeffdgldjdjaaDoor.W
