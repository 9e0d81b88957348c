/- A key's blocks, as the document makes them: what the walk comes to. -/
import Derived.Test.YtddeffdgldjdjaaDoorVc
namespace Go.Proofs.YtddeffdgldjdjaaDoor
set_option linter.unusedSimpArgs false
set_option linter.unusedVariables false
set_option linter.defProp false
open Go Go.Abs
open Nat renaming reduceAdd → zaa, reduceSub → zab, reduceMul → zac, reduceLT → zad, reduceLeDiff → zae, reduceEqDiff → zaf, reduceBEq → zag
open BitVec renaming reduceOfInt → zah
open Int renaming reduceLE → zai, reduceLT → zaj, reduceGT → zak, reduceGE → zal, reduceNeg → zam, reduceAdd → zan, reduceSub → zao, reduceMul → zap, reduceToNat → zaq
open Go.Abs renaming bind_go → zar, map_go → zas, wantedV → zat, isWrite → zau, grow → zav, write → zaw, ofV → zax, start → zaz, strip → zba, endQ → zbb, resV → zbc, rawsRes → zbd, rawRes → zbe, exports → zbf, export1 → zbg, isSelf → zbl, convSelf → zbm, convV → zbn, loadV → zbo, storeV → zbp, fieldAddrV → zbq, fieldV → zbr, indexAddrV → zbs, indexV → zbt, partV → zbu, isAggK → zbv, isStr → zbw, place → zbx, lenV → zby, min2V → zbz, makeV → zca, freshSl → zcb, sliceV → zcc, boundOr → zcd, bound → zce, bounds → zcf, cutFl → zcg, copyV → zch, slCells → zci, srcV → zcj, appendV → zck, room → zcl, zerosOf → zcm, eqNeg → zcn, kd → zco, takeR → zcp, hasViewL → zcq, hasView → zcr, freshR → zcs, freshC → zct, snapAll → zcu, snap → zcv, snapL → zcw, flatL → zcx, pureL → zcy, pureA → zcz, fillC → zda, arrOK → zdb, oneA → zdc, partB → zdd, ren1 → zdf, applyW → zdh, useL → zdi, isGen → zdk, startG → zdl
open Go.Abs.AV renaming cells → zay, laid → zde
open Go.Abs.AS renaming grown → zbh, put → zbi, mute → zdj
open Go.Abs.Env renaming know → zbj, boxed → zbk
open Go.Abs.CR renaming gr → zdg
set_option maxHeartbeats 64000000
/-- the i-th word -/
def wo (k : List (BitVec 8)) (i : Nat) : List (BitVec 8) := newW k (cK k i) i
theorem wrd_ins {l m : List (BitVec 8)} {i j : Nat} (hl : i * 4 + 4 ≤ l.length) (hm : m.length = 4) : wrd (l.take (i * 4) ++ m ++ l.drop (i * 4 + 4)) j = if j = i then m else wrd l j := by
  simp only [wrd]
  apply List.ext_getElem?
  intro x
  by_cases hx : x < 4
  · rw [List.getElem?_take_of_lt hx, List.getElem?_drop]
    by_cases e : j = i
    · subst e
      rw [if_pos rfl, List.append_assoc, List.getElem?_append_right (by rw [List.length_take]; omega), List.getElem?_append_left (by rw [List.length_take]; omega), List.length_take]
      congr 1
      omega
    · rw [if_neg e, List.getElem?_take_of_lt hx, List.getElem?_drop]
      by_cases h1 : j < i
      · rw [List.append_assoc, List.getElem?_append_left (by rw [List.length_take]; omega), List.getElem?_take_of_lt (by omega)]
      · rw [List.getElem?_append_right (by rw [List.length_append, List.length_take]; omega), List.getElem?_drop, List.length_append, List.length_take, hm]
        congr 1
        omega
  · rw [List.getElem?_eq_none (by rw [List.length_take]; omega)]
    split
    · rw [List.getElem?_eq_none (by omega)]
    · rw [List.getElem?_eq_none (by rw [List.length_take]; omega)]
theorem wrd_cK {k : List (BitVec 8)} (hk : k.length = 32) : ∀ i, i ≤ 60 → ∀ j, j < i → wrd (cK k i) j = wo k j
  | 0, _, j, h => absurd h (Nat.not_lt_zero _)
  | i + 1, hi, j, hj => by
    have hl := cK_len hk (show i ≤ 60 by omega)
    rw [cK, wrd_ins (by omega) (newW_len hk hl (by omega))]
    by_cases e : j = i
    · subst e; rw [if_pos rfl]; rfl
    · rw [if_neg e, wrd_cK hk i (by omega) j (by omega)]
theorem wo_len {k : List (BitVec 8)} (hk : k.length = 32) {i : Nat} (hi : i < 60) : (wo k i).length = 4 := newW_len hk (cK_len hk (by omega)) hi
/-- what the i-th word is mixed of, by words -/
def midO (k : List (BitVec 8)) (i : Nat) : List (BitVec 8) :=
  if i % 8 = 0 then (turned (wo k (i - 1))).set 0 ((turned (wo k (i - 1))).getD 0 0#8 ^^^ pwK i)
  else if i % 8 = 4 then boxedF (wo k (i - 1)) else wo k (i - 1)
theorem wo_low {k : List (BitVec 8)} {i : Nat} (h : i < 8) : wo k i = (k.drop (4 * i)).take 4 := by rw [wo, newW, if_pos h]
theorem wrd_get (l : List (BitVec 8)) (i : Nat) {j : Nat} (hj : j < 4) : (wrd l i).getD j 0#8 = l.getD (i * 4 + j) 0#8 := by
  rw [wrd, List.getD_eq_getElem?_getD, List.getElem?_take_of_lt hj, List.getElem?_drop, ← List.getD_eq_getElem?_getD]
theorem wo_high {k : List (BitVec 8)} (hk : k.length = 32) {i : Nat} (h : 8 ≤ i) (h60 : i < 60) : wo k i = xor4 (midO k i) (wo k (i - 8)) 0 := by
  have e : midW (cK k i) i = midO k i := by rw [midW, midO, wrd_cK hk i (by omega) (i - 1) (by omega)]
  rw [wo, newW, if_neg (by omega), e, ← wrd_cK hk i (by omega) (i - 8) (by omega)]
  simp only [xor4, Nat.zero_add]
  rw [wrd_get _ _ (by omega), wrd_get _ _ (by omega), wrd_get _ _ (by omega), wrd_get _ _ (by omega)]
  rfl
theorem set4_is {l : List (BitVec 8)} {m : Nat} {a b c d : BitVec 8} (h : m + 4 ≤ l.length) : (((l.set m a).set (m + 1) b).set (m + 2) c).set (m + 3) d = l.take m ++ [a, b, c, d] ++ l.drop (m + 4) := by
  apply List.ext_getElem?
  intro x
  by_cases h3 : x = m + 3
  · subst h3
    rw [List.getElem?_set_self (by simp only [List.length_set]; omega), List.append_assoc, List.getElem?_append_right (by rw [List.length_take]; omega), List.length_take, show m + 3 - min m l.length = 3 by omega]
    rfl
  · rw [List.getElem?_set_ne (by omega)]
    by_cases h2 : x = m + 2
    · subst h2
      rw [List.getElem?_set_self (by simp only [List.length_set]; omega), List.append_assoc, List.getElem?_append_right (by rw [List.length_take]; omega), List.length_take, show m + 2 - min m l.length = 2 by omega]
      rfl
    · rw [List.getElem?_set_ne (by omega)]
      by_cases h1 : x = m + 1
      · subst h1
        rw [List.getElem?_set_self (by simp only [List.length_set]; omega), List.append_assoc, List.getElem?_append_right (by rw [List.length_take]; omega), List.length_take, show m + 1 - min m l.length = 1 by omega]
        rfl
      · rw [List.getElem?_set_ne (by omega)]
        by_cases h0 : x = m
        · subst h0
          rw [List.getElem?_set_self (by omega), List.append_assoc, List.getElem?_append_right (by rw [List.length_take]; omega), List.length_take, show x - min x l.length = 0 by omega]
          rfl
        · rw [List.getElem?_set_ne (by omega)]
          by_cases hlt : x < m
          · rw [List.append_assoc, List.getElem?_append_left (by rw [List.length_take]; omega), List.getElem?_take_of_lt hlt]
          · rw [List.getElem?_append_right (by rw [List.length_append, List.length_take]; simp only [List.length_cons, List.length_nil]; omega), List.getElem?_drop, List.length_append, List.length_take]
            simp only [List.length_cons, List.length_nil]
            congr 1
            omega
theorem list4 {α : Type} {l : List α} (h : l.length = 4) : ∃ a b c d, l = [a, b, c, d] := by
  match l, h with
  | [a, b, c, d], _ => exact ⟨a, b, c, d, rfl⟩
def NameB (gn : Nat → Nat) (b : Bx) : Prop := b = .own 0 1 1 ∨ ∃ s g, b = .own 0 s g ∧ (s = 33 ∨ s = 55 ∨ s = 77) ∧ g ≤ gn s
/-- a word that stands somewhere -/
def At (bx : Boxes) (gn : Nat → Nat) (v : Option AV) (m : List (BitVec 8)) : Prop := ∃ b o c ys, v = some (.view b o 4 c 1) ∧ 4 ≤ c ∧ bx b = some (nums .u8 ys) ∧ o + 4 ≤ ys.length ∧ (ys.drop o).take 4 = m ∧ NameB gn b
theorem At.keep {bx bx' : Boxes} {gn gn' : Nat → Nat} {v : Option AV} {m : List (BitVec 8)} (h : At bx gn v m) (hb : ∀ b, NameB gn b → bx' b = bx b) (hg : ∀ s, gn s ≤ gn' s) : At bx' gn' v m := by
  obtain ⟨b, o, c, ys, h1, h2, h3, h4, h5, h6⟩ := h
  refine ⟨b, o, c, ys, h1, h2, by rw [hb b h6, h3], h4, h5, ?_⟩
  rcases h6 with h6 | ⟨s, g, e, hs, hl⟩
  · exact .inl h6
  · exact .inr ⟨s, g, e, hs, Nat.le_trans hl (hg s)⟩
theorem At.of {bx : Boxes} {gn : Nat → Nat} {s g : Nat} {m : List (BitVec 8)} (hb : bx (.own 0 s g) = some (nums .u8 m)) (hl : m.length = 4) (hs : s = 33 ∨ s = 55 ∨ s = 77) (hg : g ≤ gn s) : At bx gn (some (.view (.own 0 s g) 0 4 4 1)) m :=
  ⟨_, _, _, _, rfl, Nat.le_refl _, hb, by omega, by rw [List.drop_zero, List.take_of_length_le (by omega)], .inr ⟨s, g, rfl, hs, hg⟩⟩
theorem NameB.ne {gn : Nat → Nat} {b : Bx} (h : NameB gn b) {s : Nat} {g : Nat} (hg : gn s < g) (h1 : s ≠ 1) : (b = .own 0 s g) = False := by
  rw [eq_iff_iff, iff_false]
  rintro rfl
  rcases h with h | ⟨s', g', e, _, hl⟩
  · rw [Bx.own.injEq] at h; omega
  · rw [Bx.own.injEq] at e
    obtain ⟨_, rfl, rfl⟩ := e
    omega
theorem NameB.ne11 {gn : Nat → Nat} {b : Bx} (h : NameB gn b) {g : Nat} : (b = .own 0 11 g) = False := by
  rw [eq_iff_iff, iff_false]
  rintro rfl
  rcases h with h | ⟨s', g', e, hs, hl⟩
  · rw [Bx.own.injEq] at h; omega
  · rw [Bx.own.injEq] at e; omega
theorem NameB.ne8 {gn : Nat → Nat} {b : Bx} (h : NameB gn b) {g : Nat} : (b = .own 0 8 g) = False := by
  rw [eq_iff_iff, iff_false]
  rintro rfl
  rcases h with h | ⟨s', g', e, hs, hl⟩
  · rw [Bx.own.injEq] at h; omega
  · rw [Bx.own.injEq] at e; omega
theorem set_view {vs : List AV} {i : Nat} {x : AV} : ∀ j, j ≠ i → (vs.set i x)[j]? = vs[j]? := fun j h => List.getElem?_set_ne (Ne.symm h)
theorem At.get {ys m : List (BitVec 8)} {o : Nat} (h : (ys.drop o).take 4 = m) {j : Nat} (hj : j < 4) : ys.getD (o + j) 0#8 = m.getD j 0#8 := by
  rw [← h, List.getD_eq_getElem?_getD, List.getD_eq_getElem?_getD, List.getElem?_take_of_lt hj, List.getElem?_drop]
def expMu (d : Nat) : Bool := d == 11 || d == 27 || d == 33 || d == 55 || d == 77
noncomputable def EX : Env := EB3.boxed expMu
theorem okX : EnvOK Tryd.prog EX := okB3.boxed _
theorem EX_te : EX.te = te := rfl
theorem EX_glob : EX.glob = glob := rfl
theorem EX_gs : EX.gs = [] := rfl
theorem EX_dyn : EX.dyn = false := rfl
theorem EX_mu (d : Nat) : EX.mu d = expMu d := rfl
theorem EX_m : EX.tbl 151 = some (.val pf151) := rfl
theorem EX_b : EX.tbl 150 = some (.val pf150) := rfl
theorem mu11 : expMu 11 = true := rfl
theorem mu27 : expMu 27 = true := rfl
theorem mu33 : expMu 33 = true := rfl
theorem mu55 : expMu 55 = true := rfl
theorem mu77 : expMu 77 = true := rfl
theorem mu40 : expMu 40 = false := rfl
theorem mu46 : expMu 46 = false := rfl
theorem mu50 : expMu 50 = false := rfl
theorem mu54 : expMu 54 = false := rfl
theorem mu57 : expMu 57 = false := rfl
theorem mu64 : expMu 64 = false := rfl
theorem mu68 : expMu 68 = false := rfl
theorem mu72 : expMu 72 = false := rfl
theorem mu76 : expMu 76 = false := rfl
theorem lit4 {a b c d : BitVec 8} : [AV.raw (.int .u8 (a.toNat : Int)), .raw (.int .u8 (b.toNat : Int)), .raw (.int .u8 (c.toNat : Int)), .raw (.int .u8 (d.toNat : Int))] = nums .u8 [a, b, c, d] := rfl
def pf123 : List AV → Option AV
  | [v] => (agg? .u8 8 32 v).bind fun k => some (.agg (nums .u8 (expF k)))
  | _ => none
def tbVe0 := (And.intro (And.intro (And.intro (And.intro @teE (And.intro @evY @EX_te)) (And.intro (And.intro @EX_glob @EX_gs) (And.intro @EX_dyn @EX_mu))) (And.intro (And.intro @EX_m (And.intro @EX_b @mu11)) (And.intro (And.intro @mu27 @mu33) (And.intro @mu55 @mu77)))) (And.intro (And.intro (And.intro @mu40 (And.intro @mu46 @mu50)) (And.intro (And.intro @mu54 @mu57) (And.intro @mu64 @mu68))) (And.intro (And.intro (And.intro @mu72 @mu76) (And.intro @mul1_2 @box1_at)) (And.intro (And.intro @lit4 @nums_strip) (And.intro @nums_set8 @getD_set8)))))
set_option maxRecDepth 20000 in
theorem sound123 : SoundV Tryd.prog glob 123 pf123 := by
  refine SoundV.walkY EX [(2, 5), (6, 5)] okX mixed Tryd.func123 rfl Tryd.call123 (by kernel_rfl) ?_
  intro args r hr
  unfold pf123 at hr
  split at hr
  · simp only [Option.bind_eq_some_iff] at hr
    obtain ⟨k, h1, hr⟩ := hr
    cases hr
    obtain ⟨rfl, hk⟩ := agg?_of h1
    rw [Tryd.ntmps123, Tryd.results123]
    refine ⟨by simp, ?_⟩
    simp (maxSteps := 1000000) (disch := first | omega | (simp only [updB, updI, dsB, reduceCtorEq, Nat.reduceEqDiff, Abs.Id.mk.injEq, and_false, false_and, and_true, true_and, if_false, ↓reduceIte, Option.isSome_some, *]; done) | (simp only [xor4_len, lnB] <;> omega) | fail) only [ev0, ev1, ev2, ev3, ↓reduceIte, reduceCtorEq, zaa, zab, zac, zad, zae, zaf, zag, zah, zai, zaj, zak, zal, zam, zan, zao, zap, zaq, ↓zar, ↓zas, zat, zau, zav, zaw, zax, zay, zaz, zba, zbb, zbc, zbd, zbe, zbf, zbg, zbh, zbi, zbj, zbk, zbl, zbm, zbn, zbo, zbp, zbq, zbr, zbs, zbt, zbu, zbv, zbw, zbx, zby, zbz, zca, zcb, zcc, zcd, zce, zcf, zcg, zch, zci, zcj, zck, zcl, zcm, zcn, zco, zcp, zcq, zcr, zcs, zct, zcu, zcv, zcw, zcx, zcy, zcz, zda, zdb, zdc, zdd, zde, zdf, zdg, zdh, zdi, zdj, zdk, zdl, ev5, tbVe0, glob, Nat.reduceMod, Bx.own.injEq, and_false, false_and, and_true, true_and, hk]
    refine loopQ_of (fun n σ => ∃ i, i ≤ 60 ∧ n = 60 - i ∧ σ.slots 5 = .raw (.int .i64 (i : Int)) ∧ σ.slots 4 = .raw (.int .u8 ((pwK i).toNat : Int)) ∧ σ.slots 1 = .ptr (.own 0 1 1) 0 ∧ σ.slots 2 = .ptr (.own 0 2 1) 0 ∧ σ.slots 3 = .view (.own 0 11 1) 0 60 60 1 ∧ σ.box (.own 0 1 1) = some (nums .u8 k) ∧ σ.box (.own 0 2 1) = some (nums .u8 (List.replicate 240 0#8)) ∧ ∃ vs : List AV, vs.length = 60 ∧ σ.box (.own 0 11 1) = some vs ∧ ∀ j, j < i → At σ.box σ.gen vs[j]? (wo k j)) 60 ?_ ?_
    · refine ⟨0, by omega, by omega, ?_⟩
      simp (maxSteps := 1000000) (disch := first | omega | (simp only [updB, updI, dsB, reduceCtorEq, Nat.reduceEqDiff, Abs.Id.mk.injEq, and_false, false_and, and_true, true_and, if_false, ↓reduceIte, Option.isSome_some, *]; done) | (simp only [xor4_len, lnB] <;> omega) | fail) only [ev0, ev1, ev2, ev3, ↓reduceIte, reduceCtorEq, zaa, zab, zac, zad, zae, zaf, zag, zah, zai, zaj, zak, zal, zam, zan, zao, zap, zaq, ↓zar, ↓zas, zat, zau, zav, zaw, zax, zay, zaz, zba, zbb, zbc, zbd, zbe, zbf, zbg, zbh, zbi, zbj, zbk, zbl, zbm, zbn, zbo, zbp, zbq, zbr, zbs, zbt, zbu, zbv, zbw, zbx, zby, zbz, zca, zcb, zcc, zcd, zce, zcf, zcg, zch, zci, zcj, zck, zcl, zcm, zcn, zco, zcp, zcq, zcr, zcs, zct, zcu, zcv, zcw, zcx, zcy, zcz, zda, zdb, zdc, zdd, zde, zdf, zdg, zdh, zdi, zdj, zdk, zdl, ev5, tbVe0, glob, Nat.reduceMod, Bx.own.injEq, and_false, false_and, and_true, true_and, hk]
      exact ⟨rfl, rfl, _, rep_length _ _, rfl, fun j hj => absurd hj (Nat.not_lt_zero _)⟩
    · rintro n ⟨sl, gn, bx, us⟩ ⟨i, hi, rfl, s5, s4, s1, s2, s3, b1, b2, vs, lv, b11, hA⟩
      dsimp only at s5 s4 s1 s2 s3 b1 b2 b11 hA
      have hp : pwK (i + 1) = if 8 ≤ i ∧ i % 8 = 0 then t2 (pwK i) else pwK i := rfl
      simp (maxSteps := 1000000) (disch := first | omega | (simp only [updB, updI, dsB, reduceCtorEq, Nat.reduceEqDiff, Abs.Id.mk.injEq, and_false, false_and, and_true, true_and, if_false, ↓reduceIte, Option.isSome_some, *]; done) | (simp only [xor4_len, lnB] <;> omega) | fail) only [ev0, ev1, ev2, ev3, ↓reduceIte, reduceCtorEq, zaa, zab, zac, zad, zae, zaf, zag, zah, zai, zaj, zak, zal, zam, zan, zao, zap, zaq, ↓zar, ↓zas, zat, zau, zav, zaw, zax, zay, zaz, zba, zbb, zbc, zbd, zbe, zbf, zbg, zbh, zbi, zbj, zbk, zbl, zbm, zbn, zbo, zbp, zbq, zbr, zbs, zbt, zbu, zbv, zbw, zbx, zby, zbz, zca, zcb, zcc, zcd, zce, zcf, zcg, zch, zci, zcj, zck, zcl, zcm, zcn, zco, zcp, zcq, zcr, zcs, zct, zcu, zcv, zcw, zcx, zcy, zcz, zda, zdb, zdc, zdd, zde, zdf, zdg, zdh, zdi, zdj, zdk, zdl, ev5, tbVe0, glob, Nat.reduceMod, Bx.own.injEq, and_false, false_and, and_true, true_and, s5, s4, s1, s2, s3, b1, b2, b11, lv, hk]
      refine condQ_dec (fun hlt => ?_) (fun hge => ?_)
      · have hlt : i < 60 := by omega
        simp (maxSteps := 1000000) (disch := first | omega | (simp only [updB, updI, dsB, reduceCtorEq, Nat.reduceEqDiff, Abs.Id.mk.injEq, and_false, false_and, and_true, true_and, if_false, ↓reduceIte, Option.isSome_some, *]; done) | (simp only [xor4_len, lnB] <;> omega) | fail) only [ev0, ev1, ev2, ev3, ↓reduceIte, reduceCtorEq, zaa, zab, zac, zad, zae, zaf, zag, zah, zai, zaj, zak, zal, zam, zan, zao, zap, zaq, ↓zar, ↓zas, zat, zau, zav, zaw, zax, zay, zaz, zba, zbb, zbc, zbd, zbe, zbf, zbg, zbh, zbi, zbj, zbk, zbl, zbm, zbn, zbo, zbp, zbq, zbr, zbs, zbt, zbu, zbv, zbw, zbx, zby, zbz, zca, zcb, zcc, zcd, zce, zcf, zcg, zch, zci, zcj, zck, zcl, zcm, zcn, zco, zcp, zcq, zcr, zcs, zct, zcu, zcv, zcw, zcx, zcy, zcz, zda, zdb, zdc, zdd, zde, zdf, zdg, zdh, zdi, zdj, zdk, zdl, ev5, tbVe0, glob, Nat.reduceMod, Bx.own.injEq, and_false, false_and, and_true, true_and, s5, s4, s1, s2, s3, b1, b2, b11, lv, hk]
        refine condQ_dec (fun h8 => ?_) (fun h8 => ?_)
        · have h8 : i < 8 := by omega
          have e1 : (32 = 4 * i) = False := eq_false (by omega)
          have e2 : 4 * i + 4 - 4 * i = 4 := by omega
          rw [if_neg (by omega)] at hp
          simp (maxSteps := 1000000) (disch := first | omega | (simp only [updB, updI, dsB, reduceCtorEq, Nat.reduceEqDiff, Abs.Id.mk.injEq, and_false, false_and, and_true, true_and, if_false, ↓reduceIte, Option.isSome_some, *]; done) | (simp only [xor4_len, lnB] <;> omega) | fail) only [ev0, ev1, ev2, ev3, ↓reduceIte, reduceCtorEq, zaa, zab, zac, zad, zae, zaf, zag, zah, zai, zaj, zak, zal, zam, zan, zao, zap, zaq, ↓zar, ↓zas, zat, zau, zav, zaw, zax, zay, zaz, zba, zbb, zbc, zbd, zbe, zbf, zbg, zbh, zbi, zbj, zbk, zbl, zbm, zbn, zbo, zbp, zbq, zbr, zbs, zbt, zbu, zbv, zbw, zbx, zby, zbz, zca, zcb, zcc, zcd, zce, zcf, zcg, zch, zci, zcj, zck, zcl, zcm, zcn, zco, zcp, zcq, zcr, zcs, zct, zcu, zcv, zcw, zcx, zcy, zcz, zda, zdb, zdc, zdd, zde, zdf, zdg, zdh, zdi, zdj, zdk, zdl, ev5, tbVe0, glob, Nat.reduceMod, Bx.own.injEq, and_false, false_and, and_true, true_and, s5, s4, s1, s2, s3, b1, b2, b11, lv, hk, e1, e2]
          refine ⟨60 - (i + 1), by omega, i + 1, by omega, rfl, rfl, ?_, _, ?_, rfl, fun j hj => ?_⟩
          · rw [hp]
          · rw [List.length_set, lv]
          · by_cases e : j = i
            · subst e
              rw [List.getElem?_set_self (by omega)]
              refine ⟨_, _, _, _, rfl, by omega, ?_, ?_, (wo_low h8).symm, .inl rfl⟩
              · simp only [updB]
                rw [if_neg (by simp), b1]
              · rw [hk]; omega
            · rw [set_view j e]
              refine (hA j (by omega)).keep (fun b hb => ?_) (fun s => Nat.le_refl _)
              simp only [updB]
              rw [if_neg (fun h => by rw [hb.ne11] at h; exact h)]
        · have h8 : 8 ≤ i := by omega
          obtain ⟨bp, op, cp, yp, v1, c1, x1, l1, h1', n1⟩ := hA (i - 1) (by omega)
          obtain ⟨bq, oq, cq, yq, v2, c2, x2, l2, h2', n2⟩ := hA (i - 8) (by omega)
          have lp := wo_len hk (show i - 1 < 60 by omega)
          have lq := wo_len hk (show i - 8 < 60 by omega)
          have g0 := At.get h2' (show 0 < 4 by omega)
          have g1 := At.get h2' (show 1 < 4 by omega)
          have g2 := At.get h2' (show 2 < 4 by omega)
          have g3 := At.get h2' (show 3 < 4 by omega)
          rw [Nat.add_zero] at g0
          have hH := wo_high hk h8 hlt
          have p33 := n1.ne (s := 33) (g := gn 33 + 1) (by omega) (by omega)
          have q33 := n2.ne (s := 33) (g := gn 33 + 1) (by omega) (by omega)
          have q55 := n2.ne (s := 55) (g := gn 55 + 1) (by omega) (by omega)
          have q77 := n2.ne (s := 77) (g := gn 77 + 1) (by omega) (by omega)
          obtain ⟨p, hpp⟩ : ∃ p, wo k (i - 1) = p := ⟨_, rfl⟩
          obtain ⟨q, hqq⟩ : ∃ q, wo k (i - 8) = q := ⟨_, rfl⟩
          rw [hpp] at h1' lp
          rw [hqq] at h2' lq g0 g1 g2 g3
          have e8 : min 4 (yp.length - op) = 4 := by omega
          by_cases m0 : i % 8 = 0
          · have e1 : ((i : Int) % 8 == 0) = true := beq_iff_eq.2 (by omega)
            have e2 : ((i : Int) % 8 == 4) = false := beq_eq_false_iff_ne.2 (by omega)
            have hW : wo k i = xor4 ((turned p).set 0 ((turned p).getD 0 0#8 ^^^ pwK i)) q 0 := by rw [hH, hqq, midO, if_pos m0, hpp]
            rw [if_pos ⟨h8, m0⟩] at hp
            simp (maxSteps := 1000000) (disch := first | omega | (simp only [updB, updI, dsB, reduceCtorEq, Nat.reduceEqDiff, Abs.Id.mk.injEq, and_false, false_and, and_true, true_and, if_false, ↓reduceIte, Option.isSome_some, *]; done) | (simp only [xor4_len, lnB] <;> omega) | fail) only [ev0, ev1, ev2, ev3, ↓reduceIte, reduceCtorEq, zaa, zab, zac, zad, zae, zaf, zag, zah, zai, zaj, zak, zal, zam, zan, zao, zap, zaq, ↓zar, ↓zas, zat, zau, zav, zaw, zax, zay, zaz, zba, zbb, zbc, zbd, zbe, zbf, zbg, zbh, zbi, zbj, zbk, zbl, zbm, zbn, zbo, zbp, zbq, zbr, zbs, zbt, zbu, zbv, zbw, zbx, zby, zbz, zca, zcb, zcc, zcd, zce, zcf, zcg, zch, zci, zcj, zck, zcl, zcm, zcn, zco, zcp, zcq, zcr, zcs, zct, zcu, zcv, zcw, zcx, zcy, zcz, zda, zdb, zdc, zdd, zde, zdf, zdg, zdh, zdi, zdj, zdk, zdl, ev5, tbVe0, glob, Nat.reduceMod, Bx.own.injEq, and_false, false_and, and_true, true_and, s5, s4, s1, s2, s3, b1, b2, b11, lv, hk, v1, x1, v2, x2, h1', g0, g1, g2, g3, p33, q33, q55, q77, e1, e2, e8, lp, lq, mul1_two]
            refine ⟨60 - (i + 1), by omega, i + 1, by omega, rfl, rfl, ?_, _, ?_, rfl, fun j hj => ?_⟩
            · rw [hp]
            · rw [List.length_set, lv]
            · by_cases e : j = i
              · subst e
                rw [List.getElem?_set_self (by omega), hW]
                refine At.of ?_ ?_ (by omega) ?_
                · simp only [updB]
                  rw [if_neg (by simp), if_pos trivial]
                  rfl
                · rw [xor4_len]
                  simp only [List.length_set, turned, boxedF_len, lp]
                · simp [upd]
              · rw [set_view j e]
                refine (hA j (by omega)).keep (fun b hb => ?_) (fun s => ?_)
                · have f33 := hb.ne (s := 33) (g := gn 33 + 1) (by omega) (by omega)
                  have f55 := hb.ne (s := 55) (g := gn 55 + 1) (by omega) (by omega)
                  have f77 := hb.ne (s := 77) (g := gn 77 + 1) (by omega) (by omega)
                  have f11 := hb.ne11 (g := 1)
                  simp only [updB, f33, f55, f77, f11, if_false]
                · unfold upd
                  repeat' split
                  all_goals first | omega | (subst_vars; omega)
          · have e1 : ((i : Int) % 8 == 0) = false := beq_eq_false_iff_ne.2 (by omega)
            rw [if_neg (fun h => m0 h.2)] at hp
            by_cases m4 : i % 8 = 4
            · have e2 : ((i : Int) % 8 == 4) = true := beq_iff_eq.2 (by omega)
              have hW : wo k i = xor4 (boxedF p) q 0 := by rw [hH, hqq, midO, if_neg m0, if_pos m4, hpp]
              simp (maxSteps := 1000000) (disch := first | omega | (simp only [updB, updI, dsB, reduceCtorEq, Nat.reduceEqDiff, Abs.Id.mk.injEq, and_false, false_and, and_true, true_and, if_false, ↓reduceIte, Option.isSome_some, *]; done) | (simp only [xor4_len, lnB] <;> omega) | fail) only [ev0, ev1, ev2, ev3, ↓reduceIte, reduceCtorEq, zaa, zab, zac, zad, zae, zaf, zag, zah, zai, zaj, zak, zal, zam, zan, zao, zap, zaq, ↓zar, ↓zas, zat, zau, zav, zaw, zax, zay, zaz, zba, zbb, zbc, zbd, zbe, zbf, zbg, zbh, zbi, zbj, zbk, zbl, zbm, zbn, zbo, zbp, zbq, zbr, zbs, zbt, zbu, zbv, zbw, zbx, zby, zbz, zca, zcb, zcc, zcd, zce, zcf, zcg, zch, zci, zcj, zck, zcl, zcm, zcn, zco, zcp, zcq, zcr, zcs, zct, zcu, zcv, zcw, zcx, zcy, zcz, zda, zdb, zdc, zdd, zde, zdf, zdg, zdh, zdi, zdj, zdk, zdl, ev5, tbVe0, glob, Nat.reduceMod, Bx.own.injEq, and_false, false_and, and_true, true_and, s5, s4, s1, s2, s3, b1, b2, b11, lv, hk, v1, x1, v2, x2, h1', g0, g1, g2, g3, p33, q33, q55, q77, e1, e2, e8, lp, lq, mul1_two]
              refine ⟨60 - (i + 1), by omega, i + 1, by omega, rfl, rfl, ?_, _, ?_, rfl, fun j hj => ?_⟩
              · rw [hp]
              · rw [List.length_set, lv]
              · by_cases e : j = i
                · subst e
                  rw [List.getElem?_set_self (by omega), hW]
                  refine At.of ?_ ?_ (by omega) ?_
                  · simp only [updB]
                    rw [if_neg (by simp), if_pos trivial]
                    rfl
                  · rw [xor4_len]
                    simp only [List.length_set, turned, boxedF_len, lp]
                  · simp [upd]
                · rw [set_view j e]
                  refine (hA j (by omega)).keep (fun b hb => ?_) (fun s => ?_)
                  · have f33 := hb.ne (s := 33) (g := gn 33 + 1) (by omega) (by omega)
                    have f55 := hb.ne (s := 55) (g := gn 55 + 1) (by omega) (by omega)
                    have f77 := hb.ne (s := 77) (g := gn 77 + 1) (by omega) (by omega)
                    have f11 := hb.ne11 (g := 1)
                    simp only [updB, f33, f55, f77, f11, if_false]
                  · unfold upd
                    repeat' split
                    all_goals first | omega | (subst_vars; omega)
            · have e2 : ((i : Int) % 8 == 4) = false := beq_eq_false_iff_ne.2 (by omega)
              have hW : wo k i = xor4 p q 0 := by rw [hH, hqq, midO, if_neg m0, if_neg m4, hpp]
              simp (maxSteps := 1000000) (disch := first | omega | (simp only [updB, updI, dsB, reduceCtorEq, Nat.reduceEqDiff, Abs.Id.mk.injEq, and_false, false_and, and_true, true_and, if_false, ↓reduceIte, Option.isSome_some, *]; done) | (simp only [xor4_len, lnB] <;> omega) | fail) only [ev0, ev1, ev2, ev3, ↓reduceIte, reduceCtorEq, zaa, zab, zac, zad, zae, zaf, zag, zah, zai, zaj, zak, zal, zam, zan, zao, zap, zaq, ↓zar, ↓zas, zat, zau, zav, zaw, zax, zay, zaz, zba, zbb, zbc, zbd, zbe, zbf, zbg, zbh, zbi, zbj, zbk, zbl, zbm, zbn, zbo, zbp, zbq, zbr, zbs, zbt, zbu, zbv, zbw, zbx, zby, zbz, zca, zcb, zcc, zcd, zce, zcf, zcg, zch, zci, zcj, zck, zcl, zcm, zcn, zco, zcp, zcq, zcr, zcs, zct, zcu, zcv, zcw, zcx, zcy, zcz, zda, zdb, zdc, zdd, zde, zdf, zdg, zdh, zdi, zdj, zdk, zdl, ev5, tbVe0, glob, Nat.reduceMod, Bx.own.injEq, and_false, false_and, and_true, true_and, s5, s4, s1, s2, s3, b1, b2, b11, lv, hk, v1, x1, v2, x2, h1', g0, g1, g2, g3, p33, q33, q55, q77, e1, e2, e8, lp, lq, mul1_two]
              refine ⟨60 - (i + 1), by omega, i + 1, by omega, rfl, rfl, ?_, _, ?_, rfl, fun j hj => ?_⟩
              · rw [hp]
              · rw [List.length_set, lv]
              · by_cases e : j = i
                · subst e
                  rw [List.getElem?_set_self (by omega), hW]
                  refine At.of ?_ ?_ (by omega) ?_
                  · simp only [updB]
                    rw [if_neg (by simp), if_pos trivial]
                    rfl
                  · rw [xor4_len]
                    simp only [List.length_set, turned, boxedF_len, lp]
                  · simp [upd]
                · rw [set_view j e]
                  refine (hA j (by omega)).keep (fun b hb => ?_) (fun s => ?_)
                  · have f33 := hb.ne (s := 33) (g := gn 33 + 1) (by omega) (by omega)
                    have f55 := hb.ne (s := 55) (g := gn 55 + 1) (by omega) (by omega)
                    have f77 := hb.ne (s := 77) (g := gn 77 + 1) (by omega) (by omega)
                    have f11 := hb.ne11 (g := 1)
                    simp only [updB, f33, f55, f77, f11, if_false]
                  · unfold upd
                    repeat' split
                    all_goals first | omega | (subst_vars; omega)
      · have hi : i = 60 := by omega
        subst hi
        have lC := cK_len hk (show 60 ≤ 60 by omega)
        have hE : expF k = oK (cK k 60) 60 := (oK_all lC).symm
        rw [hE]
        simp (maxSteps := 1000000) (disch := first | omega | (simp only [updB, updI, dsB, reduceCtorEq, Nat.reduceEqDiff, Abs.Id.mk.injEq, and_false, false_and, and_true, true_and, if_false, ↓reduceIte, Option.isSome_some, *]; done) | (simp only [xor4_len, lnB] <;> omega) | fail) only [ev0, ev1, ev2, ev3, ↓reduceIte, reduceCtorEq, zaa, zab, zac, zad, zae, zaf, zag, zah, zai, zaj, zak, zal, zam, zan, zao, zap, zaq, ↓zar, ↓zas, zat, zau, zav, zaw, zax, zay, zaz, zba, zbb, zbc, zbd, zbe, zbf, zbg, zbh, zbi, zbj, zbk, zbl, zbm, zbn, zbo, zbp, zbq, zbr, zbs, zbt, zbu, zbv, zbw, zbx, zby, zbz, zca, zcb, zcc, zcd, zce, zcf, zcg, zch, zci, zcj, zck, zcl, zcm, zcn, zco, zcp, zcq, zcr, zcs, zct, zcu, zcv, zcw, zcx, zcy, zcz, zda, zdb, zdc, zdd, zde, zdf, zdg, zdh, zdi, zdj, zdk, zdl, ev5, tbVe0, glob, Nat.reduceMod, Bx.own.injEq, and_false, false_and, and_true, true_and, s5, s4, s1, s2, s3, b1, b2, b11, lv, hk]
        refine loopQ_of (fun n σ => ∃ i, i ≤ 60 ∧ n = 60 - i ∧ σ.slots 9 = .raw (.int .i64 (i : Int)) ∧ σ.slots 2 = .ptr (.own 0 2 1) 0 ∧ σ.slots 3 = .view (.own 0 11 1) 0 60 60 1 ∧ (∃ g, σ.slots 8 = .ptr (.own 0 8 g) 0 ∧ σ.box (.own 0 8 g) = some (nums .u8 (oK (cK k 60) i))) ∧ σ.box (.own 0 2 1) = some (nums .u8 (List.replicate 240 0#8)) ∧ σ.box (.own 0 11 1) = some vs ∧ ∀ j, j < 60 → At σ.box gn vs[j]? (wo k j)) 60 ?_ ?_
        · refine ⟨0, by omega, by omega, ?_⟩
          simp (maxSteps := 1000000) (disch := first | omega | (simp only [updB, updI, dsB, reduceCtorEq, Nat.reduceEqDiff, Abs.Id.mk.injEq, and_false, false_and, and_true, true_and, if_false, ↓reduceIte, Option.isSome_some, *]; done) | (simp only [xor4_len, lnB] <;> omega) | fail) only [ev0, ev1, ev2, ev3, ↓reduceIte, reduceCtorEq, zaa, zab, zac, zad, zae, zaf, zag, zah, zai, zaj, zak, zal, zam, zan, zao, zap, zaq, ↓zar, ↓zas, zat, zau, zav, zaw, zax, zay, zaz, zba, zbb, zbc, zbd, zbe, zbf, zbg, zbh, zbi, zbj, zbk, zbl, zbm, zbn, zbo, zbp, zbq, zbr, zbs, zbt, zbu, zbv, zbw, zbx, zby, zbz, zca, zcb, zcc, zcd, zce, zcf, zcg, zch, zci, zcj, zck, zcl, zcm, zcn, zco, zcp, zcq, zcr, zcs, zct, zcu, zcv, zcw, zcx, zcy, zcz, zda, zdb, zdc, zdd, zde, zdf, zdg, zdh, zdi, zdj, zdk, zdl, ev5, tbVe0, glob, Nat.reduceMod, Bx.own.injEq, and_false, false_and, and_true, true_and, s5, s4, s1, s2, s3, b1, b2, b11, lv, hk]
          refine ⟨rfl, ⟨gn 8 + 1, rfl, ?_⟩, fun j hj => (hA j hj).keep (fun b hb => ?_) (fun s => Nat.le_refl _)⟩
          · rw [if_pos rfl]
            rfl
          · simp only [updB, hb.ne8, if_false]
        · rintro n ⟨sl', gn', bx', us'⟩ ⟨i, hi, rfl, s9, s2, s3, ⟨g8, s8, b8⟩, b2, b11, hA⟩
          dsimp only at s9 s2 s3 s8 b8 b2 b11 hA
          have lO := oK_len lC hi
          have hO : oK (cK k 60) (i + 1) = (oK (cK k 60) i).take (4 * i) ++ wrd (cK k 60) i ++ (oK (cK k 60) i).drop (4 * i + 4) := rfl
          generalize ho : oK (cK k 60) i = o at b8 lO hO
          simp (maxSteps := 1000000) (disch := first | omega | (simp only [updB, updI, dsB, reduceCtorEq, Nat.reduceEqDiff, Abs.Id.mk.injEq, and_false, false_and, and_true, true_and, if_false, ↓reduceIte, Option.isSome_some, *]; done) | (simp only [xor4_len, lnB] <;> omega) | fail) only [ev0, ev1, ev2, ev3, ↓reduceIte, reduceCtorEq, zaa, zab, zac, zad, zae, zaf, zag, zah, zai, zaj, zak, zal, zam, zan, zao, zap, zaq, ↓zar, ↓zas, zat, zau, zav, zaw, zax, zay, zaz, zba, zbb, zbc, zbd, zbe, zbf, zbg, zbh, zbi, zbj, zbk, zbl, zbm, zbn, zbo, zbp, zbq, zbr, zbs, zbt, zbu, zbv, zbw, zbx, zby, zbz, zca, zcb, zcc, zcd, zce, zcf, zcg, zch, zci, zcj, zck, zcl, zcm, zcn, zco, zcp, zcq, zcr, zcs, zct, zcu, zcv, zcw, zcx, zcy, zcz, zda, zdb, zdc, zdd, zde, zdf, zdg, zdh, zdi, zdj, zdk, zdl, ev5, tbVe0, glob, Nat.reduceMod, Bx.own.injEq, and_false, false_and, and_true, true_and, s9, s2, s3, s8, b8, b2, b11, lv, lO]
          refine condQ_dec (fun hlt => ?_) (fun hge => ?_)
          · have hlt : i < 60 := by omega
            obtain ⟨bp, op, cp, yp, v1, c1, x1, l1, h1', n1⟩ := hA i hlt
            rw [wrd_cK hk 60 (by omega) i hlt] at hO
            have lm := wo_len hk hlt
            obtain ⟨m, hm⟩ : ∃ m, wo k i = m := ⟨_, rfl⟩
            rw [hm] at h1' lm hO
            obtain ⟨a, b, c, d, rfl⟩ := list4 lm
            have g0 : yp.getD op 0#8 = a := At.get h1' (show 0 < 4 by omega)
            have g1 : yp.getD (op + 1) 0#8 = b := At.get h1' (show 1 < 4 by omega)
            have g2 : yp.getD (op + 2) 0#8 = c := At.get h1' (show 2 < 4 by omega)
            have g3 : yp.getD (op + 3) 0#8 = d := At.get h1' (show 3 < 4 by omega)
            have f0 : i / 4 * 16 + i % 4 * 4 = 4 * i := by omega
            have f1 : i / 4 * 16 + (i % 4 * 4 + 1) = 4 * i + 1 := by omega
            have f2 : i / 4 * 16 + (i % 4 * 4 + 2) = 4 * i + 2 := by omega
            have f3 : i / 4 * 16 + (i % 4 * 4 + 3) = 4 * i + 3 := by omega
            have p8 := n1.ne8 (g := g8)
            rw [← set4_is (by omega)] at hO
            simp (maxSteps := 1000000) (disch := first | omega | (simp only [updB, updI, dsB, reduceCtorEq, Nat.reduceEqDiff, Abs.Id.mk.injEq, and_false, false_and, and_true, true_and, if_false, ↓reduceIte, Option.isSome_some, *]; done) | (simp only [xor4_len, lnB] <;> omega) | fail) only [ev0, ev1, ev2, ev3, ↓reduceIte, reduceCtorEq, zaa, zab, zac, zad, zae, zaf, zag, zah, zai, zaj, zak, zal, zam, zan, zao, zap, zaq, ↓zar, ↓zas, zat, zau, zav, zaw, zax, zay, zaz, zba, zbb, zbc, zbd, zbe, zbf, zbg, zbh, zbi, zbj, zbk, zbl, zbm, zbn, zbo, zbp, zbq, zbr, zbs, zbt, zbu, zbv, zbw, zbx, zby, zbz, zca, zcb, zcc, zcd, zce, zcf, zcg, zch, zci, zcj, zck, zcl, zcm, zcn, zco, zcp, zcq, zcr, zcs, zct, zcu, zcv, zcw, zcx, zcy, zcz, zda, zdb, zdc, zdd, zde, zdf, zdg, zdh, zdi, zdj, zdk, zdl, ev5, tbVe0, glob, Nat.reduceMod, Bx.own.injEq, and_false, false_and, and_true, true_and, s9, s2, s3, s8, b8, b2, b11, lv, lO, v1, x1, g0, g1, g2, g3, f0, f1, f2, f3, p8]
            refine ⟨60 - (i + 1), by omega, i + 1, by omega, rfl, rfl, ⟨g8, rfl, ?_⟩, fun j hj => (hA j hj).keep (fun b hb => ?_) (fun s => Nat.le_refl _)⟩
            · rw [if_pos rfl, hO]
            · simp only [updB, hb.ne8, if_false]
          · have hi : i = 60 := by omega
            subst hi
            rw [ho]
            simp (maxSteps := 1000000) (disch := first | omega | (simp only [updB, updI, dsB, reduceCtorEq, Nat.reduceEqDiff, Abs.Id.mk.injEq, and_false, false_and, and_true, true_and, if_false, ↓reduceIte, Option.isSome_some, *]; done) | (simp only [xor4_len, lnB] <;> omega) | fail) only [ev0, ev1, ev2, ev3, ↓reduceIte, reduceCtorEq, zaa, zab, zac, zad, zae, zaf, zag, zah, zai, zaj, zak, zal, zam, zan, zao, zap, zaq, ↓zar, ↓zas, zat, zau, zav, zaw, zax, zay, zaz, zba, zbb, zbc, zbd, zbe, zbf, zbg, zbh, zbi, zbj, zbk, zbl, zbm, zbn, zbo, zbp, zbq, zbr, zbs, zbt, zbu, zbv, zbw, zbx, zby, zbz, zca, zcb, zcc, zcd, zce, zcf, zcg, zch, zci, zcj, zck, zcl, zcm, zcn, zco, zcp, zcq, zcr, zcs, zct, zcu, zcv, zcw, zcx, zcy, zcz, zda, zdb, zdc, zdd, zde, zdf, zdg, zdh, zdi, zdj, zdk, zdl, ev5, tbVe0, glob, Nat.reduceMod, Bx.own.injEq, and_false, false_and, and_true, true_and, s9, s2, s3, s8, b8, b2, b11, lv, lO]
            exact ResQ.same rfl
  · cases hr
end Go.Proofs.YtddeffdgldjdjaaDoor
