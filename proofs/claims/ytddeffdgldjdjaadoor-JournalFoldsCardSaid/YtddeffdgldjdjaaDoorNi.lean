/- Rows of entries; a clone of one; the last entry's index: what the walks come to. -/
import Derived.Test.YtddeffdgldjdjaaDoorNh
namespace Go.Proofs.YtddeffdgldjdjaaDoor.W
set_option linter.unusedSimpArgs false
set_option linter.unusedVariables false
set_option linter.defProp false
open Go Go.Abs
set_option maxHeartbeats 16000000
/-- entries as they lie in a row -/
def entsA (l : List Eny) : List AV := l.flatMap entA
theorem entsA_len (l : List Eny) : (entsA l).length = l.length * 4 := by
  induction l with
  | nil => rfl
  | cons r l ih => rw [entsA, List.flatMap_cons, List.length_append, ← entsA, ih, entA_len, List.length_cons]; omega
theorem entsA_snoc (l : List Eny) (r : Eny) : entsA l ++ entA r = entsA (l ++ [r]) := by simp [entsA]
theorem entsA_app (l m : List Eny) : entsA l ++ entsA m = entsA (l ++ m) := by simp [entsA]
theorem entsA_nil : entsA [] = [] := rfl
theorem entsA_cons (e : Eny) (l : List Eny) : entsA (e :: l) = entA e ++ entsA l := rfl
theorem entsA_oneA (l : List Eny) : (entsA l).all oneA = true := by
  rw [List.all_eq_true]
  intro x hx
  obtain ⟨r, _, hx⟩ := List.mem_flatMap.1 hx
  exact List.all_eq_true.1 (entA_one r) x hx
theorem entA_pure (e : Eny) : pureL (entA e) = true := by
  obtain ⟨a, b, c, d⟩ := e
  cases c <;> cases d <;> simp only [entA, btA, itA, pureA, pureL, nums_pure, ints_pure] <;> rfl
theorem entsA_pure (l : List Eny) : pureL (entsA l) = true := by
  induction l with
  | nil => rfl
  | cons r l ih => rw [entsA_cons, pureL_append, entA_pure, ih]; rfl
theorem entsA_drop (l : List Eny) (k : Nat) : (entsA l).drop (k * 4) = entsA (l.drop k) := by
  induction k generalizing l with
  | zero => simp
  | succ k ih =>
    cases l with
    | nil => simp [entsA]
    | cons e l =>
      rw [entsA_cons, List.drop_succ_cons, ← ih l, show (k + 1) * 4 = (entA e).length + k * 4 by rw [entA_len]; omega, List.drop_append]
      simp [entA_len]
theorem entsA_take (l : List Eny) (k : Nat) : (entsA l).take (k * 4) = entsA (l.take k) := by
  induction k generalizing l with
  | zero => simp [entsA]
  | succ k ih =>
    cases l with
    | nil => simp [entsA]
    | cons e l =>
      rw [entsA_cons, List.take_succ_cons, entsA_cons, ← ih l, show (k + 1) * 4 = (entA e).length + k * 4 by rw [entA_len]; omega, List.take_append]
      simp [entA_len]
      exact List.take_of_length_le (by rw [entA_len]; omega)
theorem entsA_inj : ∀ {l m : List Eny}, entsA l = entsA m → l = m
  | [], [], _ => rfl
  | [], e :: m, h => by have := congrArg List.length h; rw [entsA_len, entsA_len, List.length_cons] at this; simp at this
  | e :: l, [], h => by have := congrArg List.length h; rw [entsA_len, entsA_len, List.length_cons] at this; simp at this
  | a :: l, b :: m, h => by
    rw [entsA_cons, entsA_cons] at h
    obtain ⟨h1, h2⟩ := List.append_inj h rfl
    rw [entA_inj h1, entsA_inj h2]
noncomputable def ents? (v : AV) : Option (List Eny) := open Classical in if h : ∃ l fl, v = .sl (l : List Eny).length (entsA l) fl then some h.choose else none
theorem ents?_of {v : AV} {l : List Eny} (h : ents? v = some l) : ∃ fl, v = .sl l.length (entsA l) fl := by
  unfold ents? at h
  split at h
  · rename_i h0; cases h; exact h0.choose_spec
  · cases h
theorem ents?_at {n : Nat} {l : List Eny} {fl : Fl} (h : n = l.length) : ents? (.sl n (entsA l) fl) = some l := by
  subst h
  have h0 : ∃ (m : List Eny) (gl : Fl), AV.sl l.length (entsA l) fl = .sl m.length (entsA m) gl := ⟨l, fl, rfl⟩
  unfold ents?
  rw [dif_pos h0]
  obtain ⟨gl, hs⟩ := h0.choose_spec
  injection hs with _ hs2 _
  exact congrArg some (entsA_inj hs2).symm
noncomputable def pf87 : List AV → Option AV
  | [v] => (ents? v).bind fun l => if l.length ≤ 1000000000 then some (.sl l.length (entsA l) (.own ⟨0, 0, 0, 0⟩ 4)) else none
  | _ => none
theorem pf87_at {n : Nat} {l : List Eny} {fl : Fl} (h : n = l.length) (h2 : l.length ≤ 1000000000) : pf87 [.sl n (entsA l) fl] = some (.sl l.length (entsA l) (.own ⟨0, 0, 0, 0⟩ 4)) := by
  simp only [pf87, ents?_at h, Option.bind_some, if_pos h2]
theorem rep_zero (xs : List AV) : rep 0 xs = [] := rfl
def tbNi0 := (And.intro (And.intro (And.intro @teE (And.intro @ES0_te @ES0_glob)) (And.intro @ES0_gs (And.intro @ES0_dyn @ES0_mu))) (And.intro (And.intro @ev4 (And.intro @rep_zero @entsA_len)) (And.intro @entsA_oneA (And.intro @entsA_pure @entsA_nil))))
theorem sound87 : SoundV Tryd.prog globS 87 pf87 := by
  refine SoundV.walk ES0 okS0 mixed Tryd.func87 rfl Tryd.call87 (by kernel_rfl) ?_
  intro args r h
  unfold pf87 at h
  split at h
  · simp only [Option.bind_eq_some_iff] at h
    obtain ⟨m, h1, h2⟩ := h
    split at h2
    · rename_i hm
      cases h2
      obtain ⟨fl, rfl⟩ := ents?_of h1
      rw [Tryd.ntmps87, Tryd.results87]
      refine ⟨by simp, ?_⟩
      by_cases h0 : m.length = 0
      · have : m = [] := List.eq_nil_of_length_eq_zero h0
        subst this
        simp (maxSteps := 1000000) (disch := first | omega | (simp only [nums_len, lnB] <;> omega) | fail) only [ev0, ev1, ev2, ev3, ↓reduceIte, reduceCtorEq, Nat.reduceAdd, Nat.reduceSub, Nat.reduceMul, Nat.reduceLT, Nat.reduceLeDiff, Nat.reduceEqDiff, Nat.reduceBEq, BitVec.reduceOfInt, Int.reduceLE, Int.reduceLT, Int.reduceGT, Int.reduceGE, Int.reduceNeg, Int.reduceAdd, Int.reduceSub, Int.reduceMul, Int.reduceToNat, ↓bind_go, ↓map_go, wantedV, isWrite, grow, write, ofV, AV.cells, Abs.start, Abs.strip, endQ, resV, rawsRes, rawRes, exports, export1, AS.grown, AS.put, Env.know, Env.boxed, isSelf, convSelf, convV, loadV, storeV, fieldAddrV, fieldV, indexAddrV, indexV, partV, isAggK, isStr, place, ipS, lenV, min2V, makeV, freshSl, sliceV, boundOr, bound, bounds, cutFl, copyV, slCells, srcV, appendV, room, zerosOf, eqNeg, kd, takeR, hasViewL, hasView, freshR, freshC, snapAll, snap, snapL, flatL, pureL, pureA, fillC, arrOK, oneA, partB, AV.laid, ren1, CR.gr, applyW, useL, AS.mute, isGen, startG, ev5, tbNi0, globS, List.size_toArray, Array.size_empty, List.length_nil, List.nil_append, Nat.zero_mul, Nat.zero_add]
        exact ⟨ResQ.nil 4, ResQ.same rfl⟩
      · simp (maxSteps := 1000000) (disch := first | omega | (simp only [nums_len, lnB] <;> omega) | fail) only [ev0, ev1, ev2, ev3, ↓reduceIte, reduceCtorEq, Nat.reduceAdd, Nat.reduceSub, Nat.reduceMul, Nat.reduceLT, Nat.reduceLeDiff, Nat.reduceEqDiff, Nat.reduceBEq, BitVec.reduceOfInt, Int.reduceLE, Int.reduceLT, Int.reduceGT, Int.reduceGE, Int.reduceNeg, Int.reduceAdd, Int.reduceSub, Int.reduceMul, Int.reduceToNat, ↓bind_go, ↓map_go, wantedV, isWrite, grow, write, ofV, AV.cells, Abs.start, Abs.strip, endQ, resV, rawsRes, rawRes, exports, export1, AS.grown, AS.put, Env.know, Env.boxed, isSelf, convSelf, convV, loadV, storeV, fieldAddrV, fieldV, indexAddrV, indexV, partV, isAggK, isStr, place, ipS, lenV, min2V, makeV, freshSl, sliceV, boundOr, bound, bounds, cutFl, copyV, slCells, srcV, appendV, room, zerosOf, eqNeg, kd, takeR, hasViewL, hasView, freshR, freshC, snapAll, snap, snapL, flatL, pureL, pureA, fillC, arrOK, oneA, partB, AV.laid, ren1, CR.gr, applyW, useL, AS.mute, isGen, startG, ev5, tbNi0, globS, List.size_toArray, Array.size_empty, List.length_nil, List.nil_append, Nat.zero_mul, Nat.zero_add, h0]
        exact ResQ.same rfl
    · cases h2
  · cases h
/-- what records come to -/
structure St where
  h : Int
  v : Int
  i : Int
  t : Int
  f : Int
  es : Option (List Eny)
def esA (es : Option (List Eny)) (fl : Fl) : AV := match es with
  | none => .raw (.slice none 0 0)
  | some l => .sl l.length (entsA l) fl
def esL (es : Option (List Eny)) : List Eny := match es with
  | none => []
  | some l => l
def stA (s : St) (fl : Fl) : List AV := [.raw (.int .i64 s.h), .raw (.int .i64 s.v), .raw (.int .i64 s.i), .raw (.int .i64 s.t), .raw (.int .i64 s.f), esA s.es fl]
theorem esA_none (fl : Fl) : esA none fl = .raw (.slice none 0 0) := rfl
theorem esA_some (l : List Eny) (fl : Fl) : esA (some l) fl = .sl l.length (entsA l) fl := rfl
theorem esL_none : esL none = [] := rfl
theorem esL_some (l : List Eny) : esL (some l) = l := rfl
theorem stA_is (s : St) (fl : Fl) : stA s fl = [.raw (.int .i64 s.h), .raw (.int .i64 s.v), .raw (.int .i64 s.i), .raw (.int .i64 s.t), .raw (.int .i64 s.f), esA s.es fl] := rfl
noncomputable def st? (cs : List AV) : Option St := open Classical in if h : ∃ s, cs = stA s .bor then some h.choose else none
theorem stA_inj {a b : St} (h : stA a .bor = stA b .bor) : a = b := by
  obtain ⟨h1, v1, i1, t1, f1, e1⟩ := a
  obtain ⟨h2, v2, i2, t2, f2, e2⟩ := b
  simp only [stA, List.cons.injEq, AV.raw.injEq, Value.int.injEq, true_and, and_true] at h
  obtain ⟨rfl, rfl, rfl, rfl, rfl, he⟩ := h
  cases e1 <;> cases e2 <;> simp only [esA, AV.sl.injEq, reduceCtorEq] at he
  · rfl
  · rw [entsA_inj he.2.1]
theorem st?_of {cs : List AV} {s : St} (h : st? cs = some s) : cs = stA s .bor := by
  unfold st? at h
  split at h
  · rename_i h0; cases h; exact h0.choose_spec
  · cases h
theorem st?_at (s : St) : st? (stA s .bor) = some s := by
  have h0 : ∃ e, stA s .bor = stA e .bor := ⟨s, rfl⟩
  unfold st?
  rw [dif_pos h0, stA_inj h0.choose_spec.symm]
noncomputable def pf86 : List AV → Option AV
  | [.iptr cs] => (st? cs).bind fun s => if -2000000000000 ≤ s.i ∧ s.i ≤ 2000000000000 ∧ (esL s.es).length ≤ 1000000000 then some (.raw (.int .i64 (s.i + ((esL s.es).length : Int)))) else none
  | _ => none
theorem pf86_at {s : St} (h1 : -2000000000000 ≤ s.i) (h2 : s.i ≤ 2000000000000) (h3 : (esL s.es).length ≤ 1000000000) : pf86 [.iptr (stA s .bor)] = some (.raw (.int .i64 (s.i + ((esL s.es).length : Int)))) := by
  simp only [pf86, st?_at, Option.bind_some]
  exact if_pos ⟨h1, h2, h3⟩
def tbNi1 := (And.intro (And.intro (And.intro @teE (And.intro @ES0_te @ES0_glob)) (And.intro @ES0_gs (And.intro @ES0_dyn @ES0_mu))) (And.intro (And.intro @ev4 (And.intro @stA_is @esA_none)) (And.intro @esA_some (And.intro @esL_none @esL_some))))
theorem sound86 : SoundV Tryd.prog globS 86 pf86 := by
  refine SoundV.walk ES0 okS0 mixed Tryd.func86 rfl Tryd.call86 (by kernel_rfl) ?_
  intro args r h
  unfold pf86 at h
  split at h
  · simp only [Option.bind_eq_some_iff] at h
    obtain ⟨s, h1, h2⟩ := h
    split at h2
    · rename_i hm
      cases h2
      rw [st?_of h1, Tryd.ntmps86, Tryd.results86]
      refine ⟨by simp, ?_⟩
      obtain ⟨h, v, i, t, f, e⟩ := s
      obtain ⟨m1, m2, m3⟩ := hm
      dsimp only at m1 m2 m3 ⊢
      cases e with
      | none =>
        simp (maxSteps := 1000000) (disch := first | omega | (simp only [nums_len, lnB] <;> omega) | fail) only [ev0, ev1, ev2, ev3, ↓reduceIte, reduceCtorEq, Nat.reduceAdd, Nat.reduceSub, Nat.reduceMul, Nat.reduceLT, Nat.reduceLeDiff, Nat.reduceEqDiff, Nat.reduceBEq, BitVec.reduceOfInt, Int.reduceLE, Int.reduceLT, Int.reduceGT, Int.reduceGE, Int.reduceNeg, Int.reduceAdd, Int.reduceSub, Int.reduceMul, Int.reduceToNat, ↓bind_go, ↓map_go, wantedV, isWrite, grow, write, ofV, AV.cells, Abs.start, Abs.strip, endQ, resV, rawsRes, rawRes, exports, export1, AS.grown, AS.put, Env.know, Env.boxed, isSelf, convSelf, convV, loadV, storeV, fieldAddrV, fieldV, indexAddrV, indexV, partV, isAggK, isStr, place, ipS, lenV, min2V, makeV, freshSl, sliceV, boundOr, bound, bounds, cutFl, copyV, slCells, srcV, appendV, room, zerosOf, eqNeg, kd, takeR, hasViewL, hasView, freshR, freshC, snapAll, snap, snapL, flatL, pureL, pureA, fillC, arrOK, oneA, partB, AV.laid, ren1, CR.gr, applyW, useL, AS.mute, isGen, startG, ev5, tbNi1, globS, List.length_nil]
        exact ResQ.same (i64_eq (by simp))
      | some l =>
        simp only [esL] at m3 ⊢
        simp (maxSteps := 1000000) (disch := first | omega | (simp only [nums_len, lnB] <;> omega) | fail) only [ev0, ev1, ev2, ev3, ↓reduceIte, reduceCtorEq, Nat.reduceAdd, Nat.reduceSub, Nat.reduceMul, Nat.reduceLT, Nat.reduceLeDiff, Nat.reduceEqDiff, Nat.reduceBEq, BitVec.reduceOfInt, Int.reduceLE, Int.reduceLT, Int.reduceGT, Int.reduceGE, Int.reduceNeg, Int.reduceAdd, Int.reduceSub, Int.reduceMul, Int.reduceToNat, ↓bind_go, ↓map_go, wantedV, isWrite, grow, write, ofV, AV.cells, Abs.start, Abs.strip, endQ, resV, rawsRes, rawRes, exports, export1, AS.grown, AS.put, Env.know, Env.boxed, isSelf, convSelf, convV, loadV, storeV, fieldAddrV, fieldV, indexAddrV, indexV, partV, isAggK, isStr, place, ipS, lenV, min2V, makeV, freshSl, sliceV, boundOr, bound, bounds, cutFl, copyV, slCells, srcV, appendV, room, zerosOf, eqNeg, kd, takeR, hasViewL, hasView, freshR, freshC, snapAll, snap, snapL, flatL, pureL, pureA, fillC, arrOK, oneA, partB, AV.laid, ren1, CR.gr, applyW, useL, AS.mute, isGen, startG, ev5, tbNi1, globS, List.length_nil]
        exact ResQ.same rfl
    · cases h2
  · cases h
end Go.Proofs.YtddeffdgldjdjaaDoor.W
