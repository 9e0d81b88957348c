/- The document's check: its parts. -/
import Derived.Test.YtjnmdphoaafjaaaPr
namespace Go.Proofs.Ytjnmdphoaafjaaa
set_option linter.unusedSimpArgs false
set_option linter.unusedVariables false
set_option linter.defProp false
open Go Go.Abs
set_option maxHeartbeats 4000000
def strV (l : List UInt8) : AV := .raw (.string ⟨l.toArray⟩)
/-- what a kind's command has -/
def hasL (k : Int) : List UInt8 :=
  if k = 1 then [] else if k = 2 then [105] else if k = 3 then [115] else if k = 4 then [115, 105] else if k = 5 then [115, 105, 110] else if k = 6 then [115, 105, 110]
  else if k = 7 then [115, 105, 100, 98] else if k = 8 then [115, 100, 98] else if k = 9 then [115, 100, 98] else if k = 10 then [115, 100] else [120]
theorem rep11 (x : AV) : rep 11 [x] = [x, x, x, x, x, x, x, x, x, x, x] := rfl
theorem le11 (a0 a1 a2 a3 a4 a5 a6 a7 a8 a9 a10 : AV) : (11 ≤ [a0, a1, a2, a3, a4, a5, a6, a7, a8, a9, a10].length) = True := by simp
theorem dr11 (a0 a1 a2 a3 a4 a5 a6 a7 a8 a9 a10 : AV) : [a0, a1, a2, a3, a4, a5, a6, a7, a8, a9, a10].drop 11 = [] := rfl
def pf100 : List AV → Option AV
  | [.raw (.int .i64 k)] => some (strV (hasL k))
  | _ => none
def tbPw0 := (And.intro (And.intro (And.intro @teE @EW_te) (And.intro @EW_glob (And.intro @EW_gs @EW_dyn))) (And.intro (And.intro @EW_mu @rep11) (And.intro @le11 (And.intro @dr11 @ev4))))
theorem sound100 : SoundV Try.prog glob 100 pf100 := by
  refine SoundV.walk EW okW mixed Try.func100 rfl Try.call100 (by kernel_rfl) ?_
  intro args r hr
  unfold pf100 at hr
  split at hr
  · rename_i k
    cases hr
    rw [Try.ntmps100, Try.results100]
    refine ⟨by simp, ?_⟩
    by_cases c1 : k < 1
    · rw [show hasL k = [120] by unfold hasL; rw [if_neg (by omega), if_neg (by omega), if_neg (by omega), if_neg (by omega), if_neg (by omega), if_neg (by omega), if_neg (by omega), if_neg (by omega), if_neg (by omega), if_neg (by omega)]]
      simp (maxSteps := 1000000) (disch := first | omega | (simp only [nums_len, lnB] <;> omega) | fail) only [ev0, ev1, ev2, ev3, ↓reduceIte, reduceCtorEq, Nat.reduceAdd, Nat.reduceSub, Nat.reduceMul, Nat.reduceLT, Nat.reduceLeDiff, Nat.reduceEqDiff, Nat.reduceBEq, BitVec.reduceOfInt, Int.reduceLE, Int.reduceLT, Int.reduceGT, Int.reduceGE, Int.reduceNeg, Int.reduceAdd, Int.reduceSub, Int.reduceMul, Int.reduceToNat, ↓bind_go, ↓map_go, wantedV, isWrite, grow, write, ofV, AV.cells, Abs.start, Abs.strip, endQ, resV, rawsRes, rawRes, exports, export1, AS.grown, AS.put, Env.know, Env.boxed, isSelf, convSelf, convV, loadV, storeV, fieldAddrV, fieldV, indexAddrV, indexV, partV, isAggK, isStr, place, lenV, min2V, makeV, freshSl, sliceV, boundOr, bound, bounds, cutFl, copyV, slCells, srcV, appendV, room, zerosOf, eqNeg, kd, takeR, hasViewL, hasView, freshR, freshC, snapAll, snap, snapL, flatL, pureL, pureA, fillC, arrOK, oneA, partB, AV.laid, ren1, CR.gr, applyW, useL, AS.mute, isGen, startG, ev5, tbPw0, glob, List.size_toArray, Array.size_empty, List.length_nil, decide_eq_true c1]
      exact ResQ.same rfl
    by_cases c2 : k > 10
    · rw [show hasL k = [120] by unfold hasL; rw [if_neg (by omega), if_neg (by omega), if_neg (by omega), if_neg (by omega), if_neg (by omega), if_neg (by omega), if_neg (by omega), if_neg (by omega), if_neg (by omega), if_neg (by omega)]]
      simp (maxSteps := 1000000) (disch := first | omega | (simp only [nums_len, lnB] <;> omega) | fail) only [ev0, ev1, ev2, ev3, ↓reduceIte, reduceCtorEq, Nat.reduceAdd, Nat.reduceSub, Nat.reduceMul, Nat.reduceLT, Nat.reduceLeDiff, Nat.reduceEqDiff, Nat.reduceBEq, BitVec.reduceOfInt, Int.reduceLE, Int.reduceLT, Int.reduceGT, Int.reduceGE, Int.reduceNeg, Int.reduceAdd, Int.reduceSub, Int.reduceMul, Int.reduceToNat, ↓bind_go, ↓map_go, wantedV, isWrite, grow, write, ofV, AV.cells, Abs.start, Abs.strip, endQ, resV, rawsRes, rawRes, exports, export1, AS.grown, AS.put, Env.know, Env.boxed, isSelf, convSelf, convV, loadV, storeV, fieldAddrV, fieldV, indexAddrV, indexV, partV, isAggK, isStr, place, lenV, min2V, makeV, freshSl, sliceV, boundOr, bound, bounds, cutFl, copyV, slCells, srcV, appendV, room, zerosOf, eqNeg, kd, takeR, hasViewL, hasView, freshR, freshC, snapAll, snap, snapL, flatL, pureL, pureA, fillC, arrOK, oneA, partB, AV.laid, ren1, CR.gr, applyW, useL, AS.mute, isGen, startG, ev5, tbPw0, glob, List.size_toArray, Array.size_empty, List.length_nil, decide_eq_false c1, decide_eq_true c2]
      exact ResQ.same rfl
    have hk : k = 1 ∨ k = 2 ∨ k = 3 ∨ k = 4 ∨ k = 5 ∨ k = 6 ∨ k = 7 ∨ k = 8 ∨ k = 9 ∨ k = 10 := by omega
    rcases hk with rfl | rfl | rfl | rfl | rfl | rfl | rfl | rfl | rfl | rfl
    all_goals simp (maxSteps := 1000000) (disch := first | omega | (simp only [nums_len, lnB] <;> omega) | fail) only [ev0, ev1, ev2, ev3, ↓reduceIte, reduceCtorEq, Nat.reduceAdd, Nat.reduceSub, Nat.reduceMul, Nat.reduceLT, Nat.reduceLeDiff, Nat.reduceEqDiff, Nat.reduceBEq, BitVec.reduceOfInt, Int.reduceLE, Int.reduceLT, Int.reduceGT, Int.reduceGE, Int.reduceNeg, Int.reduceAdd, Int.reduceSub, Int.reduceMul, Int.reduceToNat, ↓bind_go, ↓map_go, wantedV, isWrite, grow, write, ofV, AV.cells, Abs.start, Abs.strip, endQ, resV, rawsRes, rawRes, exports, export1, AS.grown, AS.put, Env.know, Env.boxed, isSelf, convSelf, convV, loadV, storeV, fieldAddrV, fieldV, indexAddrV, indexV, partV, isAggK, isStr, place, lenV, min2V, makeV, freshSl, sliceV, boundOr, bound, bounds, cutFl, copyV, slCells, srcV, appendV, room, zerosOf, eqNeg, kd, takeR, hasViewL, hasView, freshR, freshC, snapAll, snap, snapL, flatL, pureL, pureA, fillC, arrOK, oneA, partB, AV.laid, ren1, CR.gr, applyW, useL, AS.mute, isGen, startG, ev5, tbPw0, glob, List.size_toArray, Array.size_empty, List.length_nil, decide_eq_false c1, decide_eq_false c2]
    all_goals exact ResQ.same rfl
  · cases hr
def hasU (s : ByteArray) (c : Int) : Bool := s.data.toList.any fun x => decide ((x.toNat : Int) = c)
def pf102 : List AV → Option AV
  | [.raw (.string s), .raw (.int .u8 c)] => if s.size ≤ 1000 then some (.raw (.bool (hasU s c))) else none
  | _ => none
theorem str_get {s : ByteArray} {k : Nat} (h : k < s.size) : s.data.toList[k]? = some (s.data.toList.getD k 0) := by
  have h' : k < s.data.toList.length := by rw [Array.length_toList]; exact h
  rw [List.getD_eq_getElem?_getD, List.getElem?_eq_getElem h']
  rfl
theorem hasU_at {s : ByteArray} {c : Int} {k : Nat} (h : k < s.size) (e : ((s.data.toList.getD k 0).toNat : Int) = c) : hasU s c = true := by
  unfold hasU
  have h' : k < s.data.toList.length := by rw [Array.length_toList]; exact h
  refine List.any_eq_true.2 ⟨s.data.toList[k], List.getElem_mem h', decide_eq_true ?_⟩
  rw [List.getD_eq_getElem?_getD, List.getElem?_eq_getElem h'] at e
  exact e
theorem hasU_no {s : ByteArray} {c : Int} (h : ∀ k, k < s.size → ((s.data.toList.getD k 0).toNat : Int) ≠ c) : hasU s c = false := by
  unfold hasU
  refine List.any_eq_false.2 fun x hx => ?_
  obtain ⟨k, hk, rfl⟩ := List.mem_iff_getElem.1 hx
  have hk' : k < s.size := by rw [Array.length_toList] at hk; exact hk
  have := h k hk'
  rw [List.getD_eq_getElem?_getD, List.getElem?_eq_getElem hk] at this
  simpa using this
def tbPw1 := (And.intro (And.intro (And.intro @teE @EW_te) (And.intro @EW_glob @EW_gs)) (And.intro (And.intro @EW_dyn @EW_mu) (And.intro @ev4 @str_get)))
theorem sound102 : SoundV Try.prog glob 102 pf102 := by
  refine SoundV.walk EW okW mixed Try.func102 rfl Try.call102 (by kernel_rfl) ?_
  intro args r hr
  unfold pf102 at hr
  split at hr
  · rename_i s c
    split at hr
    · rename_i hc
      cases hr
      rw [Try.ntmps102, Try.results102]
      refine ⟨by simp, ?_⟩
      simp (maxSteps := 1000000) (disch := first | omega | (simp only [nums_len, lnB] <;> omega) | fail) only [ev0, ev1, ev2, ev3, ↓reduceIte, reduceCtorEq, Nat.reduceAdd, Nat.reduceSub, Nat.reduceMul, Nat.reduceLT, Nat.reduceLeDiff, Nat.reduceEqDiff, Nat.reduceBEq, BitVec.reduceOfInt, Int.reduceLE, Int.reduceLT, Int.reduceGT, Int.reduceGE, Int.reduceNeg, Int.reduceAdd, Int.reduceSub, Int.reduceMul, Int.reduceToNat, ↓bind_go, ↓map_go, wantedV, isWrite, grow, write, ofV, AV.cells, Abs.start, Abs.strip, endQ, resV, rawsRes, rawRes, exports, export1, AS.grown, AS.put, Env.know, Env.boxed, isSelf, convSelf, convV, loadV, storeV, fieldAddrV, fieldV, indexAddrV, indexV, partV, isAggK, isStr, place, lenV, min2V, makeV, freshSl, sliceV, boundOr, bound, bounds, cutFl, copyV, slCells, srcV, appendV, room, zerosOf, eqNeg, kd, takeR, hasViewL, hasView, freshR, freshC, snapAll, snap, snapL, flatL, pureL, pureA, fillC, arrOK, oneA, partB, AV.laid, ren1, CR.gr, applyW, useL, AS.mute, isGen, startG, ev5, tbPw1, glob, List.size_toArray, Array.size_empty, List.length_nil]
      refine loopQ_of (fun n σ => ∃ k, k ≤ s.size ∧ n = s.size - k ∧ (∀ j, j < k → ((s.data.toList.getD j 0).toNat : Int) ≠ c) ∧ σ.slots 5 = .raw (.int .i64 (k : Int)) ∧ σ.slots 0 = .raw (.string s) ∧ σ.slots 1 = .raw (.int .u8 c)) s.size ?_ ?_
      · refine ⟨0, by omega, by omega, by omega, ?_⟩
        simp (maxSteps := 1000000) (disch := first | omega | (simp only [nums_len, lnB] <;> omega) | fail) only [ev0, ev1, ev2, ev3, ↓reduceIte, reduceCtorEq, Nat.reduceAdd, Nat.reduceSub, Nat.reduceMul, Nat.reduceLT, Nat.reduceLeDiff, Nat.reduceEqDiff, Nat.reduceBEq, BitVec.reduceOfInt, Int.reduceLE, Int.reduceLT, Int.reduceGT, Int.reduceGE, Int.reduceNeg, Int.reduceAdd, Int.reduceSub, Int.reduceMul, Int.reduceToNat, ↓bind_go, ↓map_go, wantedV, isWrite, grow, write, ofV, AV.cells, Abs.start, Abs.strip, endQ, resV, rawsRes, rawRes, exports, export1, AS.grown, AS.put, Env.know, Env.boxed, isSelf, convSelf, convV, loadV, storeV, fieldAddrV, fieldV, indexAddrV, indexV, partV, isAggK, isStr, place, lenV, min2V, makeV, freshSl, sliceV, boundOr, bound, bounds, cutFl, copyV, slCells, srcV, appendV, room, zerosOf, eqNeg, kd, takeR, hasViewL, hasView, freshR, freshC, snapAll, snap, snapL, flatL, pureL, pureA, fillC, arrOK, oneA, partB, AV.laid, ren1, CR.gr, applyW, useL, AS.mute, isGen, startG, ev5, tbPw1, glob, List.size_toArray, Array.size_empty, List.length_nil]
        exact rfl
      · rintro n ⟨sl, gn, bx, us⟩ ⟨k, hk, rfl, hs, si, s0, s1⟩
        dsimp only at si s0 s1
        simp (maxSteps := 1000000) (disch := first | omega | (simp only [nums_len, lnB] <;> omega) | fail) only [ev0, ev1, ev2, ev3, ↓reduceIte, reduceCtorEq, Nat.reduceAdd, Nat.reduceSub, Nat.reduceMul, Nat.reduceLT, Nat.reduceLeDiff, Nat.reduceEqDiff, Nat.reduceBEq, BitVec.reduceOfInt, Int.reduceLE, Int.reduceLT, Int.reduceGT, Int.reduceGE, Int.reduceNeg, Int.reduceAdd, Int.reduceSub, Int.reduceMul, Int.reduceToNat, ↓bind_go, ↓map_go, wantedV, isWrite, grow, write, ofV, AV.cells, Abs.start, Abs.strip, endQ, resV, rawsRes, rawRes, exports, export1, AS.grown, AS.put, Env.know, Env.boxed, isSelf, convSelf, convV, loadV, storeV, fieldAddrV, fieldV, indexAddrV, indexV, partV, isAggK, isStr, place, lenV, min2V, makeV, freshSl, sliceV, boundOr, bound, bounds, cutFl, copyV, slCells, srcV, appendV, room, zerosOf, eqNeg, kd, takeR, hasViewL, hasView, freshR, freshC, snapAll, snap, snapL, flatL, pureL, pureA, fillC, arrOK, oneA, partB, AV.laid, ren1, CR.gr, applyW, useL, AS.mute, isGen, startG, ev5, tbPw1, glob, List.size_toArray, Array.size_empty, List.length_nil, si, s0, s1]
        refine condQ_dec (fun hlt => ?_) (fun hge => ?_)
        · have hlt : k < s.size := by omega
          simp (maxSteps := 1000000) (disch := first | omega | (simp only [nums_len, lnB] <;> omega) | fail) only [ev0, ev1, ev2, ev3, ↓reduceIte, reduceCtorEq, Nat.reduceAdd, Nat.reduceSub, Nat.reduceMul, Nat.reduceLT, Nat.reduceLeDiff, Nat.reduceEqDiff, Nat.reduceBEq, BitVec.reduceOfInt, Int.reduceLE, Int.reduceLT, Int.reduceGT, Int.reduceGE, Int.reduceNeg, Int.reduceAdd, Int.reduceSub, Int.reduceMul, Int.reduceToNat, ↓bind_go, ↓map_go, wantedV, isWrite, grow, write, ofV, AV.cells, Abs.start, Abs.strip, endQ, resV, rawsRes, rawRes, exports, export1, AS.grown, AS.put, Env.know, Env.boxed, isSelf, convSelf, convV, loadV, storeV, fieldAddrV, fieldV, indexAddrV, indexV, partV, isAggK, isStr, place, lenV, min2V, makeV, freshSl, sliceV, boundOr, bound, bounds, cutFl, copyV, slCells, srcV, appendV, room, zerosOf, eqNeg, kd, takeR, hasViewL, hasView, freshR, freshC, snapAll, snap, snapL, flatL, pureL, pureA, fillC, arrOK, oneA, partB, AV.laid, ren1, CR.gr, applyW, useL, AS.mute, isGen, startG, ev5, tbPw1, glob, List.size_toArray, Array.size_empty, List.length_nil, si, s0, s1]
          cases e : (((s.data.toList.getD k 0).toNat : Int) == c)
          · simp (maxSteps := 1000000) (disch := first | omega | (simp only [nums_len, lnB] <;> omega) | fail) only [ev0, ev1, ev2, ev3, ↓reduceIte, reduceCtorEq, Nat.reduceAdd, Nat.reduceSub, Nat.reduceMul, Nat.reduceLT, Nat.reduceLeDiff, Nat.reduceEqDiff, Nat.reduceBEq, BitVec.reduceOfInt, Int.reduceLE, Int.reduceLT, Int.reduceGT, Int.reduceGE, Int.reduceNeg, Int.reduceAdd, Int.reduceSub, Int.reduceMul, Int.reduceToNat, ↓bind_go, ↓map_go, wantedV, isWrite, grow, write, ofV, AV.cells, Abs.start, Abs.strip, endQ, resV, rawsRes, rawRes, exports, export1, AS.grown, AS.put, Env.know, Env.boxed, isSelf, convSelf, convV, loadV, storeV, fieldAddrV, fieldV, indexAddrV, indexV, partV, isAggK, isStr, place, lenV, min2V, makeV, freshSl, sliceV, boundOr, bound, bounds, cutFl, copyV, slCells, srcV, appendV, room, zerosOf, eqNeg, kd, takeR, hasViewL, hasView, freshR, freshC, snapAll, snap, snapL, flatL, pureL, pureA, fillC, arrOK, oneA, partB, AV.laid, ren1, CR.gr, applyW, useL, AS.mute, isGen, startG, ev5, tbPw1, glob, List.size_toArray, Array.size_empty, List.length_nil, si, s0, s1, e]
            refine ⟨s.size - (k + 1), by omega, k + 1, by omega, rfl, ?_, rfl⟩
            intro j hj
            rcases Nat.lt_or_eq_of_le (Nat.le_of_lt_succ hj) with h | h
            · exact hs j h
            · rw [h]; exact beq_eq_false_iff_ne.1 e
          · rw [hasU_at hlt (beq_iff_eq.1 e)]
            simp (maxSteps := 1000000) (disch := first | omega | (simp only [nums_len, lnB] <;> omega) | fail) only [ev0, ev1, ev2, ev3, ↓reduceIte, reduceCtorEq, Nat.reduceAdd, Nat.reduceSub, Nat.reduceMul, Nat.reduceLT, Nat.reduceLeDiff, Nat.reduceEqDiff, Nat.reduceBEq, BitVec.reduceOfInt, Int.reduceLE, Int.reduceLT, Int.reduceGT, Int.reduceGE, Int.reduceNeg, Int.reduceAdd, Int.reduceSub, Int.reduceMul, Int.reduceToNat, ↓bind_go, ↓map_go, wantedV, isWrite, grow, write, ofV, AV.cells, Abs.start, Abs.strip, endQ, resV, rawsRes, rawRes, exports, export1, AS.grown, AS.put, Env.know, Env.boxed, isSelf, convSelf, convV, loadV, storeV, fieldAddrV, fieldV, indexAddrV, indexV, partV, isAggK, isStr, place, lenV, min2V, makeV, freshSl, sliceV, boundOr, bound, bounds, cutFl, copyV, slCells, srcV, appendV, room, zerosOf, eqNeg, kd, takeR, hasViewL, hasView, freshR, freshC, snapAll, snap, snapL, flatL, pureL, pureA, fillC, arrOK, oneA, partB, AV.laid, ren1, CR.gr, applyW, useL, AS.mute, isGen, startG, ev5, tbPw1, glob, List.size_toArray, Array.size_empty, List.length_nil, si, s0, s1, e]
            exact ResQ.same rfl
        · have hk : k = s.size := by omega
          subst hk
          rw [hasU_no hs]
          simp (maxSteps := 1000000) (disch := first | omega | (simp only [nums_len, lnB] <;> omega) | fail) only [ev0, ev1, ev2, ev3, ↓reduceIte, reduceCtorEq, Nat.reduceAdd, Nat.reduceSub, Nat.reduceMul, Nat.reduceLT, Nat.reduceLeDiff, Nat.reduceEqDiff, Nat.reduceBEq, BitVec.reduceOfInt, Int.reduceLE, Int.reduceLT, Int.reduceGT, Int.reduceGE, Int.reduceNeg, Int.reduceAdd, Int.reduceSub, Int.reduceMul, Int.reduceToNat, ↓bind_go, ↓map_go, wantedV, isWrite, grow, write, ofV, AV.cells, Abs.start, Abs.strip, endQ, resV, rawsRes, rawRes, exports, export1, AS.grown, AS.put, Env.know, Env.boxed, isSelf, convSelf, convV, loadV, storeV, fieldAddrV, fieldV, indexAddrV, indexV, partV, isAggK, isStr, place, lenV, min2V, makeV, freshSl, sliceV, boundOr, bound, bounds, cutFl, copyV, slCells, srcV, appendV, room, zerosOf, eqNeg, kd, takeR, hasViewL, hasView, freshR, freshC, snapAll, snap, snapL, flatL, pureL, pureA, fillC, arrOK, oneA, partB, AV.laid, ren1, CR.gr, applyW, useL, AS.mute, isGen, startG, ev5, tbPw1, glob, List.size_toArray, Array.size_empty, List.length_nil, si, s0, s1]
          exact ResQ.same rfl
    · cases hr
  · cases hr
def numR (n : Int) (b : Bool) : Bool := if b = true then decide (n ≥ 1) && decide (n ≤ 1099511627776) else decide (n = 0)
def pf101 : List AV → Option AV
  | [.raw (.int .i64 n), .raw (.bool b)] => some (.raw (.bool (numR n b)))
  | _ => none
theorem beq_dec (n m : Int) : (n == m) = decide (n = m) := by
  by_cases h : n = m
  · subst h; simp
  · rw [beq_eq_false_iff_ne.2 h, decide_eq_false h]
def tbPw2 := (And.intro (And.intro @teE (And.intro @EW_te @EW_glob)) (And.intro (And.intro @EW_gs @EW_dyn) (And.intro @EW_mu @ev4)))
theorem sound101 : SoundV Try.prog glob 101 pf101 := by
  refine SoundV.walk EW okW mixed Try.func101 rfl Try.call101 (by kernel_rfl) ?_
  intro args r hr
  unfold pf101 at hr
  split at hr
  · rename_i n b
    cases hr
    rw [Try.ntmps101, Try.results101]
    refine ⟨by simp, ?_⟩
    cases b
    · simp (maxSteps := 1000000) (disch := first | omega | (simp only [nums_len, lnB] <;> omega) | fail) only [ev0, ev1, ev2, ev3, ↓reduceIte, reduceCtorEq, Nat.reduceAdd, Nat.reduceSub, Nat.reduceMul, Nat.reduceLT, Nat.reduceLeDiff, Nat.reduceEqDiff, Nat.reduceBEq, BitVec.reduceOfInt, Int.reduceLE, Int.reduceLT, Int.reduceGT, Int.reduceGE, Int.reduceNeg, Int.reduceAdd, Int.reduceSub, Int.reduceMul, Int.reduceToNat, ↓bind_go, ↓map_go, wantedV, isWrite, grow, write, ofV, AV.cells, Abs.start, Abs.strip, endQ, resV, rawsRes, rawRes, exports, export1, AS.grown, AS.put, Env.know, Env.boxed, isSelf, convSelf, convV, loadV, storeV, fieldAddrV, fieldV, indexAddrV, indexV, partV, isAggK, isStr, place, lenV, min2V, makeV, freshSl, sliceV, boundOr, bound, bounds, cutFl, copyV, slCells, srcV, appendV, room, zerosOf, eqNeg, kd, takeR, hasViewL, hasView, freshR, freshC, snapAll, snap, snapL, flatL, pureL, pureA, fillC, arrOK, oneA, partB, AV.laid, ren1, CR.gr, applyW, useL, AS.mute, isGen, startG, ev5, tbPw2, glob, List.size_toArray, Array.size_empty, List.length_nil, beq_dec]
      exact ResQ.same rfl
    · cases h : decide (n ≥ 1)
      · simp (maxSteps := 1000000) (disch := first | omega | (simp only [nums_len, lnB] <;> omega) | fail) only [ev0, ev1, ev2, ev3, ↓reduceIte, reduceCtorEq, Nat.reduceAdd, Nat.reduceSub, Nat.reduceMul, Nat.reduceLT, Nat.reduceLeDiff, Nat.reduceEqDiff, Nat.reduceBEq, BitVec.reduceOfInt, Int.reduceLE, Int.reduceLT, Int.reduceGT, Int.reduceGE, Int.reduceNeg, Int.reduceAdd, Int.reduceSub, Int.reduceMul, Int.reduceToNat, ↓bind_go, ↓map_go, wantedV, isWrite, grow, write, ofV, AV.cells, Abs.start, Abs.strip, endQ, resV, rawsRes, rawRes, exports, export1, AS.grown, AS.put, Env.know, Env.boxed, isSelf, convSelf, convV, loadV, storeV, fieldAddrV, fieldV, indexAddrV, indexV, partV, isAggK, isStr, place, lenV, min2V, makeV, freshSl, sliceV, boundOr, bound, bounds, cutFl, copyV, slCells, srcV, appendV, room, zerosOf, eqNeg, kd, takeR, hasViewL, hasView, freshR, freshC, snapAll, snap, snapL, flatL, pureL, pureA, fillC, arrOK, oneA, partB, AV.laid, ren1, CR.gr, applyW, useL, AS.mute, isGen, startG, ev5, tbPw2, glob, List.size_toArray, Array.size_empty, List.length_nil, h]
        exact ResQ.same (by simp only [numR, h, if_true, Bool.false_and])
      · simp (maxSteps := 1000000) (disch := first | omega | (simp only [nums_len, lnB] <;> omega) | fail) only [ev0, ev1, ev2, ev3, ↓reduceIte, reduceCtorEq, Nat.reduceAdd, Nat.reduceSub, Nat.reduceMul, Nat.reduceLT, Nat.reduceLeDiff, Nat.reduceEqDiff, Nat.reduceBEq, BitVec.reduceOfInt, Int.reduceLE, Int.reduceLT, Int.reduceGT, Int.reduceGE, Int.reduceNeg, Int.reduceAdd, Int.reduceSub, Int.reduceMul, Int.reduceToNat, ↓bind_go, ↓map_go, wantedV, isWrite, grow, write, ofV, AV.cells, Abs.start, Abs.strip, endQ, resV, rawsRes, rawRes, exports, export1, AS.grown, AS.put, Env.know, Env.boxed, isSelf, convSelf, convV, loadV, storeV, fieldAddrV, fieldV, indexAddrV, indexV, partV, isAggK, isStr, place, lenV, min2V, makeV, freshSl, sliceV, boundOr, bound, bounds, cutFl, copyV, slCells, srcV, appendV, room, zerosOf, eqNeg, kd, takeR, hasViewL, hasView, freshR, freshC, snapAll, snap, snapL, flatL, pureL, pureA, fillC, arrOK, oneA, partB, AV.laid, ren1, CR.gr, applyW, useL, AS.mute, isGen, startG, ev5, tbPw2, glob, List.size_toArray, Array.size_empty, List.length_nil, h]
        exact ResQ.same (by simp only [numR, h, if_true, Bool.true_and])
  · cases hr
noncomputable def EA : Env := ((EX.know 100 pf100).know 102 pf102).know 101 pf101
theorem okA : EnvOK Try.prog EA := ((okX.know sound100).know sound102).know sound101
theorem EA_te : EA.te = te := rfl
theorem EA_glob : EA.glob = glob := rfl
theorem EA_gs : EA.gs = [] := rfl
theorem EA_dyn : EA.dyn = false := rfl
theorem EA_mu (d : Nat) : EA.mu d = false := rfl
theorem EA_has : EA.tbl 100 = some (.val pf100) := rfl
theorem EA_in : EA.tbl 102 = some (.val pf102) := rfl
theorem EA_num : EA.tbl 101 = some (.val pf101) := rfl
theorem num_is {n : Int} {b : Bool} : pf101 [.raw (.int .i64 n), .raw (.bool b)] = some (.raw (.bool (numR n b))) := rfl
end Go.Proofs.Ytjnmdphoaafjaaa
