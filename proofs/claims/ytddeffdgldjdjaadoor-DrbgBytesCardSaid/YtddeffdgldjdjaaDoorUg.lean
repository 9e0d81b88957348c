/- A key's blocks: what the walk comes to. -/
import Derived.Test.YtddeffdgldjdjaaDoorUc
import Derived.Test.YtddeffdgldjdjaaDoorUd
namespace Go.Proofs.YtddeffdgldjdjaaDoor
set_option linter.unusedSimpArgs false
set_option linter.unusedVariables false
set_option linter.defProp false
open Go Go.Abs
set_option maxHeartbeats 64000000
/-- the i-th word of some -/
def wrd (l : List (BitVec 8)) (i : Nat) : List (BitVec 8) := (l.drop (i * 4)).take 4
def xor4 (a c : List (BitVec 8)) (o : Nat) : List (BitVec 8) := (((a.set 0 (a.getD 0 0#8 ^^^ c.getD o 0#8)).set 1 (a.getD 1 0#8 ^^^ c.getD (o + 1) 0#8)).set 2 (a.getD 2 0#8 ^^^ c.getD (o + 2) 0#8)).set 3 (a.getD 3 0#8 ^^^ c.getD (o + 3) 0#8)
def turned (t : List (BitVec 8)) : List (BitVec 8) := boxedF [t.getD 1 0#8, t.getD 2 0#8, t.getD 3 0#8, t.getD 0 0#8]
/-- the power ahead of the i-th word -/
def pwK : Nat → BitVec 8
  | 0 => 1#8
  | i + 1 => if 8 ≤ i ∧ i % 8 = 0 then t2 (pwK i) else pwK i
/-- what the i-th word is mixed of -/
def midW (c : List (BitVec 8)) (i : Nat) : List (BitVec 8) :=
  if i % 8 = 0 then (turned (wrd c (i - 1))).set 0 ((turned (wrd c (i - 1))).getD 0 0#8 ^^^ pwK i)
  else if i % 8 = 4 then boxedF (wrd c (i - 1)) else wrd c (i - 1)
def newW (k c : List (BitVec 8)) (i : Nat) : List (BitVec 8) := if i < 8 then (k.drop (4 * i)).take 4 else xor4 (midW c i) c ((i - 8) * 4)
def cK (k : List (BitVec 8)) : Nat → List (BitVec 8)
  | 0 => List.replicate 240 0#8
  | i + 1 => (cK k i).take (i * 4) ++ newW k (cK k i) i ++ (cK k i).drop (i * 4 + 4)
theorem wrd_len {l : List (BitVec 8)} {i : Nat} (h : i * 4 + 4 ≤ l.length) : (wrd l i).length = 4 := by
  simp only [wrd, List.length_take, List.length_drop]; omega
theorem xor4_len (a b : List (BitVec 8)) (o : Nat) : (xor4 a b o).length = a.length := by simp [xor4]
theorem midW_len {c : List (BitVec 8)} {i : Nat} (h : c.length = 240) (h8 : 8 ≤ i) (h60 : i < 60) : (midW c i).length = 4 := by
  have := wrd_len (l := c) (i := i - 1) (by omega)
  unfold midW
  split
  · simp [turned, boxedF]
  · split
    · rfl
    · exact this
theorem newW_len {k c : List (BitVec 8)} {i : Nat} (hk : k.length = 32) (h : c.length = 240) (h60 : i < 60) : (newW k c i).length = 4 := by
  unfold newW
  split
  · simp only [List.length_take, List.length_drop]; omega
  · rw [xor4_len]; exact midW_len h (by omega) h60
theorem cK_len {k : List (BitVec 8)} (hk : k.length = 32) {i : Nat} (hi : i ≤ 60) : (cK k i).length = 240 := by
  induction i with
  | zero => rfl
  | succ i ih =>
    have h := ih (by omega)
    have := newW_len (k := k) (c := cK k i) (i := i) hk h (by omega)
    simp only [cK, List.length_append, List.length_take, List.length_drop, this, h]; omega
def expF (k : List (BitVec 8)) : List (BitVec 8) := cK k 60
/-- the words laid one behind the other into noughts -/
def oK (c : List (BitVec 8)) : Nat → List (BitVec 8)
  | 0 => List.replicate 240 0#8
  | i + 1 => (oK c i).take (4 * i) ++ wrd c i ++ (oK c i).drop (4 * i + 4)
theorem oK_len {c : List (BitVec 8)} (hc : c.length = 240) {i : Nat} (hi : i ≤ 60) : (oK c i).length = 240 := by
  induction i with
  | zero => rfl
  | succ i ih =>
    have h := ih (by omega)
    have := wrd_len (l := c) (i := i) (by omega)
    simp only [oK, List.length_append, List.length_take, List.length_drop, this, h]; omega
theorem oK_is {c : List (BitVec 8)} (hc : c.length = 240) {i : Nat} (hi : i ≤ 60) : (oK c i).take (4 * i) = c.take (4 * i) := by
  induction i with
  | zero => simp
  | succ i ih =>
    have h := ih (by omega)
    have hl := oK_len hc (show i ≤ 60 by omega)
    have hw := wrd_len (l := c) (i := i) (by omega)
    have e : 4 * (i + 1) = ((oK c i).take (4 * i) ++ wrd c i).length := by simp only [List.length_append, List.length_take, hl, hw]; omega
    rw [oK, e, List.take_left, ← e, h]
    simp only [wrd]
    rw [show 4 * (i + 1) = 4 * i + 4 by omega, List.take_add, Nat.mul_comm i 4]
theorem oK_all {c : List (BitVec 8)} (hc : c.length = 240) : oK c 60 = c := by
  have h := oK_is hc (show 60 ≤ 60 by omega)
  have hl := oK_len hc (show 60 ≤ 60 by omega)
  rw [List.take_of_length_le (by omega), List.take_of_length_le (by omega)] at h
  exact h
def pf97 : List AV → Option AV
  | [v] => (agg? .u8 8 32 v).bind fun k => some (.agg (nums .u8 (expF k)))
  | _ => none
theorem boxed_lit {a b c d : BitVec 8} : pf132 [.agg [.raw (.int .u8 (a.toNat : Int)), .raw (.int .u8 (b.toNat : Int)), .raw (.int .u8 (c.toNat : Int)), .raw (.int .u8 (d.toNat : Int))]] = some (.agg (nums .u8 (boxedF [a, b, c, d]))) := boxed_at (m := [a, b, c, d]) rfl
theorem splice_at {l m : List (BitVec 8)} {i : Nat} : splice (nums .u8 l) i (nums .u8 m) = nums .u8 (l.take i ++ m ++ l.drop (i + m.length)) := nums_splice l m i
def tbUg0 := (And.intro (And.intro (And.intro (And.intro @teE @evY) (And.intro @E2_te (And.intro @E2_glob @E2_gs))) (And.intro (And.intro @E2_dyn (And.intro @E2_mu @E2_t)) (And.intro @E2_b (And.intro @E2_m @E2_x)))) (And.intro (And.intro (And.intro @t2_at @bx_at) (And.intro @mixed_at (And.intro @boxed_at @boxed_lit))) (And.intro (And.intro @getD_set8 (And.intro @nums_strip @nums_set8)) (And.intro @mixedF_len (And.intro @boxedF_len @splice_at)))))
set_option maxRecDepth 20000 in
theorem sound97 : SoundV Tryd.prog glob 97 pf97 := by
  refine SoundV.walkY E2 [(3, 5)] ok2 mixed Tryd.func97 rfl Tryd.call97 (by kernel_rfl) ?_
  intro args r hr
  unfold pf97 at hr
  split at hr
  · rename_i v
    simp only [Option.bind_eq_some_iff] at hr
    obtain ⟨k, h1, hr⟩ := hr
    cases hr
    obtain ⟨rfl, hk⟩ := agg?_of h1
    rw [Tryd.ntmps97, Tryd.results97]
    refine ⟨by simp, ?_⟩
    simp (maxSteps := 1000000) (disch := first | omega | (simp only [mixedF_len, boxedF_len, xor4_len, lnB] <;> omega) | fail) only [ev0, ev1, ev2, ev3, ↓reduceIte, reduceCtorEq, Nat.reduceAdd, Nat.reduceSub, Nat.reduceMul, Nat.reduceLT, Nat.reduceLeDiff, Nat.reduceEqDiff, Nat.reduceBEq, BitVec.reduceOfInt, Int.reduceLE, Int.reduceLT, Int.reduceGT, Int.reduceGE, Int.reduceNeg, Int.reduceAdd, Int.reduceSub, Int.reduceMul, Int.reduceToNat, ↓bind_go, ↓map_go, wantedV, isWrite, grow, write, ofV, AV.cells, Abs.start, Abs.strip, endQ, resV, rawsRes, rawRes, exports, export1, AS.grown, AS.put, Env.know, Env.boxed, isSelf, convSelf, convV, loadV, storeV, fieldAddrV, fieldV, indexAddrV, indexV, partV, isAggK, isStr, place, ipS, lenV, min2V, makeV, freshSl, sliceV, boundOr, bound, bounds, cutFl, copyV, slCells, srcV, appendV, room, zerosOf, eqNeg, kd, takeR, hasViewL, hasView, freshR, freshC, snapAll, snap, snapL, flatL, pureL, pureA, fillC, arrOK, oneA, partB, AV.laid, ren1, CR.gr, applyW, useL, AS.mute, isGen, startG, ev5, tbUg0, glob, Nat.reduceMod, hk]
    refine loopQ_of (fun n σ => ∃ i, i ≤ 60 ∧ n = 60 - i ∧ σ.slots 11 = .raw (.int .i64 (i : Int)) ∧ σ.slots 4 = .raw (.int .u8 ((pwK i).toNat : Int)) ∧ σ.slots 1 = .ptr (.own 0 1 1) 0 ∧ σ.slots 2 = .ptr (.own 0 2 1) 0 ∧ σ.slots 3 = .ptr (.own 0 3 1) 0 ∧ σ.box (.own 0 1 1) = some (nums .u8 k) ∧ σ.box (.own 0 2 1) = some (nums .u8 (List.replicate 240 0#8)) ∧ σ.box (.own 0 3 1) = some (nums .u8 (cK k i))) 60 ?_ ?_
    · refine ⟨0, by omega, by omega, ?_⟩
      simp (maxSteps := 1000000) (disch := first | omega | (simp only [mixedF_len, boxedF_len, xor4_len, lnB] <;> omega) | fail) only [ev0, ev1, ev2, ev3, ↓reduceIte, reduceCtorEq, Nat.reduceAdd, Nat.reduceSub, Nat.reduceMul, Nat.reduceLT, Nat.reduceLeDiff, Nat.reduceEqDiff, Nat.reduceBEq, BitVec.reduceOfInt, Int.reduceLE, Int.reduceLT, Int.reduceGT, Int.reduceGE, Int.reduceNeg, Int.reduceAdd, Int.reduceSub, Int.reduceMul, Int.reduceToNat, ↓bind_go, ↓map_go, wantedV, isWrite, grow, write, ofV, AV.cells, Abs.start, Abs.strip, endQ, resV, rawsRes, rawRes, exports, export1, AS.grown, AS.put, Env.know, Env.boxed, isSelf, convSelf, convV, loadV, storeV, fieldAddrV, fieldV, indexAddrV, indexV, partV, isAggK, isStr, place, ipS, lenV, min2V, makeV, freshSl, sliceV, boundOr, bound, bounds, cutFl, copyV, slCells, srcV, appendV, room, zerosOf, eqNeg, kd, takeR, hasViewL, hasView, freshR, freshC, snapAll, snap, snapL, flatL, pureL, pureA, fillC, arrOK, oneA, partB, AV.laid, ren1, CR.gr, applyW, useL, AS.mute, isGen, startG, ev5, tbUg0, glob, Nat.reduceMod, hk]
      repeat' first | exact rfl | refine ⟨?_, ?_⟩
    · rintro n ⟨sl, gn, bx, us⟩ ⟨i, hi, rfl, s11, s4, s1, s2, s3, b1, b2, b3⟩
      dsimp only at s11 s4 s1 s2 s3 b1 b2 b3
      have lC := cK_len hk hi
      have hC : cK k (i + 1) = (cK k i).take (i * 4) ++ newW k (cK k i) i ++ (cK k i).drop (i * 4 + 4) := rfl
      have hp : pwK (i + 1) = if 8 ≤ i ∧ i % 8 = 0 then t2 (pwK i) else pwK i := rfl
      generalize hc : cK k i = c at b3 lC hC
      simp (maxSteps := 1000000) (disch := first | omega | (simp only [mixedF_len, boxedF_len, xor4_len, lnB] <;> omega) | fail) only [ev0, ev1, ev2, ev3, ↓reduceIte, reduceCtorEq, Nat.reduceAdd, Nat.reduceSub, Nat.reduceMul, Nat.reduceLT, Nat.reduceLeDiff, Nat.reduceEqDiff, Nat.reduceBEq, BitVec.reduceOfInt, Int.reduceLE, Int.reduceLT, Int.reduceGT, Int.reduceGE, Int.reduceNeg, Int.reduceAdd, Int.reduceSub, Int.reduceMul, Int.reduceToNat, ↓bind_go, ↓map_go, wantedV, isWrite, grow, write, ofV, AV.cells, Abs.start, Abs.strip, endQ, resV, rawsRes, rawRes, exports, export1, AS.grown, AS.put, Env.know, Env.boxed, isSelf, convSelf, convV, loadV, storeV, fieldAddrV, fieldV, indexAddrV, indexV, partV, isAggK, isStr, place, ipS, lenV, min2V, makeV, freshSl, sliceV, boundOr, bound, bounds, cutFl, copyV, slCells, srcV, appendV, room, zerosOf, eqNeg, kd, takeR, hasViewL, hasView, freshR, freshC, snapAll, snap, snapL, flatL, pureL, pureA, fillC, arrOK, oneA, partB, AV.laid, ren1, CR.gr, applyW, useL, AS.mute, isGen, startG, ev5, tbUg0, glob, Nat.reduceMod, s11, s4, s1, s2, s3, b1, b2, b3, lC, hk]
      refine condQ_dec (fun hlt => ?_) (fun hge => ?_)
      · have hlt : i < 60 := by omega
        simp (maxSteps := 1000000) (disch := first | omega | (simp only [mixedF_len, boxedF_len, xor4_len, lnB] <;> omega) | fail) only [ev0, ev1, ev2, ev3, ↓reduceIte, reduceCtorEq, Nat.reduceAdd, Nat.reduceSub, Nat.reduceMul, Nat.reduceLT, Nat.reduceLeDiff, Nat.reduceEqDiff, Nat.reduceBEq, BitVec.reduceOfInt, Int.reduceLE, Int.reduceLT, Int.reduceGT, Int.reduceGE, Int.reduceNeg, Int.reduceAdd, Int.reduceSub, Int.reduceMul, Int.reduceToNat, ↓bind_go, ↓map_go, wantedV, isWrite, grow, write, ofV, AV.cells, Abs.start, Abs.strip, endQ, resV, rawsRes, rawRes, exports, export1, AS.grown, AS.put, Env.know, Env.boxed, isSelf, convSelf, convV, loadV, storeV, fieldAddrV, fieldV, indexAddrV, indexV, partV, isAggK, isStr, place, ipS, lenV, min2V, makeV, freshSl, sliceV, boundOr, bound, bounds, cutFl, copyV, slCells, srcV, appendV, room, zerosOf, eqNeg, kd, takeR, hasViewL, hasView, freshR, freshC, snapAll, snap, snapL, flatL, pureL, pureA, fillC, arrOK, oneA, partB, AV.laid, ren1, CR.gr, applyW, useL, AS.mute, isGen, startG, ev5, tbUg0, glob, Nat.reduceMod, s11, s4, s1, s2, s3, b1, b2, b3, lC, hk]
        refine condQ_dec (fun h8 => ?_) (fun h8 => ?_)
        · have h8 : i < 8 := by omega
          have e1 : (32 = 4 * i) = False := eq_false (by omega)
          have e2 : 4 * i + 4 - 4 * i = 4 := by omega
          have e3 : min 4 (32 - 4 * i) = 4 := by omega
          have hW : newW k c i = (k.drop (4 * i)).take 4 := by rw [newW, if_pos h8]
          rw [if_neg (by omega)] at hp
          simp (maxSteps := 1000000) (disch := first | omega | (simp only [mixedF_len, boxedF_len, xor4_len, lnB] <;> omega) | fail) only [ev0, ev1, ev2, ev3, ↓reduceIte, reduceCtorEq, Nat.reduceAdd, Nat.reduceSub, Nat.reduceMul, Nat.reduceLT, Nat.reduceLeDiff, Nat.reduceEqDiff, Nat.reduceBEq, BitVec.reduceOfInt, Int.reduceLE, Int.reduceLT, Int.reduceGT, Int.reduceGE, Int.reduceNeg, Int.reduceAdd, Int.reduceSub, Int.reduceMul, Int.reduceToNat, ↓bind_go, ↓map_go, wantedV, isWrite, grow, write, ofV, AV.cells, Abs.start, Abs.strip, endQ, resV, rawsRes, rawRes, exports, export1, AS.grown, AS.put, Env.know, Env.boxed, isSelf, convSelf, convV, loadV, storeV, fieldAddrV, fieldV, indexAddrV, indexV, partV, isAggK, isStr, place, ipS, lenV, min2V, makeV, freshSl, sliceV, boundOr, bound, bounds, cutFl, copyV, slCells, srcV, appendV, room, zerosOf, eqNeg, kd, takeR, hasViewL, hasView, freshR, freshC, snapAll, snap, snapL, flatL, pureL, pureA, fillC, arrOK, oneA, partB, AV.laid, ren1, CR.gr, applyW, useL, AS.mute, isGen, startG, ev5, tbUg0, glob, Nat.reduceMod, s11, s4, s1, s2, s3, b1, b2, b3, lC, hk, e1, e2, e3]
          refine ⟨60 - (i + 1), by omega, i + 1, by omega, rfl, ?_⟩
          rw [hC, hW, hp]
          repeat' first | exact rfl | refine ⟨?_, ?_⟩
        · have h8 : 8 ≤ i := by omega
          have lW := wrd_len (l := c) (i := i - 1) (by omega)
          have lV := wrd_len (l := c) (i := i - 8) (by omega)
          by_cases m0 : i % 8 = 0
          · have e1 : ((i : Int) % 8 == 0) = true := beq_iff_eq.2 (by omega)
            have hW : newW k c i = xor4 ((turned (wrd c (i - 1))).set 0 ((turned (wrd c (i - 1))).getD 0 0#8 ^^^ pwK i)) c ((i - 8) * 4) := by rw [newW, if_neg (by omega), midW, if_pos m0]
            rw [if_pos ⟨h8, m0⟩] at hp
            simp (maxSteps := 1000000) (disch := first | omega | (simp only [mixedF_len, boxedF_len, xor4_len, lnB] <;> omega) | fail) only [ev0, ev1, ev2, ev3, ↓reduceIte, reduceCtorEq, Nat.reduceAdd, Nat.reduceSub, Nat.reduceMul, Nat.reduceLT, Nat.reduceLeDiff, Nat.reduceEqDiff, Nat.reduceBEq, BitVec.reduceOfInt, Int.reduceLE, Int.reduceLT, Int.reduceGT, Int.reduceGE, Int.reduceNeg, Int.reduceAdd, Int.reduceSub, Int.reduceMul, Int.reduceToNat, ↓bind_go, ↓map_go, wantedV, isWrite, grow, write, ofV, AV.cells, Abs.start, Abs.strip, endQ, resV, rawsRes, rawRes, exports, export1, AS.grown, AS.put, Env.know, Env.boxed, isSelf, convSelf, convV, loadV, storeV, fieldAddrV, fieldV, indexAddrV, indexV, partV, isAggK, isStr, place, ipS, lenV, min2V, makeV, freshSl, sliceV, boundOr, bound, bounds, cutFl, copyV, slCells, srcV, appendV, room, zerosOf, eqNeg, kd, takeR, hasViewL, hasView, freshR, freshC, snapAll, snap, snapL, flatL, pureL, pureA, fillC, arrOK, oneA, partB, AV.laid, ren1, CR.gr, applyW, useL, AS.mute, isGen, startG, ev5, tbUg0, glob, Nat.reduceMod, s11, s4, s1, s2, s3, b1, b2, b3, lC, hk, e1]
            refine ⟨60 - (i + 1), by omega, i + 1, by omega, rfl, ?_⟩
            rw [hC, hW, hp]
            repeat' first | exact rfl | refine ⟨?_, ?_⟩
          · have e1 : ((i : Int) % 8 == 0) = false := beq_eq_false_iff_ne.2 (by omega)
            by_cases m4 : i % 8 = 4
            · have e2 : ((i : Int) % 8 == 4) = true := beq_iff_eq.2 (by omega)
              have hW : newW k c i = xor4 (boxedF (wrd c (i - 1))) c ((i - 8) * 4) := by rw [newW, if_neg (by omega), midW, if_neg m0, if_pos m4]
              rw [if_neg (fun h => m0 h.2)] at hp
              simp (maxSteps := 1000000) (disch := first | omega | (simp only [mixedF_len, boxedF_len, xor4_len, lnB] <;> omega) | fail) only [ev0, ev1, ev2, ev3, ↓reduceIte, reduceCtorEq, Nat.reduceAdd, Nat.reduceSub, Nat.reduceMul, Nat.reduceLT, Nat.reduceLeDiff, Nat.reduceEqDiff, Nat.reduceBEq, BitVec.reduceOfInt, Int.reduceLE, Int.reduceLT, Int.reduceGT, Int.reduceGE, Int.reduceNeg, Int.reduceAdd, Int.reduceSub, Int.reduceMul, Int.reduceToNat, ↓bind_go, ↓map_go, wantedV, isWrite, grow, write, ofV, AV.cells, Abs.start, Abs.strip, endQ, resV, rawsRes, rawRes, exports, export1, AS.grown, AS.put, Env.know, Env.boxed, isSelf, convSelf, convV, loadV, storeV, fieldAddrV, fieldV, indexAddrV, indexV, partV, isAggK, isStr, place, ipS, lenV, min2V, makeV, freshSl, sliceV, boundOr, bound, bounds, cutFl, copyV, slCells, srcV, appendV, room, zerosOf, eqNeg, kd, takeR, hasViewL, hasView, freshR, freshC, snapAll, snap, snapL, flatL, pureL, pureA, fillC, arrOK, oneA, partB, AV.laid, ren1, CR.gr, applyW, useL, AS.mute, isGen, startG, ev5, tbUg0, glob, Nat.reduceMod, s11, s4, s1, s2, s3, b1, b2, b3, lC, hk, e1, e2]
              refine ⟨60 - (i + 1), by omega, i + 1, by omega, rfl, ?_⟩
              rw [hC, hW, hp]
              repeat' first | exact rfl | refine ⟨?_, ?_⟩
            · have e2 : ((i : Int) % 8 == 4) = false := beq_eq_false_iff_ne.2 (by omega)
              have hW : newW k c i = xor4 (wrd c (i - 1)) c ((i - 8) * 4) := by rw [newW, if_neg (by omega), midW, if_neg m0, if_neg m4]
              rw [if_neg (fun h => m0 h.2)] at hp
              have e3 : min 4 (240 - (i - 1) * 4) = 4 := by omega
              simp (maxSteps := 1000000) (disch := first | omega | (simp only [mixedF_len, boxedF_len, xor4_len, lnB] <;> omega) | fail) only [ev0, ev1, ev2, ev3, ↓reduceIte, reduceCtorEq, Nat.reduceAdd, Nat.reduceSub, Nat.reduceMul, Nat.reduceLT, Nat.reduceLeDiff, Nat.reduceEqDiff, Nat.reduceBEq, BitVec.reduceOfInt, Int.reduceLE, Int.reduceLT, Int.reduceGT, Int.reduceGE, Int.reduceNeg, Int.reduceAdd, Int.reduceSub, Int.reduceMul, Int.reduceToNat, ↓bind_go, ↓map_go, wantedV, isWrite, grow, write, ofV, AV.cells, Abs.start, Abs.strip, endQ, resV, rawsRes, rawRes, exports, export1, AS.grown, AS.put, Env.know, Env.boxed, isSelf, convSelf, convV, loadV, storeV, fieldAddrV, fieldV, indexAddrV, indexV, partV, isAggK, isStr, place, ipS, lenV, min2V, makeV, freshSl, sliceV, boundOr, bound, bounds, cutFl, copyV, slCells, srcV, appendV, room, zerosOf, eqNeg, kd, takeR, hasViewL, hasView, freshR, freshC, snapAll, snap, snapL, flatL, pureL, pureA, fillC, arrOK, oneA, partB, AV.laid, ren1, CR.gr, applyW, useL, AS.mute, isGen, startG, ev5, tbUg0, glob, Nat.reduceMod, s11, s4, s1, s2, s3, b1, b2, b3, lC, hk, e1, e2, e3]
              refine ⟨60 - (i + 1), by omega, i + 1, by omega, rfl, ?_⟩
              rw [hC, hW, hp]
              repeat' first | exact rfl | refine ⟨?_, ?_⟩
      · have hi : i = 60 := by omega
        subst hi
        simp (maxSteps := 1000000) (disch := first | omega | (simp only [mixedF_len, boxedF_len, xor4_len, lnB] <;> omega) | fail) only [ev0, ev1, ev2, ev3, ↓reduceIte, reduceCtorEq, Nat.reduceAdd, Nat.reduceSub, Nat.reduceMul, Nat.reduceLT, Nat.reduceLeDiff, Nat.reduceEqDiff, Nat.reduceBEq, BitVec.reduceOfInt, Int.reduceLE, Int.reduceLT, Int.reduceGT, Int.reduceGE, Int.reduceNeg, Int.reduceAdd, Int.reduceSub, Int.reduceMul, Int.reduceToNat, ↓bind_go, ↓map_go, wantedV, isWrite, grow, write, ofV, AV.cells, Abs.start, Abs.strip, endQ, resV, rawsRes, rawRes, exports, export1, AS.grown, AS.put, Env.know, Env.boxed, isSelf, convSelf, convV, loadV, storeV, fieldAddrV, fieldV, indexAddrV, indexV, partV, isAggK, isStr, place, ipS, lenV, min2V, makeV, freshSl, sliceV, boundOr, bound, bounds, cutFl, copyV, slCells, srcV, appendV, room, zerosOf, eqNeg, kd, takeR, hasViewL, hasView, freshR, freshC, snapAll, snap, snapL, flatL, pureL, pureA, fillC, arrOK, oneA, partB, AV.laid, ren1, CR.gr, applyW, useL, AS.mute, isGen, startG, ev5, tbUg0, glob, Nat.reduceMod, s11, s4, s1, s2, s3, b1, b2, b3, lC, hk]
        have hF : expF k = c := hc
        rw [hF]
        have hO := oK_all lC
        refine loopQ_of (fun n σ => ∃ i, i ≤ 60 ∧ n = 60 - i ∧ σ.slots 75 = .raw (.int .i64 (i : Int)) ∧ σ.slots 74 = .agg (nums .u8 c) ∧ (∃ g, σ.slots 8 = .ptr (.own 0 8 g) 0 ∧ σ.box (.own 0 8 g) = some (nums .u8 (oK c i))) ∧ σ.slots 2 = .ptr (.own 0 2 1) 0 ∧ σ.box (.own 0 2 1) = some (nums .u8 (List.replicate 240 0#8))) 60 ?_ ?_
        · refine ⟨0, by omega, by omega, ?_⟩
          simp (maxSteps := 1000000) (disch := first | omega | (simp only [mixedF_len, boxedF_len, xor4_len, lnB] <;> omega) | fail) only [ev0, ev1, ev2, ev3, ↓reduceIte, reduceCtorEq, Nat.reduceAdd, Nat.reduceSub, Nat.reduceMul, Nat.reduceLT, Nat.reduceLeDiff, Nat.reduceEqDiff, Nat.reduceBEq, BitVec.reduceOfInt, Int.reduceLE, Int.reduceLT, Int.reduceGT, Int.reduceGE, Int.reduceNeg, Int.reduceAdd, Int.reduceSub, Int.reduceMul, Int.reduceToNat, ↓bind_go, ↓map_go, wantedV, isWrite, grow, write, ofV, AV.cells, Abs.start, Abs.strip, endQ, resV, rawsRes, rawRes, exports, export1, AS.grown, AS.put, Env.know, Env.boxed, isSelf, convSelf, convV, loadV, storeV, fieldAddrV, fieldV, indexAddrV, indexV, partV, isAggK, isStr, place, ipS, lenV, min2V, makeV, freshSl, sliceV, boundOr, bound, bounds, cutFl, copyV, slCells, srcV, appendV, room, zerosOf, eqNeg, kd, takeR, hasViewL, hasView, freshR, freshC, snapAll, snap, snapL, flatL, pureL, pureA, fillC, arrOK, oneA, partB, AV.laid, ren1, CR.gr, applyW, useL, AS.mute, isGen, startG, ev5, tbUg0, glob, Nat.reduceMod, lC]
          refine ⟨rfl, ⟨gn 8 + 1, rfl, ?_⟩, s2, b2⟩
          rw [if_pos rfl]
          rfl
        · rintro n' ⟨sl', gn', bx', us'⟩ ⟨i, hi, rfl, s75, s74, ⟨g8, s8, b8⟩, s2', b2'⟩
          dsimp only at s75 s74 s8 b8 s2' b2'
          have lO := oK_len lC hi
          simp (maxSteps := 1000000) (disch := first | omega | (simp only [mixedF_len, boxedF_len, xor4_len, lnB] <;> omega) | fail) only [ev0, ev1, ev2, ev3, ↓reduceIte, reduceCtorEq, Nat.reduceAdd, Nat.reduceSub, Nat.reduceMul, Nat.reduceLT, Nat.reduceLeDiff, Nat.reduceEqDiff, Nat.reduceBEq, BitVec.reduceOfInt, Int.reduceLE, Int.reduceLT, Int.reduceGT, Int.reduceGE, Int.reduceNeg, Int.reduceAdd, Int.reduceSub, Int.reduceMul, Int.reduceToNat, ↓bind_go, ↓map_go, wantedV, isWrite, grow, write, ofV, AV.cells, Abs.start, Abs.strip, endQ, resV, rawsRes, rawRes, exports, export1, AS.grown, AS.put, Env.know, Env.boxed, isSelf, convSelf, convV, loadV, storeV, fieldAddrV, fieldV, indexAddrV, indexV, partV, isAggK, isStr, place, ipS, lenV, min2V, makeV, freshSl, sliceV, boundOr, bound, bounds, cutFl, copyV, slCells, srcV, appendV, room, zerosOf, eqNeg, kd, takeR, hasViewL, hasView, freshR, freshC, snapAll, snap, snapL, flatL, pureL, pureA, fillC, arrOK, oneA, partB, AV.laid, ren1, CR.gr, applyW, useL, AS.mute, isGen, startG, ev5, tbUg0, glob, Nat.reduceMod, s75, s74, s8, b8, s2', b2', lO, lC]
          refine condQ_dec (fun hlt => ?_) (fun hge => ?_)
          · have hlt : i < 60 := by omega
            have e1 : (16 = 4 * (i % 4)) = False := eq_false (by omega)
            have e2 : min 4 (240 - i * 4) = 4 := by omega
            have e3 : i / 4 * 16 + 4 * (i % 4) = 4 * i := by omega
            have e4 : min 4 (16 - 4 * (i % 4)) = 4 := by omega
            simp (maxSteps := 1000000) (disch := first | omega | (simp only [mixedF_len, boxedF_len, xor4_len, lnB] <;> omega) | fail) only [ev0, ev1, ev2, ev3, ↓reduceIte, reduceCtorEq, Nat.reduceAdd, Nat.reduceSub, Nat.reduceMul, Nat.reduceLT, Nat.reduceLeDiff, Nat.reduceEqDiff, Nat.reduceBEq, BitVec.reduceOfInt, Int.reduceLE, Int.reduceLT, Int.reduceGT, Int.reduceGE, Int.reduceNeg, Int.reduceAdd, Int.reduceSub, Int.reduceMul, Int.reduceToNat, ↓bind_go, ↓map_go, wantedV, isWrite, grow, write, ofV, AV.cells, Abs.start, Abs.strip, endQ, resV, rawsRes, rawRes, exports, export1, AS.grown, AS.put, Env.know, Env.boxed, isSelf, convSelf, convV, loadV, storeV, fieldAddrV, fieldV, indexAddrV, indexV, partV, isAggK, isStr, place, ipS, lenV, min2V, makeV, freshSl, sliceV, boundOr, bound, bounds, cutFl, copyV, slCells, srcV, appendV, room, zerosOf, eqNeg, kd, takeR, hasViewL, hasView, freshR, freshC, snapAll, snap, snapL, flatL, pureL, pureA, fillC, arrOK, oneA, partB, AV.laid, ren1, CR.gr, applyW, useL, AS.mute, isGen, startG, ev5, tbUg0, glob, Nat.reduceMod, s75, s74, s8, b8, s2', b2', lO, lC, e1, e2, e3, e4]
            refine ⟨60 - (i + 1), by omega, i + 1, by omega, rfl, rfl, g8, rfl, ?_⟩
            rw [if_pos rfl]
            rfl
          · have hi : i = 60 := by omega
            subst hi
            simp (maxSteps := 1000000) (disch := first | omega | (simp only [mixedF_len, boxedF_len, xor4_len, lnB] <;> omega) | fail) only [ev0, ev1, ev2, ev3, ↓reduceIte, reduceCtorEq, Nat.reduceAdd, Nat.reduceSub, Nat.reduceMul, Nat.reduceLT, Nat.reduceLeDiff, Nat.reduceEqDiff, Nat.reduceBEq, BitVec.reduceOfInt, Int.reduceLE, Int.reduceLT, Int.reduceGT, Int.reduceGE, Int.reduceNeg, Int.reduceAdd, Int.reduceSub, Int.reduceMul, Int.reduceToNat, ↓bind_go, ↓map_go, wantedV, isWrite, grow, write, ofV, AV.cells, Abs.start, Abs.strip, endQ, resV, rawsRes, rawRes, exports, export1, AS.grown, AS.put, Env.know, Env.boxed, isSelf, convSelf, convV, loadV, storeV, fieldAddrV, fieldV, indexAddrV, indexV, partV, isAggK, isStr, place, ipS, lenV, min2V, makeV, freshSl, sliceV, boundOr, bound, bounds, cutFl, copyV, slCells, srcV, appendV, room, zerosOf, eqNeg, kd, takeR, hasViewL, hasView, freshR, freshC, snapAll, snap, snapL, flatL, pureL, pureA, fillC, arrOK, oneA, partB, AV.laid, ren1, CR.gr, applyW, useL, AS.mute, isGen, startG, ev5, tbUg0, glob, Nat.reduceMod, s75, s74, s8, b8, s2', b2', lO, lC]
            rw [hO]
            exact ResQ.same rfl
  · cases hr
end Go.Proofs.YtddeffdgldjdjaaDoor
