/- A reply is read: what the walk comes to (two regions in each order). -/
import Derived.Test.YtjnmdphoaafjaaaPx
import Derived.Test.YtjnmdphoaafjaaaM3
namespace Go.Proofs.Ytjnmdphoaafjaaa
set_option linter.unusedSimpArgs false
set_option linter.unusedVariables false
set_option linter.defProp false
open Go Go.Abs
set_option maxHeartbeats 16000000
def o4 : List (List Nat) := [[0, 1, 2, 3, 4, 5, 6, 7], [0, 1, 2, 3, 5, 4, 6, 7], [0, 1, 2, 3, 5, 6, 4, 7], [0, 1, 2, 5, 3, 4, 6, 7], [0, 1, 2, 5, 3, 6, 4, 7], [0, 1, 2, 5, 6, 3, 4, 7], [0, 1, 5, 2, 3, 4, 6, 7], [0, 1, 5, 2, 3, 6, 4, 7], [0, 1, 5, 2, 6, 3, 4, 7], [0, 1, 5, 6, 2, 3, 4, 7], [0, 5, 1, 2, 3, 4, 6, 7], [0, 5, 1, 2, 3, 6, 4, 7], [0, 5, 1, 2, 6, 3, 4, 7], [0, 5, 1, 6, 2, 3, 4, 7], [0, 5, 6, 1, 2, 3, 4, 7], [1, 0, 2, 3, 4, 5, 6, 7], [1, 0, 2, 3, 5, 4, 6, 7], [1, 0, 2, 3, 5, 6, 4, 7], [1, 0, 2, 5, 3, 4, 6, 7], [1, 0, 2, 5, 3, 6, 4, 7], [1, 0, 2, 5, 6, 3, 4, 7], [1, 0, 5, 2, 3, 4, 6, 7], [1, 0, 5, 2, 3, 6, 4, 7], [1, 0, 5, 2, 6, 3, 4, 7], [1, 0, 5, 6, 2, 3, 4, 7], [1, 2, 0, 3, 4, 5, 6, 7], [1, 2, 0, 3, 5, 4, 6, 7], [1, 2, 0, 3, 5, 6, 4, 7], [1, 2, 0, 5, 3, 4, 6, 7], [1, 2, 0, 5, 3, 6, 4, 7], [1, 2, 0, 5, 6, 3, 4, 7], [1, 2, 3, 0, 4, 5, 6, 7], [1, 2, 3, 0, 5, 4, 6, 7], [1, 2, 3, 0, 5, 6, 4, 7], [1, 2, 3, 4, 0, 5, 6, 7]]
def o5 : List (List Nat) := [[0, 1, 2, 3, 4, 5, 6, 7], [0, 1, 2, 3, 5, 4, 6, 7], [0, 1, 2, 5, 3, 4, 6, 7], [0, 1, 5, 2, 3, 4, 6, 7], [0, 5, 1, 2, 3, 4, 6, 7], [1, 0, 2, 3, 4, 5, 6, 7], [1, 0, 2, 3, 5, 4, 6, 7], [1, 0, 2, 5, 3, 4, 6, 7], [1, 0, 5, 2, 3, 4, 6, 7], [1, 2, 0, 3, 4, 5, 6, 7], [1, 2, 0, 3, 5, 4, 6, 7], [1, 2, 0, 5, 3, 4, 6, 7], [1, 2, 3, 0, 4, 5, 6, 7], [1, 2, 3, 0, 5, 4, 6, 7], [1, 2, 3, 4, 0, 5, 6, 7]]
def dsR : List (Nat × List (List Nat)) := [(4, o4), (5, o5)]
section
variable {E : Env} {lvl n : Nat} {Q : AX → AS → Prop} {σ : AS} {ops : Array Oper} {d : Bool}
theorem tx0 : awpXO E dsR lvl n (.region 0 ops d) Q σ = bindQ (regsO E lvl n ops.toList ops.toList σ) (Q .nrm) := awpX_text rfl
theorem tx1 : awpXO E dsR lvl n (.region 1 ops d) Q σ = bindQ (regsO E lvl n ops.toList ops.toList σ) (Q .nrm) := awpX_text rfl
theorem tx2 : awpXO E dsR lvl n (.region 2 ops d) Q σ = bindQ (regsO E lvl n ops.toList ops.toList σ) (Q .nrm) := awpX_text rfl
theorem tx3 : awpXO E dsR lvl n (.region 3 ops d) Q σ = bindQ (regsO E lvl n ops.toList ops.toList σ) (Q .nrm) := awpX_text rfl
theorem ex4 : awpXO E dsR lvl n (.region 4 ops d) Q σ = ∀ l ∈ o4, bindQ (runO E lvl n ops.toList l σ) (Q .nrm) := awpX_each rfl
theorem ex5 : awpXO E dsR lvl n (.region 5 ops d) Q σ = ∀ l ∈ o5, bindQ (runO E lvl n ops.toList l σ) (Q .nrm) := awpX_each rfl
end
theorem splice_r4 (c : Rep) (x y z u : AV) : splice [x, y, z, u] 0 (repA c) = repA c := by simp [splice, repA]
def tbPy0 := (And.intro (And.intro (And.intro (And.intro (And.intro (And.intro @teE @cmdA_strip) (And.intro @repA_strip @entA_strip)) (And.intro (And.intro @cmdA_snap @repA_snap) (And.intro @entA_snap (And.intro @cmdA_noview @repA_noview)))) (And.intro (And.intro (And.intro @entA_noview @cmdA_take) (And.intro @cmdA_one @repA_take)) (And.intro (And.intro @repA_one @entA_take) (And.intro @entA_one (And.intro @dropC @dropR))))) (And.intro (And.intro (And.intro (And.intro @dropE @zeroC) (And.intro @zeroR @zeroE)) (And.intro (And.intro @splice_cmd @splice_cmd') (And.intro @splice_rep (And.intro @splice_rep' @splice_ent)))) (And.intro (And.intro (And.intro @splice_ent' @cmdA_len) (And.intro @repA_len (And.intro @entA_len @rep1))) (And.intro (And.intro @rep2 @rep3) (And.intro @rep5 (And.intro @one_le @le2)))))) (And.intro (And.intro (And.intro (And.intro (And.intro @le3 @le5) (And.intro @dr1 @dr2)) (And.intro (And.intro @dr3 @dr5) (And.intro @EZ_te (And.intro @EZ_glob @EZ_gs)))) (And.intro (And.intro (And.intro @EZ_dyn @EZ_mu) (And.intro @EZ_n (And.intro @EZ_t @EZ_l))) (And.intro (And.intro @EZ_w @ev4) (And.intro @number_is (And.intro @text_is @list_is))))) (And.intro (And.intro (And.intro (And.intro @wholeC_is @wholeE_is) (And.intro @wrC_at @wrE_at)) (And.intro (And.intro @rdA_len @rdA_0) (And.intro @rdA_1 (And.intro @rdA_ren @q1_is)))) (And.intro (And.intro (And.intro @q2_is @q3_is) (And.intro @q4_is (And.intro @q5_is @q6_is))) (And.intro (And.intro @q7_is @zz0) (And.intro @zz1 (And.intro @rdA_take @rdA_one)))))))
set_option maxRecDepth 4000 in
theorem sound58 : SoundV Try.prog glob 58 pf58 := by
  refine SoundV.walkX EZ dsR okZ mixed Try.func58 rfl Try.call58 (by kernel_rfl) ?_
  intro args r hr
  unfold pf58 at hr
  split at hr
  · simp only [Option.bind_eq_some_iff] at hr
    obtain ⟨b, h1, hr⟩ := hr
    split at hr
    · rename_i hc
      cases hr
      obtain ⟨fl, rfl⟩ := row?_of h1
      rw [Try.ntmps58, Try.results58]
      refine ⟨by simp, ?_⟩
      have l1 : (q1 b).1.length ≤ b.length := rS_le _
      have l2 : (q2 b).1.length ≤ (q1 b).1.length := rS_le _
      have l3 : (q3 b).1.length ≤ (q2 b).1.length := rS_le _
      have m1 := eq_true (show (q1 b).1.length ≤ 150000000000000 by omega)
      have m2 := eq_true (show (q2 b).1.length ≤ 150000000000000 by omega)
      have m3 := eq_true (show (q3 b).1.length ≤ 150000000000000 by omega)
      have m0 := eq_true hc
      by_cases h : (r4 b).2 = 0
      · have d : ((r4 b).2 != 0) = false := by rw [h]; rfl
        rw [show trR b = repF b by rw [trR, if_pos h], show trS b = (r4 b).1 by rw [trS, if_pos h], show trE b = 0 from h]
        simp (maxSteps := 1000000) (disch := first | omega | assumption | (simp only [updB, dsB, reduceCtorEq, Nat.reduceEqDiff, *]; done) | (simp only [lnB] <;> omega) | fail) only [ev0, ev1, ev2, ev3, ↓reduceIte, reduceCtorEq, Nat.reduceAdd, Nat.reduceSub, Nat.reduceMul, Nat.reduceLT, Nat.reduceLeDiff, Nat.reduceEqDiff, Nat.reduceBEq, BitVec.reduceOfInt, Int.reduceLE, Int.reduceLT, Int.reduceGT, Int.reduceGE, Int.reduceNeg, Int.reduceAdd, Int.reduceSub, Int.reduceMul, Int.reduceToNat, ↓bind_go, ↓map_go, wantedV, isWrite, grow, write, ofV, AV.cells, Abs.start, Abs.strip, endQ, resV, rawsRes, rawRes, exports, export1, AS.grown, AS.put, Env.know, Env.boxed, isSelf, convSelf, convV, loadV, storeV, fieldAddrV, fieldV, indexAddrV, indexV, partV, isAggK, isStr, place, lenV, min2V, makeV, freshSl, sliceV, boundOr, bound, bounds, cutFl, copyV, slCells, srcV, appendV, room, zerosOf, eqNeg, kd, takeR, hasViewL, hasView, freshR, freshC, snapAll, snap, snapL, flatL, pureL, pureA, fillC, arrOK, oneA, partB, AV.laid, ren1, CR.gr, applyW, useL, AS.mute, isGen, startG, ev5, tbPy0, List.map_nil, List.all_nil, List.drop_zero, glob, rd?_at, rd?_lit, row?_b, List.size_toArray, Array.size_empty, List.length_nil, Int.reduceBEq, Int.reduceBNe, beq_self_eq_true, Bx.own.injEq, ne_eq, and_false, false_and, and_true, true_and, not_false_eq_true, Bool.not_true, Bool.not_false, evX, tx0, tx1, tx2, tx3, ex4, ex5, splice_r4, m0, m1, m2, m3, r4_is, d]
        intro l hl
        simp only [o5, List.mem_cons, List.not_mem_nil, or_false] at hl
        rcases hl with rfl | rfl | rfl | rfl | rfl | rfl | rfl | rfl | rfl | rfl | rfl | rfl | rfl | rfl | rfl
        all_goals simp (maxSteps := 1000000) (disch := first | omega | assumption | (simp only [updB, dsB, reduceCtorEq, Nat.reduceEqDiff, *]; done) | (simp only [lnB] <;> omega) | fail) only [ev0, ev1, ev2, ev3, ↓reduceIte, reduceCtorEq, Nat.reduceAdd, Nat.reduceSub, Nat.reduceMul, Nat.reduceLT, Nat.reduceLeDiff, Nat.reduceEqDiff, Nat.reduceBEq, BitVec.reduceOfInt, Int.reduceLE, Int.reduceLT, Int.reduceGT, Int.reduceGE, Int.reduceNeg, Int.reduceAdd, Int.reduceSub, Int.reduceMul, Int.reduceToNat, ↓bind_go, ↓map_go, wantedV, isWrite, grow, write, ofV, AV.cells, Abs.start, Abs.strip, endQ, resV, rawsRes, rawRes, exports, export1, AS.grown, AS.put, Env.know, Env.boxed, isSelf, convSelf, convV, loadV, storeV, fieldAddrV, fieldV, indexAddrV, indexV, partV, isAggK, isStr, place, lenV, min2V, makeV, freshSl, sliceV, boundOr, bound, bounds, cutFl, copyV, slCells, srcV, appendV, room, zerosOf, eqNeg, kd, takeR, hasViewL, hasView, freshR, freshC, snapAll, snap, snapL, flatL, pureL, pureA, fillC, arrOK, oneA, partB, AV.laid, ren1, CR.gr, applyW, useL, AS.mute, isGen, startG, ev5, tbPy0, List.map_nil, List.all_nil, List.drop_zero, glob, rd?_at, rd?_lit, row?_b, List.size_toArray, Array.size_empty, List.length_nil, Int.reduceBEq, Int.reduceBNe, beq_self_eq_true, Bx.own.injEq, ne_eq, and_false, false_and, and_true, true_and, not_false_eq_true, Bool.not_true, Bool.not_false, evX, repA_0, splice_r4]
        all_goals exact ResQ.same rfl
      · have d : ((r4 b).2 != 0) = true := by rw [bne_iff_ne]; exact h
        rw [show trR b = ⟨0, 0, 0, none⟩ by rw [trR, if_neg h], show trS b = [] by rw [trS, if_neg h], show trE b = (r4 b).2 from rfl]
        simp (maxSteps := 1000000) (disch := first | omega | assumption | (simp only [updB, dsB, reduceCtorEq, Nat.reduceEqDiff, *]; done) | (simp only [lnB] <;> omega) | fail) only [ev0, ev1, ev2, ev3, ↓reduceIte, reduceCtorEq, Nat.reduceAdd, Nat.reduceSub, Nat.reduceMul, Nat.reduceLT, Nat.reduceLeDiff, Nat.reduceEqDiff, Nat.reduceBEq, BitVec.reduceOfInt, Int.reduceLE, Int.reduceLT, Int.reduceGT, Int.reduceGE, Int.reduceNeg, Int.reduceAdd, Int.reduceSub, Int.reduceMul, Int.reduceToNat, ↓bind_go, ↓map_go, wantedV, isWrite, grow, write, ofV, AV.cells, Abs.start, Abs.strip, endQ, resV, rawsRes, rawRes, exports, export1, AS.grown, AS.put, Env.know, Env.boxed, isSelf, convSelf, convV, loadV, storeV, fieldAddrV, fieldV, indexAddrV, indexV, partV, isAggK, isStr, place, lenV, min2V, makeV, freshSl, sliceV, boundOr, bound, bounds, cutFl, copyV, slCells, srcV, appendV, room, zerosOf, eqNeg, kd, takeR, hasViewL, hasView, freshR, freshC, snapAll, snap, snapL, flatL, pureL, pureA, fillC, arrOK, oneA, partB, AV.laid, ren1, CR.gr, applyW, useL, AS.mute, isGen, startG, ev5, tbPy0, List.map_nil, List.all_nil, List.drop_zero, glob, rd?_at, rd?_lit, row?_b, List.size_toArray, Array.size_empty, List.length_nil, Int.reduceBEq, Int.reduceBNe, beq_self_eq_true, Bx.own.injEq, ne_eq, and_false, false_and, and_true, true_and, not_false_eq_true, Bool.not_true, Bool.not_false, evX, tx0, tx1, tx2, tx3, ex4, ex5, splice_r4, m0, m1, m2, m3, r4_is, d]
        intro l hl
        simp only [o4, List.mem_cons, List.not_mem_nil, or_false] at hl
        rcases hl with rfl | rfl | rfl | rfl | rfl | rfl | rfl | rfl | rfl | rfl | rfl | rfl | rfl | rfl | rfl | rfl | rfl | rfl | rfl | rfl | rfl | rfl | rfl | rfl | rfl | rfl | rfl | rfl | rfl | rfl | rfl | rfl | rfl | rfl | rfl
        all_goals simp (maxSteps := 1000000) (disch := first | omega | assumption | (simp only [updB, dsB, reduceCtorEq, Nat.reduceEqDiff, *]; done) | (simp only [lnB] <;> omega) | fail) only [ev0, ev1, ev2, ev3, ↓reduceIte, reduceCtorEq, Nat.reduceAdd, Nat.reduceSub, Nat.reduceMul, Nat.reduceLT, Nat.reduceLeDiff, Nat.reduceEqDiff, Nat.reduceBEq, BitVec.reduceOfInt, Int.reduceLE, Int.reduceLT, Int.reduceGT, Int.reduceGE, Int.reduceNeg, Int.reduceAdd, Int.reduceSub, Int.reduceMul, Int.reduceToNat, ↓bind_go, ↓map_go, wantedV, isWrite, grow, write, ofV, AV.cells, Abs.start, Abs.strip, endQ, resV, rawsRes, rawRes, exports, export1, AS.grown, AS.put, Env.know, Env.boxed, isSelf, convSelf, convV, loadV, storeV, fieldAddrV, fieldV, indexAddrV, indexV, partV, isAggK, isStr, place, lenV, min2V, makeV, freshSl, sliceV, boundOr, bound, bounds, cutFl, copyV, slCells, srcV, appendV, room, zerosOf, eqNeg, kd, takeR, hasViewL, hasView, freshR, freshC, snapAll, snap, snapL, flatL, pureL, pureA, fillC, arrOK, oneA, partB, AV.laid, ren1, CR.gr, applyW, useL, AS.mute, isGen, startG, ev5, tbPy0, List.map_nil, List.all_nil, List.drop_zero, glob, rd?_at, rd?_lit, row?_b, List.size_toArray, Array.size_empty, List.length_nil, Int.reduceBEq, Int.reduceBNe, beq_self_eq_true, Bx.own.injEq, ne_eq, and_false, false_and, and_true, true_and, not_false_eq_true, Bool.not_true, Bool.not_false, evX, d, splice_r4]
        all_goals exact resQ_a3nil
    · cases hr
  · cases hr
end Go.Proofs.Ytjnmdphoaafjaaa
