/- Whether two entries are the same. -/
import Derived.Test.YtjnmdphoaafjaaaQc
namespace Go.Proofs.Ytjnmdphoaafjaaa
set_option linter.unusedSimpArgs false
set_option linter.unusedVariables false
set_option linter.defProp false
open Go Go.Abs
set_option maxHeartbeats 8000000
theorem bne_dec (n m : Int) : (n != m) = !decide (n = m) := by rw [bne, beq_dec']
theorem ilist_ext {l m : List Int} (h : l.length = m.length) (h2 : ∀ j, j < l.length → l.getD j 0 = m.getD j 0) : l = m := by
  apply List.ext_getElem h
  intro i h1 h3
  have := h2 i h1
  rwa [List.getD_eq_getElem?_getD, List.getD_eq_getElem?_getD, List.getElem?_eq_getElem h1, List.getElem?_eq_getElem h3] at this
def tbQd0 := (And.intro (And.intro (And.intro (And.intro (And.intro @teE (And.intro @cmdA_strip @repA_strip)) (And.intro (And.intro @entA_strip @cmdA_snap) (And.intro @repA_snap @entA_snap))) (And.intro (And.intro @cmdA_noview (And.intro @repA_noview @entA_noview)) (And.intro (And.intro @cmdA_take @cmdA_one) (And.intro @repA_take @repA_one)))) (And.intro (And.intro (And.intro @entA_take (And.intro @entA_one @dropC)) (And.intro (And.intro @dropR @dropE) (And.intro @zeroC @zeroR))) (And.intro (And.intro @zeroE (And.intro @splice_cmd @splice_cmd')) (And.intro (And.intro @splice_rep @splice_rep') (And.intro @splice_ent @splice_ent'))))) (And.intro (And.intro (And.intro (And.intro @cmdA_len (And.intro @repA_len @entA_len)) (And.intro (And.intro @rep1 @rep2) (And.intro @rep3 @rep5))) (And.intro (And.intro @one_le (And.intro @le2 @le3)) (And.intro (And.intro @le5 @dr1) (And.intro @dr2 @dr3)))) (And.intro (And.intro (And.intro @dr5 (And.intro @EW_te @EW_glob)) (And.intro (And.intro @EW_gs @EW_dyn) (And.intro @EW_mu @ev4))) (And.intro (And.intro @asB0 (And.intro @dat_beq @bne_dec)) (And.intro (And.intro @entA_0 @entA_1) (And.intro @entA_2 @entA_3))))))
set_option maxRecDepth 4000 in
theorem sound65 : SoundV Try.prog glob 65 pf65 := by
  refine SoundV.walk EW okW mixed Try.func65 rfl Try.call65 (by kernel_rfl) ?_
  intro args r hr
  unfold pf65 at hr
  split at hr
  · rename_i a b
    simp only [Option.bind_eq_some_iff] at hr
    obtain ⟨c, hc, e, he, hr⟩ := hr
    split at hr
    · rename_i hh
      cases hr
      have h1 := ent?_of hc
      have h2 := ent?_of he
      rw [Try.ntmps65, Try.results65]
      refine ⟨by simp, ?_⟩
      obtain ⟨t, k, d, m⟩ := c
      obtain ⟨t', k', d', m'⟩ := e
      obtain ⟨⟨g1, g2, g3, g4⟩, ⟨_, z1, _⟩, ⟨_, z2, _⟩⟩ := hh
      obtain ⟨d, rfl⟩ := Option.isSome_iff_exists.1 g1
      obtain ⟨m, rfl⟩ := Option.isSome_iff_exists.1 g2
      obtain ⟨d', rfl⟩ := Option.isSome_iff_exists.1 g3
      obtain ⟨m', rfl⟩ := Option.isSome_iff_exists.1 g4
      simp only [idat] at z1 z2
      have hs : sameE ⟨t, k, some d, some m⟩ ⟨t', k', some d', some m'⟩ = (decide (t = t') && (decide (k = k') && (decide (d = d') && decide (m = m')))) := rfl
      rw [hs]
      clear hs hc he g1 g2 g3 g4
      cases e1 : decide (t = t')
      · simp (maxSteps := 1000000) (disch := first | omega | exact ok4096 | (simp only [updB, dsB, reduceCtorEq, Nat.reduceEqDiff, *]; done) | (simp only [lnB] <;> omega) | fail) only [ev0, ev1, ev2, ev3, ↓reduceIte, reduceCtorEq, Nat.reduceAdd, Nat.reduceSub, Nat.reduceMul, Nat.reduceLT, Nat.reduceLeDiff, Nat.reduceEqDiff, Nat.reduceBEq, BitVec.reduceOfInt, Int.reduceLE, Int.reduceLT, Int.reduceGT, Int.reduceGE, Int.reduceNeg, Int.reduceAdd, Int.reduceSub, Int.reduceMul, Int.reduceToNat, ↓bind_go, ↓map_go, wantedV, isWrite, grow, write, ofV, AV.cells, Abs.start, Abs.strip, endQ, resV, rawsRes, rawRes, exports, export1, AS.grown, AS.put, Env.know, Env.boxed, isSelf, convSelf, convV, loadV, storeV, fieldAddrV, fieldV, indexAddrV, indexV, partV, isAggK, isStr, place, lenV, min2V, makeV, freshSl, sliceV, boundOr, bound, bounds, cutFl, copyV, slCells, srcV, appendV, room, zerosOf, eqNeg, kd, takeR, hasViewL, hasView, freshR, freshC, snapAll, snap, snapL, flatL, pureL, pureA, fillC, arrOK, oneA, partB, AV.laid, ren1, CR.gr, applyW, useL, AS.mute, isGen, startG, ev5, tbQd0, List.map_nil, List.all_nil, List.drop_zero, glob, Bool.not_false, Bool.not_true, btA, itA, List.size_toArray, Array.size_empty, List.length_nil, h1, h2, e1]
        exact ResQ.same rfl
      cases e2 : decide (k = k')
      · simp (maxSteps := 1000000) (disch := first | omega | exact ok4096 | (simp only [updB, dsB, reduceCtorEq, Nat.reduceEqDiff, *]; done) | (simp only [lnB] <;> omega) | fail) only [ev0, ev1, ev2, ev3, ↓reduceIte, reduceCtorEq, Nat.reduceAdd, Nat.reduceSub, Nat.reduceMul, Nat.reduceLT, Nat.reduceLeDiff, Nat.reduceEqDiff, Nat.reduceBEq, BitVec.reduceOfInt, Int.reduceLE, Int.reduceLT, Int.reduceGT, Int.reduceGE, Int.reduceNeg, Int.reduceAdd, Int.reduceSub, Int.reduceMul, Int.reduceToNat, ↓bind_go, ↓map_go, wantedV, isWrite, grow, write, ofV, AV.cells, Abs.start, Abs.strip, endQ, resV, rawsRes, rawRes, exports, export1, AS.grown, AS.put, Env.know, Env.boxed, isSelf, convSelf, convV, loadV, storeV, fieldAddrV, fieldV, indexAddrV, indexV, partV, isAggK, isStr, place, lenV, min2V, makeV, freshSl, sliceV, boundOr, bound, bounds, cutFl, copyV, slCells, srcV, appendV, room, zerosOf, eqNeg, kd, takeR, hasViewL, hasView, freshR, freshC, snapAll, snap, snapL, flatL, pureL, pureA, fillC, arrOK, oneA, partB, AV.laid, ren1, CR.gr, applyW, useL, AS.mute, isGen, startG, ev5, tbQd0, List.map_nil, List.all_nil, List.drop_zero, glob, Bool.not_false, Bool.not_true, btA, itA, List.size_toArray, Array.size_empty, List.length_nil, h1, h2, e1, e2]
        exact ResQ.same rfl
      cases e3 : decide (d = d')
      · simp (maxSteps := 1000000) (disch := first | omega | exact ok4096 | (simp only [updB, dsB, reduceCtorEq, Nat.reduceEqDiff, *]; done) | (simp only [lnB] <;> omega) | fail) only [ev0, ev1, ev2, ev3, ↓reduceIte, reduceCtorEq, Nat.reduceAdd, Nat.reduceSub, Nat.reduceMul, Nat.reduceLT, Nat.reduceLeDiff, Nat.reduceEqDiff, Nat.reduceBEq, BitVec.reduceOfInt, Int.reduceLE, Int.reduceLT, Int.reduceGT, Int.reduceGE, Int.reduceNeg, Int.reduceAdd, Int.reduceSub, Int.reduceMul, Int.reduceToNat, ↓bind_go, ↓map_go, wantedV, isWrite, grow, write, ofV, AV.cells, Abs.start, Abs.strip, endQ, resV, rawsRes, rawRes, exports, export1, AS.grown, AS.put, Env.know, Env.boxed, isSelf, convSelf, convV, loadV, storeV, fieldAddrV, fieldV, indexAddrV, indexV, partV, isAggK, isStr, place, lenV, min2V, makeV, freshSl, sliceV, boundOr, bound, bounds, cutFl, copyV, slCells, srcV, appendV, room, zerosOf, eqNeg, kd, takeR, hasViewL, hasView, freshR, freshC, snapAll, snap, snapL, flatL, pureL, pureA, fillC, arrOK, oneA, partB, AV.laid, ren1, CR.gr, applyW, useL, AS.mute, isGen, startG, ev5, tbQd0, List.map_nil, List.all_nil, List.drop_zero, glob, Bool.not_false, Bool.not_true, btA, itA, List.size_toArray, Array.size_empty, List.length_nil, h1, h2, e1, e2, e3]
        exact ResQ.same rfl
      by_cases hl : m.length = m'.length
      rotate_left
      · have e4 : decide (m.length = m'.length) = false := decide_eq_false hl
        have e5 : decide (m = m') = false := decide_eq_false (fun h => hl (by rw [h]))
        simp (maxSteps := 1000000) (disch := first | omega | exact ok4096 | (simp only [updB, dsB, reduceCtorEq, Nat.reduceEqDiff, *]; done) | (simp only [lnB] <;> omega) | fail) only [ev0, ev1, ev2, ev3, ↓reduceIte, reduceCtorEq, Nat.reduceAdd, Nat.reduceSub, Nat.reduceMul, Nat.reduceLT, Nat.reduceLeDiff, Nat.reduceEqDiff, Nat.reduceBEq, BitVec.reduceOfInt, Int.reduceLE, Int.reduceLT, Int.reduceGT, Int.reduceGE, Int.reduceNeg, Int.reduceAdd, Int.reduceSub, Int.reduceMul, Int.reduceToNat, ↓bind_go, ↓map_go, wantedV, isWrite, grow, write, ofV, AV.cells, Abs.start, Abs.strip, endQ, resV, rawsRes, rawRes, exports, export1, AS.grown, AS.put, Env.know, Env.boxed, isSelf, convSelf, convV, loadV, storeV, fieldAddrV, fieldV, indexAddrV, indexV, partV, isAggK, isStr, place, lenV, min2V, makeV, freshSl, sliceV, boundOr, bound, bounds, cutFl, copyV, slCells, srcV, appendV, room, zerosOf, eqNeg, kd, takeR, hasViewL, hasView, freshR, freshC, snapAll, snap, snapL, flatL, pureL, pureA, fillC, arrOK, oneA, partB, AV.laid, ren1, CR.gr, applyW, useL, AS.mute, isGen, startG, ev5, tbQd0, List.map_nil, List.all_nil, List.drop_zero, glob, Bool.not_false, Bool.not_true, btA, itA, List.size_toArray, Array.size_empty, List.length_nil, h1, h2, e1, e2, e3, e4]
        rw [e5]
        exact ResQ.same rfl
      have e4 : decide (m.length = m'.length) = true := decide_eq_true hl
      simp (maxSteps := 1000000) (disch := first | omega | exact ok4096 | (simp only [updB, dsB, reduceCtorEq, Nat.reduceEqDiff, *]; done) | (simp only [lnB] <;> omega) | fail) only [ev0, ev1, ev2, ev3, ↓reduceIte, reduceCtorEq, Nat.reduceAdd, Nat.reduceSub, Nat.reduceMul, Nat.reduceLT, Nat.reduceLeDiff, Nat.reduceEqDiff, Nat.reduceBEq, BitVec.reduceOfInt, Int.reduceLE, Int.reduceLT, Int.reduceGT, Int.reduceGE, Int.reduceNeg, Int.reduceAdd, Int.reduceSub, Int.reduceMul, Int.reduceToNat, ↓bind_go, ↓map_go, wantedV, isWrite, grow, write, ofV, AV.cells, Abs.start, Abs.strip, endQ, resV, rawsRes, rawRes, exports, export1, AS.grown, AS.put, Env.know, Env.boxed, isSelf, convSelf, convV, loadV, storeV, fieldAddrV, fieldV, indexAddrV, indexV, partV, isAggK, isStr, place, lenV, min2V, makeV, freshSl, sliceV, boundOr, bound, bounds, cutFl, copyV, slCells, srcV, appendV, room, zerosOf, eqNeg, kd, takeR, hasViewL, hasView, freshR, freshC, snapAll, snap, snapL, flatL, pureL, pureA, fillC, arrOK, oneA, partB, AV.laid, ren1, CR.gr, applyW, useL, AS.mute, isGen, startG, ev5, tbQd0, List.map_nil, List.all_nil, List.drop_zero, glob, Bool.not_false, Bool.not_true, btA, itA, List.size_toArray, Array.size_empty, List.length_nil, h1, h2, e1, e2, e3, e4]
      refine loopQ_of (fun n σ => ∃ j, j ≤ m.length ∧ n = m.length - j ∧ (∀ i, i < j → m.getD i 0 = m'.getD i 0) ∧ σ.slots 5 = .raw (.int .i64 (j : Int)) ∧ σ.slots 2 = .ptr (.own 0 2 1) 0 ∧ σ.slots 3 = .ptr (.own 0 3 1) 0 ∧ σ.box (.own 0 2 1) = some (entA ⟨t, k, some d, some m⟩) ∧ σ.box (.own 0 3 1) = some (entA ⟨t', k', some d', some m'⟩)) m.length ?_ ?_
      · refine ⟨0, by omega, by omega, by omega, ?_⟩
        simp (maxSteps := 1000000) (disch := first | omega | exact ok4096 | (simp only [updB, dsB, reduceCtorEq, Nat.reduceEqDiff, *]; done) | (simp only [lnB] <;> omega) | fail) only [ev0, ev1, ev2, ev3, ↓reduceIte, reduceCtorEq, Nat.reduceAdd, Nat.reduceSub, Nat.reduceMul, Nat.reduceLT, Nat.reduceLeDiff, Nat.reduceEqDiff, Nat.reduceBEq, BitVec.reduceOfInt, Int.reduceLE, Int.reduceLT, Int.reduceGT, Int.reduceGE, Int.reduceNeg, Int.reduceAdd, Int.reduceSub, Int.reduceMul, Int.reduceToNat, ↓bind_go, ↓map_go, wantedV, isWrite, grow, write, ofV, AV.cells, Abs.start, Abs.strip, endQ, resV, rawsRes, rawRes, exports, export1, AS.grown, AS.put, Env.know, Env.boxed, isSelf, convSelf, convV, loadV, storeV, fieldAddrV, fieldV, indexAddrV, indexV, partV, isAggK, isStr, place, lenV, min2V, makeV, freshSl, sliceV, boundOr, bound, bounds, cutFl, copyV, slCells, srcV, appendV, room, zerosOf, eqNeg, kd, takeR, hasViewL, hasView, freshR, freshC, snapAll, snap, snapL, flatL, pureL, pureA, fillC, arrOK, oneA, partB, AV.laid, ren1, CR.gr, applyW, useL, AS.mute, isGen, startG, ev5, tbQd0, List.map_nil, List.all_nil, List.drop_zero, glob, Bool.not_false, Bool.not_true, btA, itA, List.size_toArray, Array.size_empty, List.length_nil]
        exact rfl
      · rintro n ⟨sl, gn, bx, us⟩ ⟨j, hj, rfl, hsm, s5, s2, s3, b2, b3⟩
        dsimp only at s5 s2 s3 b2 b3
        simp (maxSteps := 1000000) (disch := first | omega | exact ok4096 | (simp only [updB, dsB, reduceCtorEq, Nat.reduceEqDiff, *]; done) | (simp only [lnB] <;> omega) | fail) only [ev0, ev1, ev2, ev3, ↓reduceIte, reduceCtorEq, Nat.reduceAdd, Nat.reduceSub, Nat.reduceMul, Nat.reduceLT, Nat.reduceLeDiff, Nat.reduceEqDiff, Nat.reduceBEq, BitVec.reduceOfInt, Int.reduceLE, Int.reduceLT, Int.reduceGT, Int.reduceGE, Int.reduceNeg, Int.reduceAdd, Int.reduceSub, Int.reduceMul, Int.reduceToNat, ↓bind_go, ↓map_go, wantedV, isWrite, grow, write, ofV, AV.cells, Abs.start, Abs.strip, endQ, resV, rawsRes, rawRes, exports, export1, AS.grown, AS.put, Env.know, Env.boxed, isSelf, convSelf, convV, loadV, storeV, fieldAddrV, fieldV, indexAddrV, indexV, partV, isAggK, isStr, place, lenV, min2V, makeV, freshSl, sliceV, boundOr, bound, bounds, cutFl, copyV, slCells, srcV, appendV, room, zerosOf, eqNeg, kd, takeR, hasViewL, hasView, freshR, freshC, snapAll, snap, snapL, flatL, pureL, pureA, fillC, arrOK, oneA, partB, AV.laid, ren1, CR.gr, applyW, useL, AS.mute, isGen, startG, ev5, tbQd0, List.map_nil, List.all_nil, List.drop_zero, glob, Bool.not_false, Bool.not_true, btA, itA, List.size_toArray, Array.size_empty, List.length_nil, s5, s2, s3, b2, b3]
        refine condQ_dec (fun hlt => ?_) (fun hge => ?_)
        · have hlt : j < m.length := by omega
          cases e6 : decide (m.getD j 0 = m'.getD j 0)
          · have e5 : decide (m = m') = false := decide_eq_false (fun h => by rw [h] at e6; simp at e6)
            simp (maxSteps := 1000000) (disch := first | omega | exact ok4096 | (simp only [updB, dsB, reduceCtorEq, Nat.reduceEqDiff, *]; done) | (simp only [lnB] <;> omega) | fail) only [ev0, ev1, ev2, ev3, ↓reduceIte, reduceCtorEq, Nat.reduceAdd, Nat.reduceSub, Nat.reduceMul, Nat.reduceLT, Nat.reduceLeDiff, Nat.reduceEqDiff, Nat.reduceBEq, BitVec.reduceOfInt, Int.reduceLE, Int.reduceLT, Int.reduceGT, Int.reduceGE, Int.reduceNeg, Int.reduceAdd, Int.reduceSub, Int.reduceMul, Int.reduceToNat, ↓bind_go, ↓map_go, wantedV, isWrite, grow, write, ofV, AV.cells, Abs.start, Abs.strip, endQ, resV, rawsRes, rawRes, exports, export1, AS.grown, AS.put, Env.know, Env.boxed, isSelf, convSelf, convV, loadV, storeV, fieldAddrV, fieldV, indexAddrV, indexV, partV, isAggK, isStr, place, lenV, min2V, makeV, freshSl, sliceV, boundOr, bound, bounds, cutFl, copyV, slCells, srcV, appendV, room, zerosOf, eqNeg, kd, takeR, hasViewL, hasView, freshR, freshC, snapAll, snap, snapL, flatL, pureL, pureA, fillC, arrOK, oneA, partB, AV.laid, ren1, CR.gr, applyW, useL, AS.mute, isGen, startG, ev5, tbQd0, List.map_nil, List.all_nil, List.drop_zero, glob, Bool.not_false, Bool.not_true, btA, itA, List.size_toArray, Array.size_empty, List.length_nil, s5, s2, s3, b2, b3, e6]
            rw [e5]
            exact ResQ.same rfl
          · simp (maxSteps := 1000000) (disch := first | omega | exact ok4096 | (simp only [updB, dsB, reduceCtorEq, Nat.reduceEqDiff, *]; done) | (simp only [lnB] <;> omega) | fail) only [ev0, ev1, ev2, ev3, ↓reduceIte, reduceCtorEq, Nat.reduceAdd, Nat.reduceSub, Nat.reduceMul, Nat.reduceLT, Nat.reduceLeDiff, Nat.reduceEqDiff, Nat.reduceBEq, BitVec.reduceOfInt, Int.reduceLE, Int.reduceLT, Int.reduceGT, Int.reduceGE, Int.reduceNeg, Int.reduceAdd, Int.reduceSub, Int.reduceMul, Int.reduceToNat, ↓bind_go, ↓map_go, wantedV, isWrite, grow, write, ofV, AV.cells, Abs.start, Abs.strip, endQ, resV, rawsRes, rawRes, exports, export1, AS.grown, AS.put, Env.know, Env.boxed, isSelf, convSelf, convV, loadV, storeV, fieldAddrV, fieldV, indexAddrV, indexV, partV, isAggK, isStr, place, lenV, min2V, makeV, freshSl, sliceV, boundOr, bound, bounds, cutFl, copyV, slCells, srcV, appendV, room, zerosOf, eqNeg, kd, takeR, hasViewL, hasView, freshR, freshC, snapAll, snap, snapL, flatL, pureL, pureA, fillC, arrOK, oneA, partB, AV.laid, ren1, CR.gr, applyW, useL, AS.mute, isGen, startG, ev5, tbQd0, List.map_nil, List.all_nil, List.drop_zero, glob, Bool.not_false, Bool.not_true, btA, itA, List.size_toArray, Array.size_empty, List.length_nil, s5, s2, s3, b2, b3, e6]
            refine ⟨m.length - (j + 1), by omega, j + 1, by omega, rfl, ?_, ?_⟩
            · intro i hi
              rcases Nat.lt_or_eq_of_le (Nat.le_of_lt_succ hi) with h | h
              · exact hsm i h
              · rw [h]; exact of_decide_eq_true e6
            · first | exact rfl | exact ⟨rfl, rfl⟩ | exact ⟨rfl, rfl, rfl⟩
        · have hj : j = m.length := by omega
          subst hj
          have e5 : decide (m = m') = true := decide_eq_true (ilist_ext hl hsm)
          simp (maxSteps := 1000000) (disch := first | omega | exact ok4096 | (simp only [updB, dsB, reduceCtorEq, Nat.reduceEqDiff, *]; done) | (simp only [lnB] <;> omega) | fail) only [ev0, ev1, ev2, ev3, ↓reduceIte, reduceCtorEq, Nat.reduceAdd, Nat.reduceSub, Nat.reduceMul, Nat.reduceLT, Nat.reduceLeDiff, Nat.reduceEqDiff, Nat.reduceBEq, BitVec.reduceOfInt, Int.reduceLE, Int.reduceLT, Int.reduceGT, Int.reduceGE, Int.reduceNeg, Int.reduceAdd, Int.reduceSub, Int.reduceMul, Int.reduceToNat, ↓bind_go, ↓map_go, wantedV, isWrite, grow, write, ofV, AV.cells, Abs.start, Abs.strip, endQ, resV, rawsRes, rawRes, exports, export1, AS.grown, AS.put, Env.know, Env.boxed, isSelf, convSelf, convV, loadV, storeV, fieldAddrV, fieldV, indexAddrV, indexV, partV, isAggK, isStr, place, lenV, min2V, makeV, freshSl, sliceV, boundOr, bound, bounds, cutFl, copyV, slCells, srcV, appendV, room, zerosOf, eqNeg, kd, takeR, hasViewL, hasView, freshR, freshC, snapAll, snap, snapL, flatL, pureL, pureA, fillC, arrOK, oneA, partB, AV.laid, ren1, CR.gr, applyW, useL, AS.mute, isGen, startG, ev5, tbQd0, List.map_nil, List.all_nil, List.drop_zero, glob, Bool.not_false, Bool.not_true, btA, itA, List.size_toArray, Array.size_empty, List.length_nil, s5, s2, s3, b2, b3]
          rw [e5]
          exact ResQ.same rfl
    · cases hr
  · cases hr
theorem samee_at' {c e : Eny} (h : okN c) (h' : okN e) : pf65 [norm3 (.agg (entA c)), norm3 (.agg (entA e))] = some (.raw (.bool (sameE c e))) := samee_at h h'
theorem tnF_ok {b : List (BitVec 8)} (h : b.length ≤ 150000000000000) : okN (tnF b) := by
  unfold tnF
  split
  · exact entF_ok h
  · exact ⟨by simp [noE, dat], by simp [noE, idat], by simp [noE, idat]⟩
end Go.Proofs.Ytjnmdphoaafjaaa
