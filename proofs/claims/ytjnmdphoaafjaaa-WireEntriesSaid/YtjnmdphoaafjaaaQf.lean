/- What the document reads as an entry, and writes of a command. -/
import Derived.Test.YtjnmdphoaafjaaaQe
namespace Go.Proofs.Ytjnmdphoaafjaaa
set_option linter.unusedSimpArgs false
set_option linter.unusedVariables false
set_option linter.defProp false
open Go Go.Abs
set_option maxHeartbeats 8000000
noncomputable def EC : Env := EB.know 62 (fun xs => pfEn (xs.map norm3))
theorem okEC : EnvOK Try.prog EC := okB.know (SoundV.norm3 sound62)
theorem EC_te : EC.te = te := rfl
theorem EC_glob : EC.glob = glob := rfl
theorem EC_gs : EC.gs = [] := rfl
theorem EC_dyn : EC.dyn = false := rfl
theorem EC_mu (d : Nat) : EC.mu d = false := rfl
theorem EC_12 : EC.tbl 81 = some (.val (fun xs => pf129 (xs.map norm))) := rfl
theorem EC_14 : EC.tbl 87 = some (.val (fun xs => pf147 (xs.map norm))) := rfl
theorem EC_16 : EC.tbl 82 = some (.val (fun xs => pf79 (xs.map norm))) := rfl
theorem EC_18 : EC.tbl 88 = some (.val (fun xs => pf132 (xs.map norm))) := rfl
theorem EC_21 : EC.tbl 122 = some (.val (fun xs => pf121 (xs.map norm))) := rfl
theorem EC_23 : EC.tbl 125 = some (.val (fun xs => pf144 (xs.map norm))) := rfl
theorem EC_ent : EC.tbl 62 = some (.val (fun xs => pfEn (xs.map norm3))) := rfl
def tbQf0 := (And.intro (And.intro (And.intro (And.intro (And.intro (And.intro @teE @cmdA_strip) (And.intro @repA_strip @entA_strip)) (And.intro (And.intro @cmdA_snap @repA_snap) (And.intro @entA_snap (And.intro @cmdA_noview @repA_noview)))) (And.intro (And.intro (And.intro @entA_noview @cmdA_take) (And.intro @cmdA_one @repA_take)) (And.intro (And.intro @repA_one @entA_take) (And.intro @entA_one (And.intro @dropC @dropR))))) (And.intro (And.intro (And.intro (And.intro @dropE @zeroC) (And.intro @zeroR @zeroE)) (And.intro (And.intro @splice_cmd @splice_cmd') (And.intro @splice_rep (And.intro @splice_rep' @splice_ent)))) (And.intro (And.intro (And.intro @splice_ent' @cmdA_len) (And.intro @repA_len (And.intro @entA_len @rep1))) (And.intro (And.intro @rep2 @rep3) (And.intro @rep5 (And.intro @one_le @le2)))))) (And.intro (And.intro (And.intro (And.intro (And.intro @le3 @le5) (And.intro @dr1 @dr2)) (And.intro (And.intro @dr3 @dr5) (And.intro @EC_te (And.intro @EC_glob @EC_gs)))) (And.intro (And.intro (And.intro @EC_dyn @EC_mu) (And.intro @EC_12 (And.intro @EC_14 @EC_16))) (And.intro (And.intro @EC_18 @EC_21) (And.intro @EC_23 (And.intro @EC_ent @ev4))))) (And.intro (And.intro (And.intro (And.intro @check_at @text_at) (And.intro @text_long @text_nil)) (And.intro (And.intro @list_at @list_nil) (And.intro @pf129_at (And.intro @put_nil @take_at)))) (And.intro (And.intro (And.intro @ttake_at @ltake_at) (And.intro @zz0 (And.intro @zz1 @entA_0))) (And.intro (And.intro @entA_1 @entA_2) (And.intro @entA_3 (And.intro @dat_beq @asB0)))))))
set_option maxRecDepth 4000 in
theorem sound64 : SoundV Try.prog glob 64 pf63 := by
  refine SoundV.walk EC okEC mixed Try.func64 rfl Try.call64 (by kernel_rfl) ?_
  intro args r hr
  unfold pf63 at hr
  split at hr
  · simp only [Option.bind_eq_some_iff] at hr
    obtain ⟨b, h1, hr⟩ := hr
    split at hr
    · rename_i hc
      cases hr
      obtain ⟨fl, rfl⟩ := row?_of h1
      rw [Try.ntmps64, Try.results64]
      refine ⟨by simp, ?_⟩
      have hok := entF_ok hc
      have l1 := tkR_le b
      have l2 := tkR_le (tkR b)
      have l3 := ttR_le (tkR (tkR b)) 4096
      have w1 : q1 b = (tkR b, (tkE b : Int)) := rfl
      by_cases c1 : tkE b = 0
      rotate_left
      · have v2 : q2 b = (tkR b, (tkE b : Int)) := by rw [q2, w1, rS_no (by dsimp only; omega)]
        have v3 : e3 b = (tkR b, (tkE b : Int)) := by rw [e3, v2, tS_no (by dsimp only; omega)]
        have v4 : e4 b = (tkR b, (tkE b : Int)) := by rw [e4, v3, lS_no (by dsimp only; omega)]
        rw [show tnF b = noE by rw [tnF, isE, v4]; simp only [dz c1, Bool.false_and, if_false, Bool.false_eq_true], show tnE b = 80 by rw [tnE, isE, v4]; simp only [dz c1, Bool.false_and, if_false, Bool.false_eq_true]]
        simp (maxSteps := 1000000) (disch := first | omega | exact ok4096 | (simp only [updB, dsB, reduceCtorEq, Nat.reduceEqDiff, *]; done) | (simp only [digF_len, putK_len, putB_len, lnB] <;> omega) | fail) only [ev0, ev1, ev2, ev3, ↓reduceIte, reduceCtorEq, Nat.reduceAdd, Nat.reduceSub, Nat.reduceMul, Nat.reduceLT, Nat.reduceLeDiff, Nat.reduceEqDiff, Nat.reduceBEq, BitVec.reduceOfInt, Int.reduceLE, Int.reduceLT, Int.reduceGT, Int.reduceGE, Int.reduceNeg, Int.reduceAdd, Int.reduceSub, Int.reduceMul, Int.reduceToNat, ↓bind_go, ↓map_go, wantedV, isWrite, grow, write, ofV, AV.cells, Abs.start, Abs.strip, endQ, resV, rawsRes, rawRes, exports, export1, AS.grown, AS.put, Env.know, Env.boxed, isSelf, convSelf, convV, loadV, storeV, fieldAddrV, fieldV, indexAddrV, indexV, partV, isAggK, isStr, place, lenV, min2V, makeV, freshSl, sliceV, boundOr, bound, bounds, cutFl, copyV, slCells, srcV, appendV, room, zerosOf, eqNeg, kd, takeR, hasViewL, hasView, freshR, freshC, snapAll, snap, snapL, flatL, pureL, pureA, fillC, arrOK, oneA, partB, AV.laid, ren1, CR.gr, applyW, useL, AS.mute, isGen, startG, ev5, tbQf0, List.map_nil, List.all_nil, List.drop_zero, glob, btA, itA, List.size_toArray, Array.size_empty, List.length_nil, nz_t c1]
        exact ResQ.same rfl
      have w2 : q2 b = (tkR (tkR b), (tkE (tkR b) : Int)) := by rw [q2, w1, rS_ok (by dsimp only; omega)]
      by_cases c2 : tkE (tkR b) = 0
      rotate_left
      · have v3 : e3 b = (tkR (tkR b), (tkE (tkR b) : Int)) := by rw [e3, w2, tS_no (by dsimp only; omega)]
        have v4 : e4 b = (tkR (tkR b), (tkE (tkR b) : Int)) := by rw [e4, v3, lS_no (by dsimp only; omega)]
        rw [show tnF b = noE by rw [tnF, isE, v4]; simp only [dz c2, Bool.false_and, if_false, Bool.false_eq_true], show tnE b = 80 by rw [tnE, isE, v4]; simp only [dz c2, Bool.false_and, if_false, Bool.false_eq_true]]
        simp (maxSteps := 1000000) (disch := first | omega | exact ok4096 | (simp only [updB, dsB, reduceCtorEq, Nat.reduceEqDiff, *]; done) | (simp only [digF_len, putK_len, putB_len, lnB] <;> omega) | fail) only [ev0, ev1, ev2, ev3, ↓reduceIte, reduceCtorEq, Nat.reduceAdd, Nat.reduceSub, Nat.reduceMul, Nat.reduceLT, Nat.reduceLeDiff, Nat.reduceEqDiff, Nat.reduceBEq, BitVec.reduceOfInt, Int.reduceLE, Int.reduceLT, Int.reduceGT, Int.reduceGE, Int.reduceNeg, Int.reduceAdd, Int.reduceSub, Int.reduceMul, Int.reduceToNat, ↓bind_go, ↓map_go, wantedV, isWrite, grow, write, ofV, AV.cells, Abs.start, Abs.strip, endQ, resV, rawsRes, rawRes, exports, export1, AS.grown, AS.put, Env.know, Env.boxed, isSelf, convSelf, convV, loadV, storeV, fieldAddrV, fieldV, indexAddrV, indexV, partV, isAggK, isStr, place, lenV, min2V, makeV, freshSl, sliceV, boundOr, bound, bounds, cutFl, copyV, slCells, srcV, appendV, room, zerosOf, eqNeg, kd, takeR, hasViewL, hasView, freshR, freshC, snapAll, snap, snapL, flatL, pureL, pureA, fillC, arrOK, oneA, partB, AV.laid, ren1, CR.gr, applyW, useL, AS.mute, isGen, startG, ev5, tbQf0, List.map_nil, List.all_nil, List.drop_zero, glob, btA, itA, List.size_toArray, Array.size_empty, List.length_nil, nz_f c1, nz_t c2]
        exact ResQ.same rfl
      have w3 : e3 b = (ttR (tkR (tkR b)) 4096, (ttE (tkR (tkR b)) 4096 : Int)) := by rw [e3, w2, tS_ok (by dsimp only; omega)]
      by_cases c3 : ttE (tkR (tkR b)) 4096 = 0
      rotate_left
      · have v4 : e4 b = (ttR (tkR (tkR b)) 4096, (ttE (tkR (tkR b)) 4096 : Int)) := by rw [e4, w3, lS_no (by dsimp only; omega)]
        rw [show tnF b = noE by rw [tnF, isE, v4]; simp only [dz c3, Bool.false_and, if_false, Bool.false_eq_true], show tnE b = 80 by rw [tnE, isE, v4]; simp only [dz c3, Bool.false_and, if_false, Bool.false_eq_true]]
        simp (maxSteps := 1000000) (disch := first | omega | exact ok4096 | (simp only [updB, dsB, reduceCtorEq, Nat.reduceEqDiff, *]; done) | (simp only [digF_len, putK_len, putB_len, lnB] <;> omega) | fail) only [ev0, ev1, ev2, ev3, ↓reduceIte, reduceCtorEq, Nat.reduceAdd, Nat.reduceSub, Nat.reduceMul, Nat.reduceLT, Nat.reduceLeDiff, Nat.reduceEqDiff, Nat.reduceBEq, BitVec.reduceOfInt, Int.reduceLE, Int.reduceLT, Int.reduceGT, Int.reduceGE, Int.reduceNeg, Int.reduceAdd, Int.reduceSub, Int.reduceMul, Int.reduceToNat, ↓bind_go, ↓map_go, wantedV, isWrite, grow, write, ofV, AV.cells, Abs.start, Abs.strip, endQ, resV, rawsRes, rawRes, exports, export1, AS.grown, AS.put, Env.know, Env.boxed, isSelf, convSelf, convV, loadV, storeV, fieldAddrV, fieldV, indexAddrV, indexV, partV, isAggK, isStr, place, lenV, min2V, makeV, freshSl, sliceV, boundOr, bound, bounds, cutFl, copyV, slCells, srcV, appendV, room, zerosOf, eqNeg, kd, takeR, hasViewL, hasView, freshR, freshC, snapAll, snap, snapL, flatL, pureL, pureA, fillC, arrOK, oneA, partB, AV.laid, ren1, CR.gr, applyW, useL, AS.mute, isGen, startG, ev5, tbQf0, List.map_nil, List.all_nil, List.drop_zero, glob, btA, itA, List.size_toArray, Array.size_empty, List.length_nil, nz_f c1, nz_f c2, nz_t c3]
        exact ResQ.same rfl
      have w4 : e4 b = (tlR (ttR (tkR (tkR b)) 4096) 7, (tlE (ttR (tkR (tkR b)) 4096) 7 : Int)) := by rw [e4, w3, lS_ok (by dsimp only; omega)]
      by_cases c4 : tlE (ttR (tkR (tkR b)) 4096) 7 = 0
      rotate_left
      · skip
        rw [show tnF b = noE by rw [tnF, isE, w4]; simp only [dz c4, Bool.false_and, if_false, Bool.false_eq_true], show tnE b = 80 by rw [tnE, isE, w4]; simp only [dz c4, Bool.false_and, if_false, Bool.false_eq_true]]
        simp (maxSteps := 1000000) (disch := first | omega | exact ok4096 | (simp only [updB, dsB, reduceCtorEq, Nat.reduceEqDiff, *]; done) | (simp only [digF_len, putK_len, putB_len, lnB] <;> omega) | fail) only [ev0, ev1, ev2, ev3, ↓reduceIte, reduceCtorEq, Nat.reduceAdd, Nat.reduceSub, Nat.reduceMul, Nat.reduceLT, Nat.reduceLeDiff, Nat.reduceEqDiff, Nat.reduceBEq, BitVec.reduceOfInt, Int.reduceLE, Int.reduceLT, Int.reduceGT, Int.reduceGE, Int.reduceNeg, Int.reduceAdd, Int.reduceSub, Int.reduceMul, Int.reduceToNat, ↓bind_go, ↓map_go, wantedV, isWrite, grow, write, ofV, AV.cells, Abs.start, Abs.strip, endQ, resV, rawsRes, rawRes, exports, export1, AS.grown, AS.put, Env.know, Env.boxed, isSelf, convSelf, convV, loadV, storeV, fieldAddrV, fieldV, indexAddrV, indexV, partV, isAggK, isStr, place, lenV, min2V, makeV, freshSl, sliceV, boundOr, bound, bounds, cutFl, copyV, slCells, srcV, appendV, room, zerosOf, eqNeg, kd, takeR, hasViewL, hasView, freshR, freshC, snapAll, snap, snapL, flatL, pureL, pureA, fillC, arrOK, oneA, partB, AV.laid, ren1, CR.gr, applyW, useL, AS.mute, isGen, startG, ev5, tbQf0, List.map_nil, List.all_nil, List.drop_zero, glob, btA, itA, List.size_toArray, Array.size_empty, List.length_nil, nz_f c1, nz_f c2, nz_f c3, nz_t c4]
        exact ResQ.same rfl
      have hF : entF b = ⟨(tkN b : Int), (tkN (tkR b) : Int), some (ttT (tkR (tkR b)) 4096), some (tlL (ttR (tkR (tkR b)) 4096) 7)⟩ := by
        rw [entF, w1, w2, w3, rN_ok' rfl, rN_ok' (by dsimp only; omega), tN_ok (by dsimp only; omega), lN_ok' (by dsimp only; omega)]
      have hi : isE b = (decide ((entR (entF b)).2 = 0) && decide ((entR (entF b)).1 = b)) := by
        rw [isE, w4, c4]; simp
      have hE := rentry_at hok
      have hA : entA (entF b) = [.raw (.int .i64 (tkN b : Int)), .raw (.int .i64 (tkN (tkR b) : Int)), .sl (ttT (tkR (tkR b)) 4096).length (nums .u8 (ttT (tkR (tkR b)) 4096)) .bor, .sl (tlL (ttR (tkR (tkR b)) 4096) 7).length (ints .i64 (tlL (ttR (tkR (tkR b)) 4096) 7)) .bor] := by rw [hF]; rfl
      have hT : tnF b = if isE b = true then entF b else noE := rfl
      have hE2 : tnE b = if isE b = true then 0 else 80 := rfl
      generalize entF b = x at hi hE hA hT hok
      rw [hA] at hE
      simp only [List.map_cons, List.map_nil] at hE
      by_cases c5 : (entR x).2 = 0
      · have d5 : ((entR x).2 != 0) = false := by rw [c5]; rfl
        by_cases c6 : (entR x).1 = b
        · have d6 : (List.map UInt8.ofBitVec (entR x).1 == List.map UInt8.ofBitVec b) = true := by rw [c6, beq_self_eq_true]
          have d6' : decide ((entR x).1 = b) = true := decide_eq_true c6
          have hi' : isE b = true := by rw [hi, c5, d6']; rfl
          rw [hT, hE2, if_pos hi', if_pos hi', hA]
          simp (maxSteps := 1000000) (disch := first | omega | exact ok4096 | (simp only [updB, dsB, reduceCtorEq, Nat.reduceEqDiff, *]; done) | (simp only [digF_len, putK_len, putB_len, lnB] <;> omega) | fail) only [ev0, ev1, ev2, ev3, ↓reduceIte, reduceCtorEq, Nat.reduceAdd, Nat.reduceSub, Nat.reduceMul, Nat.reduceLT, Nat.reduceLeDiff, Nat.reduceEqDiff, Nat.reduceBEq, BitVec.reduceOfInt, Int.reduceLE, Int.reduceLT, Int.reduceGT, Int.reduceGE, Int.reduceNeg, Int.reduceAdd, Int.reduceSub, Int.reduceMul, Int.reduceToNat, ↓bind_go, ↓map_go, wantedV, isWrite, grow, write, ofV, AV.cells, Abs.start, Abs.strip, endQ, resV, rawsRes, rawRes, exports, export1, AS.grown, AS.put, Env.know, Env.boxed, isSelf, convSelf, convV, loadV, storeV, fieldAddrV, fieldV, indexAddrV, indexV, partV, isAggK, isStr, place, lenV, min2V, makeV, freshSl, sliceV, boundOr, bound, bounds, cutFl, copyV, slCells, srcV, appendV, room, zerosOf, eqNeg, kd, takeR, hasViewL, hasView, freshR, freshC, snapAll, snap, snapL, flatL, pureL, pureA, fillC, arrOK, oneA, partB, AV.laid, ren1, CR.gr, applyW, useL, AS.mute, isGen, startG, ev5, tbQf0, List.map_nil, List.all_nil, List.drop_zero, glob, btA, itA, List.size_toArray, Array.size_empty, List.length_nil, nz_f c1, nz_f c2, nz_f c3, nz_f c4, hE, d5, d6']
          exact ResQ.same rfl
        · have d6' : decide ((entR x).1 = b) = false := decide_eq_false c6
          have hi' : ¬ isE b = true := by rw [hi, d6', Bool.and_false]; decide
          rw [hT, hE2, if_neg hi', if_neg hi']
          simp (maxSteps := 1000000) (disch := first | omega | exact ok4096 | (simp only [updB, dsB, reduceCtorEq, Nat.reduceEqDiff, *]; done) | (simp only [digF_len, putK_len, putB_len, lnB] <;> omega) | fail) only [ev0, ev1, ev2, ev3, ↓reduceIte, reduceCtorEq, Nat.reduceAdd, Nat.reduceSub, Nat.reduceMul, Nat.reduceLT, Nat.reduceLeDiff, Nat.reduceEqDiff, Nat.reduceBEq, BitVec.reduceOfInt, Int.reduceLE, Int.reduceLT, Int.reduceGT, Int.reduceGE, Int.reduceNeg, Int.reduceAdd, Int.reduceSub, Int.reduceMul, Int.reduceToNat, ↓bind_go, ↓map_go, wantedV, isWrite, grow, write, ofV, AV.cells, Abs.start, Abs.strip, endQ, resV, rawsRes, rawRes, exports, export1, AS.grown, AS.put, Env.know, Env.boxed, isSelf, convSelf, convV, loadV, storeV, fieldAddrV, fieldV, indexAddrV, indexV, partV, isAggK, isStr, place, lenV, min2V, makeV, freshSl, sliceV, boundOr, bound, bounds, cutFl, copyV, slCells, srcV, appendV, room, zerosOf, eqNeg, kd, takeR, hasViewL, hasView, freshR, freshC, snapAll, snap, snapL, flatL, pureL, pureA, fillC, arrOK, oneA, partB, AV.laid, ren1, CR.gr, applyW, useL, AS.mute, isGen, startG, ev5, tbQf0, List.map_nil, List.all_nil, List.drop_zero, glob, btA, itA, List.size_toArray, Array.size_empty, List.length_nil, nz_f c1, nz_f c2, nz_f c3, nz_f c4, hE, d5, d6']
          exact ResQ.same rfl
      · have d5 : ((entR x).2 != 0) = true := by rw [bne_iff_ne]; exact c5
        have hi' : ¬ isE b = true := by rw [hi, decide_eq_false c5, Bool.false_and]; decide
        rw [hT, hE2, if_neg hi', if_neg hi']
        simp (maxSteps := 1000000) (disch := first | omega | exact ok4096 | (simp only [updB, dsB, reduceCtorEq, Nat.reduceEqDiff, *]; done) | (simp only [digF_len, putK_len, putB_len, lnB] <;> omega) | fail) only [ev0, ev1, ev2, ev3, ↓reduceIte, reduceCtorEq, Nat.reduceAdd, Nat.reduceSub, Nat.reduceMul, Nat.reduceLT, Nat.reduceLeDiff, Nat.reduceEqDiff, Nat.reduceBEq, BitVec.reduceOfInt, Int.reduceLE, Int.reduceLT, Int.reduceGT, Int.reduceGE, Int.reduceNeg, Int.reduceAdd, Int.reduceSub, Int.reduceMul, Int.reduceToNat, ↓bind_go, ↓map_go, wantedV, isWrite, grow, write, ofV, AV.cells, Abs.start, Abs.strip, endQ, resV, rawsRes, rawRes, exports, export1, AS.grown, AS.put, Env.know, Env.boxed, isSelf, convSelf, convV, loadV, storeV, fieldAddrV, fieldV, indexAddrV, indexV, partV, isAggK, isStr, place, lenV, min2V, makeV, freshSl, sliceV, boundOr, bound, bounds, cutFl, copyV, slCells, srcV, appendV, room, zerosOf, eqNeg, kd, takeR, hasViewL, hasView, freshR, freshC, snapAll, snap, snapL, flatL, pureL, pureA, fillC, arrOK, oneA, partB, AV.laid, ren1, CR.gr, applyW, useL, AS.mute, isGen, startG, ev5, tbQf0, List.map_nil, List.all_nil, List.drop_zero, glob, btA, itA, List.size_toArray, Array.size_empty, List.length_nil, nz_f c1, nz_f c2, nz_f c3, nz_f c4, hE, d5]
        exact ResQ.same rfl
    · cases hr
  · cases hr
end Go.Proofs.Ytjnmdphoaafjaaa
