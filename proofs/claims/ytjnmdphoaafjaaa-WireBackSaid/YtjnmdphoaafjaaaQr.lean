/- The statements' functions of layer 9: what their walks come to (replies; there and back). -/
import Derived.Test.YtjnmdphoaafjaaaQo
import Derived.Test.YtjnmdphoaafjaaaPy
import Derived.Test.YtjnmdphoaafjaaaQd
namespace Go.Proofs.Ytjnmdphoaafjaaa
set_option linter.unusedSimpArgs false
set_option linter.unusedVariables false
set_option linter.defProp false
open Go Go.Abs
set_option maxHeartbeats 8000000
noncomputable def EM : Env := ((((((EL.know 56 pf56).know 58 (fun xs => pf58 (xs.map norm))).know 60 (fun xs => pf60 (xs.map norm3))).know 41 (fun xs => pf41 (xs.map norm))).know 63 (fun xs => pf63 (xs.map norm))).know 65 (fun xs => pf65 (xs.map norm3)))
theorem okM : EnvOK Try.prog EM := ((((((okL.know sound56).know sound58.norm).know (SoundV.norm3 sound60)).know sound41.norm).know sound63.norm).know (SoundV.norm3 sound65))
theorem EM_te : EM.te = te := rfl
theorem EM_glob : EM.glob = glob := rfl
theorem EM_gs : EM.gs = [] := rfl
theorem EM_dyn : EM.dyn = false := rfl
theorem EM_mu (d : Nat) : EM.mu d = false := rfl
theorem EM_3 : EM.tbl 39 = some (.val pf39) := rfl
theorem EM_5 : EM.tbl 41 = some (.val (fun xs => pf41 (xs.map norm))) := rfl
theorem EM_7 : EM.tbl 43 = some (.val (fun xs => pf43 (xs.map norm3))) := rfl
theorem EM_8 : EM.tbl 61 = some (.val pf61) := rfl
theorem EM_10 : EM.tbl 63 = some (.val (fun xs => pf63 (xs.map norm))) := rfl
theorem EM_12 : EM.tbl 65 = some (.val (fun xs => pf65 (xs.map norm3))) := rfl
theorem EM_13 : EM.tbl 38 = some (.val pf38) := rfl
theorem EM_14 : EM.tbl 56 = some (.val pf56) := rfl
theorem EM_16 : EM.tbl 58 = some (.val (fun xs => pf58 (xs.map norm))) := rfl
theorem EM_18 : EM.tbl 60 = some (.val (fun xs => pf60 (xs.map norm3))) := rfl
theorem samer_at' (c e : Rep) : pf60 [norm3 (.agg (repA c)), norm3 (.agg (repA e))] = some (.raw (.bool (sameR c e))) := samer_at c e
theorem reply_at {c : Rep} (h : okR c) : pf56 [.agg (repA c)] = some (.tup [.sl (repR c).1.length (nums .u8 (repR c).1) .bor, .raw (.int .i64 (repR c).2)]) := by
  simp only [pf56, repA_strip, rep?_at, Option.bind_some, if_pos h]
theorem tkr_at {n : Nat} {b : List (BitVec 8)} {fl : Fl} (h : n = b.length) (h2 : b.length ≤ 150000000000000) : pf58 [.sl n (nums .u8 b) fl] = some (.tup [.agg (repA (trR b)), .sl (trS b).length (nums .u8 (trS b)) .bor, .raw (.int .i64 (trE b))]) := by
  simp only [pf58, row?_at h, Option.bind_some, if_pos h2]
theorem trR_ok (b : List (BitVec 8)) : okR (trR b) := by
  have h1 := rN_ok (b, 0)
  have h2 := rN_ok (q1 b)
  have h3 := rN_ok (q2 b)
  unfold trR
  split
  · simp only [repF, okR, i64ok]; omega
  · exact ⟨by decide, by decide, by decide⟩
theorem tcC_n (b : List (BitVec 8)) : (tcC b).n ≤ 9223372036854775807 := by
  unfold tcC
  split
  · exact (rN_ok (q4 b)).2
  · decide
theorem tcC_back {b : List (BitVec 8)} (h : isC b = true) : tcE b = 0 ∧ cmdR (tcC b) = (b, 0) := by
  have h1 : tcE b = 0 := by rw [tcE, if_pos h]
  have h2 : tcC b = cC b := by rw [tcC, if_pos h]
  rw [isC] at h
  simp only [Bool.and_eq_true, decide_eq_true_eq] at h
  refine ⟨h1, ?_⟩
  rw [h2]
  exact Prod.ext h.2.2 h.2.1
theorem tnF_back {b : List (BitVec 8)} (h : isE b = true) : tnE b = 0 ∧ entR (tnF b) = (b, 0) := by
  have h1 : tnE b = 0 := by rw [tnE, if_pos h]
  have h2 : tnF b = entF b := by rw [tnF, if_pos h]
  rw [isE] at h
  simp only [Bool.and_eq_true, decide_eq_true_eq] at h
  refine ⟨h1, ?_⟩
  rw [h2]
  exact Prod.ext h.2.2 h.2.1
theorem bq800 : ((80 : Int) == 0) = false := rfl
theorem bne0 {n : Int} (h : n ≠ 0) : (n == 0) = false := beq_eq_false_iff_ne.2 h
set_option maxRecDepth 4000
noncomputable def pf21 : List AV → Option AV
  | [v] => (row? .u8 8 v).bind fun b => if b.length ≤ 140737488355328 then some (.raw (.bool true)) else none
  | _ => none
def tbQr0 := (And.intro (And.intro (And.intro (And.intro (And.intro (And.intro @teE @EM_te) (And.intro @EM_glob (And.intro @EM_gs @EM_dyn))) (And.intro (And.intro @EM_mu @EM_3) (And.intro @EM_5 (And.intro @EM_7 @EM_8)))) (And.intro (And.intro (And.intro @EM_10 @EM_12) (And.intro @EM_13 (And.intro @EM_14 @EM_16))) (And.intro (And.intro @EM_18 @ev4) (And.intro @command_at (And.intro @tkc_at @samec_at'))))) (And.intro (And.intro (And.intro (And.intro @entry_at @tke_at) (And.intro @samee_at' (And.intro @reply_at @tkr_at))) (And.intro (And.intro @samer_at' @shown_at) (And.intro @sameR_self (And.intro @sameC_self @sameE_self)))) (And.intro (And.intro (And.intro @dat_beq @splice_e4) (And.intro @splice_r4 (And.intro @cmdA_splice @cmdA_strip))) (And.intro (And.intro @repA_strip @entA_strip) (And.intro @cmdA_snap (And.intro @repA_snap @entA_snap)))))) (And.intro (And.intro (And.intro (And.intro (And.intro @cmdA_noview @repA_noview) (And.intro @entA_noview (And.intro @cmdA_take @cmdA_one))) (And.intro (And.intro @repA_take @repA_one) (And.intro @entA_take (And.intro @entA_one @dropC)))) (And.intro (And.intro (And.intro @dropR @dropE) (And.intro @zeroC (And.intro @zeroR @zeroE))) (And.intro (And.intro @splice_cmd @splice_cmd') (And.intro @splice_rep (And.intro @splice_rep' @splice_ent))))) (And.intro (And.intro (And.intro (And.intro @splice_ent' @cmdA_len) (And.intro @repA_len (And.intro @entA_len @rep1))) (And.intro (And.intro @rep2 @rep3) (And.intro @rep5 (And.intro @one_le @le2)))) (And.intro (And.intro (And.intro @le3 @le5) (And.intro @dr1 (And.intro @dr2 @dr3))) (And.intro (And.intro @dr5 @zz0) (And.intro @zz1 (And.intro @bq0 @bq800)))))))
theorem sound21 : SoundV Try.prog glob 21 pf21 := by
  refine SoundV.walk EM okM mixed Try.func21 rfl Try.call21 (by kernel_rfl) ?_
  intro args r hr
  unfold pf21 at hr
  split at hr
  · rename_i v
    simp only [Option.bind_eq_some_iff] at hr
    obtain ⟨b, h2, hr⟩ := hr
    split at hr
    · rename_i hb
      cases hr
      obtain ⟨fl, rfl⟩ := row?_of h2
      rw [Try.ntmps21, Try.results21]
      refine ⟨by simp, ?_⟩
      have hn := tcC_n b
      have ho := tnF_ok (b := b) (by omega)
      have hr := trR_ok b
      cases h1 : isC b
      · have t1 : tcE b = 80 := by rw [tcE, h1]; rfl
        cases h2 : isE b
        · have t2 : tnE b = 80 := by rw [tnE, h2]; rfl
          by_cases h3 : trE b = 0
          · obtain ⟨w1, w2⟩ := write_rep h3
            have lw : (repR (trR b)).1.length + (trS b).length = b.length := by rw [← List.length_append, w2]
            have w2' : List.map UInt8.ofBitVec (repR (trR b)).1 ++ List.map UInt8.ofBitVec (trS b) = List.map UInt8.ofBitVec b := by rw [← List.map_append, w2]
            have q3 : (repR (trR b)).1.length + (trS b).length ≤ 9223372036854775807 := by omega
            simp (maxSteps := 1000000) (disch := first | omega | assumption | (simp only [updB, dsB, reduceCtorEq, Nat.reduceEqDiff, *]; done) | (simp only [lnB] <;> omega) | fail) only [ev0, ev1, ev2, ev3, ↓reduceIte, reduceCtorEq, Nat.reduceAdd, Nat.reduceSub, Nat.reduceMul, Nat.reduceLT, Nat.reduceLeDiff, Nat.reduceEqDiff, Nat.reduceBEq, BitVec.reduceOfInt, Int.reduceLE, Int.reduceLT, Int.reduceGT, Int.reduceGE, Int.reduceNeg, Int.reduceAdd, Int.reduceSub, Int.reduceMul, Int.reduceToNat, ↓bind_go, ↓map_go, wantedV, isWrite, grow, write, ofV, AV.cells, Abs.start, Abs.strip, endQ, resV, rawsRes, rawRes, exports, export1, AS.grown, AS.put, Env.know, Env.boxed, isSelf, convSelf, convV, loadV, storeV, fieldAddrV, fieldV, indexAddrV, indexV, partV, isAggK, isStr, place, lenV, min2V, makeV, freshSl, sliceV, boundOr, bound, bounds, cutFl, copyV, slCells, srcV, appendV, room, zerosOf, eqNeg, kd, takeR, hasViewL, hasView, freshR, freshC, snapAll, snap, snapL, flatL, pureL, pureA, fillC, arrOK, oneA, partB, AV.laid, ren1, CR.gr, applyW, useL, AS.mute, isGen, startG, ev5, tbQr0, glob, List.map_nil, List.all_nil, List.drop_zero, beq_self_eq_true, bne_self_eq_false, List.size_toArray, Array.size_empty, List.length_nil, Bool.not_true, Bool.not_false, btA, itA, t1, t2, h3, w1, w2', q3]
            exact ResQ.same rfl
          · have d3 := bne0 h3
            simp (maxSteps := 1000000) (disch := first | omega | assumption | (simp only [updB, dsB, reduceCtorEq, Nat.reduceEqDiff, *]; done) | (simp only [lnB] <;> omega) | fail) only [ev0, ev1, ev2, ev3, ↓reduceIte, reduceCtorEq, Nat.reduceAdd, Nat.reduceSub, Nat.reduceMul, Nat.reduceLT, Nat.reduceLeDiff, Nat.reduceEqDiff, Nat.reduceBEq, BitVec.reduceOfInt, Int.reduceLE, Int.reduceLT, Int.reduceGT, Int.reduceGE, Int.reduceNeg, Int.reduceAdd, Int.reduceSub, Int.reduceMul, Int.reduceToNat, ↓bind_go, ↓map_go, wantedV, isWrite, grow, write, ofV, AV.cells, Abs.start, Abs.strip, endQ, resV, rawsRes, rawRes, exports, export1, AS.grown, AS.put, Env.know, Env.boxed, isSelf, convSelf, convV, loadV, storeV, fieldAddrV, fieldV, indexAddrV, indexV, partV, isAggK, isStr, place, lenV, min2V, makeV, freshSl, sliceV, boundOr, bound, bounds, cutFl, copyV, slCells, srcV, appendV, room, zerosOf, eqNeg, kd, takeR, hasViewL, hasView, freshR, freshC, snapAll, snap, snapL, flatL, pureL, pureA, fillC, arrOK, oneA, partB, AV.laid, ren1, CR.gr, applyW, useL, AS.mute, isGen, startG, ev5, tbQr0, glob, List.map_nil, List.all_nil, List.drop_zero, beq_self_eq_true, bne_self_eq_false, List.size_toArray, Array.size_empty, List.length_nil, Bool.not_true, Bool.not_false, btA, itA, t1, t2, d3]
            exact ResQ.same rfl
        · obtain ⟨t2, u2⟩ := tnF_back h2
          by_cases h3 : trE b = 0
          · obtain ⟨w1, w2⟩ := write_rep h3
            have lw : (repR (trR b)).1.length + (trS b).length = b.length := by rw [← List.length_append, w2]
            have w2' : List.map UInt8.ofBitVec (repR (trR b)).1 ++ List.map UInt8.ofBitVec (trS b) = List.map UInt8.ofBitVec b := by rw [← List.map_append, w2]
            have q3 : (repR (trR b)).1.length + (trS b).length ≤ 9223372036854775807 := by omega
            simp (maxSteps := 1000000) (disch := first | omega | assumption | (simp only [updB, dsB, reduceCtorEq, Nat.reduceEqDiff, *]; done) | (simp only [lnB] <;> omega) | fail) only [ev0, ev1, ev2, ev3, ↓reduceIte, reduceCtorEq, Nat.reduceAdd, Nat.reduceSub, Nat.reduceMul, Nat.reduceLT, Nat.reduceLeDiff, Nat.reduceEqDiff, Nat.reduceBEq, BitVec.reduceOfInt, Int.reduceLE, Int.reduceLT, Int.reduceGT, Int.reduceGE, Int.reduceNeg, Int.reduceAdd, Int.reduceSub, Int.reduceMul, Int.reduceToNat, ↓bind_go, ↓map_go, wantedV, isWrite, grow, write, ofV, AV.cells, Abs.start, Abs.strip, endQ, resV, rawsRes, rawRes, exports, export1, AS.grown, AS.put, Env.know, Env.boxed, isSelf, convSelf, convV, loadV, storeV, fieldAddrV, fieldV, indexAddrV, indexV, partV, isAggK, isStr, place, lenV, min2V, makeV, freshSl, sliceV, boundOr, bound, bounds, cutFl, copyV, slCells, srcV, appendV, room, zerosOf, eqNeg, kd, takeR, hasViewL, hasView, freshR, freshC, snapAll, snap, snapL, flatL, pureL, pureA, fillC, arrOK, oneA, partB, AV.laid, ren1, CR.gr, applyW, useL, AS.mute, isGen, startG, ev5, tbQr0, glob, List.map_nil, List.all_nil, List.drop_zero, beq_self_eq_true, bne_self_eq_false, List.size_toArray, Array.size_empty, List.length_nil, Bool.not_true, Bool.not_false, btA, itA, t1, t2, u2, h3, w1, w2', q3]
            exact ResQ.same rfl
          · have d3 := bne0 h3
            simp (maxSteps := 1000000) (disch := first | omega | assumption | (simp only [updB, dsB, reduceCtorEq, Nat.reduceEqDiff, *]; done) | (simp only [lnB] <;> omega) | fail) only [ev0, ev1, ev2, ev3, ↓reduceIte, reduceCtorEq, Nat.reduceAdd, Nat.reduceSub, Nat.reduceMul, Nat.reduceLT, Nat.reduceLeDiff, Nat.reduceEqDiff, Nat.reduceBEq, BitVec.reduceOfInt, Int.reduceLE, Int.reduceLT, Int.reduceGT, Int.reduceGE, Int.reduceNeg, Int.reduceAdd, Int.reduceSub, Int.reduceMul, Int.reduceToNat, ↓bind_go, ↓map_go, wantedV, isWrite, grow, write, ofV, AV.cells, Abs.start, Abs.strip, endQ, resV, rawsRes, rawRes, exports, export1, AS.grown, AS.put, Env.know, Env.boxed, isSelf, convSelf, convV, loadV, storeV, fieldAddrV, fieldV, indexAddrV, indexV, partV, isAggK, isStr, place, lenV, min2V, makeV, freshSl, sliceV, boundOr, bound, bounds, cutFl, copyV, slCells, srcV, appendV, room, zerosOf, eqNeg, kd, takeR, hasViewL, hasView, freshR, freshC, snapAll, snap, snapL, flatL, pureL, pureA, fillC, arrOK, oneA, partB, AV.laid, ren1, CR.gr, applyW, useL, AS.mute, isGen, startG, ev5, tbQr0, glob, List.map_nil, List.all_nil, List.drop_zero, beq_self_eq_true, bne_self_eq_false, List.size_toArray, Array.size_empty, List.length_nil, Bool.not_true, Bool.not_false, btA, itA, t1, t2, u2, d3]
            exact ResQ.same rfl
      · obtain ⟨t1, u1⟩ := tcC_back h1
        cases h2 : isE b
        · have t2 : tnE b = 80 := by rw [tnE, h2]; rfl
          by_cases h3 : trE b = 0
          · obtain ⟨w1, w2⟩ := write_rep h3
            have lw : (repR (trR b)).1.length + (trS b).length = b.length := by rw [← List.length_append, w2]
            have w2' : List.map UInt8.ofBitVec (repR (trR b)).1 ++ List.map UInt8.ofBitVec (trS b) = List.map UInt8.ofBitVec b := by rw [← List.map_append, w2]
            have q3 : (repR (trR b)).1.length + (trS b).length ≤ 9223372036854775807 := by omega
            simp (maxSteps := 1000000) (disch := first | omega | assumption | (simp only [updB, dsB, reduceCtorEq, Nat.reduceEqDiff, *]; done) | (simp only [lnB] <;> omega) | fail) only [ev0, ev1, ev2, ev3, ↓reduceIte, reduceCtorEq, Nat.reduceAdd, Nat.reduceSub, Nat.reduceMul, Nat.reduceLT, Nat.reduceLeDiff, Nat.reduceEqDiff, Nat.reduceBEq, BitVec.reduceOfInt, Int.reduceLE, Int.reduceLT, Int.reduceGT, Int.reduceGE, Int.reduceNeg, Int.reduceAdd, Int.reduceSub, Int.reduceMul, Int.reduceToNat, ↓bind_go, ↓map_go, wantedV, isWrite, grow, write, ofV, AV.cells, Abs.start, Abs.strip, endQ, resV, rawsRes, rawRes, exports, export1, AS.grown, AS.put, Env.know, Env.boxed, isSelf, convSelf, convV, loadV, storeV, fieldAddrV, fieldV, indexAddrV, indexV, partV, isAggK, isStr, place, lenV, min2V, makeV, freshSl, sliceV, boundOr, bound, bounds, cutFl, copyV, slCells, srcV, appendV, room, zerosOf, eqNeg, kd, takeR, hasViewL, hasView, freshR, freshC, snapAll, snap, snapL, flatL, pureL, pureA, fillC, arrOK, oneA, partB, AV.laid, ren1, CR.gr, applyW, useL, AS.mute, isGen, startG, ev5, tbQr0, glob, List.map_nil, List.all_nil, List.drop_zero, beq_self_eq_true, bne_self_eq_false, List.size_toArray, Array.size_empty, List.length_nil, Bool.not_true, Bool.not_false, btA, itA, t1, u1, t2, h3, w1, w2', q3]
            exact ResQ.same rfl
          · have d3 := bne0 h3
            simp (maxSteps := 1000000) (disch := first | omega | assumption | (simp only [updB, dsB, reduceCtorEq, Nat.reduceEqDiff, *]; done) | (simp only [lnB] <;> omega) | fail) only [ev0, ev1, ev2, ev3, ↓reduceIte, reduceCtorEq, Nat.reduceAdd, Nat.reduceSub, Nat.reduceMul, Nat.reduceLT, Nat.reduceLeDiff, Nat.reduceEqDiff, Nat.reduceBEq, BitVec.reduceOfInt, Int.reduceLE, Int.reduceLT, Int.reduceGT, Int.reduceGE, Int.reduceNeg, Int.reduceAdd, Int.reduceSub, Int.reduceMul, Int.reduceToNat, ↓bind_go, ↓map_go, wantedV, isWrite, grow, write, ofV, AV.cells, Abs.start, Abs.strip, endQ, resV, rawsRes, rawRes, exports, export1, AS.grown, AS.put, Env.know, Env.boxed, isSelf, convSelf, convV, loadV, storeV, fieldAddrV, fieldV, indexAddrV, indexV, partV, isAggK, isStr, place, lenV, min2V, makeV, freshSl, sliceV, boundOr, bound, bounds, cutFl, copyV, slCells, srcV, appendV, room, zerosOf, eqNeg, kd, takeR, hasViewL, hasView, freshR, freshC, snapAll, snap, snapL, flatL, pureL, pureA, fillC, arrOK, oneA, partB, AV.laid, ren1, CR.gr, applyW, useL, AS.mute, isGen, startG, ev5, tbQr0, glob, List.map_nil, List.all_nil, List.drop_zero, beq_self_eq_true, bne_self_eq_false, List.size_toArray, Array.size_empty, List.length_nil, Bool.not_true, Bool.not_false, btA, itA, t1, u1, t2, d3]
            exact ResQ.same rfl
        · obtain ⟨t2, u2⟩ := tnF_back h2
          by_cases h3 : trE b = 0
          · obtain ⟨w1, w2⟩ := write_rep h3
            have lw : (repR (trR b)).1.length + (trS b).length = b.length := by rw [← List.length_append, w2]
            have w2' : List.map UInt8.ofBitVec (repR (trR b)).1 ++ List.map UInt8.ofBitVec (trS b) = List.map UInt8.ofBitVec b := by rw [← List.map_append, w2]
            have q3 : (repR (trR b)).1.length + (trS b).length ≤ 9223372036854775807 := by omega
            simp (maxSteps := 1000000) (disch := first | omega | assumption | (simp only [updB, dsB, reduceCtorEq, Nat.reduceEqDiff, *]; done) | (simp only [lnB] <;> omega) | fail) only [ev0, ev1, ev2, ev3, ↓reduceIte, reduceCtorEq, Nat.reduceAdd, Nat.reduceSub, Nat.reduceMul, Nat.reduceLT, Nat.reduceLeDiff, Nat.reduceEqDiff, Nat.reduceBEq, BitVec.reduceOfInt, Int.reduceLE, Int.reduceLT, Int.reduceGT, Int.reduceGE, Int.reduceNeg, Int.reduceAdd, Int.reduceSub, Int.reduceMul, Int.reduceToNat, ↓bind_go, ↓map_go, wantedV, isWrite, grow, write, ofV, AV.cells, Abs.start, Abs.strip, endQ, resV, rawsRes, rawRes, exports, export1, AS.grown, AS.put, Env.know, Env.boxed, isSelf, convSelf, convV, loadV, storeV, fieldAddrV, fieldV, indexAddrV, indexV, partV, isAggK, isStr, place, lenV, min2V, makeV, freshSl, sliceV, boundOr, bound, bounds, cutFl, copyV, slCells, srcV, appendV, room, zerosOf, eqNeg, kd, takeR, hasViewL, hasView, freshR, freshC, snapAll, snap, snapL, flatL, pureL, pureA, fillC, arrOK, oneA, partB, AV.laid, ren1, CR.gr, applyW, useL, AS.mute, isGen, startG, ev5, tbQr0, glob, List.map_nil, List.all_nil, List.drop_zero, beq_self_eq_true, bne_self_eq_false, List.size_toArray, Array.size_empty, List.length_nil, Bool.not_true, Bool.not_false, btA, itA, t1, u1, t2, u2, h3, w1, w2', q3]
            exact ResQ.same rfl
          · have d3 := bne0 h3
            simp (maxSteps := 1000000) (disch := first | omega | assumption | (simp only [updB, dsB, reduceCtorEq, Nat.reduceEqDiff, *]; done) | (simp only [lnB] <;> omega) | fail) only [ev0, ev1, ev2, ev3, ↓reduceIte, reduceCtorEq, Nat.reduceAdd, Nat.reduceSub, Nat.reduceMul, Nat.reduceLT, Nat.reduceLeDiff, Nat.reduceEqDiff, Nat.reduceBEq, BitVec.reduceOfInt, Int.reduceLE, Int.reduceLT, Int.reduceGT, Int.reduceGE, Int.reduceNeg, Int.reduceAdd, Int.reduceSub, Int.reduceMul, Int.reduceToNat, ↓bind_go, ↓map_go, wantedV, isWrite, grow, write, ofV, AV.cells, Abs.start, Abs.strip, endQ, resV, rawsRes, rawRes, exports, export1, AS.grown, AS.put, Env.know, Env.boxed, isSelf, convSelf, convV, loadV, storeV, fieldAddrV, fieldV, indexAddrV, indexV, partV, isAggK, isStr, place, lenV, min2V, makeV, freshSl, sliceV, boundOr, bound, bounds, cutFl, copyV, slCells, srcV, appendV, room, zerosOf, eqNeg, kd, takeR, hasViewL, hasView, freshR, freshC, snapAll, snap, snapL, flatL, pureL, pureA, fillC, arrOK, oneA, partB, AV.laid, ren1, CR.gr, applyW, useL, AS.mute, isGen, startG, ev5, tbQr0, glob, List.map_nil, List.all_nil, List.drop_zero, beq_self_eq_true, bne_self_eq_false, List.size_toArray, Array.size_empty, List.length_nil, Bool.not_true, Bool.not_false, btA, itA, t1, u1, t2, u2, d3]
            exact ResQ.same rfl
    · cases hr
  · cases hr
noncomputable def pf20 : List AV → Option AV
  | [.agg cs, .agg ds, .agg es] => (cmd? (cs.map strip)).bind fun c => (rep? (ds.map strip)).bind fun d => (ent? (es.map strip)).bind fun e => open Classical in if c.n ≤ 9223372036854775807 ∧ okR d ∧ okN e then some (.raw (.bool true)) else none
  | _ => none
theorem nums3 (l : List (BitVec 8)) : nums .u8 l ++ [.raw (.int .u8 1), .raw (.int .u8 2), .raw (.int .u8 3)] = nums .u8 (l ++ [1#8, 2#8, 3#8]) := by
  simp only [nums, List.map_append]; rfl
theorem st123 : ([UInt8.ofBitVec 1#8, UInt8.ofBitVec 2#8, UInt8.ofBitVec 3#8] == ([1, 2, 3] : List UInt8)) = true := by decide
theorem repR_len {r : Rep} (ho : okR r) : (repR r).1.length ≤ 10000 := by
  rw [repR]
  split
  · simp
  · rename_i hb
    split
    · simp
    · rename_i hl
      obtain ⟨o1, o2, o3⟩ := ho
      unfold i64ok at o1 o2 o3
      unfold badR at hb
      have h1 := nmF_len (l := [r.c, r.n, r.m]) (by simp only [List.mem_cons, List.not_mem_nil, or_false, forall_eq_or_imp, forall_eq]; omega)
      have h2 := txB_len (nmF [r.c, r.n, r.m]) (dat r.b) (by omega)
      simp only [List.length_cons, List.length_nil] at h1
      dsimp only
      omega
theorem entR_len {r : Eny} (ho : okN r) : (entR r).1.length ≤ 10000 := by
  rw [entR]
  split
  · simp
  · rename_i hb
    split
    · simp
    · rename_i hl
      obtain ⟨_, _, o3⟩ := ho
      simp only [badE, inW, Bool.or_eq_true, Bool.not_eq_true', Bool.and_eq_false_iff, decide_eq_false_iff_not, not_or] at hb
      have h1 := nmF_len (l := [r.t, r.k]) (by simp only [List.mem_cons, List.not_mem_nil, or_false, forall_eq_or_imp, forall_eq]; omega)
      have h2 := txB_len (nmF [r.t, r.k]) (dat r.d) (by omega)
      have h3 := putLk_len (txB (nmF [r.t, r.k]) (dat r.d)) (idat r.m) o3 (by omega) (idat r.m).length (Nat.le_refl _)
      have h3 : (entB r).length ≤ (txB (nmF [r.t, r.k]) (dat r.d)).length + 9 + 9 * (idat r.m).length := h3
      simp only [List.length_cons, List.length_nil] at h1
      dsimp only
      omega
def tbQr1 := (And.intro (And.intro (And.intro (And.intro (And.intro (And.intro @teE @EM_te) (And.intro @EM_glob @EM_gs)) (And.intro (And.intro @EM_dyn @EM_mu) (And.intro @EM_3 (And.intro @EM_5 @EM_7)))) (And.intro (And.intro (And.intro @EM_8 @EM_10) (And.intro @EM_12 (And.intro @EM_13 @EM_14))) (And.intro (And.intro @EM_16 @EM_18) (And.intro @ev4 (And.intro @command_at @tkc_at))))) (And.intro (And.intro (And.intro (And.intro @samec_at' @entry_at) (And.intro @tke_at @samee_at')) (And.intro (And.intro @reply_at @tkr_at) (And.intro @samer_at' (And.intro @shown_at @splice_e4)))) (And.intro (And.intro (And.intro @splice_r4 @cmdA_splice) (And.intro @cmdA_strip (And.intro @repA_strip @entA_strip))) (And.intro (And.intro @cmdA_snap @repA_snap) (And.intro @entA_snap (And.intro @cmdA_noview @repA_noview)))))) (And.intro (And.intro (And.intro (And.intro (And.intro @entA_noview @cmdA_take) (And.intro @cmdA_one @repA_take)) (And.intro (And.intro @repA_one @entA_take) (And.intro @entA_one (And.intro @dropC @dropR)))) (And.intro (And.intro (And.intro @dropE @zeroC) (And.intro @zeroR (And.intro @zeroE @splice_cmd))) (And.intro (And.intro @splice_cmd' @splice_rep) (And.intro @splice_rep' (And.intro @splice_ent @splice_ent'))))) (And.intro (And.intro (And.intro (And.intro @cmdA_len @repA_len) (And.intro @entA_len @rep1)) (And.intro (And.intro @rep2 @rep3) (And.intro @rep5 (And.intro @one_le @le2)))) (And.intro (And.intro (And.intro @le3 @le5) (And.intro @dr1 (And.intro @dr2 @dr3))) (And.intro (And.intro @dr5 @zz0) (And.intro @zz1 (And.intro @bq0 @bq800)))))))
theorem sound20 : SoundV Try.prog glob 20 pf20 := by
  refine SoundV.walk EM okM mixed Try.func20 rfl Try.call20 (by kernel_rfl) ?_
  intro args r hr
  unfold pf20 at hr
  split at hr
  · rename_i cs ds es
    simp only [Option.bind_eq_some_iff] at hr
    obtain ⟨c, hc, d, hd, e, he, hr⟩ := hr
    split at hr
    · rename_i hh
      obtain ⟨hn, hD, hE⟩ := hh
      cases hr
      have hcs := cmd?_of hc
      have hds := rep?_of hd
      have hes := ent?_of he
      rw [Try.ntmps20, Try.results20]
      refine ⟨by simp, ?_⟩
      rcases check_01 c with h0 | h1
      · have hR : cmdR c = (cmdB c, 0) := by rw [cmdR, if_pos h0]
        obtain ⟨i1, f1⟩ := read_cmd h0 hn
        have lb := cmdB_len h0 hn
        have j1 : tcC (cmdB c) = fulC c := by rw [tcC, if_pos i1, f1]
        have k1 : tcE (cmdB c) = 0 := by rw [tcE, if_pos i1]
        have s1 := sameC_ful c
        by_cases h2 : (repR d).2 = 0
        · obtain ⟨i2, f2, g2⟩ := read_rep hD h2 [1#8, 2#8, 3#8]
          have lr := repR_len hD
          have s2 := sameR_ful d
          by_cases h3 : (entR e).2 = 0
          · obtain ⟨i3, f3⟩ := read_ent hE h3
            have le := entR_len hE
            have j3 : tnF (entR e).1 = fulE e := by rw [tnF, if_pos i3, f3]
            have k3 : tnE (entR e).1 = 0 := by rw [tnE, if_pos i3]
            have hfe : okN (fulE e) := hE
            have s3 := sameE_ful e
            simp (maxSteps := 1000000) (disch := first | omega | assumption | (simp only [updB, dsB, reduceCtorEq, Nat.reduceEqDiff, *]; done) | (simp only [lnB] <;> omega) | fail) only [ev0, ev1, ev2, ev3, ↓reduceIte, reduceCtorEq, Nat.reduceAdd, Nat.reduceSub, Nat.reduceMul, Nat.reduceLT, Nat.reduceLeDiff, Nat.reduceEqDiff, Nat.reduceBEq, BitVec.reduceOfInt, Int.reduceLE, Int.reduceLT, Int.reduceGT, Int.reduceGE, Int.reduceNeg, Int.reduceAdd, Int.reduceSub, Int.reduceMul, Int.reduceToNat, ↓bind_go, ↓map_go, wantedV, isWrite, grow, write, ofV, AV.cells, Abs.start, Abs.strip, endQ, resV, rawsRes, rawRes, exports, export1, AS.grown, AS.put, Env.know, Env.boxed, isSelf, convSelf, convV, loadV, storeV, fieldAddrV, fieldV, indexAddrV, indexV, partV, isAggK, isStr, place, lenV, min2V, makeV, freshSl, sliceV, boundOr, bound, bounds, cutFl, copyV, slCells, srcV, appendV, room, zerosOf, eqNeg, kd, takeR, hasViewL, hasView, freshR, freshC, snapAll, snap, snapL, flatL, pureL, pureA, fillC, arrOK, oneA, partB, AV.laid, ren1, CR.gr, applyW, useL, AS.mute, isGen, startG, ev5, tbQr1, glob, List.map_nil, List.all_nil, List.drop_zero, beq_self_eq_true, bne_self_eq_false, List.size_toArray, Array.size_empty, List.length_nil, Bool.not_true, Bool.not_false, btA, itA, List.length_append, hcs, hds, hes, hR, j1, k1, s1, h2, i2, f2, g2, s2, nums3, st123, h3, j3, k3, s3]
            exact ResQ.same rfl
          · have d3 := bne0 h3
            simp (maxSteps := 1000000) (disch := first | omega | assumption | (simp only [updB, dsB, reduceCtorEq, Nat.reduceEqDiff, *]; done) | (simp only [lnB] <;> omega) | fail) only [ev0, ev1, ev2, ev3, ↓reduceIte, reduceCtorEq, Nat.reduceAdd, Nat.reduceSub, Nat.reduceMul, Nat.reduceLT, Nat.reduceLeDiff, Nat.reduceEqDiff, Nat.reduceBEq, BitVec.reduceOfInt, Int.reduceLE, Int.reduceLT, Int.reduceGT, Int.reduceGE, Int.reduceNeg, Int.reduceAdd, Int.reduceSub, Int.reduceMul, Int.reduceToNat, ↓bind_go, ↓map_go, wantedV, isWrite, grow, write, ofV, AV.cells, Abs.start, Abs.strip, endQ, resV, rawsRes, rawRes, exports, export1, AS.grown, AS.put, Env.know, Env.boxed, isSelf, convSelf, convV, loadV, storeV, fieldAddrV, fieldV, indexAddrV, indexV, partV, isAggK, isStr, place, lenV, min2V, makeV, freshSl, sliceV, boundOr, bound, bounds, cutFl, copyV, slCells, srcV, appendV, room, zerosOf, eqNeg, kd, takeR, hasViewL, hasView, freshR, freshC, snapAll, snap, snapL, flatL, pureL, pureA, fillC, arrOK, oneA, partB, AV.laid, ren1, CR.gr, applyW, useL, AS.mute, isGen, startG, ev5, tbQr1, glob, List.map_nil, List.all_nil, List.drop_zero, beq_self_eq_true, bne_self_eq_false, List.size_toArray, Array.size_empty, List.length_nil, Bool.not_true, Bool.not_false, btA, itA, List.length_append, hcs, hds, hes, hR, j1, k1, s1, h2, i2, f2, g2, s2, nums3, st123, d3]
            exact ResQ.same rfl
        · have d2 := bne0 h2
          by_cases h3 : (entR e).2 = 0
          · obtain ⟨i3, f3⟩ := read_ent hE h3
            have le := entR_len hE
            have j3 : tnF (entR e).1 = fulE e := by rw [tnF, if_pos i3, f3]
            have k3 : tnE (entR e).1 = 0 := by rw [tnE, if_pos i3]
            have hfe : okN (fulE e) := hE
            have s3 := sameE_ful e
            simp (maxSteps := 1000000) (disch := first | omega | assumption | (simp only [updB, dsB, reduceCtorEq, Nat.reduceEqDiff, *]; done) | (simp only [lnB] <;> omega) | fail) only [ev0, ev1, ev2, ev3, ↓reduceIte, reduceCtorEq, Nat.reduceAdd, Nat.reduceSub, Nat.reduceMul, Nat.reduceLT, Nat.reduceLeDiff, Nat.reduceEqDiff, Nat.reduceBEq, BitVec.reduceOfInt, Int.reduceLE, Int.reduceLT, Int.reduceGT, Int.reduceGE, Int.reduceNeg, Int.reduceAdd, Int.reduceSub, Int.reduceMul, Int.reduceToNat, ↓bind_go, ↓map_go, wantedV, isWrite, grow, write, ofV, AV.cells, Abs.start, Abs.strip, endQ, resV, rawsRes, rawRes, exports, export1, AS.grown, AS.put, Env.know, Env.boxed, isSelf, convSelf, convV, loadV, storeV, fieldAddrV, fieldV, indexAddrV, indexV, partV, isAggK, isStr, place, lenV, min2V, makeV, freshSl, sliceV, boundOr, bound, bounds, cutFl, copyV, slCells, srcV, appendV, room, zerosOf, eqNeg, kd, takeR, hasViewL, hasView, freshR, freshC, snapAll, snap, snapL, flatL, pureL, pureA, fillC, arrOK, oneA, partB, AV.laid, ren1, CR.gr, applyW, useL, AS.mute, isGen, startG, ev5, tbQr1, glob, List.map_nil, List.all_nil, List.drop_zero, beq_self_eq_true, bne_self_eq_false, List.size_toArray, Array.size_empty, List.length_nil, Bool.not_true, Bool.not_false, btA, itA, List.length_append, hcs, hds, hes, hR, j1, k1, s1, d2, h3, j3, k3, s3]
            exact ResQ.same rfl
          · have d3 := bne0 h3
            simp (maxSteps := 1000000) (disch := first | omega | assumption | (simp only [updB, dsB, reduceCtorEq, Nat.reduceEqDiff, *]; done) | (simp only [lnB] <;> omega) | fail) only [ev0, ev1, ev2, ev3, ↓reduceIte, reduceCtorEq, Nat.reduceAdd, Nat.reduceSub, Nat.reduceMul, Nat.reduceLT, Nat.reduceLeDiff, Nat.reduceEqDiff, Nat.reduceBEq, BitVec.reduceOfInt, Int.reduceLE, Int.reduceLT, Int.reduceGT, Int.reduceGE, Int.reduceNeg, Int.reduceAdd, Int.reduceSub, Int.reduceMul, Int.reduceToNat, ↓bind_go, ↓map_go, wantedV, isWrite, grow, write, ofV, AV.cells, Abs.start, Abs.strip, endQ, resV, rawsRes, rawRes, exports, export1, AS.grown, AS.put, Env.know, Env.boxed, isSelf, convSelf, convV, loadV, storeV, fieldAddrV, fieldV, indexAddrV, indexV, partV, isAggK, isStr, place, lenV, min2V, makeV, freshSl, sliceV, boundOr, bound, bounds, cutFl, copyV, slCells, srcV, appendV, room, zerosOf, eqNeg, kd, takeR, hasViewL, hasView, freshR, freshC, snapAll, snap, snapL, flatL, pureL, pureA, fillC, arrOK, oneA, partB, AV.laid, ren1, CR.gr, applyW, useL, AS.mute, isGen, startG, ev5, tbQr1, glob, List.map_nil, List.all_nil, List.drop_zero, beq_self_eq_true, bne_self_eq_false, List.size_toArray, Array.size_empty, List.length_nil, Bool.not_true, Bool.not_false, btA, itA, List.length_append, hcs, hds, hes, hR, j1, k1, s1, d2, d3]
            exact ResQ.same rfl
      · have hR : cmdR c = ([], 1) := by rw [cmdR, if_neg (by omega), h1]
        have b10 : ((1 : Int) == 0) = false := rfl
        by_cases h2 : (repR d).2 = 0
        · obtain ⟨i2, f2, g2⟩ := read_rep hD h2 [1#8, 2#8, 3#8]
          have lr := repR_len hD
          have s2 := sameR_ful d
          by_cases h3 : (entR e).2 = 0
          · obtain ⟨i3, f3⟩ := read_ent hE h3
            have le := entR_len hE
            have j3 : tnF (entR e).1 = fulE e := by rw [tnF, if_pos i3, f3]
            have k3 : tnE (entR e).1 = 0 := by rw [tnE, if_pos i3]
            have hfe : okN (fulE e) := hE
            have s3 := sameE_ful e
            simp (maxSteps := 1000000) (disch := first | omega | assumption | (simp only [updB, dsB, reduceCtorEq, Nat.reduceEqDiff, *]; done) | (simp only [lnB] <;> omega) | fail) only [ev0, ev1, ev2, ev3, ↓reduceIte, reduceCtorEq, Nat.reduceAdd, Nat.reduceSub, Nat.reduceMul, Nat.reduceLT, Nat.reduceLeDiff, Nat.reduceEqDiff, Nat.reduceBEq, BitVec.reduceOfInt, Int.reduceLE, Int.reduceLT, Int.reduceGT, Int.reduceGE, Int.reduceNeg, Int.reduceAdd, Int.reduceSub, Int.reduceMul, Int.reduceToNat, ↓bind_go, ↓map_go, wantedV, isWrite, grow, write, ofV, AV.cells, Abs.start, Abs.strip, endQ, resV, rawsRes, rawRes, exports, export1, AS.grown, AS.put, Env.know, Env.boxed, isSelf, convSelf, convV, loadV, storeV, fieldAddrV, fieldV, indexAddrV, indexV, partV, isAggK, isStr, place, lenV, min2V, makeV, freshSl, sliceV, boundOr, bound, bounds, cutFl, copyV, slCells, srcV, appendV, room, zerosOf, eqNeg, kd, takeR, hasViewL, hasView, freshR, freshC, snapAll, snap, snapL, flatL, pureL, pureA, fillC, arrOK, oneA, partB, AV.laid, ren1, CR.gr, applyW, useL, AS.mute, isGen, startG, ev5, tbQr1, glob, List.map_nil, List.all_nil, List.drop_zero, beq_self_eq_true, bne_self_eq_false, List.size_toArray, Array.size_empty, List.length_nil, Bool.not_true, Bool.not_false, btA, itA, List.length_append, hcs, hds, hes, hR, b10, h2, i2, f2, g2, s2, nums3, st123, h3, j3, k3, s3]
            exact ResQ.same rfl
          · have d3 := bne0 h3
            simp (maxSteps := 1000000) (disch := first | omega | assumption | (simp only [updB, dsB, reduceCtorEq, Nat.reduceEqDiff, *]; done) | (simp only [lnB] <;> omega) | fail) only [ev0, ev1, ev2, ev3, ↓reduceIte, reduceCtorEq, Nat.reduceAdd, Nat.reduceSub, Nat.reduceMul, Nat.reduceLT, Nat.reduceLeDiff, Nat.reduceEqDiff, Nat.reduceBEq, BitVec.reduceOfInt, Int.reduceLE, Int.reduceLT, Int.reduceGT, Int.reduceGE, Int.reduceNeg, Int.reduceAdd, Int.reduceSub, Int.reduceMul, Int.reduceToNat, ↓bind_go, ↓map_go, wantedV, isWrite, grow, write, ofV, AV.cells, Abs.start, Abs.strip, endQ, resV, rawsRes, rawRes, exports, export1, AS.grown, AS.put, Env.know, Env.boxed, isSelf, convSelf, convV, loadV, storeV, fieldAddrV, fieldV, indexAddrV, indexV, partV, isAggK, isStr, place, lenV, min2V, makeV, freshSl, sliceV, boundOr, bound, bounds, cutFl, copyV, slCells, srcV, appendV, room, zerosOf, eqNeg, kd, takeR, hasViewL, hasView, freshR, freshC, snapAll, snap, snapL, flatL, pureL, pureA, fillC, arrOK, oneA, partB, AV.laid, ren1, CR.gr, applyW, useL, AS.mute, isGen, startG, ev5, tbQr1, glob, List.map_nil, List.all_nil, List.drop_zero, beq_self_eq_true, bne_self_eq_false, List.size_toArray, Array.size_empty, List.length_nil, Bool.not_true, Bool.not_false, btA, itA, List.length_append, hcs, hds, hes, hR, b10, h2, i2, f2, g2, s2, nums3, st123, d3]
            exact ResQ.same rfl
        · have d2 := bne0 h2
          by_cases h3 : (entR e).2 = 0
          · obtain ⟨i3, f3⟩ := read_ent hE h3
            have le := entR_len hE
            have j3 : tnF (entR e).1 = fulE e := by rw [tnF, if_pos i3, f3]
            have k3 : tnE (entR e).1 = 0 := by rw [tnE, if_pos i3]
            have hfe : okN (fulE e) := hE
            have s3 := sameE_ful e
            simp (maxSteps := 1000000) (disch := first | omega | assumption | (simp only [updB, dsB, reduceCtorEq, Nat.reduceEqDiff, *]; done) | (simp only [lnB] <;> omega) | fail) only [ev0, ev1, ev2, ev3, ↓reduceIte, reduceCtorEq, Nat.reduceAdd, Nat.reduceSub, Nat.reduceMul, Nat.reduceLT, Nat.reduceLeDiff, Nat.reduceEqDiff, Nat.reduceBEq, BitVec.reduceOfInt, Int.reduceLE, Int.reduceLT, Int.reduceGT, Int.reduceGE, Int.reduceNeg, Int.reduceAdd, Int.reduceSub, Int.reduceMul, Int.reduceToNat, ↓bind_go, ↓map_go, wantedV, isWrite, grow, write, ofV, AV.cells, Abs.start, Abs.strip, endQ, resV, rawsRes, rawRes, exports, export1, AS.grown, AS.put, Env.know, Env.boxed, isSelf, convSelf, convV, loadV, storeV, fieldAddrV, fieldV, indexAddrV, indexV, partV, isAggK, isStr, place, lenV, min2V, makeV, freshSl, sliceV, boundOr, bound, bounds, cutFl, copyV, slCells, srcV, appendV, room, zerosOf, eqNeg, kd, takeR, hasViewL, hasView, freshR, freshC, snapAll, snap, snapL, flatL, pureL, pureA, fillC, arrOK, oneA, partB, AV.laid, ren1, CR.gr, applyW, useL, AS.mute, isGen, startG, ev5, tbQr1, glob, List.map_nil, List.all_nil, List.drop_zero, beq_self_eq_true, bne_self_eq_false, List.size_toArray, Array.size_empty, List.length_nil, Bool.not_true, Bool.not_false, btA, itA, List.length_append, hcs, hds, hes, hR, b10, d2, h3, j3, k3, s3]
            exact ResQ.same rfl
          · have d3 := bne0 h3
            simp (maxSteps := 1000000) (disch := first | omega | assumption | (simp only [updB, dsB, reduceCtorEq, Nat.reduceEqDiff, *]; done) | (simp only [lnB] <;> omega) | fail) only [ev0, ev1, ev2, ev3, ↓reduceIte, reduceCtorEq, Nat.reduceAdd, Nat.reduceSub, Nat.reduceMul, Nat.reduceLT, Nat.reduceLeDiff, Nat.reduceEqDiff, Nat.reduceBEq, BitVec.reduceOfInt, Int.reduceLE, Int.reduceLT, Int.reduceGT, Int.reduceGE, Int.reduceNeg, Int.reduceAdd, Int.reduceSub, Int.reduceMul, Int.reduceToNat, ↓bind_go, ↓map_go, wantedV, isWrite, grow, write, ofV, AV.cells, Abs.start, Abs.strip, endQ, resV, rawsRes, rawRes, exports, export1, AS.grown, AS.put, Env.know, Env.boxed, isSelf, convSelf, convV, loadV, storeV, fieldAddrV, fieldV, indexAddrV, indexV, partV, isAggK, isStr, place, lenV, min2V, makeV, freshSl, sliceV, boundOr, bound, bounds, cutFl, copyV, slCells, srcV, appendV, room, zerosOf, eqNeg, kd, takeR, hasViewL, hasView, freshR, freshC, snapAll, snap, snapL, flatL, pureL, pureA, fillC, arrOK, oneA, partB, AV.laid, ren1, CR.gr, applyW, useL, AS.mute, isGen, startG, ev5, tbQr1, glob, List.map_nil, List.all_nil, List.drop_zero, beq_self_eq_true, bne_self_eq_false, List.size_toArray, Array.size_empty, List.length_nil, Bool.not_true, Bool.not_false, btA, itA, List.length_append, hcs, hds, hes, hR, b10, d2, d3]
            exact ResQ.same rfl
    · cases hr
  · cases hr
end Go.Proofs.Ytjnmdphoaafjaaa
