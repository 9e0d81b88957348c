/- The statements' functions of layer 9: what their walks come to (two commands). -/
import Derived.Test.YtjnmdphoaafjaaaQn
namespace Go.Proofs.Ytjnmdphoaafjaaa
set_option linter.unusedSimpArgs false
set_option linter.unusedVariables false
set_option linter.defProp false
open Go Go.Abs
set_option maxHeartbeats 8000000
noncomputable def EL : Env := EL0.know 38 pf38
theorem okL : EnvOK Try.prog EL := okL0.know sound38
theorem EL_te : EL.te = te := rfl
theorem EL_glob : EL.glob = glob := rfl
theorem EL_gs : EL.gs = [] := rfl
theorem EL_dyn : EL.dyn = false := rfl
theorem EL_mu (d : Nat) : EL.mu d = false := rfl
theorem EL_1 : EL.tbl 44 = some (.val pf44) := rfl
theorem EL_3 : EL.tbl 39 = some (.val pf39) := rfl
theorem EL_7 : EL.tbl 43 = some (.val (fun xs => pf43 (xs.map norm3))) := rfl
theorem EL_13 : EL.tbl 38 = some (.val pf38) := rfl
theorem splice_e4 (c : Eny) (x y z u : AV) : splice [x, y, z, u] 0 (entA c) = entA c := by simp [splice, entA]
theorem shown_at : pf38 [] = some (.raw (.bool true)) := rfl
set_option maxRecDepth 4000
noncomputable def pf10 : List AV → Option AV
  | [.agg cs, .agg ds] => (cmd? (cs.map strip)).bind fun c => (cmd? (ds.map strip)).bind fun e => if c.n ≤ 9223372036854775807 ∧ e.n ≤ 9223372036854775807 then some (.raw (.bool true)) else none
  | _ => none
def tbQo0 := (And.intro (And.intro (And.intro (And.intro (And.intro (And.intro @teE @EL_te) (And.intro @EL_glob @EL_gs)) (And.intro (And.intro @EL_dyn @EL_mu) (And.intro @EL_1 @EL_3))) (And.intro (And.intro (And.intro @EL_7 @EL_13) (And.intro @ev4 @check_at)) (And.intro (And.intro @command_at @tkc_at) (And.intro @samec_at' @entry_at)))) (And.intro (And.intro (And.intro (And.intro @tke_at @cmdA_strip) (And.intro @repA_strip @entA_strip)) (And.intro (And.intro @cmdA_snap @repA_snap) (And.intro @entA_snap @cmdA_noview))) (And.intro (And.intro (And.intro @repA_noview @entA_noview) (And.intro @cmdA_take @cmdA_one)) (And.intro (And.intro @repA_take @repA_one) (And.intro @entA_take (And.intro @entA_one @dropC)))))) (And.intro (And.intro (And.intro (And.intro (And.intro @dropR @dropE) (And.intro @zeroC @zeroR)) (And.intro (And.intro @zeroE @splice_cmd) (And.intro @splice_cmd' @splice_rep))) (And.intro (And.intro (And.intro @splice_rep' @splice_ent) (And.intro @splice_ent' @cmdA_len)) (And.intro (And.intro @repA_len @entA_len) (And.intro @rep1 @rep2)))) (And.intro (And.intro (And.intro (And.intro @rep3 @rep5) (And.intro @one_le @le2)) (And.intro (And.intro @le3 @le5) (And.intro @dr1 @dr2))) (And.intro (And.intro (And.intro @dr3 @dr5) (And.intro @zz0 @zz1)) (And.intro (And.intro @shown_at @sameC_self) (And.intro @sameE_self (And.intro @dat_beq @splice_e4)))))))
theorem sound10 : SoundV Try.prog glob 10 pf10 := by
  refine SoundV.walk EL okL mixed Try.func10 rfl Try.call10 (by kernel_rfl) ?_
  intro args r hr
  unfold pf10 at hr
  split at hr
  · rename_i cs ds
    simp only [Option.bind_eq_some_iff] at hr
    obtain ⟨c, hc, e, he, hr⟩ := hr
    split at hr
    · rename_i hh
      obtain ⟨hn, hm⟩ := hh
      cases hr
      have hcs := cmd?_of hc
      have hds := cmd?_of he
      rw [Try.ntmps10, Try.results10]
      refine ⟨by simp, ?_⟩
      rcases check_01 c with h0 | h1
      rotate_left
      · have hR : cmdR c = ([], 1) := by rw [cmdR, if_neg (by omega), h1]
        simp (maxSteps := 1000000) (disch := first | omega | assumption | (simp only [updB, dsB, reduceCtorEq, Nat.reduceEqDiff, *]; done) | (simp only [lnB] <;> omega) | fail) only [ev0, ev1, ev2, ev3, ↓reduceIte, reduceCtorEq, Nat.reduceAdd, Nat.reduceSub, Nat.reduceMul, Nat.reduceLT, Nat.reduceLeDiff, Nat.reduceEqDiff, Nat.reduceBEq, BitVec.reduceOfInt, Int.reduceLE, Int.reduceLT, Int.reduceGT, Int.reduceGE, Int.reduceNeg, Int.reduceAdd, Int.reduceSub, Int.reduceMul, Int.reduceToNat, ↓bind_go, ↓map_go, wantedV, isWrite, grow, write, ofV, AV.cells, Abs.start, Abs.strip, endQ, resV, rawsRes, rawRes, exports, export1, AS.grown, AS.put, Env.know, Env.boxed, isSelf, convSelf, convV, loadV, storeV, fieldAddrV, fieldV, indexAddrV, indexV, partV, isAggK, isStr, place, lenV, min2V, makeV, freshSl, sliceV, boundOr, bound, bounds, cutFl, copyV, slCells, srcV, appendV, room, zerosOf, eqNeg, kd, takeR, hasViewL, hasView, freshR, freshC, snapAll, snap, snapL, flatL, pureL, pureA, fillC, arrOK, oneA, partB, AV.laid, ren1, CR.gr, applyW, useL, AS.mute, isGen, startG, ev5, tbQo0, glob, List.map_nil, List.all_nil, List.drop_zero, beq_self_eq_true, List.size_toArray, Array.size_empty, List.length_nil, Bool.not_true, Bool.not_false, btA, itA, hcs, hds, hR]
        exact ResQ.same rfl
      have hR : cmdR c = (cmdB c, 0) := by rw [cmdR, if_pos h0]
      rcases check_01 e with h2 | h3
      rotate_left
      · have hS : cmdR e = ([], 1) := by rw [cmdR, if_neg (by omega), h3]
        simp (maxSteps := 1000000) (disch := first | omega | assumption | (simp only [updB, dsB, reduceCtorEq, Nat.reduceEqDiff, *]; done) | (simp only [lnB] <;> omega) | fail) only [ev0, ev1, ev2, ev3, ↓reduceIte, reduceCtorEq, Nat.reduceAdd, Nat.reduceSub, Nat.reduceMul, Nat.reduceLT, Nat.reduceLeDiff, Nat.reduceEqDiff, Nat.reduceBEq, BitVec.reduceOfInt, Int.reduceLE, Int.reduceLT, Int.reduceGT, Int.reduceGE, Int.reduceNeg, Int.reduceAdd, Int.reduceSub, Int.reduceMul, Int.reduceToNat, ↓bind_go, ↓map_go, wantedV, isWrite, grow, write, ofV, AV.cells, Abs.start, Abs.strip, endQ, resV, rawsRes, rawRes, exports, export1, AS.grown, AS.put, Env.know, Env.boxed, isSelf, convSelf, convV, loadV, storeV, fieldAddrV, fieldV, indexAddrV, indexV, partV, isAggK, isStr, place, lenV, min2V, makeV, freshSl, sliceV, boundOr, bound, bounds, cutFl, copyV, slCells, srcV, appendV, room, zerosOf, eqNeg, kd, takeR, hasViewL, hasView, freshR, freshC, snapAll, snap, snapL, flatL, pureL, pureA, fillC, arrOK, oneA, partB, AV.laid, ren1, CR.gr, applyW, useL, AS.mute, isGen, startG, ev5, tbQo0, glob, List.map_nil, List.all_nil, List.drop_zero, beq_self_eq_true, List.size_toArray, Array.size_empty, List.length_nil, Bool.not_true, Bool.not_false, btA, itA, hcs, hds, hR, hS]
        exact ResQ.same rfl
      have hS : cmdR e = (cmdB e, 0) := by rw [cmdR, if_pos h2]
      have hA := apart h0 hn h2 hm
      simp (maxSteps := 1000000) (disch := first | omega | assumption | (simp only [updB, dsB, reduceCtorEq, Nat.reduceEqDiff, *]; done) | (simp only [lnB] <;> omega) | fail) only [ev0, ev1, ev2, ev3, ↓reduceIte, reduceCtorEq, Nat.reduceAdd, Nat.reduceSub, Nat.reduceMul, Nat.reduceLT, Nat.reduceLeDiff, Nat.reduceEqDiff, Nat.reduceBEq, BitVec.reduceOfInt, Int.reduceLE, Int.reduceLT, Int.reduceGT, Int.reduceGE, Int.reduceNeg, Int.reduceAdd, Int.reduceSub, Int.reduceMul, Int.reduceToNat, ↓bind_go, ↓map_go, wantedV, isWrite, grow, write, ofV, AV.cells, Abs.start, Abs.strip, endQ, resV, rawsRes, rawRes, exports, export1, AS.grown, AS.put, Env.know, Env.boxed, isSelf, convSelf, convV, loadV, storeV, fieldAddrV, fieldV, indexAddrV, indexV, partV, isAggK, isStr, place, lenV, min2V, makeV, freshSl, sliceV, boundOr, bound, bounds, cutFl, copyV, slCells, srcV, appendV, room, zerosOf, eqNeg, kd, takeR, hasViewL, hasView, freshR, freshC, snapAll, snap, snapL, flatL, pureL, pureA, fillC, arrOK, oneA, partB, AV.laid, ren1, CR.gr, applyW, useL, AS.mute, isGen, startG, ev5, tbQo0, glob, List.map_nil, List.all_nil, List.drop_zero, beq_self_eq_true, List.size_toArray, Array.size_empty, List.length_nil, Bool.not_true, Bool.not_false, btA, itA, hcs, hds, hR, hS, hA]
      exact ResQ.same rfl
    · cases hr
  · cases hr
end Go.Proofs.Ytjnmdphoaafjaaa
