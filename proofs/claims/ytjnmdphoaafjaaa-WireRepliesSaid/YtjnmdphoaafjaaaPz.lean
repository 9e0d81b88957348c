/- What the document writes: replies, entries, commands. -/
import Derived.Test.YtjnmdphoaafjaaaPx
import Derived.Test.YtjnmdphoaafjaaaQh
namespace Go.Proofs.Ytjnmdphoaafjaaa
set_option linter.unusedSimpArgs false
set_option linter.unusedVariables false
set_option linter.defProp false
open Go Go.Abs
set_option maxHeartbeats 8000000
noncomputable def EB : Env := EX
theorem okB : EnvOK Try.prog EB := okX
theorem EB_te : EB.te = te := rfl
theorem EB_glob : EB.glob = glob := rfl
theorem EB_gs : EB.gs = [] := rfl
theorem EB_dyn : EB.dyn = false := rfl
theorem EB_mu (d : Nat) : EB.mu d = false := rfl
theorem EB_12 : EB.tbl 81 = some (.val (fun xs => pf129 (xs.map norm))) := rfl
theorem EB_14 : EB.tbl 87 = some (.val (fun xs => pf147 (xs.map norm))) := rfl
theorem EB_16 : EB.tbl 82 = some (.val (fun xs => pf79 (xs.map norm))) := rfl
theorem EB_18 : EB.tbl 88 = some (.val (fun xs => pf132 (xs.map norm))) := rfl
theorem EB_21 : EB.tbl 122 = some (.val (fun xs => pf121 (xs.map norm))) := rfl
theorem EB_23 : EB.tbl 125 = some (.val (fun xs => pf144 (xs.map norm))) := rfl
def tbPz0 := (And.intro (And.intro (And.intro (And.intro (And.intro (And.intro @teE @cmdA_strip) (And.intro @repA_strip @entA_strip)) (And.intro (And.intro @cmdA_snap @repA_snap) (And.intro @entA_snap @cmdA_noview))) (And.intro (And.intro (And.intro @repA_noview @entA_noview) (And.intro @cmdA_take @cmdA_one)) (And.intro (And.intro @repA_take @repA_one) (And.intro @entA_take (And.intro @entA_one @dropC))))) (And.intro (And.intro (And.intro (And.intro @dropR @dropE) (And.intro @zeroC @zeroR)) (And.intro (And.intro @zeroE @splice_cmd) (And.intro @splice_cmd' @splice_rep))) (And.intro (And.intro (And.intro @splice_rep' @splice_ent) (And.intro @splice_ent' @cmdA_len)) (And.intro (And.intro @repA_len @entA_len) (And.intro @rep1 (And.intro @rep2 @rep3)))))) (And.intro (And.intro (And.intro (And.intro (And.intro @rep5 @one_le) (And.intro @le2 @le3)) (And.intro (And.intro @le5 @dr1) (And.intro @dr2 @dr3))) (And.intro (And.intro (And.intro @dr5 @EB_te) (And.intro @EB_glob @EB_gs)) (And.intro (And.intro @EB_dyn @EB_mu) (And.intro @EB_12 (And.intro @EB_14 @EB_16))))) (And.intro (And.intro (And.intro (And.intro @EB_18 @EB_21) (And.intro @EB_23 @ev4)) (And.intro (And.intro @check_at @text_at) (And.intro @text_long (And.intro @text_nil @list_at)))) (And.intro (And.intro (And.intro @list_nil @pf129_at) (And.intro @put_nil @zz0)) (And.intro (And.intro @zz1 @repA_0) (And.intro @repA_1 (And.intro @repA_2 @repA_3)))))))
theorem sound57 : SoundV Try.prog glob 57 pf56 := by
  refine SoundV.walk EB okB mixed Try.func57 rfl Try.call57 (by kernel_rfl) ?_
  intro args r hr
  unfold pf56 at hr
  split at hr
  · rename_i cs
    simp only [Option.bind_eq_some_iff] at hr
    obtain ⟨c, hc, hr⟩ := hr
    split at hr
    · rename_i hn
      cases hr
      have hcs := rep?_of hc
      rw [Try.ntmps57, Try.results57]
      refine ⟨by simp, ?_⟩
      obtain ⟨k, n, m, b⟩ := c
      obtain ⟨o1, o2, o3⟩ := hn
      unfold i64ok at o1 o2 o3
      dsimp only at o1 o2 o3
      by_cases c1 : k < 0
      · have hR : repR ⟨k, n, m, b⟩ = ([], 1) := by rw [repR, if_pos (.inl c1)]
        rw [hR]
        simp (maxSteps := 1000000) (disch := first | omega | (simp only [digF_len, putK_len, putB_len, lnB] <;> omega) | fail) only [ev0, ev1, ev2, ev3, ↓reduceIte, reduceCtorEq, Nat.reduceAdd, Nat.reduceSub, Nat.reduceMul, Nat.reduceLT, Nat.reduceLeDiff, Nat.reduceEqDiff, Nat.reduceBEq, BitVec.reduceOfInt, Int.reduceLE, Int.reduceLT, Int.reduceGT, Int.reduceGE, Int.reduceNeg, Int.reduceAdd, Int.reduceSub, Int.reduceMul, Int.reduceToNat, ↓bind_go, ↓map_go, wantedV, isWrite, grow, write, ofV, AV.cells, Abs.start, Abs.strip, endQ, resV, rawsRes, rawRes, exports, export1, AS.grown, AS.put, Env.know, Env.boxed, isSelf, convSelf, convV, loadV, storeV, fieldAddrV, fieldV, indexAddrV, indexV, partV, isAggK, isStr, place, lenV, min2V, makeV, freshSl, sliceV, boundOr, bound, bounds, cutFl, copyV, slCells, srcV, appendV, room, zerosOf, eqNeg, kd, takeR, hasViewL, hasView, freshR, freshC, snapAll, snap, snapL, flatL, pureL, pureA, fillC, arrOK, oneA, partB, AV.laid, ren1, CR.gr, applyW, useL, AS.mute, isGen, startG, ev5, tbPz0, List.map_nil, List.all_nil, List.drop_zero, glob, btA, itA, List.size_toArray, Array.size_empty, List.length_nil, hcs, decide_eq_true c1]
        exact resQ_2nil
      by_cases c2 : n < 0
      · have hR : repR ⟨k, n, m, b⟩ = ([], 1) := by rw [repR, if_pos (.inr (.inl c2))]
        rw [hR]
        simp (maxSteps := 1000000) (disch := first | omega | (simp only [digF_len, putK_len, putB_len, lnB] <;> omega) | fail) only [ev0, ev1, ev2, ev3, ↓reduceIte, reduceCtorEq, Nat.reduceAdd, Nat.reduceSub, Nat.reduceMul, Nat.reduceLT, Nat.reduceLeDiff, Nat.reduceEqDiff, Nat.reduceBEq, BitVec.reduceOfInt, Int.reduceLE, Int.reduceLT, Int.reduceGT, Int.reduceGE, Int.reduceNeg, Int.reduceAdd, Int.reduceSub, Int.reduceMul, Int.reduceToNat, ↓bind_go, ↓map_go, wantedV, isWrite, grow, write, ofV, AV.cells, Abs.start, Abs.strip, endQ, resV, rawsRes, rawRes, exports, export1, AS.grown, AS.put, Env.know, Env.boxed, isSelf, convSelf, convV, loadV, storeV, fieldAddrV, fieldV, indexAddrV, indexV, partV, isAggK, isStr, place, lenV, min2V, makeV, freshSl, sliceV, boundOr, bound, bounds, cutFl, copyV, slCells, srcV, appendV, room, zerosOf, eqNeg, kd, takeR, hasViewL, hasView, freshR, freshC, snapAll, snap, snapL, flatL, pureL, pureA, fillC, arrOK, oneA, partB, AV.laid, ren1, CR.gr, applyW, useL, AS.mute, isGen, startG, ev5, tbPz0, List.map_nil, List.all_nil, List.drop_zero, glob, btA, itA, List.size_toArray, Array.size_empty, List.length_nil, hcs, decide_eq_false c1, decide_eq_true c2]
        exact resQ_2nil
      by_cases c3 : m < 0
      · have hR : repR ⟨k, n, m, b⟩ = ([], 1) := by rw [repR, if_pos (.inr (.inr c3))]
        rw [hR]
        simp (maxSteps := 1000000) (disch := first | omega | (simp only [digF_len, putK_len, putB_len, lnB] <;> omega) | fail) only [ev0, ev1, ev2, ev3, ↓reduceIte, reduceCtorEq, Nat.reduceAdd, Nat.reduceSub, Nat.reduceMul, Nat.reduceLT, Nat.reduceLeDiff, Nat.reduceEqDiff, Nat.reduceBEq, BitVec.reduceOfInt, Int.reduceLE, Int.reduceLT, Int.reduceGT, Int.reduceGE, Int.reduceNeg, Int.reduceAdd, Int.reduceSub, Int.reduceMul, Int.reduceToNat, ↓bind_go, ↓map_go, wantedV, isWrite, grow, write, ofV, AV.cells, Abs.start, Abs.strip, endQ, resV, rawsRes, rawRes, exports, export1, AS.grown, AS.put, Env.know, Env.boxed, isSelf, convSelf, convV, loadV, storeV, fieldAddrV, fieldV, indexAddrV, indexV, partV, isAggK, isStr, place, lenV, min2V, makeV, freshSl, sliceV, boundOr, bound, bounds, cutFl, copyV, slCells, srcV, appendV, room, zerosOf, eqNeg, kd, takeR, hasViewL, hasView, freshR, freshC, snapAll, snap, snapL, flatL, pureL, pureA, fillC, arrOK, oneA, partB, AV.laid, ren1, CR.gr, applyW, useL, AS.mute, isGen, startG, ev5, tbPz0, List.map_nil, List.all_nil, List.drop_zero, glob, btA, itA, List.size_toArray, Array.size_empty, List.length_nil, hcs, decide_eq_false c1, decide_eq_false c2, decide_eq_true c3]
        exact resQ_2nil
      have hb : ¬ badR ⟨k, n, m, b⟩ := fun h => by rcases h with h | h | h <;> (dsimp only at h; omega)
      have n1 := need_le k.toNat (by omega)
      have n2 := need_le n.toNat (by omega)
      have n3 := need_le m.toNat (by omega)
      cases b with
      | none =>
        have hR : repR ⟨k, n, m, none⟩ = (txB (nmF [k, n, m]) [], 0) := by rw [repR, if_neg hb]; rfl
        rw [hR]
        simp (maxSteps := 1000000) (disch := first | omega | (simp only [digF_len, putK_len, putB_len, lnB] <;> omega) | fail) only [ev0, ev1, ev2, ev3, ↓reduceIte, reduceCtorEq, Nat.reduceAdd, Nat.reduceSub, Nat.reduceMul, Nat.reduceLT, Nat.reduceLeDiff, Nat.reduceEqDiff, Nat.reduceBEq, BitVec.reduceOfInt, Int.reduceLE, Int.reduceLT, Int.reduceGT, Int.reduceGE, Int.reduceNeg, Int.reduceAdd, Int.reduceSub, Int.reduceMul, Int.reduceToNat, ↓bind_go, ↓map_go, wantedV, isWrite, grow, write, ofV, AV.cells, Abs.start, Abs.strip, endQ, resV, rawsRes, rawRes, exports, export1, AS.grown, AS.put, Env.know, Env.boxed, isSelf, convSelf, convV, loadV, storeV, fieldAddrV, fieldV, indexAddrV, indexV, partV, isAggK, isStr, place, lenV, min2V, makeV, freshSl, sliceV, boundOr, bound, bounds, cutFl, copyV, slCells, srcV, appendV, room, zerosOf, eqNeg, kd, takeR, hasViewL, hasView, freshR, freshC, snapAll, snap, snapL, flatL, pureL, pureA, fillC, arrOK, oneA, partB, AV.laid, ren1, CR.gr, applyW, useL, AS.mute, isGen, startG, ev5, tbPz0, List.map_nil, List.all_nil, List.drop_zero, glob, btA, itA, List.size_toArray, Array.size_empty, List.length_nil, hcs, decide_eq_false c1, decide_eq_false c2, decide_eq_false c3]
        exact resQ_2
      | some b =>
        by_cases c4 : b.length > 4096
        · have hR : repR ⟨k, n, m, some b⟩ = ([], 2) := by rw [repR, if_neg hb]; exact if_pos c4
          have dd : decide ((b.length : Int) > 4096) = true := decide_eq_true (by omega)
          rw [hR]
          simp (maxSteps := 1000000) (disch := first | omega | (simp only [digF_len, putK_len, putB_len, lnB] <;> omega) | fail) only [ev0, ev1, ev2, ev3, ↓reduceIte, reduceCtorEq, Nat.reduceAdd, Nat.reduceSub, Nat.reduceMul, Nat.reduceLT, Nat.reduceLeDiff, Nat.reduceEqDiff, Nat.reduceBEq, BitVec.reduceOfInt, Int.reduceLE, Int.reduceLT, Int.reduceGT, Int.reduceGE, Int.reduceNeg, Int.reduceAdd, Int.reduceSub, Int.reduceMul, Int.reduceToNat, ↓bind_go, ↓map_go, wantedV, isWrite, grow, write, ofV, AV.cells, Abs.start, Abs.strip, endQ, resV, rawsRes, rawRes, exports, export1, AS.grown, AS.put, Env.know, Env.boxed, isSelf, convSelf, convV, loadV, storeV, fieldAddrV, fieldV, indexAddrV, indexV, partV, isAggK, isStr, place, lenV, min2V, makeV, freshSl, sliceV, boundOr, bound, bounds, cutFl, copyV, slCells, srcV, appendV, room, zerosOf, eqNeg, kd, takeR, hasViewL, hasView, freshR, freshC, snapAll, snap, snapL, flatL, pureL, pureA, fillC, arrOK, oneA, partB, AV.laid, ren1, CR.gr, applyW, useL, AS.mute, isGen, startG, ev5, tbPz0, List.map_nil, List.all_nil, List.drop_zero, glob, btA, itA, List.size_toArray, Array.size_empty, List.length_nil, hcs, decide_eq_false c1, decide_eq_false c2, decide_eq_false c3, dd]
          exact resQ_2nil
        · have hR : repR ⟨k, n, m, some b⟩ = (txB (nmF [k, n, m]) b, 0) := by rw [repR, if_neg hb]; exact if_neg c4
          have dd : decide ((b.length : Int) > 4096) = false := decide_eq_false (by omega)
          rw [hR]
          simp (maxSteps := 1000000) (disch := first | omega | (simp only [digF_len, putK_len, putB_len, lnB] <;> omega) | fail) only [ev0, ev1, ev2, ev3, ↓reduceIte, reduceCtorEq, Nat.reduceAdd, Nat.reduceSub, Nat.reduceMul, Nat.reduceLT, Nat.reduceLeDiff, Nat.reduceEqDiff, Nat.reduceBEq, BitVec.reduceOfInt, Int.reduceLE, Int.reduceLT, Int.reduceGT, Int.reduceGE, Int.reduceNeg, Int.reduceAdd, Int.reduceSub, Int.reduceMul, Int.reduceToNat, ↓bind_go, ↓map_go, wantedV, isWrite, grow, write, ofV, AV.cells, Abs.start, Abs.strip, endQ, resV, rawsRes, rawRes, exports, export1, AS.grown, AS.put, Env.know, Env.boxed, isSelf, convSelf, convV, loadV, storeV, fieldAddrV, fieldV, indexAddrV, indexV, partV, isAggK, isStr, place, lenV, min2V, makeV, freshSl, sliceV, boundOr, bound, bounds, cutFl, copyV, slCells, srcV, appendV, room, zerosOf, eqNeg, kd, takeR, hasViewL, hasView, freshR, freshC, snapAll, snap, snapL, flatL, pureL, pureA, fillC, arrOK, oneA, partB, AV.laid, ren1, CR.gr, applyW, useL, AS.mute, isGen, startG, ev5, tbPz0, List.map_nil, List.all_nil, List.drop_zero, glob, btA, itA, List.size_toArray, Array.size_empty, List.length_nil, hcs, decide_eq_false c1, decide_eq_false c2, decide_eq_false c3, dd]
          exact resQ_2
    · cases hr
  · cases hr
end Go.Proofs.Ytjnmdphoaafjaaa
