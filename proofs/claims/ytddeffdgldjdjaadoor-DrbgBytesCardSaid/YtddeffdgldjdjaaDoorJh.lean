/- DrbgBytes: what its walk comes to. -/
import Derived.Test.YtddeffdgldjdjaaDoorJg
namespace Go.Proofs.YtddeffdgldjdjaaDoor
set_option linter.unusedSimpArgs false
set_option linter.unusedVariables false
set_option linter.defProp false
open Go Go.Abs
set_option maxHeartbeats 16000000
theorem sp32' {l l' : List (BitVec 8)} (h' : l'.length = 32) (h : l.length = 32) : splice (nums .u8 l') 0 (nums .u8 l) = nums .u8 l := by
  rw [nums_splice, List.take_zero, List.nil_append, Nat.zero_add, h, List.drop_of_length_le (by omega), List.append_nil]
def pf4 : List AV → Option AV
  | [k, v, x] => (agg? .u8 8 32 k).bind fun _ => (agg? .u8 8 32 v).bind fun _ => (int? x).bind fun n => if i64B n then some (.raw (.bool true)) else none
  | _ => none
def tbJh0 := (And.intro (And.intro (And.intro (And.intro (And.intro @teE @EL1_te) (And.intro @EL1_glob (And.intro @EL1_gs @EL1_dyn))) (And.intro (And.intro @EL1_mu @EL1_st) (And.intro @EL1_of (And.intro @EL1_d @EL1_r)))) (And.intro (And.intro (And.intro @EL1_h @EL1_f) (And.intro @EL1_k (And.intro @EL1_s @c00))) (And.intro (And.intro @asb0 @src_eta) (And.intro @shown7 (And.intro @xfew_at @xkind_at))))) (And.intro (And.intro (And.intro (And.intro @of_go @draw0_no) (And.intro @draw0_go (And.intro @re_go @eq_s))) (And.intro (And.intro @hm_len @norm_ptr) (And.intro @norm_nil (And.intro @norm_sl @norm_int)))) (And.intro (And.intro (And.intro @sr_pure @sr_strip) (And.intro @sr_ren (And.intro @ns_strip @ns_set))) (And.intro (And.intro @nums_ren @sp32) (And.intro @tk32 (And.intro @pf25_at @sum_hm))))))
set_option maxRecDepth 100000 in
theorem sound4 : SoundV Tryd.prog globS 4 pf4 := by
  refine SoundV.walk EL1 okL1 mixed Tryd.func4 rfl Tryd.call4 (by kernel_rfl) ?_
  intro args r hr
  unfold pf4 at hr
  split at hr
  · rename_i k v x
    simp only [Option.bind_eq_some_iff] at hr
    obtain ⟨k, h1, v, h2, n, h3, hr⟩ := hr
    split at hr
    · rename_i hn
      cases hr
      obtain ⟨rfl, hk⟩ := agg?_of h1
      obtain ⟨rfl, hv⟩ := agg?_of h2
      rw [int?_of h3, Tryd.ntmps4, Tryd.results4]
      refine ⟨by simp, ?_⟩
      have w0 : wfS ⟨k, v, 1⟩ := ⟨hk, hv, (by decide : (-9223372036854775808 : Int) ≤ 1), (by decide : (1 : Int) ≤ 9223372036854775807)⟩
      have q0 := src?_at w0
      obtain ⟨nn, hnn⟩ := Int.eq_ofNat_of_zero_le (kindF_lo (c := n) (n := 257) (by decide) hn.1)
      have hn2 := kindF_hi (c := n) (n := 257) (by decide) hn.1
      have hnb : nn ≤ 256 := by omega
      clear hn2
      have hn3 := hn.1
      have hn4 := hn.2
      obtain ⟨s0, hs0⟩ : ∃ s : Src, (⟨k, v, 1⟩ : Src) = s := ⟨_, rfl⟩
      have hsk : s0.k = k := by rw [← hs0]
      have hsv : s0.v = v := by rw [← hs0]
      have hsc : s0.c = 1 := by rw [← hs0]
      rw [hs0] at w0 q0
      have lB := drawB_len w0 nn []
      obtain ⟨c, hcd⟩ : ∃ c, c = (nn + 31) / 32 := ⟨_, rfl⟩
      have hB : drawB s0 nn [] = (outN s0 c).take nn := by rw [hcd]; rfl
      obtain ⟨S1, hS1⟩ : ∃ S, drawS s0 nn [] = S := ⟨_, rfl⟩
      obtain ⟨B1, hB1⟩ : ∃ S, drawB s0 nn [] = S := ⟨_, rfl⟩
      rw [hB1] at lB hB
      have e4 : ((1 : Int) > 1048576) = False := by decide
      simp (maxSteps := 1000000) (disch := first | omega | (simp only [updB, updI, dsB, reduceCtorEq, Nat.reduceEqDiff, Abs.Id.mk.injEq, and_false, false_and, and_true, true_and, if_false, ↓reduceIte, Option.isSome_some, *]; done) | (simp only [nums_len, sr_len, hm_len, List.length_append, List.length_cons, List.length_nil, lnB] <;> omega) | fail) only [ev0, ev1, ev2, ev3, ↓reduceIte, reduceCtorEq, Nat.reduceAdd, Nat.reduceSub, Nat.reduceMul, Nat.reduceLT, Nat.reduceLeDiff, Nat.reduceEqDiff, Nat.reduceBEq, BitVec.reduceOfInt, Int.reduceLE, Int.reduceLT, Int.reduceGT, Int.reduceGE, Int.reduceNeg, Int.reduceAdd, Int.reduceSub, Int.reduceMul, Int.reduceToNat, ↓bind_go, ↓map_go, wantedV, isWrite, grow, write, ofV, AV.cells, Abs.start, Abs.strip, endQ, resV, rawsRes, rawRes, exports, export1, AS.grown, AS.put, Env.know, Env.boxed, isSelf, convSelf, convV, loadV, storeV, fieldAddrV, fieldV, indexAddrV, indexV, partV, isAggK, isStr, place, ipS, lenV, min2V, makeV, freshSl, sliceV, boundOr, bound, bounds, cutFl, copyV, slCells, srcV, appendV, room, zerosOf, eqNeg, kd, takeR, hasViewL, hasView, freshR, freshC, snapAll, snap, snapL, flatL, pureL, pureA, fillC, arrOK, oneA, partB, AV.laid, ren1, CR.gr, applyW, useL, AS.mute, isGen, startG, ev5, tbJh0, globS, Bx.own.injEq, and_false, false_and, and_true, true_and, Int.reduceBEq, Int.reduceBNe, beq_self_eq_true, hk, hv, q0, hs0, hsc, hnn, e4, hS1, hB1, decide_true, decide_false]
      refine loopQ_of (fun n' σ => ∃ j i, j ≤ c ∧ n' = c - j ∧ σ.slots 3 = .ptr (.own 0 3 1) 0 ∧ σ.slots 4 = .ptr (.own 0 4 1) 0 ∧ σ.slots 9 = .raw (.int .i64 (nn : Int)) ∧ σ.slots 10 = .sl nn (nums .u8 B1) .bor ∧ σ.slots 11 = .raw (.int .i64 0) ∧ σ.slots 12 = .sl (32 * j) (nums .u8 (outN s0 j)) (.own i 1) ∧ Free σ.used (σ.gen 41) 41 i ∧ σ.box (.own 0 3 1) = some (nums .u8 k) ∧ σ.box (.own 0 4 1) = some (nums .u8 (stpN s0 j).v)) c ?_ ?_
      · refine ⟨0, ⟨0, 31, 0, 1⟩, by omega, by omega, ?_⟩
        simp (maxSteps := 1000000) (disch := first | omega | (simp only [updB, updI, dsB, reduceCtorEq, Nat.reduceEqDiff, Abs.Id.mk.injEq, and_false, false_and, and_true, true_and, if_false, ↓reduceIte, Option.isSome_some, *]; done) | (simp only [nums_len, sr_len, hm_len, List.length_append, List.length_cons, List.length_nil, lnB] <;> omega) | fail) only [ev0, ev1, ev2, ev3, ↓reduceIte, reduceCtorEq, Nat.reduceAdd, Nat.reduceSub, Nat.reduceMul, Nat.reduceLT, Nat.reduceLeDiff, Nat.reduceEqDiff, Nat.reduceBEq, BitVec.reduceOfInt, Int.reduceLE, Int.reduceLT, Int.reduceGT, Int.reduceGE, Int.reduceNeg, Int.reduceAdd, Int.reduceSub, Int.reduceMul, Int.reduceToNat, ↓bind_go, ↓map_go, wantedV, isWrite, grow, write, ofV, AV.cells, Abs.start, Abs.strip, endQ, resV, rawsRes, rawRes, exports, export1, AS.grown, AS.put, Env.know, Env.boxed, isSelf, convSelf, convV, loadV, storeV, fieldAddrV, fieldV, indexAddrV, indexV, partV, isAggK, isStr, place, ipS, lenV, min2V, makeV, freshSl, sliceV, boundOr, bound, bounds, cutFl, copyV, slCells, srcV, appendV, room, zerosOf, eqNeg, kd, takeR, hasViewL, hasView, freshR, freshC, snapAll, snap, snapL, flatL, pureL, pureA, fillC, arrOK, oneA, partB, AV.laid, ren1, CR.gr, applyW, useL, AS.mute, isGen, startG, ev5, tbJh0, globS, Bx.own.injEq, and_false, false_and, and_true, true_and, Int.reduceBEq, Int.reduceBNe, beq_self_eq_true, hnn]
        refine ⟨rfl, ⟨by simp [updI], fun g _ => by simp [updI], by simp⟩, ?_⟩
        rw [← hsv]; rfl
      · rintro n' ⟨sl, gn, bx, us⟩ ⟨j, i, hj, rfl, s3, s4, s9, s10, s11, s12, hf, b3, b4⟩
        dsimp only at s3 s4 s9 s10 s11 s12 hf b3 b4
        have hf0 := hf.now
        have wj := stpN_wf w0 j
        have hvj := wj.v
        have hkj : (stpN s0 j).k = k := by rw [stpN_k, hsk]
        have lo := outN_len w0 j
        clear wj w0 hS1
        simp (maxSteps := 1000000) (disch := first | omega | (simp only [updB, updI, dsB, reduceCtorEq, Nat.reduceEqDiff, Abs.Id.mk.injEq, and_false, false_and, and_true, true_and, if_false, ↓reduceIte, Option.isSome_some, *]; done) | (simp only [nums_len, sr_len, hm_len, List.length_append, List.length_cons, List.length_nil, lnB] <;> omega) | fail) only [ev0, ev1, ev2, ev3, ↓reduceIte, reduceCtorEq, Nat.reduceAdd, Nat.reduceSub, Nat.reduceMul, Nat.reduceLT, Nat.reduceLeDiff, Nat.reduceEqDiff, Nat.reduceBEq, BitVec.reduceOfInt, Int.reduceLE, Int.reduceLT, Int.reduceGT, Int.reduceGE, Int.reduceNeg, Int.reduceAdd, Int.reduceSub, Int.reduceMul, Int.reduceToNat, ↓bind_go, ↓map_go, wantedV, isWrite, grow, write, ofV, AV.cells, Abs.start, Abs.strip, endQ, resV, rawsRes, rawRes, exports, export1, AS.grown, AS.put, Env.know, Env.boxed, isSelf, convSelf, convV, loadV, storeV, fieldAddrV, fieldV, indexAddrV, indexV, partV, isAggK, isStr, place, ipS, lenV, min2V, makeV, freshSl, sliceV, boundOr, bound, bounds, cutFl, copyV, slCells, srcV, appendV, room, zerosOf, eqNeg, kd, takeR, hasViewL, hasView, freshR, freshC, snapAll, snap, snapL, flatL, pureL, pureA, fillC, arrOK, oneA, partB, AV.laid, ren1, CR.gr, applyW, useL, AS.mute, isGen, startG, ev5, tbJh0, globS, Bx.own.injEq, and_false, false_and, and_true, true_and, Int.reduceBEq, Int.reduceBNe, beq_self_eq_true, s3, s4, s9, s10, s11, s12, hf0, b3, b4]
        refine condQ_dec (fun hlt => ?_) (fun hge => ?_)
        · have hlt : j < c := by omega
          clear hcd hB hB1
          simp (maxSteps := 1000000) (disch := first | omega | (simp only [updB, updI, dsB, reduceCtorEq, Nat.reduceEqDiff, Abs.Id.mk.injEq, and_false, false_and, and_true, true_and, if_false, ↓reduceIte, Option.isSome_some, *]; done) | (simp only [nums_len, sr_len, hm_len, List.length_append, List.length_cons, List.length_nil, lnB] <;> omega) | fail) only [ev0, ev1, ev2, ev3, ↓reduceIte, reduceCtorEq, Nat.reduceAdd, Nat.reduceSub, Nat.reduceMul, Nat.reduceLT, Nat.reduceLeDiff, Nat.reduceEqDiff, Nat.reduceBEq, BitVec.reduceOfInt, Int.reduceLE, Int.reduceLT, Int.reduceGT, Int.reduceGE, Int.reduceNeg, Int.reduceAdd, Int.reduceSub, Int.reduceMul, Int.reduceToNat, ↓bind_go, ↓map_go, wantedV, isWrite, grow, write, ofV, AV.cells, Abs.start, Abs.strip, endQ, resV, rawsRes, rawRes, exports, export1, AS.grown, AS.put, Env.know, Env.boxed, isSelf, convSelf, convV, loadV, storeV, fieldAddrV, fieldV, indexAddrV, indexV, partV, isAggK, isStr, place, ipS, lenV, min2V, makeV, freshSl, sliceV, boundOr, bound, bounds, cutFl, copyV, slCells, srcV, appendV, room, zerosOf, eqNeg, kd, takeR, hasViewL, hasView, freshR, freshC, snapAll, snap, snapL, flatL, pureL, pureA, fillC, arrOK, oneA, partB, AV.laid, ren1, CR.gr, applyW, useL, AS.mute, isGen, startG, ev5, tbJh0, globS, Bx.own.injEq, and_false, false_and, and_true, true_and, Int.reduceBEq, Int.reduceBNe, beq_self_eq_true, s3, s4, s9, s10, s11, s12, hf0, b3, b4, hk, hvj, lo, sp32' hvj]
          have hst : (stpN s0 (j + 1)).v = hmF k (stpN s0 j).v := by simp only [stpN, stp, hkj]
          exact ⟨c - (j + 1), by omega, j + 1, ⟨0, 41, 0, gn 41 + 1⟩, by omega, rfl, row_eq (by omega) (by rw [outN, hst]), hf.go, by rw [hst]⟩
        · have hjc : j = c := by omega
          subst hjc
          by_cases hmc : nn = 32 * j
          · have hme := eq_true hmc
            have hB' : B1 = outN s0 j := by rw [hB]; exact List.take_of_length_le (by omega)
            clear hcd hB hB1
            simp (maxSteps := 1000000) (disch := first | omega | (simp only [updB, updI, dsB, reduceCtorEq, Nat.reduceEqDiff, Abs.Id.mk.injEq, and_false, false_and, and_true, true_and, if_false, ↓reduceIte, Option.isSome_some, *]; done) | (simp only [nums_len, sr_len, hm_len, List.length_append, List.length_cons, List.length_nil, lnB] <;> omega) | fail) only [ev0, ev1, ev2, ev3, ↓reduceIte, reduceCtorEq, Nat.reduceAdd, Nat.reduceSub, Nat.reduceMul, Nat.reduceLT, Nat.reduceLeDiff, Nat.reduceEqDiff, Nat.reduceBEq, BitVec.reduceOfInt, Int.reduceLE, Int.reduceLT, Int.reduceGT, Int.reduceGE, Int.reduceNeg, Int.reduceAdd, Int.reduceSub, Int.reduceMul, Int.reduceToNat, ↓bind_go, ↓map_go, wantedV, isWrite, grow, write, ofV, AV.cells, Abs.start, Abs.strip, endQ, resV, rawsRes, rawRes, exports, export1, AS.grown, AS.put, Env.know, Env.boxed, isSelf, convSelf, convV, loadV, storeV, fieldAddrV, fieldV, indexAddrV, indexV, partV, isAggK, isStr, place, ipS, lenV, min2V, makeV, freshSl, sliceV, boundOr, bound, bounds, cutFl, copyV, slCells, srcV, appendV, room, zerosOf, eqNeg, kd, takeR, hasViewL, hasView, freshR, freshC, snapAll, snap, snapL, flatL, pureL, pureA, fillC, arrOK, oneA, partB, AV.laid, ren1, CR.gr, applyW, useL, AS.mute, isGen, startG, ev5, tbJh0, globS, Bx.own.injEq, and_false, false_and, and_true, true_and, Int.reduceBEq, Int.reduceBNe, beq_self_eq_true, s3, s4, s9, s10, s11, s12, hf0, b3, b4, lo, lB, hme]
            rw [hB', beq_self_eq_true]
            exact ResQ.same rfl
          · have hme := eq_false hmc
            clear hcd hB1
            simp (maxSteps := 1000000) (disch := first | omega | (simp only [updB, updI, dsB, reduceCtorEq, Nat.reduceEqDiff, Abs.Id.mk.injEq, and_false, false_and, and_true, true_and, if_false, ↓reduceIte, Option.isSome_some, *]; done) | (simp only [nums_len, sr_len, hm_len, List.length_append, List.length_cons, List.length_nil, lnB] <;> omega) | fail) only [ev0, ev1, ev2, ev3, ↓reduceIte, reduceCtorEq, Nat.reduceAdd, Nat.reduceSub, Nat.reduceMul, Nat.reduceLT, Nat.reduceLeDiff, Nat.reduceEqDiff, Nat.reduceBEq, BitVec.reduceOfInt, Int.reduceLE, Int.reduceLT, Int.reduceGT, Int.reduceGE, Int.reduceNeg, Int.reduceAdd, Int.reduceSub, Int.reduceMul, Int.reduceToNat, ↓bind_go, ↓map_go, wantedV, isWrite, grow, write, ofV, AV.cells, Abs.start, Abs.strip, endQ, resV, rawsRes, rawRes, exports, export1, AS.grown, AS.put, Env.know, Env.boxed, isSelf, convSelf, convV, loadV, storeV, fieldAddrV, fieldV, indexAddrV, indexV, partV, isAggK, isStr, place, ipS, lenV, min2V, makeV, freshSl, sliceV, boundOr, bound, bounds, cutFl, copyV, slCells, srcV, appendV, room, zerosOf, eqNeg, kd, takeR, hasViewL, hasView, freshR, freshC, snapAll, snap, snapL, flatL, pureL, pureA, fillC, arrOK, oneA, partB, AV.laid, ren1, CR.gr, applyW, useL, AS.mute, isGen, startG, ev5, tbJh0, globS, Bx.own.injEq, and_false, false_and, and_true, true_and, Int.reduceBEq, Int.reduceBNe, beq_self_eq_true, s3, s4, s9, s10, s11, s12, hf0, b3, b4, lo, lB, hme]
            rw [hB, beq_self_eq_true]
            exact ResQ.same rfl
    · cases hr
  · cases hr
end Go.Proofs.YtddeffdgldjdjaaDoor
