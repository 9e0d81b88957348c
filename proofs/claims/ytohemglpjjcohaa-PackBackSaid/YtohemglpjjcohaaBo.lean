/- The statements' functions of layer 8: what their walks come to (sizes, lists, and back). -/
import Derived.Test.YtohemglpjjcohaaBn
namespace Go.Proofs.Ytohemglpjjcohaa
set_option linter.unusedSimpArgs false
set_option linter.unusedVariables false
open Go Go.Abs

theorem bq10 : ((1 : Int) == 0) = false := rfl
theorem bq20 : ((2 : Int) == 0) = false := rfl
theorem bq21 : ((2 : Int) == 1) = false := rfl
theorem bq01 : ((0 : Int) == 1) = false := rfl
theorem pf19_at {n : Nat} {l : List Int} {fl : Fl} (h : n = l.length) (h2 : ∀ n ∈ l, i64ok n) (h3 : l.length ≤ 9223372036854775807) : pf19 [.sl n (ints .i64 l) fl] = some (.sl (fewF l).length (ints .i64 (fewF l)) .bor) := by
  simp only [pf19, irow?_at h h2, Option.bind_some, if_pos (show l.length ≤ maxLen from h3)]
theorem pf24_at {n n' : Nat} {l m : List Int} {fl fl' : Fl} (h : n = l.length) (h' : n' = m.length) (h2 : ∀ n ∈ l, i64ok n) (h3 : ∀ n ∈ m, i64ok n) (h4 : l.length ≤ 1000000000) (h5 : m.length ≤ 1000000000) : pf24 [.sl n (ints .i64 l) fl, .sl n' (ints .i64 m) fl'] = some (.raw (.bool (l == m))) := by
  simp only [pf24, irow?_at h h2, irow?_at h' h3, Option.bind_some, if_pos (And.intro h4 h5)]
theorem pf20_nil {l' : Nat} {t : List Int} {fl fl' : Fl} (h' : l' = t.length) (ht : ∀ n ∈ t, i64ok n) (h3 : t.length ≤ 4096) (h4 : neg t = false) : pf20 [.sl 0 [] fl, .sl l' (ints .i64 t) fl'] = some (.tup [.sl (putL [] t).length (nums .u8 (putL [] t)) .bor, .raw (.int .i64 0)]) :=
  pf20_at (b := []) rfl h' ht (by simp) h3 h4
theorem pf20_nilneg {l' : Nat} {t : List Int} {fl fl' : Fl} (h' : l' = t.length) (ht : ∀ n ∈ t, i64ok n) (h3 : t.length ≤ 4096) (h4 : neg t = true) : pf20 [.sl 0 [] fl, .sl l' (ints .i64 t) fl'] = some (.tup [.sl 0 [] .bor, .raw (.int .i64 1)]) :=
  pf20_neg (b := []) rfl h' ht (by simp) h3 h4
theorem fewF_ok {l : List Int} (h : ∀ n ∈ l, i64ok n) : (fewF l).length ≤ 200 ∧ ∀ n ∈ fewF l, i64ok n :=
  ⟨by rw [fewF, List.length_take]; omega, fun n hn => h n (List.mem_of_mem_take hn)⟩
theorem tlL_ok (b : List (BitVec 8)) (m : Int) : ((tlL b m).length : Int) ≤ m.toNat ∧ (∀ n ∈ tlL b m, i64ok n) ∧ (tlR b m).length ≤ b.length := by
  obtain ⟨h1, h2, h3⟩ := tlF_ok b (tkN b)
  refine ⟨?_, ?_, ?_⟩
  · rw [tlL]
    split
    · rename_i h
      unfold tlE at h
      split at h
      · omega
      · split at h
        · omega
        · omega
    · simp; omega
  · rw [tlL]
    split
    · exact h3
    · simp
  · rw [tlR]
    split
    · exact h2
    · simp
set_option maxHeartbeats 8000000
def pf6 : List AV → Option AV
  | [w, u] => (row? .u8 8 u).bind fun t => (int? w).bind fun n => if t.length ≤ 140737488355328 ∧ i64ok n then some (.raw (.bool true)) else none
  | _ => none
theorem sound6 : SoundV Try.prog glob 6 pf6 := by
  refine SoundV.walk E9 ok9 mixed Try.func6 rfl Try.call6 (by kernel_rfl) ?_
  intro args r hr
  unfold pf6 at hr
  split at hr
  · simp only [Option.bind_eq_some_iff] at hr
    obtain ⟨t, h2, n, h3, hr⟩ := hr
    split at hr
    · rename_i hc
      obtain ⟨hd, hn⟩ := hc
      unfold i64ok at hn
      cases hr
      obtain ⟨gl, rfl⟩ := row?_of h2
      rw [int?_of h3, Try.ntmps6, Try.results6]
      refine ⟨by simp, ?_⟩
      by_cases hz : 0 ≤ n
      · obtain ⟨n, rfl⟩ := Int.eq_ofNat_of_zero_le hz
        have hn8 := need_le n (by omega)
        have lP := putB_len [] n
        simp only [List.length_nil] at lP
        simp (maxSteps := 1000000) (disch := first | omega | (simp only [digF_len, putK_len, putB_len, i64ok_eq, nums_len, List.length_cons, List.length_nil, List.length_append, List.length_take, List.length_drop, List.length_replicate, List.length_set, List.length_map] <;> omega) | fail) only [ev0, ev1, ev2, ev3, ↓reduceIte, reduceCtorEq, Nat.reduceAdd, Nat.reduceSub, Nat.reduceMul, Nat.reduceLT, Nat.reduceLeDiff, Nat.reduceEqDiff, Nat.reduceBEq, BitVec.reduceOfInt, Int.reduceLE, Int.reduceLT, Int.reduceGT, Int.reduceGE, Int.reduceNeg, Int.reduceAdd, Int.reduceSub, Int.reduceMul, Int.reduceToNat, ↓bind_go, ↓map_go, wantedV, isWrite, grow, write, ofV, AV.cells, Abs.start, Abs.strip, endQ, resV, rawsRes, rawRes, exports, export1, AS.grown, AS.put, Env.know, Env.boxed, isSelf, convSelf, convV, loadV, storeV, fieldAddrV, fieldV, indexAddrV, indexV, partV, isAggK, isStr, place, lenV, min2V, makeV, freshSl, sliceV, boundOr, bound, bounds, cutFl, copyV, slCells, srcV, appendV, room, zerosOf, eqNeg, kd, takeR, hasViewL, hasView, freshR, freshC, snapAll, snap, snapL, flatL, pureL, pureA, fillC, arrOK, oneA, te2, te3, te4, te5, te9, te22, te24, te36, te46, te52, te54, E9_te, E9_glob, E9_mu, E9_10, E9_11, E9_12, E9_13, E9_14, E9_15, E9_16, E9_17, E9_18, pf10_at, pf11_at, pf11_neg, pf11_nil, pf11_nilneg, pf28_at, pf15_at, pf15_long, pf15_nil, pf15_nillong, pf17_at, glob, ev4, undef_is, ne00, ne10, ne20, bq0, bq1, bq2, beq_self_eq_true, asB0, List.map_append, E9_19, E9_20, E9_21, E9_22, E9_23, E9_24, pf19_at, pf20_at, pf20_neg, pf22_at, pf24_at, pf20_nil, pf20_nilneg, bq10, bq20, bq21, bq01, lP]
        refine loopQ_of (fun v σ => ∃ k m, need m + k = need n ∧ m ≤ n ∧ v = need m ∧ σ.slots 8 = .raw (.int .i64 (k : Int)) ∧ σ.slots 9 = .raw (.int .i64 (m : Int)) ∧ σ.slots 5 = .raw (.bool true) ∧ (∃ i, σ.slots 6 = .sl (1 + need n) (nums .u8 (putB [] n)) (.own i 1)) ∧ σ.slots 1 = .sl t.length (nums .u8 t) .bor) (need n) ?_ ?_
        · refine ⟨0, n, by omega, by omega, rfl, ?_⟩
          simp (maxSteps := 1000000) (disch := first | omega | (simp only [digF_len, putK_len, putB_len, i64ok_eq, nums_len, List.length_cons, List.length_nil, List.length_append, List.length_take, List.length_drop, List.length_replicate, List.length_set, List.length_map] <;> omega) | fail) only [ev0, ev1, ev2, ev3, ↓reduceIte, reduceCtorEq, Nat.reduceAdd, Nat.reduceSub, Nat.reduceMul, Nat.reduceLT, Nat.reduceLeDiff, Nat.reduceEqDiff, Nat.reduceBEq, BitVec.reduceOfInt, Int.reduceLE, Int.reduceLT, Int.reduceGT, Int.reduceGE, Int.reduceNeg, Int.reduceAdd, Int.reduceSub, Int.reduceMul, Int.reduceToNat, ↓bind_go, ↓map_go, wantedV, isWrite, grow, write, ofV, AV.cells, Abs.start, Abs.strip, endQ, resV, rawsRes, rawRes, exports, export1, AS.grown, AS.put, Env.know, Env.boxed, isSelf, convSelf, convV, loadV, storeV, fieldAddrV, fieldV, indexAddrV, indexV, partV, isAggK, isStr, place, lenV, min2V, makeV, freshSl, sliceV, boundOr, bound, bounds, cutFl, copyV, slCells, srcV, appendV, room, zerosOf, eqNeg, kd, takeR, hasViewL, hasView, freshR, freshC, snapAll, snap, snapL, flatL, pureL, pureA, fillC, arrOK, oneA, te2, te3, te4, te5, te9, te22, te24, te36, te46, te52, te54, E9_te, E9_glob, E9_mu, E9_10, E9_11, E9_12, E9_13, E9_14, E9_15, E9_16, E9_17, E9_18, pf10_at, pf11_at, pf11_neg, pf11_nil, pf11_nilneg, pf28_at, pf15_at, pf15_long, pf15_nil, pf15_nillong, pf17_at, glob, ev4, undef_is, ne00, ne10, ne20, bq0, bq1, bq2, beq_self_eq_true, asB0, List.map_append, E9_19, E9_20, E9_21, E9_22, E9_23, E9_24, pf19_at, pf20_at, pf20_neg, pf22_at, pf24_at, pf20_nil, pf20_nilneg, bq10, bq20, bq21, bq01, lP]
          exact ⟨rfl, _, rfl⟩
        · rintro v ⟨sl, gn, bx, us⟩ ⟨k, m, hk, hm, rfl, s8, s9, s5, ⟨i, s6⟩, s1⟩
          dsimp only at s8 s9 s5 s6 s1
          simp (maxSteps := 1000000) (disch := first | omega | (simp only [digF_len, putK_len, putB_len, i64ok_eq, nums_len, List.length_cons, List.length_nil, List.length_append, List.length_take, List.length_drop, List.length_replicate, List.length_set, List.length_map] <;> omega) | fail) only [ev0, ev1, ev2, ev3, ↓reduceIte, reduceCtorEq, Nat.reduceAdd, Nat.reduceSub, Nat.reduceMul, Nat.reduceLT, Nat.reduceLeDiff, Nat.reduceEqDiff, Nat.reduceBEq, BitVec.reduceOfInt, Int.reduceLE, Int.reduceLT, Int.reduceGT, Int.reduceGE, Int.reduceNeg, Int.reduceAdd, Int.reduceSub, Int.reduceMul, Int.reduceToNat, ↓bind_go, ↓map_go, wantedV, isWrite, grow, write, ofV, AV.cells, Abs.start, Abs.strip, endQ, resV, rawsRes, rawRes, exports, export1, AS.grown, AS.put, Env.know, Env.boxed, isSelf, convSelf, convV, loadV, storeV, fieldAddrV, fieldV, indexAddrV, indexV, partV, isAggK, isStr, place, lenV, min2V, makeV, freshSl, sliceV, boundOr, bound, bounds, cutFl, copyV, slCells, srcV, appendV, room, zerosOf, eqNeg, kd, takeR, hasViewL, hasView, freshR, freshC, snapAll, snap, snapL, flatL, pureL, pureA, fillC, arrOK, oneA, te2, te3, te4, te5, te9, te22, te24, te36, te46, te52, te54, E9_te, E9_glob, E9_mu, E9_10, E9_11, E9_12, E9_13, E9_14, E9_15, E9_16, E9_17, E9_18, pf10_at, pf11_at, pf11_neg, pf11_nil, pf11_nilneg, pf28_at, pf15_at, pf15_long, pf15_nil, pf15_nillong, pf17_at, glob, ev4, undef_is, ne00, ne10, ne20, bq0, bq1, bq2, beq_self_eq_true, asB0, List.map_append, E9_19, E9_20, E9_21, E9_22, E9_23, E9_24, pf19_at, pf20_at, pf20_neg, pf22_at, pf24_at, pf20_nil, pf20_nilneg, bq10, bq20, bq21, bq01, s8, s9, s5, s6, s1]
          refine condQ_dec (fun hlt => ?_) (fun hge => ?_)
          · have hs := need_step m (by omega)
            simp (maxSteps := 1000000) (disch := first | omega | (simp only [digF_len, putK_len, putB_len, i64ok_eq, nums_len, List.length_cons, List.length_nil, List.length_append, List.length_take, List.length_drop, List.length_replicate, List.length_set, List.length_map] <;> omega) | fail) only [ev0, ev1, ev2, ev3, ↓reduceIte, reduceCtorEq, Nat.reduceAdd, Nat.reduceSub, Nat.reduceMul, Nat.reduceLT, Nat.reduceLeDiff, Nat.reduceEqDiff, Nat.reduceBEq, BitVec.reduceOfInt, Int.reduceLE, Int.reduceLT, Int.reduceGT, Int.reduceGE, Int.reduceNeg, Int.reduceAdd, Int.reduceSub, Int.reduceMul, Int.reduceToNat, ↓bind_go, ↓map_go, wantedV, isWrite, grow, write, ofV, AV.cells, Abs.start, Abs.strip, endQ, resV, rawsRes, rawRes, exports, export1, AS.grown, AS.put, Env.know, Env.boxed, isSelf, convSelf, convV, loadV, storeV, fieldAddrV, fieldV, indexAddrV, indexV, partV, isAggK, isStr, place, lenV, min2V, makeV, freshSl, sliceV, boundOr, bound, bounds, cutFl, copyV, slCells, srcV, appendV, room, zerosOf, eqNeg, kd, takeR, hasViewL, hasView, freshR, freshC, snapAll, snap, snapL, flatL, pureL, pureA, fillC, arrOK, oneA, te2, te3, te4, te5, te9, te22, te24, te36, te46, te52, te54, E9_te, E9_glob, E9_mu, E9_10, E9_11, E9_12, E9_13, E9_14, E9_15, E9_16, E9_17, E9_18, pf10_at, pf11_at, pf11_neg, pf11_nil, pf11_nilneg, pf28_at, pf15_at, pf15_long, pf15_nil, pf15_nillong, pf17_at, glob, ev4, undef_is, ne00, ne10, ne20, bq0, bq1, bq2, beq_self_eq_true, asB0, List.map_append, E9_19, E9_20, E9_21, E9_22, E9_23, E9_24, pf19_at, pf20_at, pf20_neg, pf22_at, pf24_at, pf20_nil, pf20_nilneg, bq10, bq20, bq21, bq01, s8, s9, s5, s6, s1]
            exact ⟨need (m / 256), by omega, k + 1, m / 256, by omega, by omega, rfl, rfl, rfl, i, rfl⟩
          · have h0 : m = 0 := by omega
            subst h0
            have hz0 := need_zero
            have hk : k = need n := by omega
            subst hk
            have dk : (((1 + need n : Nat) : Int) != (need n : Int) + 1) = false := by rw [bne_eq_false_iff_eq]; omega
            by_cases ht : 4096 < t.length
            · simp (maxSteps := 1000000) (disch := first | omega | (simp only [digF_len, putK_len, putB_len, i64ok_eq, nums_len, List.length_cons, List.length_nil, List.length_append, List.length_take, List.length_drop, List.length_replicate, List.length_set, List.length_map] <;> omega) | fail) only [ev0, ev1, ev2, ev3, ↓reduceIte, reduceCtorEq, Nat.reduceAdd, Nat.reduceSub, Nat.reduceMul, Nat.reduceLT, Nat.reduceLeDiff, Nat.reduceEqDiff, Nat.reduceBEq, BitVec.reduceOfInt, Int.reduceLE, Int.reduceLT, Int.reduceGT, Int.reduceGE, Int.reduceNeg, Int.reduceAdd, Int.reduceSub, Int.reduceMul, Int.reduceToNat, ↓bind_go, ↓map_go, wantedV, isWrite, grow, write, ofV, AV.cells, Abs.start, Abs.strip, endQ, resV, rawsRes, rawRes, exports, export1, AS.grown, AS.put, Env.know, Env.boxed, isSelf, convSelf, convV, loadV, storeV, fieldAddrV, fieldV, indexAddrV, indexV, partV, isAggK, isStr, place, lenV, min2V, makeV, freshSl, sliceV, boundOr, bound, bounds, cutFl, copyV, slCells, srcV, appendV, room, zerosOf, eqNeg, kd, takeR, hasViewL, hasView, freshR, freshC, snapAll, snap, snapL, flatL, pureL, pureA, fillC, arrOK, oneA, te2, te3, te4, te5, te9, te22, te24, te36, te46, te52, te54, E9_te, E9_glob, E9_mu, E9_10, E9_11, E9_12, E9_13, E9_14, E9_15, E9_16, E9_17, E9_18, pf10_at, pf11_at, pf11_neg, pf11_nil, pf11_nilneg, pf28_at, pf15_at, pf15_long, pf15_nil, pf15_nillong, pf17_at, glob, ev4, undef_is, ne00, ne10, ne20, bq0, bq1, bq2, beq_self_eq_true, asB0, List.map_append, E9_19, E9_20, E9_21, E9_22, E9_23, E9_24, pf19_at, pf20_at, pf20_neg, pf22_at, pf24_at, pf20_nil, pf20_nilneg, bq10, bq20, bq21, bq01, s8, s9, s5, s6, s1, dk]
              exact ResQ.same rfl
            · have hn7 := need_le t.length (by omega)
              have lQ := putB_len [] t.length
              simp only [List.length_nil] at lQ
              have dq : (((0 + 1 + need t.length + t.length : Nat) : Int) == ((0 + 1 + need t.length : Nat) : Int) + (t.length : Int)) = true := by rw [beq_iff_eq]; omega
              simp (maxSteps := 1000000) (disch := first | omega | (simp only [digF_len, putK_len, putB_len, i64ok_eq, nums_len, List.length_cons, List.length_nil, List.length_append, List.length_take, List.length_drop, List.length_replicate, List.length_set, List.length_map] <;> omega) | fail) only [ev0, ev1, ev2, ev3, ↓reduceIte, reduceCtorEq, Nat.reduceAdd, Nat.reduceSub, Nat.reduceMul, Nat.reduceLT, Nat.reduceLeDiff, Nat.reduceEqDiff, Nat.reduceBEq, BitVec.reduceOfInt, Int.reduceLE, Int.reduceLT, Int.reduceGT, Int.reduceGE, Int.reduceNeg, Int.reduceAdd, Int.reduceSub, Int.reduceMul, Int.reduceToNat, ↓bind_go, ↓map_go, wantedV, isWrite, grow, write, ofV, AV.cells, Abs.start, Abs.strip, endQ, resV, rawsRes, rawRes, exports, export1, AS.grown, AS.put, Env.know, Env.boxed, isSelf, convSelf, convV, loadV, storeV, fieldAddrV, fieldV, indexAddrV, indexV, partV, isAggK, isStr, place, lenV, min2V, makeV, freshSl, sliceV, boundOr, bound, bounds, cutFl, copyV, slCells, srcV, appendV, room, zerosOf, eqNeg, kd, takeR, hasViewL, hasView, freshR, freshC, snapAll, snap, snapL, flatL, pureL, pureA, fillC, arrOK, oneA, te2, te3, te4, te5, te9, te22, te24, te36, te46, te52, te54, E9_te, E9_glob, E9_mu, E9_10, E9_11, E9_12, E9_13, E9_14, E9_15, E9_16, E9_17, E9_18, pf10_at, pf11_at, pf11_neg, pf11_nil, pf11_nilneg, pf28_at, pf15_at, pf15_long, pf15_nil, pf15_nillong, pf17_at, glob, ev4, undef_is, ne00, ne10, ne20, bq0, bq1, bq2, beq_self_eq_true, asB0, List.map_append, E9_19, E9_20, E9_21, E9_22, E9_23, E9_24, pf19_at, pf20_at, pf20_neg, pf22_at, pf24_at, pf20_nil, pf20_nilneg, bq10, bq20, bq21, bq01, s8, s9, s5, s6, s1, dk, lQ, dq]
              exact ResQ.same rfl
      · have dk : True := trivial
        have s8 : True := trivial
        have s9 : True := trivial
        have s5 : True := trivial
        have s6 : True := trivial
        have s1 : True := trivial
        have lQ := putB_len [] t.length
        by_cases ht : 4096 < t.length
        · simp (maxSteps := 1000000) (disch := first | omega | (simp only [digF_len, putK_len, putB_len, i64ok_eq, nums_len, List.length_cons, List.length_nil, List.length_append, List.length_take, List.length_drop, List.length_replicate, List.length_set, List.length_map] <;> omega) | fail) only [ev0, ev1, ev2, ev3, ↓reduceIte, reduceCtorEq, Nat.reduceAdd, Nat.reduceSub, Nat.reduceMul, Nat.reduceLT, Nat.reduceLeDiff, Nat.reduceEqDiff, Nat.reduceBEq, BitVec.reduceOfInt, Int.reduceLE, Int.reduceLT, Int.reduceGT, Int.reduceGE, Int.reduceNeg, Int.reduceAdd, Int.reduceSub, Int.reduceMul, Int.reduceToNat, ↓bind_go, ↓map_go, wantedV, isWrite, grow, write, ofV, AV.cells, Abs.start, Abs.strip, endQ, resV, rawsRes, rawRes, exports, export1, AS.grown, AS.put, Env.know, Env.boxed, isSelf, convSelf, convV, loadV, storeV, fieldAddrV, fieldV, indexAddrV, indexV, partV, isAggK, isStr, place, lenV, min2V, makeV, freshSl, sliceV, boundOr, bound, bounds, cutFl, copyV, slCells, srcV, appendV, room, zerosOf, eqNeg, kd, takeR, hasViewL, hasView, freshR, freshC, snapAll, snap, snapL, flatL, pureL, pureA, fillC, arrOK, oneA, te2, te3, te4, te5, te9, te22, te24, te36, te46, te52, te54, E9_te, E9_glob, E9_mu, E9_10, E9_11, E9_12, E9_13, E9_14, E9_15, E9_16, E9_17, E9_18, pf10_at, pf11_at, pf11_neg, pf11_nil, pf11_nilneg, pf28_at, pf15_at, pf15_long, pf15_nil, pf15_nillong, pf17_at, glob, ev4, undef_is, ne00, ne10, ne20, bq0, bq1, bq2, beq_self_eq_true, asB0, List.map_append, E9_19, E9_20, E9_21, E9_22, E9_23, E9_24, pf19_at, pf20_at, pf20_neg, pf22_at, pf24_at, pf20_nil, pf20_nilneg, bq10, bq20, bq21, bq01, s8, s9, s5, s6, s1, dk]
          exact ResQ.same rfl
        · have hn7 := need_le t.length (by omega)
          have lQ := putB_len [] t.length
          simp only [List.length_nil] at lQ
          have dq : (((0 + 1 + need t.length + t.length : Nat) : Int) == ((0 + 1 + need t.length : Nat) : Int) + (t.length : Int)) = true := by rw [beq_iff_eq]; omega
          simp (maxSteps := 1000000) (disch := first | omega | (simp only [digF_len, putK_len, putB_len, i64ok_eq, nums_len, List.length_cons, List.length_nil, List.length_append, List.length_take, List.length_drop, List.length_replicate, List.length_set, List.length_map] <;> omega) | fail) only [ev0, ev1, ev2, ev3, ↓reduceIte, reduceCtorEq, Nat.reduceAdd, Nat.reduceSub, Nat.reduceMul, Nat.reduceLT, Nat.reduceLeDiff, Nat.reduceEqDiff, Nat.reduceBEq, BitVec.reduceOfInt, Int.reduceLE, Int.reduceLT, Int.reduceGT, Int.reduceGE, Int.reduceNeg, Int.reduceAdd, Int.reduceSub, Int.reduceMul, Int.reduceToNat, ↓bind_go, ↓map_go, wantedV, isWrite, grow, write, ofV, AV.cells, Abs.start, Abs.strip, endQ, resV, rawsRes, rawRes, exports, export1, AS.grown, AS.put, Env.know, Env.boxed, isSelf, convSelf, convV, loadV, storeV, fieldAddrV, fieldV, indexAddrV, indexV, partV, isAggK, isStr, place, lenV, min2V, makeV, freshSl, sliceV, boundOr, bound, bounds, cutFl, copyV, slCells, srcV, appendV, room, zerosOf, eqNeg, kd, takeR, hasViewL, hasView, freshR, freshC, snapAll, snap, snapL, flatL, pureL, pureA, fillC, arrOK, oneA, te2, te3, te4, te5, te9, te22, te24, te36, te46, te52, te54, E9_te, E9_glob, E9_mu, E9_10, E9_11, E9_12, E9_13, E9_14, E9_15, E9_16, E9_17, E9_18, pf10_at, pf11_at, pf11_neg, pf11_nil, pf11_nilneg, pf28_at, pf15_at, pf15_long, pf15_nil, pf15_nillong, pf17_at, glob, ev4, undef_is, ne00, ne10, ne20, bq0, bq1, bq2, beq_self_eq_true, asB0, List.map_append, E9_19, E9_20, E9_21, E9_22, E9_23, E9_24, pf19_at, pf20_at, pf20_neg, pf22_at, pf24_at, pf20_nil, pf20_nilneg, bq10, bq20, bq21, bq01, s8, s9, s5, s6, s1, dk, lQ, dq]
          exact ResQ.same rfl
    · cases hr
  · cases hr
def pf7 : List AV → Option AV
  | [v, u, w] => (row? .u8 8 v).bind fun b => (irow? u).bind fun l => (int? w).bind fun m => if b.length ≤ 140737488355328 ∧ l.length ≤ 9223372036854775807 ∧ i64ok m then some (.raw (.bool true)) else none
  | _ => none
theorem sound7 : SoundV Try.prog glob 7 pf7 := by
  refine SoundV.walk E9 ok9 mixed Try.func7 rfl Try.call7 (by kernel_rfl) ?_
  intro args r hr
  unfold pf7 at hr
  split at hr
  · simp only [Option.bind_eq_some_iff] at hr
    obtain ⟨b, h1, l, h2, m, h3, hr⟩ := hr
    split at hr
    · rename_i hc
      obtain ⟨hc, hd, hn⟩ := hc
      unfold i64ok at hn
      cases hr
      obtain ⟨fl, rfl⟩ := row?_of h1
      obtain ⟨⟨gl, rfl⟩, hl⟩ := irow?_of h2
      rw [int?_of h3, Try.ntmps7, Try.results7]
      refine ⟨by simp, ?_⟩
      have h19 := pf19_at (l := l) (fl := .bor) rfl hl hd
      obtain ⟨M, hM⟩ : ∃ M : Int, (if 2000 < m then 2000 else m) = M := ⟨_, rfl⟩
      have hM2 : M ≤ 2000 ∧ -9223372036854775808 ≤ M := by rw [← hM]; split <;> omega
      obtain ⟨lL, oL⟩ := fewF_ok hl
      by_cases c : b.length > 2000
      · have d : decide ((b.length : Int) > 2000) = true := decide_eq_true (by omega)
        have hB : ((b.take 2000).length : Nat) = 2000 := by rw [List.length_take]; omega
        simp (maxSteps := 1000000) (disch := first | omega | (simp only [digF_len, putK_len, putB_len, i64ok_eq, nums_len, List.length_cons, List.length_nil, List.length_append, List.length_take, List.length_drop, List.length_replicate, List.length_set, List.length_map] <;> omega) | fail) only [ev0, ev1, ev2, ev3, ↓reduceIte, reduceCtorEq, Nat.reduceAdd, Nat.reduceSub, Nat.reduceMul, Nat.reduceLT, Nat.reduceLeDiff, Nat.reduceEqDiff, Nat.reduceBEq, BitVec.reduceOfInt, Int.reduceLE, Int.reduceLT, Int.reduceGT, Int.reduceGE, Int.reduceNeg, Int.reduceAdd, Int.reduceSub, Int.reduceMul, Int.reduceToNat, ↓bind_go, ↓map_go, wantedV, isWrite, grow, write, ofV, AV.cells, Abs.start, Abs.strip, endQ, resV, rawsRes, rawRes, exports, export1, AS.grown, AS.put, Env.know, Env.boxed, isSelf, convSelf, convV, loadV, storeV, fieldAddrV, fieldV, indexAddrV, indexV, partV, isAggK, isStr, place, lenV, min2V, makeV, freshSl, sliceV, boundOr, bound, bounds, cutFl, copyV, slCells, srcV, appendV, room, zerosOf, eqNeg, kd, takeR, hasViewL, hasView, freshR, freshC, snapAll, snap, snapL, flatL, pureL, pureA, fillC, arrOK, oneA, te2, te3, te4, te5, te9, te22, te24, te36, te46, te52, te54, E9_te, E9_glob, E9_mu, E9_10, E9_11, E9_12, E9_13, E9_14, E9_15, E9_16, E9_17, E9_18, pf10_at, pf11_at, pf11_neg, pf11_nil, pf11_nilneg, pf28_at, pf15_at, pf15_long, pf15_nil, pf15_nillong, pf17_at, glob, ev4, undef_is, ne00, ne10, ne20, bq0, bq1, bq2, beq_self_eq_true, asB0, List.map_append, E9_19, E9_20, E9_21, E9_22, E9_23, E9_24, pf19_at, pf20_at, pf20_neg, pf22_at, pf24_at, pf20_nil, pf20_nilneg, bq10, bq20, bq21, bq01, d, h19]
        generalize b.take 2000 = B at hB ⊢
        have lB : B.length ≤ 2000 := by omega
        have hN := hB.symm
        obtain ⟨lT, oT, lR⟩ := tlL_ok B M
        have h22 := fun fl => pf22_at (n := 2000) (b := B) (m := M) (fl := fl) hN (by omega) (by omega)
        have h24 := pf24_at (l := tlL B M) (m := tlL B M) (fl := .bor) (fl' := .bor) rfl rfl oT oT (by omega) (by omega)
        by_cases hn : neg (fewF l) = true
        · have h20 := fun fl => pf20_neg (l := 2000) (b := B) (t := fewF l) (fl := fl) (fl' := .bor) hN rfl oL (by omega) (by omega) hn
          simp (maxSteps := 1000000) (disch := first | omega | (simp only [digF_len, putK_len, putB_len, i64ok_eq, nums_len, List.length_cons, List.length_nil, List.length_append, List.length_take, List.length_drop, List.length_replicate, List.length_set, List.length_map] <;> omega) | fail) only [ev0, ev1, ev2, ev3, ↓reduceIte, reduceCtorEq, Nat.reduceAdd, Nat.reduceSub, Nat.reduceMul, Nat.reduceLT, Nat.reduceLeDiff, Nat.reduceEqDiff, Nat.reduceBEq, BitVec.reduceOfInt, Int.reduceLE, Int.reduceLT, Int.reduceGT, Int.reduceGE, Int.reduceNeg, Int.reduceAdd, Int.reduceSub, Int.reduceMul, Int.reduceToNat, ↓bind_go, ↓map_go, wantedV, isWrite, grow, write, ofV, AV.cells, Abs.start, Abs.strip, endQ, resV, rawsRes, rawRes, exports, export1, AS.grown, AS.put, Env.know, Env.boxed, isSelf, convSelf, convV, loadV, storeV, fieldAddrV, fieldV, indexAddrV, indexV, partV, isAggK, isStr, place, lenV, min2V, makeV, freshSl, sliceV, boundOr, bound, bounds, cutFl, copyV, slCells, srcV, appendV, room, zerosOf, eqNeg, kd, takeR, hasViewL, hasView, freshR, freshC, snapAll, snap, snapL, flatL, pureL, pureA, fillC, arrOK, oneA, te2, te3, te4, te5, te9, te22, te24, te36, te46, te52, te54, E9_te, E9_glob, E9_mu, E9_10, E9_11, E9_12, E9_13, E9_14, E9_15, E9_16, E9_17, E9_18, pf10_at, pf11_at, pf11_neg, pf11_nil, pf11_nilneg, pf28_at, pf15_at, pf15_long, pf15_nil, pf15_nillong, pf17_at, glob, ev4, undef_is, ne00, ne10, ne20, bq0, bq1, bq2, beq_self_eq_true, asB0, List.map_append, E9_19, E9_20, E9_21, E9_22, E9_23, E9_24, pf19_at, pf20_at, pf20_neg, pf22_at, pf24_at, pf20_nil, pf20_nilneg, bq10, bq20, bq21, bq01, hM, h20, h22, h24]
          exact ResQ.same rfl
        · have h20 := fun fl => pf20_at (l := 2000) (b := B) (t := fewF l) (fl := fl) (fl' := .bor) hN rfl oL (by omega) (by omega) (Bool.eq_false_iff.2 hn)
          simp (maxSteps := 1000000) (disch := first | omega | (simp only [digF_len, putK_len, putB_len, i64ok_eq, nums_len, List.length_cons, List.length_nil, List.length_append, List.length_take, List.length_drop, List.length_replicate, List.length_set, List.length_map] <;> omega) | fail) only [ev0, ev1, ev2, ev3, ↓reduceIte, reduceCtorEq, Nat.reduceAdd, Nat.reduceSub, Nat.reduceMul, Nat.reduceLT, Nat.reduceLeDiff, Nat.reduceEqDiff, Nat.reduceBEq, BitVec.reduceOfInt, Int.reduceLE, Int.reduceLT, Int.reduceGT, Int.reduceGE, Int.reduceNeg, Int.reduceAdd, Int.reduceSub, Int.reduceMul, Int.reduceToNat, ↓bind_go, ↓map_go, wantedV, isWrite, grow, write, ofV, AV.cells, Abs.start, Abs.strip, endQ, resV, rawsRes, rawRes, exports, export1, AS.grown, AS.put, Env.know, Env.boxed, isSelf, convSelf, convV, loadV, storeV, fieldAddrV, fieldV, indexAddrV, indexV, partV, isAggK, isStr, place, lenV, min2V, makeV, freshSl, sliceV, boundOr, bound, bounds, cutFl, copyV, slCells, srcV, appendV, room, zerosOf, eqNeg, kd, takeR, hasViewL, hasView, freshR, freshC, snapAll, snap, snapL, flatL, pureL, pureA, fillC, arrOK, oneA, te2, te3, te4, te5, te9, te22, te24, te36, te46, te52, te54, E9_te, E9_glob, E9_mu, E9_10, E9_11, E9_12, E9_13, E9_14, E9_15, E9_16, E9_17, E9_18, pf10_at, pf11_at, pf11_neg, pf11_nil, pf11_nilneg, pf28_at, pf15_at, pf15_long, pf15_nil, pf15_nillong, pf17_at, glob, ev4, undef_is, ne00, ne10, ne20, bq0, bq1, bq2, beq_self_eq_true, asB0, List.map_append, E9_19, E9_20, E9_21, E9_22, E9_23, E9_24, pf19_at, pf20_at, pf20_neg, pf22_at, pf24_at, pf20_nil, pf20_nilneg, bq10, bq20, bq21, bq01, hM, h20, h22, h24]
          exact ResQ.same rfl
      · have d : decide ((b.length : Int) > 2000) = false := decide_eq_false (by omega)
        simp (maxSteps := 1000000) (disch := first | omega | (simp only [digF_len, putK_len, putB_len, i64ok_eq, nums_len, List.length_cons, List.length_nil, List.length_append, List.length_take, List.length_drop, List.length_replicate, List.length_set, List.length_map] <;> omega) | fail) only [ev0, ev1, ev2, ev3, ↓reduceIte, reduceCtorEq, Nat.reduceAdd, Nat.reduceSub, Nat.reduceMul, Nat.reduceLT, Nat.reduceLeDiff, Nat.reduceEqDiff, Nat.reduceBEq, BitVec.reduceOfInt, Int.reduceLE, Int.reduceLT, Int.reduceGT, Int.reduceGE, Int.reduceNeg, Int.reduceAdd, Int.reduceSub, Int.reduceMul, Int.reduceToNat, ↓bind_go, ↓map_go, wantedV, isWrite, grow, write, ofV, AV.cells, Abs.start, Abs.strip, endQ, resV, rawsRes, rawRes, exports, export1, AS.grown, AS.put, Env.know, Env.boxed, isSelf, convSelf, convV, loadV, storeV, fieldAddrV, fieldV, indexAddrV, indexV, partV, isAggK, isStr, place, lenV, min2V, makeV, freshSl, sliceV, boundOr, bound, bounds, cutFl, copyV, slCells, srcV, appendV, room, zerosOf, eqNeg, kd, takeR, hasViewL, hasView, freshR, freshC, snapAll, snap, snapL, flatL, pureL, pureA, fillC, arrOK, oneA, te2, te3, te4, te5, te9, te22, te24, te36, te46, te52, te54, E9_te, E9_glob, E9_mu, E9_10, E9_11, E9_12, E9_13, E9_14, E9_15, E9_16, E9_17, E9_18, pf10_at, pf11_at, pf11_neg, pf11_nil, pf11_nilneg, pf28_at, pf15_at, pf15_long, pf15_nil, pf15_nillong, pf17_at, glob, ev4, undef_is, ne00, ne10, ne20, bq0, bq1, bq2, beq_self_eq_true, asB0, List.map_append, E9_19, E9_20, E9_21, E9_22, E9_23, E9_24, pf19_at, pf20_at, pf20_neg, pf22_at, pf24_at, pf20_nil, pf20_nilneg, bq10, bq20, bq21, bq01, d, h19]
        have hN : b.length = b.length := rfl
        have lB : b.length ≤ 2000 := by omega
        obtain ⟨lT, oT, lR⟩ := tlL_ok b M
        have h22 := fun fl => pf22_at (n := b.length) (b := b) (m := M) (fl := fl) hN (by omega) (by omega)
        have h24 := pf24_at (l := tlL b M) (m := tlL b M) (fl := .bor) (fl' := .bor) rfl rfl oT oT (by omega) (by omega)
        by_cases hn : neg (fewF l) = true
        · have h20 := fun fl => pf20_neg (l := b.length) (b := b) (t := fewF l) (fl := fl) (fl' := .bor) hN rfl oL (by omega) (by omega) hn
          simp (maxSteps := 1000000) (disch := first | omega | (simp only [digF_len, putK_len, putB_len, i64ok_eq, nums_len, List.length_cons, List.length_nil, List.length_append, List.length_take, List.length_drop, List.length_replicate, List.length_set, List.length_map] <;> omega) | fail) only [ev0, ev1, ev2, ev3, ↓reduceIte, reduceCtorEq, Nat.reduceAdd, Nat.reduceSub, Nat.reduceMul, Nat.reduceLT, Nat.reduceLeDiff, Nat.reduceEqDiff, Nat.reduceBEq, BitVec.reduceOfInt, Int.reduceLE, Int.reduceLT, Int.reduceGT, Int.reduceGE, Int.reduceNeg, Int.reduceAdd, Int.reduceSub, Int.reduceMul, Int.reduceToNat, ↓bind_go, ↓map_go, wantedV, isWrite, grow, write, ofV, AV.cells, Abs.start, Abs.strip, endQ, resV, rawsRes, rawRes, exports, export1, AS.grown, AS.put, Env.know, Env.boxed, isSelf, convSelf, convV, loadV, storeV, fieldAddrV, fieldV, indexAddrV, indexV, partV, isAggK, isStr, place, lenV, min2V, makeV, freshSl, sliceV, boundOr, bound, bounds, cutFl, copyV, slCells, srcV, appendV, room, zerosOf, eqNeg, kd, takeR, hasViewL, hasView, freshR, freshC, snapAll, snap, snapL, flatL, pureL, pureA, fillC, arrOK, oneA, te2, te3, te4, te5, te9, te22, te24, te36, te46, te52, te54, E9_te, E9_glob, E9_mu, E9_10, E9_11, E9_12, E9_13, E9_14, E9_15, E9_16, E9_17, E9_18, pf10_at, pf11_at, pf11_neg, pf11_nil, pf11_nilneg, pf28_at, pf15_at, pf15_long, pf15_nil, pf15_nillong, pf17_at, glob, ev4, undef_is, ne00, ne10, ne20, bq0, bq1, bq2, beq_self_eq_true, asB0, List.map_append, E9_19, E9_20, E9_21, E9_22, E9_23, E9_24, pf19_at, pf20_at, pf20_neg, pf22_at, pf24_at, pf20_nil, pf20_nilneg, bq10, bq20, bq21, bq01, hM, h20, h22, h24]
          exact ResQ.same rfl
        · have h20 := fun fl => pf20_at (l := b.length) (b := b) (t := fewF l) (fl := fl) (fl' := .bor) hN rfl oL (by omega) (by omega) (Bool.eq_false_iff.2 hn)
          simp (maxSteps := 1000000) (disch := first | omega | (simp only [digF_len, putK_len, putB_len, i64ok_eq, nums_len, List.length_cons, List.length_nil, List.length_append, List.length_take, List.length_drop, List.length_replicate, List.length_set, List.length_map] <;> omega) | fail) only [ev0, ev1, ev2, ev3, ↓reduceIte, reduceCtorEq, Nat.reduceAdd, Nat.reduceSub, Nat.reduceMul, Nat.reduceLT, Nat.reduceLeDiff, Nat.reduceEqDiff, Nat.reduceBEq, BitVec.reduceOfInt, Int.reduceLE, Int.reduceLT, Int.reduceGT, Int.reduceGE, Int.reduceNeg, Int.reduceAdd, Int.reduceSub, Int.reduceMul, Int.reduceToNat, ↓bind_go, ↓map_go, wantedV, isWrite, grow, write, ofV, AV.cells, Abs.start, Abs.strip, endQ, resV, rawsRes, rawRes, exports, export1, AS.grown, AS.put, Env.know, Env.boxed, isSelf, convSelf, convV, loadV, storeV, fieldAddrV, fieldV, indexAddrV, indexV, partV, isAggK, isStr, place, lenV, min2V, makeV, freshSl, sliceV, boundOr, bound, bounds, cutFl, copyV, slCells, srcV, appendV, room, zerosOf, eqNeg, kd, takeR, hasViewL, hasView, freshR, freshC, snapAll, snap, snapL, flatL, pureL, pureA, fillC, arrOK, oneA, te2, te3, te4, te5, te9, te22, te24, te36, te46, te52, te54, E9_te, E9_glob, E9_mu, E9_10, E9_11, E9_12, E9_13, E9_14, E9_15, E9_16, E9_17, E9_18, pf10_at, pf11_at, pf11_neg, pf11_nil, pf11_nilneg, pf28_at, pf15_at, pf15_long, pf15_nil, pf15_nillong, pf17_at, glob, ev4, undef_is, ne00, ne10, ne20, bq0, bq1, bq2, beq_self_eq_true, asB0, List.map_append, E9_19, E9_20, E9_21, E9_22, E9_23, E9_24, pf19_at, pf20_at, pf20_neg, pf22_at, pf24_at, pf20_nil, pf20_nilneg, bq10, bq20, bq21, bq01, hM, h20, h22, h24]
          exact ResQ.same rfl
    · cases hr
  · cases hr
end Go.Proofs.Ytohemglpjjcohaa
