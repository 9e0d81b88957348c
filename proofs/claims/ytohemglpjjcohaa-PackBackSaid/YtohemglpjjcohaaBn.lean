/- The statements' functions of layer 8: what their walks come to (numbers and texts). -/
import Derived.Test.YtohemglpjjcohaaBm
namespace Go.Proofs.Ytohemglpjjcohaa
set_option linter.unusedSimpArgs false
set_option linter.unusedVariables false
open Go Go.Abs

def E9 : Env := (E8.know 10 pf10).know 24 (fun xs => pf24 (xs.map norm))
theorem ok9 : EnvOK Try.prog E9 := (ok8.know sound10).know sound24.norm
theorem E9_te : E9.te = te := rfl
theorem E9_glob : E9.glob = glob := rfl
theorem E9_mu (d : Nat) : E9.mu d = false := rfl
theorem E9_10 : E9.tbl 10 = some (.val pf10) := rfl
theorem E9_11 : E9.tbl 11 = some (.val (fun xs => pf11 (xs.map norm))) := rfl
theorem E9_12 : E9.tbl 12 = some (.val (fun xs => pf11 (xs.map norm))) := rfl
theorem E9_13 : E9.tbl 13 = some (.val (fun xs => pf28 (xs.map norm))) := rfl
theorem E9_14 : E9.tbl 14 = some (.val (fun xs => pf28 (xs.map norm))) := rfl
theorem E9_15 : E9.tbl 15 = some (.val (fun xs => pf15 (xs.map norm))) := rfl
theorem E9_16 : E9.tbl 16 = some (.val (fun xs => pf15 (xs.map norm))) := rfl
theorem E9_17 : E9.tbl 17 = some (.val (fun xs => pf17 (xs.map norm))) := rfl
theorem E9_18 : E9.tbl 18 = some (.val (fun xs => pf17 (xs.map norm))) := rfl
theorem E9_19 : E9.tbl 19 = some (.val (fun xs => pf19 (xs.map norm))) := rfl
theorem E9_20 : E9.tbl 20 = some (.val (fun xs => pf20 (xs.map norm))) := rfl
theorem E9_21 : E9.tbl 21 = some (.val (fun xs => pf20 (xs.map norm))) := rfl
theorem E9_22 : E9.tbl 22 = some (.val (fun xs => pf22 (xs.map norm))) := rfl
theorem E9_23 : E9.tbl 23 = some (.val (fun xs => pf22 (xs.map norm))) := rfl
theorem E9_24 : E9.tbl 24 = some (.val (fun xs => pf24 (xs.map norm))) := rfl
theorem pf10_at : pf10 [] = some (.raw (.bool true)) := rfl
theorem pf11_nil {fl : Fl} {n : Int} (h3 : n ≤ 9223372036854775807) (h0 : 0 ≤ n) : pf11 [.sl 0 [] fl, .raw (.int .i64 n)] = some (.tup [.sl (putB [] n.toNat).length (nums .u8 (putB [] n.toNat)) (.own ⟨0, 0, 0⟩ 1), .raw (.int .i64 0)]) :=
  pf11_at (b := []) rfl (by simp) h3 h0
theorem pf11_nilneg {fl : Fl} {n : Int} (h3 : n ≤ 9223372036854775807) (h0 : n < 0) : pf11 [.sl 0 [] fl, .raw (.int .i64 n)] = some (.tup [.sl 0 [] (.own ⟨0, 0, 0⟩ 1), .raw (.int .i64 1)]) :=
  pf11_neg (b := []) rfl (by simp) h3 h0
theorem pf15_long {l l' : Nat} {b t : List (BitVec 8)} {fl fl' : Fl} (h : l = b.length) (h' : l' = t.length) (h2 : b.length ≤ 150000000000000) (h3 : 4096 < t.length) : pf15 [.sl l (nums .u8 b) fl, .sl l' (nums .u8 t) fl'] = some (.tup [.sl 0 [] (.own ⟨0, 0, 0⟩ 1), .raw (.int .i64 2)]) := by
  simp only [pf15, row?_at h, row?_at h', Option.bind_some, if_pos h2, if_pos (show t.length > 4096 by omega)]
theorem pf15_nil {l' : Nat} {t : List (BitVec 8)} {fl fl' : Fl} (h' : l' = t.length) (h3 : t.length ≤ 4096) : pf15 [.sl 0 [] fl, .sl l' (nums .u8 t) fl'] = some (.tup [.sl (putB [] t.length ++ t).length (nums .u8 (putB [] t.length ++ t)) (.own ⟨0, 0, 0⟩ 1), .raw (.int .i64 0)]) :=
  pf15_at (b := []) rfl h' (by simp) h3
theorem pf15_nillong {l' : Nat} {t : List (BitVec 8)} {fl fl' : Fl} (h' : l' = t.length) (h3 : 4096 < t.length) : pf15 [.sl 0 [] fl, .sl l' (nums .u8 t) fl'] = some (.tup [.sl 0 [] (.own ⟨0, 0, 0⟩ 1), .raw (.int .i64 2)]) :=
  pf15_long (b := []) rfl h' (by simp) h3
theorem asB0 : asBytes [] = some [] := rfl
theorem i64ok_eq (n : Int) : i64ok n = (-9223372036854775808 ≤ n ∧ n ≤ 9223372036854775807) := rfl
theorem ne20 : ((2 : Int) != 0) = true := rfl
theorem bq2 : ((2 : Int) == 2) = true := rfl
set_option maxHeartbeats 8000000
def pf3 : List AV → Option AV
  | [v, w] => (row? .u8 8 v).bind fun b => (int? w).bind fun n => if b.length ≤ 140737488355328 ∧ i64ok n then some (.raw (.bool true)) else none
  | _ => none
theorem sound3 : SoundV Try.prog glob 3 pf3 := by
  refine SoundV.walk E9 ok9 mixed Try.func3 rfl Try.call3 (by kernel_rfl) ?_
  intro args r hr
  unfold pf3 at hr
  split at hr
  · simp only [Option.bind_eq_some_iff] at hr
    obtain ⟨b, h1, n, h2, hr⟩ := hr
    split at hr
    · rename_i hc
      obtain ⟨hc, hn⟩ := hc
      unfold i64ok at hn
      cases hr
      obtain ⟨fl, rfl⟩ := row?_of h1
      rw [int?_of h2, Try.ntmps3, Try.results3]
      refine ⟨by simp, ?_⟩
      by_cases h0 : 0 ≤ n
      · simp (maxSteps := 1000000) (disch := first | omega | (simp only [digF_len, putK_len, putB_len, i64ok_eq, nums_len, List.length_cons, List.length_nil, List.length_append, List.length_take, List.length_drop, List.length_replicate, List.length_set, List.length_map] <;> omega) | fail) only [ev0, ev1, ev2, ev3, ↓reduceIte, reduceCtorEq, Nat.reduceAdd, Nat.reduceSub, Nat.reduceMul, Nat.reduceLT, Nat.reduceLeDiff, Nat.reduceEqDiff, Nat.reduceBEq, BitVec.reduceOfInt, Int.reduceLE, Int.reduceLT, Int.reduceGT, Int.reduceGE, Int.reduceNeg, Int.reduceAdd, Int.reduceSub, Int.reduceMul, Int.reduceToNat, ↓bind_go, ↓map_go, wantedV, isWrite, grow, write, ofV, AV.cells, Abs.start, Abs.strip, endQ, resV, rawsRes, rawRes, exports, export1, AS.grown, AS.put, Env.know, Env.boxed, isSelf, convSelf, convV, loadV, storeV, fieldAddrV, fieldV, indexAddrV, indexV, partV, isAggK, isStr, place, lenV, min2V, makeV, freshSl, sliceV, boundOr, bound, bounds, cutFl, copyV, slCells, srcV, appendV, room, zerosOf, eqNeg, kd, takeR, hasViewL, hasView, freshR, freshC, snapAll, snap, snapL, flatL, pureL, pureA, fillC, arrOK, oneA, te2, te3, te4, te5, te9, te22, te24, te36, te46, te52, te54, E9_te, E9_glob, E9_mu, E9_10, E9_11, E9_12, E9_13, E9_14, E9_15, E9_16, E9_17, E9_18, pf10_at, pf11_at, pf11_neg, pf11_nil, pf11_nilneg, pf28_at, pf15_at, pf15_long, pf15_nil, pf15_nillong, pf17_at, glob, ev4, undef_is, ne00, ne10, ne20, bq0, bq1, bq2, beq_self_eq_true, asB0, List.map_append]
        exact ResQ.same rfl
      · simp (maxSteps := 1000000) (disch := first | omega | (simp only [digF_len, putK_len, putB_len, i64ok_eq, nums_len, List.length_cons, List.length_nil, List.length_append, List.length_take, List.length_drop, List.length_replicate, List.length_set, List.length_map] <;> omega) | fail) only [ev0, ev1, ev2, ev3, ↓reduceIte, reduceCtorEq, Nat.reduceAdd, Nat.reduceSub, Nat.reduceMul, Nat.reduceLT, Nat.reduceLeDiff, Nat.reduceEqDiff, Nat.reduceBEq, BitVec.reduceOfInt, Int.reduceLE, Int.reduceLT, Int.reduceGT, Int.reduceGE, Int.reduceNeg, Int.reduceAdd, Int.reduceSub, Int.reduceMul, Int.reduceToNat, ↓bind_go, ↓map_go, wantedV, isWrite, grow, write, ofV, AV.cells, Abs.start, Abs.strip, endQ, resV, rawsRes, rawRes, exports, export1, AS.grown, AS.put, Env.know, Env.boxed, isSelf, convSelf, convV, loadV, storeV, fieldAddrV, fieldV, indexAddrV, indexV, partV, isAggK, isStr, place, lenV, min2V, makeV, freshSl, sliceV, boundOr, bound, bounds, cutFl, copyV, slCells, srcV, appendV, room, zerosOf, eqNeg, kd, takeR, hasViewL, hasView, freshR, freshC, snapAll, snap, snapL, flatL, pureL, pureA, fillC, arrOK, oneA, te2, te3, te4, te5, te9, te22, te24, te36, te46, te52, te54, E9_te, E9_glob, E9_mu, E9_10, E9_11, E9_12, E9_13, E9_14, E9_15, E9_16, E9_17, E9_18, pf10_at, pf11_at, pf11_neg, pf11_nil, pf11_nilneg, pf28_at, pf15_at, pf15_long, pf15_nil, pf15_nillong, pf17_at, glob, ev4, undef_is, ne00, ne10, ne20, bq0, bq1, bq2, beq_self_eq_true, asB0, List.map_append]
        exact ResQ.same rfl
    · cases hr
  · cases hr
def pf4 : List AV → Option AV
  | [v, u, w] => (row? .u8 8 v).bind fun b => (row? .u8 8 u).bind fun t => (int? w).bind fun n => if b.length ≤ 140737488355328 ∧ t.length ≤ 140737488355328 ∧ i64ok n then some (.raw (.bool true)) else none
  | _ => none
theorem sound4 : SoundV Try.prog glob 4 pf4 := by
  refine SoundV.walk E9 ok9 mixed Try.func4 rfl Try.call4 (by kernel_rfl) ?_
  intro args r hr
  unfold pf4 at hr
  split at hr
  · simp only [Option.bind_eq_some_iff] at hr
    obtain ⟨b, h1, t, h2, n, h3, hr⟩ := hr
    split at hr
    · rename_i hc
      obtain ⟨hc, hd, hn⟩ := hc
      unfold i64ok at hn
      cases hr
      obtain ⟨fl, rfl⟩ := row?_of h1
      obtain ⟨gl, rfl⟩ := row?_of h2
      rw [int?_of h3, Try.ntmps4, Try.results4]
      refine ⟨by simp, ?_⟩
      by_cases h0 : 4096 < t.length
      · simp (maxSteps := 1000000) (disch := first | omega | (simp only [digF_len, putK_len, putB_len, i64ok_eq, nums_len, List.length_cons, List.length_nil, List.length_append, List.length_take, List.length_drop, List.length_replicate, List.length_set, List.length_map] <;> omega) | fail) only [ev0, ev1, ev2, ev3, ↓reduceIte, reduceCtorEq, Nat.reduceAdd, Nat.reduceSub, Nat.reduceMul, Nat.reduceLT, Nat.reduceLeDiff, Nat.reduceEqDiff, Nat.reduceBEq, BitVec.reduceOfInt, Int.reduceLE, Int.reduceLT, Int.reduceGT, Int.reduceGE, Int.reduceNeg, Int.reduceAdd, Int.reduceSub, Int.reduceMul, Int.reduceToNat, ↓bind_go, ↓map_go, wantedV, isWrite, grow, write, ofV, AV.cells, Abs.start, Abs.strip, endQ, resV, rawsRes, rawRes, exports, export1, AS.grown, AS.put, Env.know, Env.boxed, isSelf, convSelf, convV, loadV, storeV, fieldAddrV, fieldV, indexAddrV, indexV, partV, isAggK, isStr, place, lenV, min2V, makeV, freshSl, sliceV, boundOr, bound, bounds, cutFl, copyV, slCells, srcV, appendV, room, zerosOf, eqNeg, kd, takeR, hasViewL, hasView, freshR, freshC, snapAll, snap, snapL, flatL, pureL, pureA, fillC, arrOK, oneA, te2, te3, te4, te5, te9, te22, te24, te36, te46, te52, te54, E9_te, E9_glob, E9_mu, E9_10, E9_11, E9_12, E9_13, E9_14, E9_15, E9_16, E9_17, E9_18, pf10_at, pf11_at, pf11_neg, pf11_nil, pf11_nilneg, pf28_at, pf15_at, pf15_long, pf15_nil, pf15_nillong, pf17_at, glob, ev4, undef_is, ne00, ne10, ne20, bq0, bq1, bq2, beq_self_eq_true, asB0, List.map_append]
        exact ResQ.same rfl
      · have hn8 := need_le t.length (by omega)
        simp (maxSteps := 1000000) (disch := first | omega | (simp only [digF_len, putK_len, putB_len, i64ok_eq, nums_len, List.length_cons, List.length_nil, List.length_append, List.length_take, List.length_drop, List.length_replicate, List.length_set, List.length_map] <;> omega) | fail) only [ev0, ev1, ev2, ev3, ↓reduceIte, reduceCtorEq, Nat.reduceAdd, Nat.reduceSub, Nat.reduceMul, Nat.reduceLT, Nat.reduceLeDiff, Nat.reduceEqDiff, Nat.reduceBEq, BitVec.reduceOfInt, Int.reduceLE, Int.reduceLT, Int.reduceGT, Int.reduceGE, Int.reduceNeg, Int.reduceAdd, Int.reduceSub, Int.reduceMul, Int.reduceToNat, ↓bind_go, ↓map_go, wantedV, isWrite, grow, write, ofV, AV.cells, Abs.start, Abs.strip, endQ, resV, rawsRes, rawRes, exports, export1, AS.grown, AS.put, Env.know, Env.boxed, isSelf, convSelf, convV, loadV, storeV, fieldAddrV, fieldV, indexAddrV, indexV, partV, isAggK, isStr, place, lenV, min2V, makeV, freshSl, sliceV, boundOr, bound, bounds, cutFl, copyV, slCells, srcV, appendV, room, zerosOf, eqNeg, kd, takeR, hasViewL, hasView, freshR, freshC, snapAll, snap, snapL, flatL, pureL, pureA, fillC, arrOK, oneA, te2, te3, te4, te5, te9, te22, te24, te36, te46, te52, te54, E9_te, E9_glob, E9_mu, E9_10, E9_11, E9_12, E9_13, E9_14, E9_15, E9_16, E9_17, E9_18, pf10_at, pf11_at, pf11_neg, pf11_nil, pf11_nilneg, pf28_at, pf15_at, pf15_long, pf15_nil, pf15_nillong, pf17_at, glob, ev4, undef_is, ne00, ne10, ne20, bq0, bq1, bq2, beq_self_eq_true, asB0, List.map_append]
        exact ResQ.same rfl
    · cases hr
  · cases hr
def pf5 : List AV → Option AV
  | [v, w, u] => (row? .u8 8 v).bind fun b => (row? .u8 8 u).bind fun t => (int? w).bind fun n => if b.length ≤ 140737488355328 ∧ t.length ≤ 140737488355328 ∧ i64ok n then some (.raw (.bool true)) else none
  | _ => none
theorem sound5 : SoundV Try.prog glob 5 pf5 := by
  refine SoundV.walk E9 ok9 mixed Try.func5 rfl Try.call5 (by kernel_rfl) ?_
  intro args r hr
  unfold pf5 at hr
  split at hr
  · simp only [Option.bind_eq_some_iff] at hr
    obtain ⟨b, h1, t, h2, n, h3, hr⟩ := hr
    split at hr
    · rename_i hc
      obtain ⟨hc, hd, hn⟩ := hc
      unfold i64ok at hn
      cases hr
      obtain ⟨fl, rfl⟩ := row?_of h1
      obtain ⟨gl, rfl⟩ := row?_of h2
      rw [int?_of h3, Try.ntmps5, Try.results5]
      refine ⟨by simp, ?_⟩
      have hp1 : putB b n.toNat = b ++ putB [] n.toNat := putB_behind _ _
      have hp2 : putB b t.length ++ t = b ++ (putB [] t.length ++ t) := by rw [putB_behind, List.append_assoc]
      by_cases h0 : 4096 < t.length
      · by_cases hz : 0 ≤ n
        · have hn8 := need_le n.toNat (by omega)
          simp (maxSteps := 1000000) (disch := first | omega | (simp only [digF_len, putK_len, putB_len, i64ok_eq, nums_len, List.length_cons, List.length_nil, List.length_append, List.length_take, List.length_drop, List.length_replicate, List.length_set, List.length_map] <;> omega) | fail) only [ev0, ev1, ev2, ev3, ↓reduceIte, reduceCtorEq, Nat.reduceAdd, Nat.reduceSub, Nat.reduceMul, Nat.reduceLT, Nat.reduceLeDiff, Nat.reduceEqDiff, Nat.reduceBEq, BitVec.reduceOfInt, Int.reduceLE, Int.reduceLT, Int.reduceGT, Int.reduceGE, Int.reduceNeg, Int.reduceAdd, Int.reduceSub, Int.reduceMul, Int.reduceToNat, ↓bind_go, ↓map_go, wantedV, isWrite, grow, write, ofV, AV.cells, Abs.start, Abs.strip, endQ, resV, rawsRes, rawRes, exports, export1, AS.grown, AS.put, Env.know, Env.boxed, isSelf, convSelf, convV, loadV, storeV, fieldAddrV, fieldV, indexAddrV, indexV, partV, isAggK, isStr, place, lenV, min2V, makeV, freshSl, sliceV, boundOr, bound, bounds, cutFl, copyV, slCells, srcV, appendV, room, zerosOf, eqNeg, kd, takeR, hasViewL, hasView, freshR, freshC, snapAll, snap, snapL, flatL, pureL, pureA, fillC, arrOK, oneA, te2, te3, te4, te5, te9, te22, te24, te36, te46, te52, te54, E9_te, E9_glob, E9_mu, E9_10, E9_11, E9_12, E9_13, E9_14, E9_15, E9_16, E9_17, E9_18, pf10_at, pf11_at, pf11_neg, pf11_nil, pf11_nilneg, pf28_at, pf15_at, pf15_long, pf15_nil, pf15_nillong, pf17_at, glob, ev4, undef_is, ne00, ne10, ne20, bq0, bq1, bq2, beq_self_eq_true, asB0, List.map_append, hp1]
          exact ResQ.same rfl
        · simp (maxSteps := 1000000) (disch := first | omega | (simp only [digF_len, putK_len, putB_len, i64ok_eq, nums_len, List.length_cons, List.length_nil, List.length_append, List.length_take, List.length_drop, List.length_replicate, List.length_set, List.length_map] <;> omega) | fail) only [ev0, ev1, ev2, ev3, ↓reduceIte, reduceCtorEq, Nat.reduceAdd, Nat.reduceSub, Nat.reduceMul, Nat.reduceLT, Nat.reduceLeDiff, Nat.reduceEqDiff, Nat.reduceBEq, BitVec.reduceOfInt, Int.reduceLE, Int.reduceLT, Int.reduceGT, Int.reduceGE, Int.reduceNeg, Int.reduceAdd, Int.reduceSub, Int.reduceMul, Int.reduceToNat, ↓bind_go, ↓map_go, wantedV, isWrite, grow, write, ofV, AV.cells, Abs.start, Abs.strip, endQ, resV, rawsRes, rawRes, exports, export1, AS.grown, AS.put, Env.know, Env.boxed, isSelf, convSelf, convV, loadV, storeV, fieldAddrV, fieldV, indexAddrV, indexV, partV, isAggK, isStr, place, lenV, min2V, makeV, freshSl, sliceV, boundOr, bound, bounds, cutFl, copyV, slCells, srcV, appendV, room, zerosOf, eqNeg, kd, takeR, hasViewL, hasView, freshR, freshC, snapAll, snap, snapL, flatL, pureL, pureA, fillC, arrOK, oneA, te2, te3, te4, te5, te9, te22, te24, te36, te46, te52, te54, E9_te, E9_glob, E9_mu, E9_10, E9_11, E9_12, E9_13, E9_14, E9_15, E9_16, E9_17, E9_18, pf10_at, pf11_at, pf11_neg, pf11_nil, pf11_nilneg, pf28_at, pf15_at, pf15_long, pf15_nil, pf15_nillong, pf17_at, glob, ev4, undef_is, ne00, ne10, ne20, bq0, bq1, bq2, beq_self_eq_true, asB0, List.map_append, hp1]
          exact ResQ.same rfl
      · have hn7 := need_le t.length (by omega)
        by_cases hz : 0 ≤ n
        · have hn8 := need_le n.toNat (by omega)
          simp (maxSteps := 1000000) (disch := first | omega | (simp only [digF_len, putK_len, putB_len, i64ok_eq, nums_len, List.length_cons, List.length_nil, List.length_append, List.length_take, List.length_drop, List.length_replicate, List.length_set, List.length_map] <;> omega) | fail) only [ev0, ev1, ev2, ev3, ↓reduceIte, reduceCtorEq, Nat.reduceAdd, Nat.reduceSub, Nat.reduceMul, Nat.reduceLT, Nat.reduceLeDiff, Nat.reduceEqDiff, Nat.reduceBEq, BitVec.reduceOfInt, Int.reduceLE, Int.reduceLT, Int.reduceGT, Int.reduceGE, Int.reduceNeg, Int.reduceAdd, Int.reduceSub, Int.reduceMul, Int.reduceToNat, ↓bind_go, ↓map_go, wantedV, isWrite, grow, write, ofV, AV.cells, Abs.start, Abs.strip, endQ, resV, rawsRes, rawRes, exports, export1, AS.grown, AS.put, Env.know, Env.boxed, isSelf, convSelf, convV, loadV, storeV, fieldAddrV, fieldV, indexAddrV, indexV, partV, isAggK, isStr, place, lenV, min2V, makeV, freshSl, sliceV, boundOr, bound, bounds, cutFl, copyV, slCells, srcV, appendV, room, zerosOf, eqNeg, kd, takeR, hasViewL, hasView, freshR, freshC, snapAll, snap, snapL, flatL, pureL, pureA, fillC, arrOK, oneA, te2, te3, te4, te5, te9, te22, te24, te36, te46, te52, te54, E9_te, E9_glob, E9_mu, E9_10, E9_11, E9_12, E9_13, E9_14, E9_15, E9_16, E9_17, E9_18, pf10_at, pf11_at, pf11_neg, pf11_nil, pf11_nilneg, pf28_at, pf15_at, pf15_long, pf15_nil, pf15_nillong, pf17_at, glob, ev4, undef_is, ne00, ne10, ne20, bq0, bq1, bq2, beq_self_eq_true, asB0, List.map_append, hp1, hp2]
          exact ResQ.same rfl
        · simp (maxSteps := 1000000) (disch := first | omega | (simp only [digF_len, putK_len, putB_len, i64ok_eq, nums_len, List.length_cons, List.length_nil, List.length_append, List.length_take, List.length_drop, List.length_replicate, List.length_set, List.length_map] <;> omega) | fail) only [ev0, ev1, ev2, ev3, ↓reduceIte, reduceCtorEq, Nat.reduceAdd, Nat.reduceSub, Nat.reduceMul, Nat.reduceLT, Nat.reduceLeDiff, Nat.reduceEqDiff, Nat.reduceBEq, BitVec.reduceOfInt, Int.reduceLE, Int.reduceLT, Int.reduceGT, Int.reduceGE, Int.reduceNeg, Int.reduceAdd, Int.reduceSub, Int.reduceMul, Int.reduceToNat, ↓bind_go, ↓map_go, wantedV, isWrite, grow, write, ofV, AV.cells, Abs.start, Abs.strip, endQ, resV, rawsRes, rawRes, exports, export1, AS.grown, AS.put, Env.know, Env.boxed, isSelf, convSelf, convV, loadV, storeV, fieldAddrV, fieldV, indexAddrV, indexV, partV, isAggK, isStr, place, lenV, min2V, makeV, freshSl, sliceV, boundOr, bound, bounds, cutFl, copyV, slCells, srcV, appendV, room, zerosOf, eqNeg, kd, takeR, hasViewL, hasView, freshR, freshC, snapAll, snap, snapL, flatL, pureL, pureA, fillC, arrOK, oneA, te2, te3, te4, te5, te9, te22, te24, te36, te46, te52, te54, E9_te, E9_glob, E9_mu, E9_10, E9_11, E9_12, E9_13, E9_14, E9_15, E9_16, E9_17, E9_18, pf10_at, pf11_at, pf11_neg, pf11_nil, pf11_nilneg, pf28_at, pf15_at, pf15_long, pf15_nil, pf15_nillong, pf17_at, glob, ev4, undef_is, ne00, ne10, ne20, bq0, bq1, bq2, beq_self_eq_true, asB0, List.map_append, hp1, hp2]
          exact ResQ.same rfl
    · cases hr
  · cases hr
end Go.Proofs.Ytohemglpjjcohaa
