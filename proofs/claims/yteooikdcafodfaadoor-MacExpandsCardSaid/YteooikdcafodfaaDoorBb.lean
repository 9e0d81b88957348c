/- Small functions of the seat's program, walked. -/
import Derived.Test.YteooikdcafodfaaDoorBa
import Derived.Test.YteooikdcafodfaaDoorAy
namespace Go.Proofs.YteooikdcafodfaaDoor
set_option linter.unusedSimpArgs false
set_option linter.unusedVariables false
open Go Go.Abs

/-- the table of the third roots -/
def addL : List (BitVec 32) := [1116352408#32, 1899447441#32, 3049323471#32, 3921009573#32, 961987163#32, 1508970993#32, 2453635748#32, 2870763221#32, 3624381080#32, 310598401#32, 607225278#32, 1426881987#32, 1925078388#32, 2162078206#32, 2614888103#32, 3248222580#32, 3835390401#32, 4022224774#32, 264347078#32, 604807628#32, 770255983#32, 1249150122#32, 1555081692#32, 1996064986#32, 2554220882#32, 2821834349#32, 2952996808#32, 3210313671#32, 3336571891#32, 3584528711#32, 113926993#32, 338241895#32, 666307205#32, 773529912#32, 1294757372#32, 1396182291#32, 1695183700#32, 1986661051#32, 2177026350#32, 2456956037#32, 2730485921#32, 2820302411#32, 3259730800#32, 3345764771#32, 3516065817#32, 3600352804#32, 4094571909#32, 275423344#32, 430227734#32, 506948616#32, 659060556#32, 883997877#32, 958139571#32, 1322822218#32, 1537002063#32, 1747873779#32, 1955562222#32, 2024104815#32, 2227730452#32, 2361852424#32, 2428436474#32, 2756734187#32, 3204031479#32, 3329325298#32]
def glob : Nat → Option (List AV) := fun i => if i = 0 then some (nums .u32 addL) else none
def E0 : Env := { te := te, glob := glob, tbl := fun _ => none, mu := fun _ => false }
theorem ok0 : EnvOK Tryd.prog E0 := ⟨te_ok, fun f pf h => by cases h⟩

def rotl (x : BitVec 32) (n : Int) : BitVec 32 := x <<< (BitVec.ofInt 64 n &&& 31#64).toNat ||| x >>> (32#64 - (BitVec.ofInt 64 n &&& 31#64)).toNat
def pf39 : List AV → Option AV
  | [a, b] => (num? .u32 32 a).bind fun x => (int? b).map fun n => .raw (.int .u32 ((rotl x n).toNat : Int))
  | _ => none

set_option maxHeartbeats 1000000
theorem sound39 : SoundV Tryd.prog glob 39 pf39 := by
  refine SoundV.walk E0 ok0 mixed Tryd.func39 rfl Tryd.call39 (by kernel_rfl) ?_
  intro args r h
  unfold pf39 at h
  split at h
  · rename_i a b
    simp only [Option.bind_eq_some_iff, Option.map_eq_some_iff] at h
    obtain ⟨x, h1, n, h2, rfl⟩ := h
    rw [num?_of h1, int?_of h2]
    rw [Tryd.ntmps39, Tryd.results39]
    refine ⟨by simp, ?_⟩
    simp (maxSteps := 1000000) (disch := first | omega | (simp only [nums_len, nums_len, List.length_cons, List.length_nil, List.length_append, List.length_take, List.length_drop, List.length_replicate, List.length_set, List.length_map] <;> omega) | fail) only [awp_skip, awp_label, awp_exit, awp_ret, awp_seq, awp_region, awp_cond, awp_block, awp_scope, awp_loop, thenQ_nrm, thenQ_ret, thenQ_exit, blockQ_nrm, blockQ_ret, blockQ_exit, bindQ_some, condQ_true, condQ_false, condQ_any, regsO_nil, regsO_cons, stepO_go, wantedV, isWrite, grow, write, ev_tmp, ev_const, ev_global, ev_func, ofV, AV.cells, Abs.start, Abs.strip, endQ, resV, rawsRes, rawRes, exports, export1, ↓bind_go, ↓map_go, if_true, if_false, if_pos, Bool.false_eq_true, AS.grown, AS.put, upd_at, updB_at, updI_at, Bx.own.injEq, Id.mk.injEq, ↓reduceIte, reduceCtorEq, List.getElem?_cons_zero, List.getElem?_cons_succ, List.getElem?_nil, List.toList_toArray, List.map_cons, List.map_nil, and_self, and_true, true_and, false_and, and_false, or_false, or_true, false_or, true_or, not_true_eq_false, not_false_eq_true, Nat.reduceAdd, Nat.reduceSub, Nat.reduceMul, Nat.reduceLT, Nat.reduceLeDiff, Nat.reduceEqDiff, Nat.zero_add, Nat.add_zero, Nat.mul_one, Nat.one_mul, Nat.zero_mul, Nat.sub_zero, Nat.one_ne_zero, Nat.sub_self, Nat.le_refl, Nat.zero_ne_one, Nat.reduceBEq, beq_self_eq_true, List.nodup_nil, List.nodup_cons, List.not_mem_nil, List.nil_append, List.cons_append, Option.isSome_some, Option.isSome_none, Option.some.injEq, List.append_nil, Env.know, Env.boxed, Bool.and_self, Bool.and_true, Bool.true_and, bb_t, bb_f, Bool.false_or, Bool.or_false, bin_int, bin_bool, bin_str, bin_nil, bin_sl, bin_view, bin_ptr, bin_iptr, bin_np, unV_not, unV_any, unV_neg, isSelf, convSelf, convV, loadV, storeV, fieldAddrV, fieldV, indexAddrV, indexV, partV, isAggK, isStr, place, lenV, min2V, makeV, freshSl, sliceV, boundOr, bound, bounds, cutFl, copyV, slCells, srcV, appendV, room, zerosOf, eqNeg, kd, takeR, hasViewL, hasView, freshR, freshC, snapAll, snap, snapL, flatL, pureL, pureA, fillV_go, fillC, arrOK, List.all_cons, List.all_nil, oneA, List.length_cons, List.length_nil, add_u8, sub_u8, mul_u8, and_u8, or_u8, xor_u8, add_u32, sub_u32, mul_u32, and_u32, or_u32, xor_u32, add_u64, sub_u64, mul_u64, and_u64, or_u64, xor_u64, shl_u8, shl_u32, shl_u64, shr_u8, shr_u32, shr_u64, not_u32, rem_i64, quo_i64, shr_i64, rem_u64, quo_u64, add_i64, sub_i64, mul_i64, cmp_i64_lss, cmp_i64_leq, cmp_i64_gtr, cmp_i64_geq, cmp_eql, cmp_neq, wrap_u8, wrap_u16, wrap_u32, wrap_u64, i64_is, bv_back, bvn_back, bv_nat, BitVec.reduceOfInt, Int.toNat_natCast, toNat_add', toNat_sub', toNat_mul', toNat_mod', toNat_div', Int.natCast_inj, Int.reduceLE, Int.reduceLT, Int.reduceGT, Int.reduceGE, Int.reduceNeg, Int.reduceAdd, Int.reduceSub, Int.reduceMul, Int.reduceToNat, Int.toNat_zero, Int.toNat_one, decide_true, decide_false, decide_eq_true_eq, Bool.not_true, Bool.not_false, nums_len, nums_get, nums_get0, nums_take, nums_drop, nums_app, nums_nil_app, nums_snoc, nums_set, splice_all, getD_drop, nums_one, nums_flat, nums_pure, nums_snap, nums_noview, nums_bytes, rep_u8, rep_u32, rep_u64, zeros_u8, zeros_u32, zeros_u64, nums_nil, List.map_replicate, List.drop_replicate, List.replicate_zero, List.drop_zero, List.take_zero, List.take_of_length_le, List.take_succ_cons, List.drop_succ_cons, List.length_append, List.length_take, List.length_drop, List.length_replicate, List.length_set, List.length_map, norm_nil, norm_sl, norm_agg, norm_int, norm_bool, norm_str, te2, te3, te4, te5, te9, te22, te24, te25, te28, te29, te30, te38, te42, te43, te44, te46, te47, te51, te54, te59, te61, te62, te64, E0]
    exact .same rfl
  · cases h
def E1 : Env := E0.know 39 pf39
theorem ok1 : EnvOK Tryd.prog E1 := ok0.know sound39

/-- turned right -/
def rotr (x : BitVec 32) (n : Int) : BitVec 32 := rotl x (IntKind.i64.wrap (0 - n))
def pf31 : List AV → Option AV
  | [a, b] => (num? .u32 32 a).bind fun x => (int? b).map fun n => .raw (.int .u32 ((rotr x n).toNat : Int))
  | _ => none
theorem pf39_at (x : BitVec 32) (n : Int) : pf39 [.raw (.int .u32 (x.toNat : Int)), .raw (.int .i64 n)] = some (.raw (.int .u32 ((rotl x n).toNat : Int))) := by
  simp only [pf39, num?_num, int?, Option.bind_some, Option.map_some]
theorem pf31_at (x : BitVec 32) (n : Int) : pf31 [.raw (.int .u32 (x.toNat : Int)), .raw (.int .i64 n)] = some (.raw (.int .u32 ((rotr x n).toNat : Int))) := by
  simp only [pf31, num?_num, int?, Option.bind_some, Option.map_some]

theorem sound31 : SoundV Tryd.prog glob 31 pf31 := by
  refine SoundV.walk E1 ok1 mixed Tryd.func31 rfl Tryd.call31 (by kernel_rfl) ?_
  intro args r h
  unfold pf31 at h
  split at h
  · rename_i a b
    simp only [Option.bind_eq_some_iff, Option.map_eq_some_iff] at h
    obtain ⟨x, h1, n, h2, rfl⟩ := h
    rw [num?_of h1, int?_of h2]
    rw [Tryd.ntmps31, Tryd.results31]
    refine ⟨by simp, ?_⟩
    simp (maxSteps := 1000000) (disch := first | omega | (simp only [nums_len, nums_len, List.length_cons, List.length_nil, List.length_append, List.length_take, List.length_drop, List.length_replicate, List.length_set, List.length_map] <;> omega) | fail) only [awp_skip, awp_label, awp_exit, awp_ret, awp_seq, awp_region, awp_cond, awp_block, awp_scope, awp_loop, thenQ_nrm, thenQ_ret, thenQ_exit, blockQ_nrm, blockQ_ret, blockQ_exit, bindQ_some, condQ_true, condQ_false, condQ_any, regsO_nil, regsO_cons, stepO_go, wantedV, isWrite, grow, write, ev_tmp, ev_const, ev_global, ev_func, ofV, AV.cells, Abs.start, Abs.strip, endQ, resV, rawsRes, rawRes, exports, export1, ↓bind_go, ↓map_go, if_true, if_false, if_pos, Bool.false_eq_true, AS.grown, AS.put, upd_at, updB_at, updI_at, Bx.own.injEq, Id.mk.injEq, ↓reduceIte, reduceCtorEq, List.getElem?_cons_zero, List.getElem?_cons_succ, List.getElem?_nil, List.toList_toArray, List.map_cons, List.map_nil, and_self, and_true, true_and, false_and, and_false, or_false, or_true, false_or, true_or, not_true_eq_false, not_false_eq_true, Nat.reduceAdd, Nat.reduceSub, Nat.reduceMul, Nat.reduceLT, Nat.reduceLeDiff, Nat.reduceEqDiff, Nat.zero_add, Nat.add_zero, Nat.mul_one, Nat.one_mul, Nat.zero_mul, Nat.sub_zero, Nat.one_ne_zero, Nat.sub_self, Nat.le_refl, Nat.zero_ne_one, Nat.reduceBEq, beq_self_eq_true, List.nodup_nil, List.nodup_cons, List.not_mem_nil, List.nil_append, List.cons_append, Option.isSome_some, Option.isSome_none, Option.some.injEq, List.append_nil, Env.know, Env.boxed, Bool.and_self, Bool.and_true, Bool.true_and, bb_t, bb_f, Bool.false_or, Bool.or_false, bin_int, bin_bool, bin_str, bin_nil, bin_sl, bin_view, bin_ptr, bin_iptr, bin_np, unV_not, unV_any, unV_neg, isSelf, convSelf, convV, loadV, storeV, fieldAddrV, fieldV, indexAddrV, indexV, partV, isAggK, isStr, place, lenV, min2V, makeV, freshSl, sliceV, boundOr, bound, bounds, cutFl, copyV, slCells, srcV, appendV, room, zerosOf, eqNeg, kd, takeR, hasViewL, hasView, freshR, freshC, snapAll, snap, snapL, flatL, pureL, pureA, fillV_go, fillC, arrOK, List.all_cons, List.all_nil, oneA, List.length_cons, List.length_nil, add_u8, sub_u8, mul_u8, and_u8, or_u8, xor_u8, add_u32, sub_u32, mul_u32, and_u32, or_u32, xor_u32, add_u64, sub_u64, mul_u64, and_u64, or_u64, xor_u64, shl_u8, shl_u32, shl_u64, shr_u8, shr_u32, shr_u64, not_u32, rem_i64, quo_i64, shr_i64, rem_u64, quo_u64, add_i64, sub_i64, mul_i64, cmp_i64_lss, cmp_i64_leq, cmp_i64_gtr, cmp_i64_geq, cmp_eql, cmp_neq, wrap_u8, wrap_u16, wrap_u32, wrap_u64, i64_is, bv_back, bvn_back, bv_nat, BitVec.reduceOfInt, Int.toNat_natCast, toNat_add', toNat_sub', toNat_mul', toNat_mod', toNat_div', Int.natCast_inj, Int.reduceLE, Int.reduceLT, Int.reduceGT, Int.reduceGE, Int.reduceNeg, Int.reduceAdd, Int.reduceSub, Int.reduceMul, Int.reduceToNat, Int.toNat_zero, Int.toNat_one, decide_true, decide_false, decide_eq_true_eq, Bool.not_true, Bool.not_false, nums_len, nums_get, nums_get0, nums_take, nums_drop, nums_app, nums_nil_app, nums_snoc, nums_set, splice_all, getD_drop, nums_one, nums_flat, nums_pure, nums_snap, nums_noview, nums_bytes, rep_u8, rep_u32, rep_u64, zeros_u8, zeros_u32, zeros_u64, nums_nil, List.map_replicate, List.drop_replicate, List.replicate_zero, List.drop_zero, List.take_zero, List.take_of_length_le, List.take_succ_cons, List.drop_succ_cons, List.length_append, List.length_take, List.length_drop, List.length_replicate, List.length_set, List.length_map, norm_nil, norm_sl, norm_agg, norm_int, norm_bool, norm_str, te2, te3, te4, te5, te9, te22, te24, te25, te28, te29, te30, te38, te42, te43, te44, te46, te47, te51, te54, te59, te61, te62, te64, E0, E1, pf39_at]
    exact .same rfl
  · cases h

def beginL : List (BitVec 32) := [1779033703#32, 3144134277#32, 1013904242#32, 2773480762#32, 1359893119#32, 2600822924#32, 528734635#32, 1541459225#32]
def pf28 : List AV → Option AV
  | [] => some (.agg (nums .u32 beginL))
  | _ => none
theorem sound28 : SoundV Tryd.prog glob 28 pf28 := by
  refine SoundV.walk E0 ok0 mixed Tryd.func28 rfl Tryd.call28 (by kernel_rfl) ?_
  intro args r h
  unfold pf28 at h
  split at h
  · cases h
    rw [Tryd.ntmps28, Tryd.results28]
    refine ⟨by simp, ?_⟩
    simp (maxSteps := 1000000) (disch := first | omega | (simp only [nums_len, nums_len, List.length_cons, List.length_nil, List.length_append, List.length_take, List.length_drop, List.length_replicate, List.length_set, List.length_map] <;> omega) | fail) only [awp_skip, awp_label, awp_exit, awp_ret, awp_seq, awp_region, awp_cond, awp_block, awp_scope, awp_loop, thenQ_nrm, thenQ_ret, thenQ_exit, blockQ_nrm, blockQ_ret, blockQ_exit, bindQ_some, condQ_true, condQ_false, condQ_any, regsO_nil, regsO_cons, stepO_go, wantedV, isWrite, grow, write, ev_tmp, ev_const, ev_global, ev_func, ofV, AV.cells, Abs.start, Abs.strip, endQ, resV, rawsRes, rawRes, exports, export1, ↓bind_go, ↓map_go, if_true, if_false, if_pos, Bool.false_eq_true, AS.grown, AS.put, upd_at, updB_at, updI_at, Bx.own.injEq, Id.mk.injEq, ↓reduceIte, reduceCtorEq, List.getElem?_cons_zero, List.getElem?_cons_succ, List.getElem?_nil, List.toList_toArray, List.map_cons, List.map_nil, and_self, and_true, true_and, false_and, and_false, or_false, or_true, false_or, true_or, not_true_eq_false, not_false_eq_true, Nat.reduceAdd, Nat.reduceSub, Nat.reduceMul, Nat.reduceLT, Nat.reduceLeDiff, Nat.reduceEqDiff, Nat.zero_add, Nat.add_zero, Nat.mul_one, Nat.one_mul, Nat.zero_mul, Nat.sub_zero, Nat.one_ne_zero, Nat.sub_self, Nat.le_refl, Nat.zero_ne_one, Nat.reduceBEq, beq_self_eq_true, List.nodup_nil, List.nodup_cons, List.not_mem_nil, List.nil_append, List.cons_append, Option.isSome_some, Option.isSome_none, Option.some.injEq, List.append_nil, Env.know, Env.boxed, Bool.and_self, Bool.and_true, Bool.true_and, bb_t, bb_f, Bool.false_or, Bool.or_false, bin_int, bin_bool, bin_str, bin_nil, bin_sl, bin_view, bin_ptr, bin_iptr, bin_np, unV_not, unV_any, unV_neg, isSelf, convSelf, convV, loadV, storeV, fieldAddrV, fieldV, indexAddrV, indexV, partV, isAggK, isStr, place, lenV, min2V, makeV, freshSl, sliceV, boundOr, bound, bounds, cutFl, copyV, slCells, srcV, appendV, room, zerosOf, eqNeg, kd, takeR, hasViewL, hasView, freshR, freshC, snapAll, snap, snapL, flatL, pureL, pureA, fillV_go, fillC, arrOK, List.all_cons, List.all_nil, oneA, List.length_cons, List.length_nil, add_u8, sub_u8, mul_u8, and_u8, or_u8, xor_u8, add_u32, sub_u32, mul_u32, and_u32, or_u32, xor_u32, add_u64, sub_u64, mul_u64, and_u64, or_u64, xor_u64, shl_u8, shl_u32, shl_u64, shr_u8, shr_u32, shr_u64, not_u32, rem_i64, quo_i64, shr_i64, rem_u64, quo_u64, add_i64, sub_i64, mul_i64, cmp_i64_lss, cmp_i64_leq, cmp_i64_gtr, cmp_i64_geq, cmp_eql, cmp_neq, wrap_u8, wrap_u16, wrap_u32, wrap_u64, i64_is, bv_back, bvn_back, bv_nat, BitVec.reduceOfInt, Int.toNat_natCast, toNat_add', toNat_sub', toNat_mul', toNat_mod', toNat_div', Int.natCast_inj, Int.reduceLE, Int.reduceLT, Int.reduceGT, Int.reduceGE, Int.reduceNeg, Int.reduceAdd, Int.reduceSub, Int.reduceMul, Int.reduceToNat, Int.toNat_zero, Int.toNat_one, decide_true, decide_false, decide_eq_true_eq, Bool.not_true, Bool.not_false, nums_len, nums_get, nums_get0, nums_take, nums_drop, nums_app, nums_nil_app, nums_snoc, nums_set, splice_all, getD_drop, nums_one, nums_flat, nums_pure, nums_snap, nums_noview, nums_bytes, rep_u8, rep_u32, rep_u64, zeros_u8, zeros_u32, zeros_u64, nums_nil, List.map_replicate, List.drop_replicate, List.replicate_zero, List.drop_zero, List.take_zero, List.take_of_length_le, List.take_succ_cons, List.drop_succ_cons, List.length_append, List.length_take, List.length_drop, List.length_replicate, List.length_set, List.length_map, norm_nil, norm_sl, norm_agg, norm_int, norm_bool, norm_str, te2, te3, te4, te5, te9, te22, te24, te25, te28, te29, te30, te38, te42, te43, te44, te46, te47, te51, te54, te59, te61, te62, te64, E0]
    exact .same rfl
  · cases h
end Go.Proofs.YteooikdcafodfaaDoor
