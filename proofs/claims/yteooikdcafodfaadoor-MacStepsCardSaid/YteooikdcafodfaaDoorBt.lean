/- The document's examples of layer 6, as the program's function checks them. -/
import Derived.Test.YteooikdcafodfaaDoorBs
namespace Go.Proofs.YteooikdcafodfaaDoor
set_option linter.unusedSimpArgs false
set_option linter.unusedVariables false
open Go Go.Abs

def E21 : Env := (E0.know 21 (fun xs => pf21 (xs.map norm))).know 22 (fun xs => pf22 (xs.map norm))
theorem ok21 : EnvOK Tryd.prog E21 := (ok0.know sound21.norm).know sound22.norm
theorem E21_te : E21.te = te := rfl
theorem E21_glob : E21.glob = glob := rfl
theorem E21_mu (d : Nat) : E21.mu d = false := rfl
theorem E21_21 : E21.tbl 21 = some (.val (fun xs => pf21 (xs.map norm))) := rfl
theorem E21_22 : E21.tbl 22 = some (.val (fun xs => pf22 (xs.map norm))) := rfl
def jefe : List (BitVec 8) := [74#8, 101#8, 102#8, 101#8]
def what : List (BitVec 8) := [119#8, 104#8, 97#8, 116#8, 32#8, 100#8, 111#8, 32#8, 121#8, 97#8, 32#8, 119#8, 97#8, 110#8, 116#8, 32#8, 102#8, 111#8, 114#8, 32#8, 110#8, 111#8, 116#8, 104#8, 105#8, 110#8, 103#8, 63#8]
theorem jefe_is : [AV.raw (.int .u8 74), AV.raw (.int .u8 101), AV.raw (.int .u8 102), AV.raw (.int .u8 101)] = nums .u8 jefe := rfl
theorem what_is : [AV.raw (.int .u8 119), AV.raw (.int .u8 104), AV.raw (.int .u8 97), AV.raw (.int .u8 116), AV.raw (.int .u8 32), AV.raw (.int .u8 100), AV.raw (.int .u8 111), AV.raw (.int .u8 32), AV.raw (.int .u8 121), AV.raw (.int .u8 97), AV.raw (.int .u8 32), AV.raw (.int .u8 119), AV.raw (.int .u8 97), AV.raw (.int .u8 110), AV.raw (.int .u8 116), AV.raw (.int .u8 32), AV.raw (.int .u8 102), AV.raw (.int .u8 111), AV.raw (.int .u8 114), AV.raw (.int .u8 32), AV.raw (.int .u8 110), AV.raw (.int .u8 111), AV.raw (.int .u8 116), AV.raw (.int .u8 104), AV.raw (.int .u8 105), AV.raw (.int .u8 110), AV.raw (.int .u8 103), AV.raw (.int .u8 63)] = nums .u8 what := rfl
theorem k_is {fl : Fl} : AV.sl 1 [AV.raw (.int .u8 107)] fl = .sl 1 (nums .u8 [107#8]) fl := rfl
theorem i_is {fl : Fl} : AV.sl 1 [AV.raw (.int .u8 105)] fl = .sl 1 (nums .u8 [105#8]) fl := rfl
theorem z00 : (((0 : Nat) : Int) == 0) = true := rfl
theorem jefe_len : jefe.length = 4 := by decide
theorem what_len : what.length = 28 := by decide
theorem exs0 : (sumB jefe what).take 8 = [91#8, 220#8, 193#8, 70#8, 191#8, 96#8, 117#8, 78#8] := by decide +kernel
theorem exs1 : (sumB jefe what).drop 24 = [157#8, 236#8, 88#8, 185#8, 100#8, 236#8, 56#8, 67#8] := by decide +kernel
theorem eqt0 : ([UInt8.ofBitVec 91#8, UInt8.ofBitVec 220#8, UInt8.ofBitVec 193#8, UInt8.ofBitVec 70#8, UInt8.ofBitVec 191#8, UInt8.ofBitVec 96#8, UInt8.ofBitVec 117#8, UInt8.ofBitVec 78#8] == ([91, 220, 193, 70, 191, 96, 117, 78] : List UInt8)) = true := by decide
theorem eqt1 : ([UInt8.ofBitVec 157#8, UInt8.ofBitVec 236#8, UInt8.ofBitVec 88#8, UInt8.ofBitVec 185#8, UInt8.ofBitVec 100#8, UInt8.ofBitVec 236#8, UInt8.ofBitVec 56#8, UInt8.ofBitVec 67#8] == ([157, 236, 88, 185, 100, 236, 56, 67] : List UInt8)) = true := by decide
def pf19 : List AV → Option AV
  | [] => some (.raw (.bool true))
  | _ => none

set_option maxHeartbeats 8000000
theorem sound19 : SoundV Tryd.prog glob 19 pf19 := by
  refine SoundV.walk E21 ok21 mixed Tryd.func19 rfl Tryd.call19 (by kernel_rfl) ?_
  intro args r hr
  unfold pf19 at hr
  split at hr
  · cases hr
    rw [Tryd.ntmps19, Tryd.results19]
    refine ⟨by simp, ?_⟩
    simp (maxSteps := 1000000) (disch := first | omega | (simp only [hashB_len, sumB_len, expandB_len, jefe_len, what_len, nums_len, List.length_cons, List.length_nil, List.length_append, List.length_take, List.length_drop, List.length_replicate, List.length_set, List.length_map] <;> omega) | fail) only [awp_skip, awp_label, awp_exit, awp_ret, awp_seq, awp_region, awp_cond, awp_block, awp_scope, awp_loop, thenQ_nrm, thenQ_ret, thenQ_exit, blockQ_nrm, blockQ_ret, blockQ_exit, bindQ_some, condQ_true, condQ_false, condQ_any, regsO_nil, regsO_cons, stepO_go, wantedV, isWrite, grow, write, ev_tmp, ev_const, ev_global, ev_func, ofV, AV.cells, Abs.start, Abs.strip, endQ, resV, rawsRes, rawRes, exports, export1, ↓bind_go, ↓map_go, if_true, if_false, if_pos, Bool.false_eq_true, AS.grown, AS.put, upd_at, updB_at, updI_at, Bx.own.injEq, Id.mk.injEq, ↓reduceIte, reduceCtorEq, List.getElem?_cons_zero, List.getElem?_cons_succ, List.getElem?_nil, List.toList_toArray, List.map_cons, List.map_nil, and_self, and_true, true_and, false_and, and_false, or_false, or_true, false_or, true_or, not_true_eq_false, not_false_eq_true, Nat.reduceAdd, Nat.reduceSub, Nat.reduceMul, Nat.reduceLT, Nat.reduceLeDiff, Nat.reduceEqDiff, Nat.zero_add, Nat.add_zero, Nat.mul_one, Nat.one_mul, Nat.zero_mul, Nat.sub_zero, Nat.one_ne_zero, Nat.sub_self, Nat.le_refl, Nat.zero_ne_one, Nat.reduceBEq, beq_self_eq_true, List.nodup_nil, List.nodup_cons, List.not_mem_nil, List.nil_append, List.cons_append, Option.isSome_some, Option.isSome_none, Option.some.injEq, List.append_nil, Env.know, Env.boxed, Bool.and_self, Bool.and_true, Bool.true_and, bb_t, bb_f, Bool.false_or, Bool.or_false, bin_int, bin_bool, bin_str, bin_nil, bin_sl, bin_view, bin_ptr, bin_iptr, bin_np, unV_not, unV_any, unV_neg, isSelf, convSelf, convV, loadV, storeV, fieldAddrV, fieldV, indexAddrV, indexV, partV, isAggK, isStr, place, lenV, min2V, makeV, freshSl, sliceV, boundOr, bound, bounds, cutFl, copyV, slCells, srcV, appendV, room, zerosOf, eqNeg, kd, takeR, hasViewL, hasView, freshR, freshC, snapAll, snap, snapL, flatL, pureL, pureA, fillV_go, fillC, arrOK, List.all_cons, List.all_nil, oneA, List.length_cons, List.length_nil, add_u8, sub_u8, mul_u8, and_u8, or_u8, xor_u8, add_u32, sub_u32, mul_u32, and_u32, or_u32, xor_u32, add_u64, sub_u64, mul_u64, and_u64, or_u64, xor_u64, shl_u8, shl_u32, shl_u64, shr_u8, shr_u32, shr_u64, not_u32, rem_i64, quo_i64, shr_i64, rem_u64, quo_u64, add_i64, sub_i64, mul_i64, cmp_i64_lss, cmp_i64_leq, cmp_i64_gtr, cmp_i64_geq, cmp_eql, cmp_neq, wrap_u8, wrap_u16, wrap_u32, wrap_u64, i64_is, bv_back, bvn_back, bv_nat, BitVec.reduceOfInt, Int.toNat_natCast, toNat_add', toNat_sub', toNat_mul', toNat_mod', toNat_div', Int.natCast_inj, Int.reduceLE, Int.reduceLT, Int.reduceGT, Int.reduceGE, Int.reduceNeg, Int.reduceAdd, Int.reduceSub, Int.reduceMul, Int.reduceToNat, Int.toNat_zero, Int.toNat_one, decide_true, decide_false, decide_eq_true_eq, Bool.not_true, Bool.not_false, nums_len, nums_get, nums_get0, nums_take, nums_drop, nums_app, nums_nil_app, nums_snoc, nums_set, splice_all, getD_drop, nums_one, nums_flat, nums_pure, nums_snap, nums_noview, nums_bytes, rep_u8, rep_u32, rep_u64, zeros_u8, zeros_u32, zeros_u64, nums_nil, List.map_replicate, List.drop_replicate, List.replicate_zero, List.drop_zero, List.take_zero, List.take_of_length_le, List.take_succ_cons, List.drop_succ_cons, List.length_append, List.length_take, List.length_drop, List.length_replicate, List.length_set, List.length_map, norm_nil, norm_sl, norm_agg, norm_int, norm_bool, norm_str, te2, te3, te4, te5, te9, te22, te24, te25, te28, te29, te30, te38, te42, te43, te44, te46, te47, te51, te54, te59, te61, te62, te64, E21_te, E21_glob, E21_mu, E21_21, E21_22, pf21_at, pf22_at, pf22_no, glob, sumB_len, jefe_is, what_is, k_is, i_is, exs0, exs1, eqt0, eqt1, jefe_len, what_len, z00]
    exact ResQ.same rfl
  · cases hr
end Go.Proofs.YteooikdcafodfaaDoor
