/- The document's examples, as the program's function checks them. -/
import Derived.Test.YteooikdcafodfaaDoorBj
namespace Go.Proofs.YteooikdcafodfaaDoor
set_option linter.unusedSimpArgs false
set_option linter.unusedVariables false
open Go Go.Abs

def E12 : Env := E0.know 14 (fun xs => pf14 (xs.map norm))
theorem ok12 : EnvOK Tryd.prog E12 := ok0.know sound14.norm
theorem E12_te : E12.te = te := rfl
theorem E12_glob : E12.glob = glob := rfl
theorem E12_mu (d : Nat) : E12.mu d = false := rfl
theorem E12_14 : E12.tbl 14 = some (.val (fun xs => pf14 (xs.map norm))) := rfl
theorem pf14_at {n : Nat} {m : List (BitVec 8)} {fl : Fl} (h : n = m.length) (h2 : m.length ≤ 1099511627776) : pf14 [.sl n (nums .u8 m) fl] = some (.agg (nums .u8 (hashB m))) := by
  simp only [pf14, row?_at h, Option.bind_some, if_pos h2]
theorem pf14_nil : pf14 [.sl 0 [] .bor] = some (.agg (nums .u8 (hashB []))) := pf14_at (m := []) rfl (by simp)
theorem abc_is : [AV.raw (.int .u8 97), .raw (.int .u8 98), .raw (.int .u8 99)] = nums .u8 [97#8, 98#8, 99#8] := rfl
theorem ex0 : (hashB []).take 8 = [227#8, 176#8, 196#8, 66#8, 152#8, 252#8, 28#8, 20#8] := by decide +kernel
theorem ex1 : (hashB [97#8, 98#8, 99#8]).take 8 = [186#8, 120#8, 22#8, 191#8, 143#8, 1#8, 207#8, 234#8] := by decide +kernel
theorem ex2 : (hashB [97#8, 98#8, 99#8]).drop 24 = [180#8, 16#8, 255#8, 97#8, 242#8, 0#8, 21#8, 173#8] := by decide +kernel
theorem eqs0 : ([UInt8.ofBitVec 227#8, UInt8.ofBitVec 176#8, UInt8.ofBitVec 196#8, UInt8.ofBitVec 66#8, UInt8.ofBitVec 152#8, UInt8.ofBitVec 252#8, UInt8.ofBitVec 28#8, UInt8.ofBitVec 20#8] == ([227, 176, 196, 66, 152, 252, 28, 20] : List UInt8)) = true := by decide
theorem eqs1 : ([UInt8.ofBitVec 186#8, UInt8.ofBitVec 120#8, UInt8.ofBitVec 22#8, UInt8.ofBitVec 191#8, UInt8.ofBitVec 143#8, UInt8.ofBitVec 1#8, UInt8.ofBitVec 207#8, UInt8.ofBitVec 234#8] == ([186, 120, 22, 191, 143, 1, 207, 234] : List UInt8)) = true := by decide
theorem eqs2 : ([UInt8.ofBitVec 180#8, UInt8.ofBitVec 16#8, UInt8.ofBitVec 255#8, UInt8.ofBitVec 97#8, UInt8.ofBitVec 242#8, UInt8.ofBitVec 0#8, UInt8.ofBitVec 21#8, UInt8.ofBitVec 173#8] == ([180, 16, 255, 97, 242, 0, 21, 173] : List UInt8)) = true := by decide
def pf13 : List AV → Option AV
  | [] => some (.raw (.bool true))
  | _ => none

set_option maxHeartbeats 4000000
theorem sound13 : SoundV Tryd.prog glob 13 pf13 := by
  refine SoundV.walk E12 ok12 mixed Tryd.func13 rfl Tryd.call13 (by kernel_rfl) ?_
  intro args r hr
  unfold pf13 at hr
  split at hr
  · cases hr
    rw [Tryd.ntmps13, Tryd.results13]
    refine ⟨by simp, ?_⟩
    simp (maxSteps := 1000000) (disch := first | omega | (simp only [hashB_len, nums_len, List.length_cons, List.length_nil, List.length_append, List.length_take, List.length_drop, List.length_replicate, List.length_set, List.length_map] <;> omega) | fail) only [awp_skip, awp_label, awp_exit, awp_ret, awp_seq, awp_region, awp_cond, awp_block, awp_scope, awp_loop, thenQ_nrm, thenQ_ret, thenQ_exit, blockQ_nrm, blockQ_ret, blockQ_exit, bindQ_some, condQ_true, condQ_false, condQ_any, regsO_nil, regsO_cons, stepO_go, wantedV, isWrite, grow, write, ev_tmp, ev_const, ev_global, ev_func, ofV, AV.cells, Abs.start, Abs.strip, endQ, resV, rawsRes, rawRes, exports, export1, ↓bind_go, ↓map_go, if_true, if_false, if_pos, Bool.false_eq_true, AS.grown, AS.put, upd_at, updB_at, updI_at, Bx.own.injEq, Id.mk.injEq, ↓reduceIte, reduceCtorEq, List.getElem?_cons_zero, List.getElem?_cons_succ, List.getElem?_nil, List.toList_toArray, List.map_cons, List.map_nil, and_self, and_true, true_and, false_and, and_false, or_false, or_true, false_or, true_or, not_true_eq_false, not_false_eq_true, Nat.reduceAdd, Nat.reduceSub, Nat.reduceMul, Nat.reduceLT, Nat.reduceLeDiff, Nat.reduceEqDiff, Nat.zero_add, Nat.add_zero, Nat.mul_one, Nat.one_mul, Nat.zero_mul, Nat.sub_zero, Nat.one_ne_zero, Nat.sub_self, Nat.le_refl, Nat.zero_ne_one, Nat.reduceBEq, beq_self_eq_true, List.nodup_nil, List.nodup_cons, List.not_mem_nil, List.nil_append, List.cons_append, Option.isSome_some, Option.isSome_none, Option.some.injEq, List.append_nil, Env.know, Env.boxed, Bool.and_self, Bool.and_true, Bool.true_and, bb_t, bb_f, Bool.false_or, Bool.or_false, bin_int, bin_bool, bin_str, bin_nil, bin_sl, bin_view, bin_ptr, bin_iptr, bin_np, unV_not, unV_any, unV_neg, isSelf, convSelf, convV, loadV, storeV, fieldAddrV, fieldV, indexAddrV, indexV, partV, isAggK, isStr, place, lenV, min2V, makeV, freshSl, sliceV, boundOr, bound, bounds, cutFl, copyV, slCells, srcV, appendV, room, zerosOf, eqNeg, kd, takeR, hasViewL, hasView, freshR, freshC, snapAll, snap, snapL, flatL, pureL, pureA, fillV_go, fillC, arrOK, List.all_cons, List.all_nil, oneA, List.length_cons, List.length_nil, add_u8, sub_u8, mul_u8, and_u8, or_u8, xor_u8, add_u32, sub_u32, mul_u32, and_u32, or_u32, xor_u32, add_u64, sub_u64, mul_u64, and_u64, or_u64, xor_u64, shl_u8, shl_u32, shl_u64, shr_u8, shr_u32, shr_u64, not_u32, rem_i64, quo_i64, shr_i64, rem_u64, quo_u64, add_i64, sub_i64, mul_i64, cmp_i64_lss, cmp_i64_leq, cmp_i64_gtr, cmp_i64_geq, cmp_eql, cmp_neq, wrap_u8, wrap_u16, wrap_u32, wrap_u64, i64_is, bv_back, bvn_back, bv_nat, BitVec.reduceOfInt, Int.toNat_natCast, toNat_add', toNat_sub', toNat_mul', toNat_mod', toNat_div', Int.natCast_inj, Int.reduceLE, Int.reduceLT, Int.reduceGT, Int.reduceGE, Int.reduceNeg, Int.reduceAdd, Int.reduceSub, Int.reduceMul, Int.reduceToNat, Int.toNat_zero, Int.toNat_one, decide_true, decide_false, decide_eq_true_eq, Bool.not_true, Bool.not_false, nums_len, nums_get, nums_get0, nums_take, nums_drop, nums_app, nums_nil_app, nums_snoc, nums_set, splice_all, getD_drop, nums_one, nums_flat, nums_pure, nums_snap, nums_noview, nums_bytes, rep_u8, rep_u32, rep_u64, zeros_u8, zeros_u32, zeros_u64, nums_nil, List.map_replicate, List.drop_replicate, List.replicate_zero, List.drop_zero, List.take_zero, List.take_of_length_le, List.take_succ_cons, List.drop_succ_cons, List.length_append, List.length_take, List.length_drop, List.length_replicate, List.length_set, List.length_map, norm_nil, norm_sl, norm_agg, norm_int, norm_bool, norm_str, te2, te3, te4, te5, te9, te22, te24, te25, te28, te29, te30, te38, te42, te43, te44, te46, te47, te51, te54, te59, te61, te62, te64, E12_te, E12_glob, E12_mu, E12_14, pf14_at, glob, hashB_len, abc_is, pf14_nil, ex0, ex1, ex2, eqs0, eqs1, eqs2]
    exact .same rfl
  · cases hr
end Go.Proofs.YteooikdcafodfaaDoor
