/- The document's hash and pressing, with the tables known: what the walks of the functions come to. -/
import Derived.Test.YteooikdcafodfaaDoorBi
import Derived.Test.YteooikdcafodfaaDoorKe
namespace Go.Proofs.YteooikdcafodfaaDoor
set_option linter.unusedSimpArgs false
set_option linter.unusedVariables false
open Go Go.Abs

def pf29' : List AV → Option AV
  | [] => some (.agg (.sl 64 (nums .u32 addL) .bor :: nums .u32 beginL))
  | _ => none
def pf33' : List AV → Option AV
  | [] => some (.sl 64 (nums .u32 addL) .bor)
  | _ => none
theorem sound29' : SoundV Tryd.prog glob 29 pf29' := by
  have e : pf29 = pf29' := by
    funext args
    cases args with
    | nil => simp only [pf29, pf29', thirds_eq, secs_eq]
    | cons => rfl
  rw [← e]; exact sound29
theorem sound33' : SoundV Tryd.prog glob 33 pf33' := by
  have e : pf33 = pf33' := by
    funext args
    cases args with
    | nil => simp only [pf33, pf33', thirds_eq]
    | cons => rfl
  rw [← e]; exact sound33
theorem hashB_len (b : List (BitVec 8)) : (hashB b).length = 32 := by rw [hashB, outB_len]
set_option maxHeartbeats 4000000
def E10 : Env := ((E0.know 29 pf29').know 30 (fun xs => pf30 (xs.map norm))).know 33 pf33'
theorem ok10 : EnvOK Tryd.prog E10 := ((ok0.know sound29').know sound30.norm).know sound33'
theorem E10_te : E10.te = te := rfl
theorem E10_glob : E10.glob = glob := rfl
theorem E10_mu (d : Nat) : E10.mu d = false := rfl
theorem E10_29 : E10.tbl 29 = some (.val pf29') := rfl
theorem E10_30 : E10.tbl 30 = some (.val (fun xs => pf30 (xs.map norm))) := rfl
theorem E10_33 : E10.tbl 33 = some (.val pf33') := rfl
theorem pf30_at {n l : Nat} {K H : List (BitVec 32)} {m : List (BitVec 8)} {fl fl' : Fl} (h1 : n = K.length) (h2 : K.length = 64) (h3 : H.length = 8) (h4 : l = m.length) (h5 : m.length ≤ 1099511627776) : pf30 [.agg (.sl n (nums .u32 K) fl :: nums .u32 H), .sl l (nums .u8 m) fl'] = some (.agg (nums .u8 (sumK K H m))) := by
  simp only [pf30, tab?, row?_at h1, row?_at h4, deNums_nums, Option.bind_some, h2, h3, h5, and_self, if_true]
theorem pf29_at : pf29' [] = some (.agg (.sl 64 (nums .u32 addL) .bor :: nums .u32 beginL)) := rfl
theorem pf33_at : pf33' [] = some (.sl 64 (nums .u32 addL) .bor) := rfl
theorem addL_len : addL.length = 64 := by decide
theorem beginL_len : beginL.length = 8 := by decide
theorem sumK_len (K H : List (BitVec 32)) (b : List (BitVec 8)) : (sumK K H b).length = 32 := by rw [sumK, outB_len]
def pf15 : List AV → Option AV
  | [b] => (row? .u8 8 b).bind fun m => if m.length ≤ 1099511627776 then some (.agg (nums .u8 (hashB m))) else none
  | _ => none
theorem sound15 : SoundV Tryd.prog glob 15 pf15 := by
  refine SoundV.walk E10 ok10 mixed Tryd.func15 rfl Tryd.call15 (by kernel_rfl) ?_
  intro args r hr
  unfold pf15 at hr
  split at hr
  · simp only [Option.bind_eq_some_iff] at hr
    obtain ⟨b, h2, hr⟩ := hr
    split at hr
    · rename_i hb
      cases hr
      obtain ⟨fl', rfl⟩ := row?_of h2
      rw [Tryd.ntmps15, Tryd.results15]
      refine ⟨by simp, ?_⟩
      simp (maxSteps := 1000000) (disch := first | omega | (simp only [pressK_len, outB_len, lenBs_len, sumK_len, addL_len, beginL_len, hashB_len, nums_len, List.length_cons, List.length_nil, List.length_append, List.length_take, List.length_drop, List.length_replicate, List.length_set, List.length_map] <;> omega) | fail) only [awp_skip, awp_label, awp_exit, awp_ret, awp_seq, awp_region, awp_cond, awp_block, awp_scope, awp_loop, thenQ_nrm, thenQ_ret, thenQ_exit, blockQ_nrm, blockQ_ret, blockQ_exit, bindQ_some, condQ_true, condQ_false, condQ_any, regsO_nil, regsO_cons, stepO_go, wantedV, isWrite, grow, write, ev_tmp, ev_const, ev_global, ev_func, ofV, AV.cells, Abs.start, Abs.strip, endQ, resV, rawsRes, rawRes, exports, export1, ↓bind_go, ↓map_go, if_true, if_false, if_pos, Bool.false_eq_true, AS.grown, AS.put, upd_at, updB_at, updI_at, Bx.own.injEq, Id.mk.injEq, ↓reduceIte, reduceCtorEq, List.getElem?_cons_zero, List.getElem?_cons_succ, List.getElem?_nil, List.toList_toArray, List.map_cons, List.map_nil, and_self, and_true, true_and, false_and, and_false, or_false, or_true, false_or, true_or, not_true_eq_false, not_false_eq_true, Nat.reduceAdd, Nat.reduceSub, Nat.reduceMul, Nat.reduceLT, Nat.reduceLeDiff, Nat.reduceEqDiff, Nat.zero_add, Nat.add_zero, Nat.mul_one, Nat.one_mul, Nat.zero_mul, Nat.sub_zero, Nat.one_ne_zero, Nat.sub_self, Nat.le_refl, Nat.zero_ne_one, Nat.reduceBEq, beq_self_eq_true, List.nodup_nil, List.nodup_cons, List.not_mem_nil, List.nil_append, List.cons_append, Option.isSome_some, Option.isSome_none, Option.some.injEq, List.append_nil, Env.know, Env.boxed, Bool.and_self, Bool.and_true, Bool.true_and, bb_t, bb_f, Bool.false_or, Bool.or_false, bin_int, bin_bool, bin_str, bin_nil, bin_sl, bin_view, bin_ptr, bin_iptr, bin_np, unV_not, unV_any, unV_neg, isSelf, convSelf, convV, loadV, storeV, fieldAddrV, fieldV, indexAddrV, indexV, partV, isAggK, isStr, place, lenV, min2V, makeV, freshSl, sliceV, boundOr, bound, bounds, cutFl, copyV, slCells, srcV, appendV, room, zerosOf, eqNeg, kd, takeR, hasViewL, hasView, freshR, freshC, snapAll, snap, snapL, flatL, pureL, pureA, fillV_go, fillC, arrOK, List.all_cons, List.all_nil, oneA, List.length_cons, List.length_nil, add_u8, sub_u8, mul_u8, and_u8, or_u8, xor_u8, add_u32, sub_u32, mul_u32, and_u32, or_u32, xor_u32, add_u64, sub_u64, mul_u64, and_u64, or_u64, xor_u64, shl_u8, shl_u32, shl_u64, shr_u8, shr_u32, shr_u64, not_u32, rem_i64, quo_i64, shr_i64, rem_u64, quo_u64, add_i64, sub_i64, mul_i64, cmp_i64_lss, cmp_i64_leq, cmp_i64_gtr, cmp_i64_geq, cmp_eql, cmp_neq, wrap_u8, wrap_u16, wrap_u32, wrap_u64, i64_is, bv_back, bvn_back, bv_nat, BitVec.reduceOfInt, Int.toNat_natCast, toNat_add', toNat_sub', toNat_mul', toNat_mod', toNat_div', Int.natCast_inj, Int.reduceLE, Int.reduceLT, Int.reduceGT, Int.reduceGE, Int.reduceNeg, Int.reduceAdd, Int.reduceSub, Int.reduceMul, Int.reduceToNat, Int.toNat_zero, Int.toNat_one, decide_true, decide_false, decide_eq_true_eq, Bool.not_true, Bool.not_false, nums_len, nums_get, nums_get0, nums_take, nums_drop, nums_app, nums_nil_app, nums_snoc, nums_set, splice_all, getD_drop, nums_one, nums_flat, nums_pure, nums_snap, nums_noview, nums_bytes, rep_u8, rep_u32, rep_u64, zeros_u8, zeros_u32, zeros_u64, nums_nil, List.map_replicate, List.drop_replicate, List.replicate_zero, List.drop_zero, List.take_zero, List.take_of_length_le, List.take_succ_cons, List.drop_succ_cons, List.length_append, List.length_take, List.length_drop, List.length_replicate, List.length_set, List.length_map, norm_nil, norm_sl, norm_agg, norm_int, norm_bool, norm_str, te2, te3, te4, te5, te9, te22, te24, te25, te28, te29, te30, te38, te42, te43, te44, te46, te47, te51, te54, te59, te61, te62, te64, E10_te, E10_glob, E10_mu, E10_29, E10_30, E10_33, pf29_at, pf30_at, pf33_at, glob, sumK_len, addL_len, beginL_len, sumK_is, hashB_len]
      exact .same rfl
    · cases hr
  · cases hr

def E11 : Env := (E10.know 32 (fun xs => pf32 (xs.map norm)))
theorem ok11 : EnvOK Tryd.prog E11 := ok10.know sound32.norm
theorem E11_te : E11.te = te := rfl
theorem E11_glob : E11.glob = glob := rfl
theorem E11_mu (d : Nat) : E11.mu d = false := rfl
theorem E11_32 : E11.tbl 32 = some (.val (fun xs => pf32 (xs.map norm))) := rfl
theorem E11_33 : E11.tbl 33 = some (.val pf33') := rfl
def pf17 : List AV → Option AV
  | [a, b] => (agg? .u32 32 8 a).bind fun h => (agg? .u8 8 64 b).bind fun m => some (.agg (nums .u32 (press h m)))
  | _ => none
theorem sound17 : SoundV Tryd.prog glob 17 pf17 := by
  refine SoundV.walk E11 ok11 mixed Tryd.func17 rfl Tryd.call17 (by kernel_rfl) ?_
  intro args r hr
  unfold pf17 at hr
  split at hr
  · simp only [Option.bind_eq_some_iff] at hr
    obtain ⟨h, h1, m, h2, hr⟩ := hr
    cases hr
    obtain ⟨rfl, lh⟩ := agg?_of h1
    obtain ⟨rfl, lm⟩ := agg?_of h2
    rw [Tryd.ntmps17, Tryd.results17]
    refine ⟨by simp, ?_⟩
    simp (maxSteps := 1000000) (disch := first | omega | (simp only [pressK_len, outB_len, lenBs_len, sumK_len, addL_len, beginL_len, hashB_len, nums_len, List.length_cons, List.length_nil, List.length_append, List.length_take, List.length_drop, List.length_replicate, List.length_set, List.length_map] <;> omega) | fail) only [awp_skip, awp_label, awp_exit, awp_ret, awp_seq, awp_region, awp_cond, awp_block, awp_scope, awp_loop, thenQ_nrm, thenQ_ret, thenQ_exit, blockQ_nrm, blockQ_ret, blockQ_exit, bindQ_some, condQ_true, condQ_false, condQ_any, regsO_nil, regsO_cons, stepO_go, wantedV, isWrite, grow, write, ev_tmp, ev_const, ev_global, ev_func, ofV, AV.cells, Abs.start, Abs.strip, endQ, resV, rawsRes, rawRes, exports, export1, ↓bind_go, ↓map_go, if_true, if_false, if_pos, Bool.false_eq_true, AS.grown, AS.put, upd_at, updB_at, updI_at, Bx.own.injEq, Id.mk.injEq, ↓reduceIte, reduceCtorEq, List.getElem?_cons_zero, List.getElem?_cons_succ, List.getElem?_nil, List.toList_toArray, List.map_cons, List.map_nil, and_self, and_true, true_and, false_and, and_false, or_false, or_true, false_or, true_or, not_true_eq_false, not_false_eq_true, Nat.reduceAdd, Nat.reduceSub, Nat.reduceMul, Nat.reduceLT, Nat.reduceLeDiff, Nat.reduceEqDiff, Nat.zero_add, Nat.add_zero, Nat.mul_one, Nat.one_mul, Nat.zero_mul, Nat.sub_zero, Nat.one_ne_zero, Nat.sub_self, Nat.le_refl, Nat.zero_ne_one, Nat.reduceBEq, beq_self_eq_true, List.nodup_nil, List.nodup_cons, List.not_mem_nil, List.nil_append, List.cons_append, Option.isSome_some, Option.isSome_none, Option.some.injEq, List.append_nil, Env.know, Env.boxed, Bool.and_self, Bool.and_true, Bool.true_and, bb_t, bb_f, Bool.false_or, Bool.or_false, bin_int, bin_bool, bin_str, bin_nil, bin_sl, bin_view, bin_ptr, bin_iptr, bin_np, unV_not, unV_any, unV_neg, isSelf, convSelf, convV, loadV, storeV, fieldAddrV, fieldV, indexAddrV, indexV, partV, isAggK, isStr, place, lenV, min2V, makeV, freshSl, sliceV, boundOr, bound, bounds, cutFl, copyV, slCells, srcV, appendV, room, zerosOf, eqNeg, kd, takeR, hasViewL, hasView, freshR, freshC, snapAll, snap, snapL, flatL, pureL, pureA, fillV_go, fillC, arrOK, List.all_cons, List.all_nil, oneA, List.length_cons, List.length_nil, add_u8, sub_u8, mul_u8, and_u8, or_u8, xor_u8, add_u32, sub_u32, mul_u32, and_u32, or_u32, xor_u32, add_u64, sub_u64, mul_u64, and_u64, or_u64, xor_u64, shl_u8, shl_u32, shl_u64, shr_u8, shr_u32, shr_u64, not_u32, rem_i64, quo_i64, shr_i64, rem_u64, quo_u64, add_i64, sub_i64, mul_i64, cmp_i64_lss, cmp_i64_leq, cmp_i64_gtr, cmp_i64_geq, cmp_eql, cmp_neq, wrap_u8, wrap_u16, wrap_u32, wrap_u64, i64_is, bv_back, bvn_back, bv_nat, BitVec.reduceOfInt, Int.toNat_natCast, toNat_add', toNat_sub', toNat_mul', toNat_mod', toNat_div', Int.natCast_inj, Int.reduceLE, Int.reduceLT, Int.reduceGT, Int.reduceGE, Int.reduceNeg, Int.reduceAdd, Int.reduceSub, Int.reduceMul, Int.reduceToNat, Int.toNat_zero, Int.toNat_one, decide_true, decide_false, decide_eq_true_eq, Bool.not_true, Bool.not_false, nums_len, nums_get, nums_get0, nums_take, nums_drop, nums_app, nums_nil_app, nums_snoc, nums_set, splice_all, getD_drop, nums_one, nums_flat, nums_pure, nums_snap, nums_noview, nums_bytes, rep_u8, rep_u32, rep_u64, zeros_u8, zeros_u32, zeros_u64, nums_nil, List.map_replicate, List.drop_replicate, List.replicate_zero, List.drop_zero, List.take_zero, List.take_of_length_le, List.take_succ_cons, List.drop_succ_cons, List.length_append, List.length_take, List.length_drop, List.length_replicate, List.length_set, List.length_map, norm_nil, norm_sl, norm_agg, norm_int, norm_bool, norm_str, te2, te3, te4, te5, te9, te22, te24, te25, te28, te29, te30, te38, te42, te43, te44, te46, te47, te51, te54, te59, te61, te62, te64, E11_te, E11_glob, E11_mu, E11_32, E11_33, pf32_at, pf33_at, glob, addL_len, beginL_len, pressK_len, lh, lm]
    rw [press_is _ _ lh]
    exact .same rfl
  · cases hr
end Go.Proofs.YteooikdcafodfaaDoor
