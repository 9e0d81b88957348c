/- A source of bytes: made, drawn from: what the walks come to. -/
import Derived.Test.YtddeffdgldjdjaaDoorJb
namespace Go.Proofs.YtddeffdgldjdjaaDoor
set_option linter.unusedSimpArgs false
set_option linter.unusedVariables false
set_option linter.defProp false
open Go Go.Abs
set_option maxHeartbeats 16000000
def z32 : List (BitVec 8) := List.replicate 32 0#8
theorem z32_len : z32.length = 32 := rfl
theorem sr_strip (p : Src) : (srA p).map strip = srA p := by
  simp only [srA, List.map_append, nums_strip, List.map_cons, List.map_nil, strip]
theorem zeros_src : List.replicate 64 (AV.raw (.int .u8 0)) ++ [AV.raw (.int .i64 0)] = srA ⟨z32, z32, 0⟩ := rfl
theorem zeros_src' : nums .u8 (List.replicate 64 0#8) ++ [AV.raw (.int .i64 0)] = srA ⟨z32, z32, 0⟩ := rfl
theorem d65 : List.drop 65 (srA ⟨z32, z32, 0⟩) = [] := List.drop_of_length_le (by rw [sr_len]; exact Nat.le_refl _)
theorem sound20 : SoundG Tryd.prog globS 20 go20 := by
  refine SoundG.walk EV okV mixed Tryd.func20 rfl Tryd.call20 (by kernel_rfl) ?_
  intro args bx us cr hr
  unfold go20 at hr
  split at hr
  · rename_i k v x
    simp only [Option.bind_eq_some_iff] at hr
    obtain ⟨k, h1, v, h2, c, h3, hr⟩ := hr
    cases hr
    obtain ⟨rfl, hk⟩ := agg?_of h1
    obtain ⟨rfl, hv⟩ := agg?_of h2
    rw [int?_of h3, Tryd.ntmps20, Tryd.results20]
    refine ⟨by simp, fun L hlow hus hbf => ?_⟩
    simp (maxSteps := 1000000) (disch := first | omega | (simp only [updB, updI, dsB, reduceCtorEq, Nat.reduceEqDiff, Abs.Id.mk.injEq, and_false, false_and, and_true, true_and, if_false, ↓reduceIte, Option.isSome_some, *]; done) | (simp only [nums_len, sr_len, hm_len, lnB] <;> omega) | fail) only [ev0, ev1, ev2, ev3, ↓reduceIte, reduceCtorEq, Nat.reduceAdd, Nat.reduceSub, Nat.reduceMul, Nat.reduceLT, Nat.reduceLeDiff, Nat.reduceEqDiff, Nat.reduceBEq, BitVec.reduceOfInt, Int.reduceLE, Int.reduceLT, Int.reduceGT, Int.reduceGE, Int.reduceNeg, Int.reduceAdd, Int.reduceSub, Int.reduceMul, Int.reduceToNat, ↓bind_go, ↓map_go, wantedV, isWrite, grow, write, ofV, AV.cells, Abs.start, Abs.strip, endQ, resV, rawsRes, rawRes, exports, export1, AS.grown, AS.put, Env.know, Env.boxed, isSelf, convSelf, convV, loadV, storeV, fieldAddrV, fieldV, indexAddrV, indexV, partV, isAggK, isStr, place, ipS, lenV, min2V, makeV, freshSl, sliceV, boundOr, bound, bounds, cutFl, copyV, slCells, srcV, appendV, room, zerosOf, eqNeg, kd, takeR, hasViewL, hasView, freshR, freshC, snapAll, snap, snapL, flatL, pureL, pureA, fillC, arrOK, oneA, partB, AV.laid, ren1, CR.gr, applyW, useL, AS.mute, isGen, startG, ev5, teE, d65, srA_mk, sr_strip, List.append_nil, EV_te, EV_glob, EV_gs, EV_dyn, EV_mu, EV_s, EV_u, zeros_src, zeros_src', z32_len, sr_len, sr_tk, sr_v, sr_v', sr_dk, sr_c, spl_k, spl_v, spl_c, set_c, sr_ren, ns_strip, ns_set, nums_ren, sp32, tk32, globS, hm_len, own_ne, own_ne', Bx.own.injEq, and_false, false_and, and_true, true_and, List.map_append, List.map_cons, List.map_nil, hk, hv]
    change EndG _ _ _ _ _ _ _
    refine EndG.new (b := .own L 11 1) [.ptr (.own L 11 1) 0] [_] rfl (.one (.newp _ _ rfl)) rfl rfl (fun b' h1 => ?_) updB_self (ExpL.same (sr_low _)) (fun _ _ => rfl)
    simp only [updB, own_ne h1, if_false]
  · cases hr
/-- a new source -/
noncomputable def newS (m : List (BitVec 8)) : Src := reS ⟨z32, List.replicate 32 1#8, 0⟩ m
theorem newS_wf (m : List (BitVec 8)) : wfS (newS m) := reS_wf ⟨rfl, rfl, by decide, by decide⟩ m
noncomputable def gn27 (args : List AV) (bx : Boxes) (us : Abs.Id → Bool) : Option CR := match args with
  | [w] => (row? .u8 8 w).bind fun m => if m.length ≤ 100000 then some { v := .ret (.ptr (.own 0 0 0) 0), cont := some (srA (newS m)) } else none
  | _ => none
noncomputable def EVN : Env := EV.knowG 26 gr26
theorem okVN : EnvOK Tryd.prog EVN := okV.knowG sound26
theorem EVN_te : EVN.te = te := rfl
theorem EVN_glob : EVN.glob = globS := rfl
theorem EVN_gs : EVN.gs = [26, 58, 59] := rfl
theorem EVN_dyn : EVN.dyn = false := rfl
theorem EVN_mu (d : Nat) : EVN.mu d = false := rfl
theorem EVN_r : EVN.tbl 26 = some (.gen gr26) := rfl
theorem re_go {b : Bx} {f : Fl} {n : Nat} {m : List (BitVec 8)} {bx : Boxes} {us : Abs.Id → Bool} (hn : n = m.length) (hl : m.length ≤ 100000) :
    gr26 [.ptr b 0, .sl n (nums .u8 m) f] bx us = (bx b).bind fun cs => (src? cs).bind fun s => some { v := .ret (.tup []), wr := [(b, srA (reS s m))] } := by
  simp only [gr26, row?_at hn, Option.bind_some, if_pos hl]
/-- ones, laid one by one -/
def oneK : Nat → List (BitVec 8)
  | 0 => z32
  | k + 1 => (oneK k).set k 1#8
theorem oneK_len (k : Nat) : (oneK k).length = 32 := by
  induction k with
  | zero => rfl
  | succ k ih => rw [oneK, List.length_set, ih]
theorem oneK_32 : oneK 32 = List.replicate 32 1#8 := by decide +kernel
theorem set_one {k : Nat} (h : k < 32) : (srA ⟨z32, oneK k, 0⟩).set (32 + k) (.raw (.int .u8 1)) = srA ⟨z32, oneK (k + 1), 0⟩ := by
  simp only [srA]
  rw [List.set_append_right _ _ (by simp only [nums_len, z32_len]; omega), List.set_append_left _ _ (by simp only [nums_len, z32_len, oneK_len]; omega)]
  simp only [nums_len, z32_len, Nat.add_sub_cancel_left, oneK]
  have := nums_set8 (oneK k) k 1#8
  simp only [← this]; rfl
theorem src_ones : src? (srA ⟨z32, List.replicate 32 1#8, 0⟩) = some ⟨z32, List.replicate 32 1#8, 0⟩ := src?_mk rfl rfl (by decide) (by decide)
theorem sr_len3 {k v : List (BitVec 8)} {c : Int} (h1 : k.length = 32) (h2 : v.length = 32) : (srA ⟨k, v, c⟩).length = 65 := by rw [sr_len]; dsimp only; omega
def tbJc1 := (And.intro (And.intro (And.intro (And.intro (And.intro @teE @EVN_te) (And.intro @EVN_glob @EVN_gs)) (And.intro (And.intro @EVN_dyn @EVN_mu) (And.intro @EVN_r @re_go))) (And.intro (And.intro (And.intro @sr_strip @src_ones) (And.intro @zeros_src @zeros_src')) (And.intro (And.intro @z32_len @oneK_len) (And.intro @sr_len (And.intro @sr_tk @sr_v))))) (And.intro (And.intro (And.intro (And.intro @sr_v' @sr_dk) (And.intro @sr_c @spl_k)) (And.intro (And.intro @spl_v @spl_c) (And.intro @set_c @set_one))) (And.intro (And.intro (And.intro @sr_ren @ns_strip) (And.intro @ns_set @nums_ren)) (And.intro (And.intro @sp32 @tk32) (And.intro @hm_len (And.intro @own_ne @own_ne'))))))
theorem sound27 : SoundG Tryd.prog globS 27 gn27 := by
  refine SoundG.walk EVN okVN mixed Tryd.func27 rfl Tryd.call27 (by kernel_rfl) ?_
  intro args bx us cr hr
  unfold gn27 at hr
  split at hr
  · rename_i w
    simp only [Option.bind_eq_some_iff] at hr
    obtain ⟨m, hm, hr⟩ := hr
    split at hr
    · rename_i hl
      cases hr
      obtain ⟨fl, rfl⟩ := row?_of hm
      rw [Tryd.ntmps27, Tryd.results27]
      refine ⟨by simp, fun L hlow hus hbf => ?_⟩
      simp (maxSteps := 1000000) (disch := first | omega | (simp only [updB, updI, dsB, reduceCtorEq, Nat.reduceEqDiff, Abs.Id.mk.injEq, and_false, false_and, and_true, true_and, if_false, ↓reduceIte, Option.isSome_some, *]; done) | (simp only [nums_len, sr_len, hm_len, oneK_len, z32_len, lnB] <;> omega) | fail) only [ev0, ev1, ev2, ev3, ↓reduceIte, reduceCtorEq, Nat.reduceAdd, Nat.reduceSub, Nat.reduceMul, Nat.reduceLT, Nat.reduceLeDiff, Nat.reduceEqDiff, Nat.reduceBEq, BitVec.reduceOfInt, Int.reduceLE, Int.reduceLT, Int.reduceGT, Int.reduceGE, Int.reduceNeg, Int.reduceAdd, Int.reduceSub, Int.reduceMul, Int.reduceToNat, ↓bind_go, ↓map_go, wantedV, isWrite, grow, write, ofV, AV.cells, Abs.start, Abs.strip, endQ, resV, rawsRes, rawRes, exports, export1, AS.grown, AS.put, Env.know, Env.boxed, isSelf, convSelf, convV, loadV, storeV, fieldAddrV, fieldV, indexAddrV, indexV, partV, isAggK, isStr, place, ipS, lenV, min2V, makeV, freshSl, sliceV, boundOr, bound, bounds, cutFl, copyV, slCells, srcV, appendV, room, zerosOf, eqNeg, kd, takeR, hasViewL, hasView, freshR, freshC, snapAll, snap, snapL, flatL, pureL, pureA, fillC, arrOK, oneA, partB, AV.laid, ren1, CR.gr, applyW, useL, AS.mute, isGen, startG, ev5, tbJc1, src?_mk, globS, Bx.own.injEq, and_false, false_and, and_true, true_and, List.map_append, List.map_cons, List.map_nil]
      refine loopQ_of (fun n' σ => ∃ k, k ≤ 32 ∧ n' = 32 - k ∧ σ.slots 7 = .raw (.int .i64 (k : Int)) ∧ σ.slots 3 = .ptr (.own L 6 1) 0 ∧ σ.slots 0 = .sl m.length (nums .u8 m) fl ∧ σ.box (.own L 6 1) = some (srA ⟨z32, oneK k, 0⟩) ∧ (∀ b, b.lvl < L → σ.box b = bx b) ∧ (∀ i, i.lvl < L → σ.used i = us i)) 32 ?_ ?_
      · refine ⟨0, by omega, by omega, ?_⟩
        simp (maxSteps := 1000000) (disch := first | omega | (simp only [updB, updI, dsB, reduceCtorEq, Nat.reduceEqDiff, Abs.Id.mk.injEq, and_false, false_and, and_true, true_and, if_false, ↓reduceIte, Option.isSome_some, *]; done) | (simp only [nums_len, sr_len, hm_len, oneK_len, z32_len, lnB] <;> omega) | fail) only [ev0, ev1, ev2, ev3, ↓reduceIte, reduceCtorEq, Nat.reduceAdd, Nat.reduceSub, Nat.reduceMul, Nat.reduceLT, Nat.reduceLeDiff, Nat.reduceEqDiff, Nat.reduceBEq, BitVec.reduceOfInt, Int.reduceLE, Int.reduceLT, Int.reduceGT, Int.reduceGE, Int.reduceNeg, Int.reduceAdd, Int.reduceSub, Int.reduceMul, Int.reduceToNat, ↓bind_go, ↓map_go, wantedV, isWrite, grow, write, ofV, AV.cells, Abs.start, Abs.strip, endQ, resV, rawsRes, rawRes, exports, export1, AS.grown, AS.put, Env.know, Env.boxed, isSelf, convSelf, convV, loadV, storeV, fieldAddrV, fieldV, indexAddrV, indexV, partV, isAggK, isStr, place, ipS, lenV, min2V, makeV, freshSl, sliceV, boundOr, bound, bounds, cutFl, copyV, slCells, srcV, appendV, room, zerosOf, eqNeg, kd, takeR, hasViewL, hasView, freshR, freshC, snapAll, snap, snapL, flatL, pureL, pureA, fillC, arrOK, oneA, partB, AV.laid, ren1, CR.gr, applyW, useL, AS.mute, isGen, startG, ev5, tbJc1, src?_mk, globS, Bx.own.injEq, and_false, false_and, and_true, true_and, List.map_append, List.map_cons, List.map_nil]
        exact ⟨rfl, rfl, fun b hb' => by simp only [updB, own_ne hb', if_false], fun _ _ => trivial⟩
      · rintro n' ⟨sl, gn, bx1, us1⟩ ⟨k, hk, rfl, s7, s3, s0, b6, hbx, hux⟩
        dsimp only at s7 s3 s0 b6 hbx hux
        simp (maxSteps := 1000000) (disch := first | omega | (simp only [updB, updI, dsB, reduceCtorEq, Nat.reduceEqDiff, Abs.Id.mk.injEq, and_false, false_and, and_true, true_and, if_false, ↓reduceIte, Option.isSome_some, *]; done) | (simp only [nums_len, sr_len, hm_len, oneK_len, z32_len, lnB] <;> omega) | fail) only [ev0, ev1, ev2, ev3, ↓reduceIte, reduceCtorEq, Nat.reduceAdd, Nat.reduceSub, Nat.reduceMul, Nat.reduceLT, Nat.reduceLeDiff, Nat.reduceEqDiff, Nat.reduceBEq, BitVec.reduceOfInt, Int.reduceLE, Int.reduceLT, Int.reduceGT, Int.reduceGE, Int.reduceNeg, Int.reduceAdd, Int.reduceSub, Int.reduceMul, Int.reduceToNat, ↓bind_go, ↓map_go, wantedV, isWrite, grow, write, ofV, AV.cells, Abs.start, Abs.strip, endQ, resV, rawsRes, rawRes, exports, export1, AS.grown, AS.put, Env.know, Env.boxed, isSelf, convSelf, convV, loadV, storeV, fieldAddrV, fieldV, indexAddrV, indexV, partV, isAggK, isStr, place, ipS, lenV, min2V, makeV, freshSl, sliceV, boundOr, bound, bounds, cutFl, copyV, slCells, srcV, appendV, room, zerosOf, eqNeg, kd, takeR, hasViewL, hasView, freshR, freshC, snapAll, snap, snapL, flatL, pureL, pureA, fillC, arrOK, oneA, partB, AV.laid, ren1, CR.gr, applyW, useL, AS.mute, isGen, startG, ev5, tbJc1, src?_mk, globS, Bx.own.injEq, and_false, false_and, and_true, true_and, List.map_append, List.map_cons, List.map_nil, s7, s3, s0, b6]
        refine condQ_dec (fun hlt => ?_) (fun hge => ?_)
        · have hlt : k < 32 := by omega
          have hi : (k : Int) < 32 := by omega
          simp (maxSteps := 1000000) (disch := first | omega | (simp only [updB, updI, dsB, reduceCtorEq, Nat.reduceEqDiff, Abs.Id.mk.injEq, and_false, false_and, and_true, true_and, if_false, ↓reduceIte, Option.isSome_some, *]; done) | (simp only [nums_len, sr_len, hm_len, oneK_len, z32_len, lnB] <;> omega) | fail) only [ev0, ev1, ev2, ev3, ↓reduceIte, reduceCtorEq, Nat.reduceAdd, Nat.reduceSub, Nat.reduceMul, Nat.reduceLT, Nat.reduceLeDiff, Nat.reduceEqDiff, Nat.reduceBEq, BitVec.reduceOfInt, Int.reduceLE, Int.reduceLT, Int.reduceGT, Int.reduceGE, Int.reduceNeg, Int.reduceAdd, Int.reduceSub, Int.reduceMul, Int.reduceToNat, ↓bind_go, ↓map_go, wantedV, isWrite, grow, write, ofV, AV.cells, Abs.start, Abs.strip, endQ, resV, rawsRes, rawRes, exports, export1, AS.grown, AS.put, Env.know, Env.boxed, isSelf, convSelf, convV, loadV, storeV, fieldAddrV, fieldV, indexAddrV, indexV, partV, isAggK, isStr, place, ipS, lenV, min2V, makeV, freshSl, sliceV, boundOr, bound, bounds, cutFl, copyV, slCells, srcV, appendV, room, zerosOf, eqNeg, kd, takeR, hasViewL, hasView, freshR, freshC, snapAll, snap, snapL, flatL, pureL, pureA, fillC, arrOK, oneA, partB, AV.laid, ren1, CR.gr, applyW, useL, AS.mute, isGen, startG, ev5, tbJc1, src?_mk, globS, Bx.own.injEq, and_false, false_and, and_true, true_and, List.map_append, List.map_cons, List.map_nil, s7, s3, s0, b6, hlt, hi, sr_len3 z32_len (oneK_len k)]
          refine ⟨32 - (k + 1), by omega, k + 1, by omega, rfl, rfl, rfl, fun b hb' => ?_, hux⟩
          simp only [updB, own_ne hb', if_false, hbx b hb']
        · have hk : k = 32 := by omega
          subst hk
          rw [oneK_32] at b6
          simp (maxSteps := 1000000) (disch := first | omega | (simp only [updB, updI, dsB, reduceCtorEq, Nat.reduceEqDiff, Abs.Id.mk.injEq, and_false, false_and, and_true, true_and, if_false, ↓reduceIte, Option.isSome_some, *]; done) | (simp only [nums_len, sr_len, hm_len, oneK_len, z32_len, lnB] <;> omega) | fail) only [ev0, ev1, ev2, ev3, ↓reduceIte, reduceCtorEq, Nat.reduceAdd, Nat.reduceSub, Nat.reduceMul, Nat.reduceLT, Nat.reduceLeDiff, Nat.reduceEqDiff, Nat.reduceBEq, BitVec.reduceOfInt, Int.reduceLE, Int.reduceLT, Int.reduceGT, Int.reduceGE, Int.reduceNeg, Int.reduceAdd, Int.reduceSub, Int.reduceMul, Int.reduceToNat, ↓bind_go, ↓map_go, wantedV, isWrite, grow, write, ofV, AV.cells, Abs.start, Abs.strip, endQ, resV, rawsRes, rawRes, exports, export1, AS.grown, AS.put, Env.know, Env.boxed, isSelf, convSelf, convV, loadV, storeV, fieldAddrV, fieldV, indexAddrV, indexV, partV, isAggK, isStr, place, ipS, lenV, min2V, makeV, freshSl, sliceV, boundOr, bound, bounds, cutFl, copyV, slCells, srcV, appendV, room, zerosOf, eqNeg, kd, takeR, hasViewL, hasView, freshR, freshC, snapAll, snap, snapL, flatL, pureL, pureA, fillC, arrOK, oneA, partB, AV.laid, ren1, CR.gr, applyW, useL, AS.mute, isGen, startG, ev5, tbJc1, src?_mk, globS, Bx.own.injEq, and_false, false_and, and_true, true_and, List.map_append, List.map_cons, List.map_nil, s7, s3, s0, b6, hl]
          change EndG _ _ _ _ _ _ _
          refine EndG.new (b := .own L 6 1) [.ptr (.own L 6 1) 0] [_] rfl (.one (.newp _ _ rfl)) rfl rfl (fun b' h1 => ?_) updB_self (ExpL.same (sr_low _)) hux
          simp only [updB, own_ne h1, if_false, hbx b' h1]
    · cases hr
  · cases hr
end Go.Proofs.YtddeffdgldjdjaaDoor
