/- DrbgBytes, DrbgSeeds: what their walks come to. -/
import Derived.Test.YtddeffdgldjdjaaDoorJf
namespace Go.Proofs.YtddeffdgldjdjaaDoor
set_option linter.unusedSimpArgs false
set_option linter.unusedVariables false
set_option linter.defProp false
open Go Go.Abs
set_option maxHeartbeats 16000000
theorem sum_hm (a b : List (BitVec 8)) : sumB a b = hmF a b := by rw [hmF_is]
theorem snocz (l : List (BitVec 8)) : nums .u8 l ++ [.raw (.int .u8 0)] = nums .u8 (l ++ [0#8]) := nums_snoc l 0#8
theorem snoco (l : List (BitVec 8)) : nums .u8 l ++ [.raw (.int .u8 1)] = nums .u8 (l ++ [1#8]) := nums_snoc l 1#8
theorem re_k0 {s : Src} {m : List (BitVec 8)} (h : m.length = 0) : (reS s m).k = hmF s.k (s.v ++ [0#8] ++ m) := by simp only [reS, updS, if_pos h, upd1]
theorem re_v0 {s : Src} {m : List (BitVec 8)} (h : m.length = 0) : (reS s m).v = hmF (hmF s.k (s.v ++ [0#8] ++ m)) s.v := by simp only [reS, updS, if_pos h, upd1]
theorem re_k1 {s : Src} {m : List (BitVec 8)} (h : ¬ m.length = 0) : (reS s m).k = hmF (hmF s.k (s.v ++ [0#8] ++ m)) (hmF (hmF s.k (s.v ++ [0#8] ++ m)) s.v ++ [1#8] ++ m) := by simp only [reS, updS, if_neg h, upd1]
theorem re_v1 {s : Src} {m : List (BitVec 8)} (h : ¬ m.length = 0) : (reS s m).v = hmF (hmF (hmF s.k (s.v ++ [0#8] ++ m)) (hmF (hmF s.k (s.v ++ [0#8] ++ m)) s.v ++ [1#8] ++ m)) (hmF (hmF s.k (s.v ++ [0#8] ++ m)) s.v) := by simp only [reS, updS, if_neg h, upd1]
theorem re_c {s : Src} {m : List (BitVec 8)} : (reS s m).c = 1 := rfl
theorem stpN_k (s : Src) : ∀ n, (stpN s n).k = s.k
  | 0 => rfl
  | n + 1 => by simp only [stpN, stp]; exact stpN_k s n
def tbJg0 := (And.intro (And.intro (And.intro (And.intro (And.intro @teE @EL1_te) (And.intro @EL1_glob (And.intro @EL1_gs @EL1_dyn))) (And.intro (And.intro @EL1_mu @EL1_st) (And.intro @EL1_of (And.intro @EL1_d @EL1_r)))) (And.intro (And.intro (And.intro @EL1_h @EL1_f) (And.intro @EL1_k (And.intro @EL1_s @c00))) (And.intro (And.intro @asb0 (And.intro @src_eta @shown7)) (And.intro @xfew_at (And.intro @xkind_at @of_go))))) (And.intro (And.intro (And.intro (And.intro @draw0_no @draw0_go) (And.intro @re_go (And.intro @eq_s @hm_len))) (And.intro (And.intro @norm_ptr @norm_nil) (And.intro @norm_sl (And.intro @norm_int @sr_pure)))) (And.intro (And.intro (And.intro @sr_strip @sr_ren) (And.intro @ns_strip (And.intro @ns_set @nums_ren))) (And.intro (And.intro @sp32 (And.intro @tk32 @pf25_at)) (And.intro @sum_hm (And.intro @snocz @snoco))))))
set_option maxRecDepth 100000 in
theorem sound5 : SoundV Tryd.prog globS 5 (op3 (fun _ _ _ _ _ => true)) := by
  refine SoundV.walk EL1 okL1 mixed Tryd.func5 rfl Tryd.call5 (by kernel_rfl) ?_
  intro args r hr
  unfold op3 at hr
  split at hr
  · rename_i k v x y w
    simp only [Option.bind_eq_some_iff] at hr
    obtain ⟨k, h1, v, h2, c, h3, n, h4, b, h5, hr⟩ := hr
    split at hr
    · rename_i hc
      obtain ⟨⟨hc, hn⟩, hbl⟩ := hc
      have hc1 := hc.1
      have hc2 := hc.2
      cases hr
      obtain ⟨rfl, hk⟩ := agg?_of h1
      obtain ⟨rfl, hv⟩ := agg?_of h2
      obtain ⟨fl, rfl⟩ := row?_of h5
      rw [int?_of h3, int?_of h4]
      have hb3 : (b.take 300).length ≤ 300 := by rw [List.length_take]; exact Nat.min_le_left _ _
      obtain ⟨m, hm⟩ : ∃ m, b.take 300 = m := ⟨_, rfl⟩
      rw [hm] at hb3
      have hml : m.length ≤ 100000 := by omega
      have w0 : wfS ⟨k, v, c⟩ := ⟨hk, hv, hc.1, hc.2⟩
      have q0 := src?_at w0
      rw [Tryd.ntmps5, Tryd.results5]
      refine ⟨by simp, ?_⟩
      have w1 := reS_wf w0 m
      have t1 := state_at w1
      rw [re_c] at t1
      by_cases h0 : m.length = 0
      · have e1 : decide ((m.length : Int) > 0) = false := decide_eq_false (by omega)
        rw [re_k0 h0, re_v0 h0] at t1
        dsimp only at t1
        clear w0 w1
        simp (maxSteps := 1000000) (disch := first | omega | (simp only [updB, updI, dsB, reduceCtorEq, Nat.reduceEqDiff, Abs.Id.mk.injEq, and_false, false_and, and_true, true_and, if_false, ↓reduceIte, Option.isSome_some, *]; done) | (simp only [nums_len, sr_len, hm_len, List.length_append, List.length_cons, List.length_nil, lnB] <;> omega) | fail) only [ev0, ev1, ev2, ev3, ↓reduceIte, reduceCtorEq, Nat.reduceAdd, Nat.reduceSub, Nat.reduceMul, Nat.reduceLT, Nat.reduceLeDiff, Nat.reduceEqDiff, Nat.reduceBEq, BitVec.reduceOfInt, Int.reduceLE, Int.reduceLT, Int.reduceGT, Int.reduceGE, Int.reduceNeg, Int.reduceAdd, Int.reduceSub, Int.reduceMul, Int.reduceToNat, ↓bind_go, ↓map_go, wantedV, isWrite, grow, write, ofV, AV.cells, Abs.start, Abs.strip, endQ, resV, rawsRes, rawRes, exports, export1, AS.grown, AS.put, Env.know, Env.boxed, isSelf, convSelf, convV, loadV, storeV, fieldAddrV, fieldV, indexAddrV, indexV, partV, isAggK, isStr, place, ipS, lenV, min2V, makeV, freshSl, sliceV, boundOr, bound, bounds, cutFl, copyV, slCells, srcV, appendV, room, zerosOf, eqNeg, kd, takeR, hasViewL, hasView, freshR, freshC, snapAll, snap, snapL, flatL, pureL, pureA, fillC, arrOK, oneA, partB, AV.laid, ren1, CR.gr, applyW, useL, AS.mute, isGen, startG, ev5, tbJg0, globS, Bx.own.injEq, and_false, false_and, and_true, true_and, Int.reduceBEq, Int.reduceBNe, beq_self_eq_true, hk, hv, hm, q0, t1, e1]
        exact ResQ.same rfl
      · have e1 : decide ((m.length : Int) > 0) = true := decide_eq_true (by omega)
        rw [re_k1 h0, re_v1 h0] at t1
        dsimp only at t1
        clear w0 w1
        simp (maxSteps := 1000000) (disch := first | omega | (simp only [updB, updI, dsB, reduceCtorEq, Nat.reduceEqDiff, Abs.Id.mk.injEq, and_false, false_and, and_true, true_and, if_false, ↓reduceIte, Option.isSome_some, *]; done) | (simp only [nums_len, sr_len, hm_len, List.length_append, List.length_cons, List.length_nil, lnB] <;> omega) | fail) only [ev0, ev1, ev2, ev3, ↓reduceIte, reduceCtorEq, Nat.reduceAdd, Nat.reduceSub, Nat.reduceMul, Nat.reduceLT, Nat.reduceLeDiff, Nat.reduceEqDiff, Nat.reduceBEq, BitVec.reduceOfInt, Int.reduceLE, Int.reduceLT, Int.reduceGT, Int.reduceGE, Int.reduceNeg, Int.reduceAdd, Int.reduceSub, Int.reduceMul, Int.reduceToNat, ↓bind_go, ↓map_go, wantedV, isWrite, grow, write, ofV, AV.cells, Abs.start, Abs.strip, endQ, resV, rawsRes, rawRes, exports, export1, AS.grown, AS.put, Env.know, Env.boxed, isSelf, convSelf, convV, loadV, storeV, fieldAddrV, fieldV, indexAddrV, indexV, partV, isAggK, isStr, place, ipS, lenV, min2V, makeV, freshSl, sliceV, boundOr, bound, bounds, cutFl, copyV, slCells, srcV, appendV, room, zerosOf, eqNeg, kd, takeR, hasViewL, hasView, freshR, freshC, snapAll, snap, snapL, flatL, pureL, pureA, fillC, arrOK, oneA, partB, AV.laid, ren1, CR.gr, applyW, useL, AS.mute, isGen, startG, ev5, tbJg0, globS, Bx.own.injEq, and_false, false_and, and_true, true_and, Int.reduceBEq, Int.reduceBNe, beq_self_eq_true, hk, hv, hm, q0, t1, e1]
        exact ResQ.same rfl
    · cases hr
  · cases hr
end Go.Proofs.YtddeffdgldjdjaaDoor
