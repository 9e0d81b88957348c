/- The least that may be: part 1. -/
import Derived.Test.YtjnmdphoaafjaaaQp
namespace Go.Proofs.Ytjnmdphoaafjaaa
set_option linter.unusedSimpArgs false
set_option linter.unusedVariables false
set_option linter.defProp false
open Go Go.Abs
set_option maxHeartbeats 64000000
set_option maxRecDepth 20000
def tbQp10 := (And.intro (And.intro (And.intro (And.intro (And.intro @teE @EL_te) (And.intro @EL_glob (And.intro @EL_gs @EL_dyn))) (And.intro (And.intro @EL_mu @EL_1) (And.intro @EL_13 (And.intro @shown_at @ev4)))) (And.intro (And.intro (And.intro @check_lit @check_lit1) (And.intro @cmdA_nn (And.intro @cmdA_strip @cmdA_snap))) (And.intro (And.intro @cmdA_noview (And.intro @cmdA_take @cmdA_one)) (And.intro @zeroC (And.intro @splice_cmd @dropC))))) (And.intro (And.intro (And.intro (And.intro @l0 @l1) (And.intro @l2 (And.intro @l3 @l4))) (And.intro (And.intro @l5 (And.intro @l6 @l7)) (And.intro @l8 (And.intro @l9 @l10)))) (And.intro (And.intro (And.intro @l11 @bad_s) (And.intro @bad_q (And.intro @bad_i @bad_n))) (And.intro (And.intro @zz0 (And.intro @zz1 @bq1)) (And.intro @undef_is (And.intro @rep1 @one_le))))))
theorem least_fff : SoundV Try.prog glob 9 (pfL false false false) := by
  refine SoundV.walk EL okL mixed Try.func9 rfl Try.call9 (by kernel_rfl) ?_
  intro args r hr
  unfold pfL at hr
  split at hr
  · rename_i n s f
    split at hr
    · rename_i hh
      obtain ⟨o1, o2, o3, dn, ds, df⟩ := hh
      cases hr
      rw [Try.ntmps9, Try.results9]
      refine ⟨by simp, ?_⟩
      have p1 := pos_ok o1 dn
      have p2 := pos_ok o2 ds
      have p3 := pos_ok o3 df
      unfold i64ok at o1 o2 o3
      have k1 := Int.tmod_nonneg 12 p1.1
      have k2 := Int.tmod_lt_of_pos (pos false n) (show (0 : Int) < 12 by decide)
      have j1 := Int.tmod_nonneg 4 p3.1
      have j2 := Int.tmod_lt_of_pos (pos false f) (show (0 : Int) < 4 by decide)
      have a1 := Int.tmod_nonneg 1000 p2.1
      have a2 := Int.tmod_lt_of_pos (pos false s) (show (0 : Int) < 1000 by decide)
      have t1 := Int.tdiv_nonneg p2.1 (show (0 : Int) ≤ 1000 by decide)
      have t2 : (pos false s).tdiv 1000 ≤ 9223372036854775807 := Int.le_trans (Int.tdiv_le_self 1000 p2.1) p2.2
      obtain ⟨k, hk⟩ : ∃ k, (pos false n).tmod 12 = k := ⟨_, rfl⟩
      obtain ⟨j, hj⟩ : ∃ j, (pos false f).tmod 4 = j := ⟨_, rfl⟩
      obtain ⟨a, ha⟩ : ∃ a, (pos false s).tmod 1000 = a := ⟨_, rfl⟩
      obtain ⟨t, ht⟩ : ∃ t, (pos false s).tdiv 1000 = t := ⟨_, rfl⟩
      rw [hk] at k1 k2
      rw [hj] at j1 j2
      rw [ha] at a1 a2
      rw [ht] at t1 t2
      have b1 := Int.tmod_nonneg 1000 t1
      have b2 := Int.tmod_lt_of_pos t (show (0 : Int) < 1000 by decide)
      obtain ⟨b, hb⟩ : ∃ b, t.tmod 1000 = b := ⟨_, rfl⟩
      rw [hb] at b1 b2
      simp only [pos_t, pos_f] at hk hj ha ht p1 p2 p3
      have hk' : k = 0 ∨ k = 1 ∨ k = 2 ∨ k = 3 ∨ k = 4 ∨ k = 5 ∨ k = 6 ∨ k = 7 ∨ k = 8 ∨ k = 9 ∨ k = 10 ∨ k = 11 := by omega
      have hj' : j = 0 ∨ j = 1 ∨ j = 2 ∨ j = 3 := by omega
      rcases hk' with rfl | rfl | rfl | rfl | rfl | rfl | rfl | rfl | rfl | rfl | rfl | rfl <;> rcases hj' with rfl | rfl | rfl | rfl
      all_goals simp (maxSteps := 1000000) (disch := first | omega | assumption | (simp only [updB, dsB, reduceCtorEq, Nat.reduceEqDiff, *]; done) | (simp only [lnB] <;> omega) | fail) only [ev0, ev1, ev2, ev3, ↓reduceIte, reduceCtorEq, Nat.reduceAdd, Nat.reduceSub, Nat.reduceMul, Nat.reduceLT, Nat.reduceLeDiff, Nat.reduceEqDiff, Nat.reduceBEq, BitVec.reduceOfInt, Int.reduceLE, Int.reduceLT, Int.reduceGT, Int.reduceGE, Int.reduceNeg, Int.reduceAdd, Int.reduceSub, Int.reduceMul, Int.reduceToNat, ↓bind_go, ↓map_go, wantedV, isWrite, grow, write, ofV, AV.cells, Abs.start, Abs.strip, endQ, resV, rawsRes, rawRes, exports, export1, AS.grown, AS.put, Env.know, Env.boxed, isSelf, convSelf, convV, loadV, storeV, fieldAddrV, fieldV, indexAddrV, indexV, partV, isAggK, isStr, place, lenV, min2V, makeV, freshSl, sliceV, boundOr, bound, bounds, cutFl, copyV, slCells, srcV, appendV, room, zerosOf, eqNeg, kd, takeR, hasViewL, hasView, freshR, freshC, snapAll, snap, snapL, flatL, pureL, pureA, fillC, arrOK, oneA, partB, AV.laid, ren1, CR.gr, applyW, useL, AS.mute, isGen, startG, ev5, tbQp10, glob, List.drop_succ_cons, List.drop_zero, List.drop_nil, List.map_nil, List.all_nil, intV, Int.reduceEq, if_false, if_true, beq_self_eq_true, Int.reduceBEq, Int.reduceBNe, List.size_toArray, Array.size_empty, List.length_nil, Bool.not_true, Bool.not_false, dn, ds, df, hk, hj, ha, ht, hb]
      all_goals exact ResQ.same rfl
    · cases hr
  · cases hr
theorem least_fft : SoundV Try.prog glob 9 (pfL false false true) := by
  refine SoundV.walk EL okL mixed Try.func9 rfl Try.call9 (by kernel_rfl) ?_
  intro args r hr
  unfold pfL at hr
  split at hr
  · rename_i n s f
    split at hr
    · rename_i hh
      obtain ⟨o1, o2, o3, dn, ds, df⟩ := hh
      cases hr
      rw [Try.ntmps9, Try.results9]
      refine ⟨by simp, ?_⟩
      have p1 := pos_ok o1 dn
      have p2 := pos_ok o2 ds
      have p3 := pos_ok o3 df
      unfold i64ok at o1 o2 o3
      have k1 := Int.tmod_nonneg 12 p1.1
      have k2 := Int.tmod_lt_of_pos (pos false n) (show (0 : Int) < 12 by decide)
      have j1 := Int.tmod_nonneg 4 p3.1
      have j2 := Int.tmod_lt_of_pos (pos true f) (show (0 : Int) < 4 by decide)
      have a1 := Int.tmod_nonneg 1000 p2.1
      have a2 := Int.tmod_lt_of_pos (pos false s) (show (0 : Int) < 1000 by decide)
      have t1 := Int.tdiv_nonneg p2.1 (show (0 : Int) ≤ 1000 by decide)
      have t2 : (pos false s).tdiv 1000 ≤ 9223372036854775807 := Int.le_trans (Int.tdiv_le_self 1000 p2.1) p2.2
      obtain ⟨k, hk⟩ : ∃ k, (pos false n).tmod 12 = k := ⟨_, rfl⟩
      obtain ⟨j, hj⟩ : ∃ j, (pos true f).tmod 4 = j := ⟨_, rfl⟩
      obtain ⟨a, ha⟩ : ∃ a, (pos false s).tmod 1000 = a := ⟨_, rfl⟩
      obtain ⟨t, ht⟩ : ∃ t, (pos false s).tdiv 1000 = t := ⟨_, rfl⟩
      rw [hk] at k1 k2
      rw [hj] at j1 j2
      rw [ha] at a1 a2
      rw [ht] at t1 t2
      have b1 := Int.tmod_nonneg 1000 t1
      have b2 := Int.tmod_lt_of_pos t (show (0 : Int) < 1000 by decide)
      obtain ⟨b, hb⟩ : ∃ b, t.tmod 1000 = b := ⟨_, rfl⟩
      rw [hb] at b1 b2
      simp only [pos_t, pos_f] at hk hj ha ht p1 p2 p3
      have hk' : k = 0 ∨ k = 1 ∨ k = 2 ∨ k = 3 ∨ k = 4 ∨ k = 5 ∨ k = 6 ∨ k = 7 ∨ k = 8 ∨ k = 9 ∨ k = 10 ∨ k = 11 := by omega
      have hj' : j = 0 ∨ j = 1 ∨ j = 2 ∨ j = 3 := by omega
      rcases hk' with rfl | rfl | rfl | rfl | rfl | rfl | rfl | rfl | rfl | rfl | rfl | rfl <;> rcases hj' with rfl | rfl | rfl | rfl
      all_goals simp (maxSteps := 1000000) (disch := first | omega | assumption | (simp only [updB, dsB, reduceCtorEq, Nat.reduceEqDiff, *]; done) | (simp only [lnB] <;> omega) | fail) only [ev0, ev1, ev2, ev3, ↓reduceIte, reduceCtorEq, Nat.reduceAdd, Nat.reduceSub, Nat.reduceMul, Nat.reduceLT, Nat.reduceLeDiff, Nat.reduceEqDiff, Nat.reduceBEq, BitVec.reduceOfInt, Int.reduceLE, Int.reduceLT, Int.reduceGT, Int.reduceGE, Int.reduceNeg, Int.reduceAdd, Int.reduceSub, Int.reduceMul, Int.reduceToNat, ↓bind_go, ↓map_go, wantedV, isWrite, grow, write, ofV, AV.cells, Abs.start, Abs.strip, endQ, resV, rawsRes, rawRes, exports, export1, AS.grown, AS.put, Env.know, Env.boxed, isSelf, convSelf, convV, loadV, storeV, fieldAddrV, fieldV, indexAddrV, indexV, partV, isAggK, isStr, place, lenV, min2V, makeV, freshSl, sliceV, boundOr, bound, bounds, cutFl, copyV, slCells, srcV, appendV, room, zerosOf, eqNeg, kd, takeR, hasViewL, hasView, freshR, freshC, snapAll, snap, snapL, flatL, pureL, pureA, fillC, arrOK, oneA, partB, AV.laid, ren1, CR.gr, applyW, useL, AS.mute, isGen, startG, ev5, tbQp10, glob, List.drop_succ_cons, List.drop_zero, List.drop_nil, List.map_nil, List.all_nil, intV, Int.reduceEq, if_false, if_true, beq_self_eq_true, Int.reduceBEq, Int.reduceBNe, List.size_toArray, Array.size_empty, List.length_nil, Bool.not_true, Bool.not_false, dn, ds, df, hk, hj, ha, ht, hb]
      all_goals exact ResQ.same rfl
    · cases hr
  · cases hr
end Go.Proofs.Ytjnmdphoaafjaaa
