/- What the document writes of an entry, and reads as a reply. -/
import Derived.Test.YtjnmdphoaafjaaaPz
import Derived.Test.YtjnmdphoaafjaaaQh
import Derived.Test.YtjnmdphoaafjaaaQc
namespace Go.Proofs.Ytjnmdphoaafjaaa
set_option linter.unusedSimpArgs false
set_option linter.unusedVariables false
set_option linter.defProp false
open Go Go.Abs
set_option maxHeartbeats 8000000
noncomputable def pfEn : List AV → Option AV
  | [.agg cs] => (ent? (cs.map strip)).bind fun c => open Classical in if (c.d.isSome ∧ c.m.isSome) ∧ okN c then some (.tup [.sl (entR c).1.length (nums .u8 (entR c).1) .bor, .raw (.int .i64 (entR c).2)]) else none
  | _ => none
theorem rentry_at {c : Eny} (h : okN c) : pfEn (List.map norm3 [.agg (entA c)]) = some (.tup [.sl (entR c).1.length (nums .u8 (entR c).1) .bor, .raw (.int .i64 (entR c).2)]) := by
  simp only [List.map_cons, List.map_nil, norm3, ent_norm, pfEn, entA_strip, ent?_at, Option.bind_some]
  exact if_pos ⟨⟨rfl, rfl⟩, h⟩
theorem neg_snoc {m : List Int} {j : Nat} (h : j < m.length) : neg (m.take (j + 1)) = (neg (m.take j) || !decide (m.getD j 0 ≥ 0)) := by
  have e : m.take (j + 1) = m.take j ++ [m.getD j 0] := by
    rw [List.take_add_one, List.getD_eq_getElem?_getD, List.getElem?_eq_getElem h]; rfl
  rw [e, neg, neg, List.any_append]
  congr 1
  simp only [List.any_cons, List.any_nil, Bool.or_false]
  by_cases h0 : m.getD j 0 < 0
  · rw [decide_eq_true h0, decide_eq_false (by omega)]; rfl
  · rw [decide_eq_false h0, decide_eq_true (by omega)]; rfl
def tbQe0 := (And.intro (And.intro (And.intro (And.intro (And.intro (And.intro @teE @cmdA_strip) (And.intro @repA_strip @entA_strip)) (And.intro (And.intro @cmdA_snap @repA_snap) (And.intro @entA_snap (And.intro @cmdA_noview @repA_noview)))) (And.intro (And.intro (And.intro @entA_noview @cmdA_take) (And.intro @cmdA_one @repA_take)) (And.intro (And.intro @repA_one @entA_take) (And.intro @entA_one (And.intro @dropC @dropR))))) (And.intro (And.intro (And.intro (And.intro @dropE @zeroC) (And.intro @zeroR @zeroE)) (And.intro (And.intro @splice_cmd @splice_cmd') (And.intro @splice_rep (And.intro @splice_rep' @splice_ent)))) (And.intro (And.intro (And.intro @splice_ent' @cmdA_len) (And.intro @repA_len @entA_len)) (And.intro (And.intro @rep1 @rep2) (And.intro @rep3 (And.intro @rep5 @one_le)))))) (And.intro (And.intro (And.intro (And.intro (And.intro @le2 @le3) (And.intro @le5 @dr1)) (And.intro (And.intro @dr2 @dr3) (And.intro @dr5 (And.intro @EB_te @EB_glob)))) (And.intro (And.intro (And.intro @EB_gs @EB_dyn) (And.intro @EB_mu @EB_12)) (And.intro (And.intro @EB_14 @EB_16) (And.intro @EB_18 (And.intro @EB_21 @EB_23))))) (And.intro (And.intro (And.intro (And.intro @ev4 @check_at) (And.intro @text_at @text_long)) (And.intro (And.intro @text_nil @list_at) (And.intro @list_nil (And.intro @pf129_at @put_nil)))) (And.intro (And.intro (And.intro @take_at @ttake_at) (And.intro @ltake_at @zz0)) (And.intro (And.intro @zz1 @entA_0) (And.intro @entA_1 (And.intro @entA_2 @entA_3)))))))
set_option maxRecDepth 4000 in
theorem sound62 : SoundV Try.prog glob 62 pfEn := by
  refine SoundV.walk EB okB mixed Try.func62 rfl Try.call62 (by kernel_rfl) ?_
  intro args r hr
  unfold pfEn at hr
  split at hr
  · rename_i cs
    simp only [Option.bind_eq_some_iff] at hr
    obtain ⟨c, hc, hr⟩ := hr
    split at hr
    · rename_i hn
      cases hr
      have hcs := ent?_of hc
      rw [Try.ntmps62, Try.results62]
      refine ⟨by simp, ?_⟩
      obtain ⟨t, k, d, m⟩ := c
      obtain ⟨⟨g1, g2⟩, o1, o2, o3⟩ := hn
      obtain ⟨d, rfl⟩ := Option.isSome_iff_exists.1 g1
      obtain ⟨m, rfl⟩ := Option.isSome_iff_exists.1 g2
      simp only [dat, idat] at o1 o2 o3
      obtain ⟨o, ho⟩ : ∃ o, o = (inW t 0 1099511627776 && inW k 0 2) := ⟨_, rfl⟩
      have hbad : badE ⟨t, k, some d, some m⟩ = !(o && !neg m) := by
        rw [ho]; simp only [badE, idat]
        cases inW t 0 1099511627776 <;> cases inW k 0 2 <;> cases neg m <;> rfl
      have h5 : (decide (t ≥ 0) = false ∧ o = false) ∨ (decide (t ≥ 0) = true ∧ decide (t ≤ 1099511627776) = false ∧ o = false) ∨ (decide (t ≥ 0) = true ∧ decide (t ≤ 1099511627776) = true ∧ decide (k ≥ 0) = false ∧ o = false) ∨ (decide (t ≥ 0) = true ∧ decide (t ≤ 1099511627776) = true ∧ decide (k ≥ 0) = true ∧ decide (k ≤ 2) = false ∧ o = false) ∨ (decide (t ≥ 0) = true ∧ decide (t ≤ 1099511627776) = true ∧ decide (k ≥ 0) = true ∧ decide (k ≤ 2) = true ∧ o = true) := by
        rw [ho]; unfold inW
        cases decide (t ≥ 0) <;> cases decide (t ≤ 1099511627776) <;> cases decide (k ≥ 0) <;> cases decide (k ≤ 2) <;> simp
      clear hc g1 g2
      rcases h5 with ⟨a1, ao⟩ | ⟨a1, a2, ao⟩ | ⟨a1, a2, a3, ao⟩ | ⟨a1, a2, a3, a4, ao⟩ | ⟨a1, a2, a3, a4, ao⟩
      all_goals first | simp (maxSteps := 1000000) (disch := first | omega | exact ok4096 | (simp only [updB, dsB, reduceCtorEq, Nat.reduceEqDiff, *]; done) | (simp only [digF_len, putK_len, putB_len, lnB] <;> omega) | fail) only [ev0, ev1, ev2, ev3, ↓reduceIte, reduceCtorEq, Nat.reduceAdd, Nat.reduceSub, Nat.reduceMul, Nat.reduceLT, Nat.reduceLeDiff, Nat.reduceEqDiff, Nat.reduceBEq, BitVec.reduceOfInt, Int.reduceLE, Int.reduceLT, Int.reduceGT, Int.reduceGE, Int.reduceNeg, Int.reduceAdd, Int.reduceSub, Int.reduceMul, Int.reduceToNat, ↓bind_go, ↓map_go, wantedV, isWrite, grow, write, ofV, AV.cells, Abs.start, Abs.strip, endQ, resV, rawsRes, rawRes, exports, export1, AS.grown, AS.put, Env.know, Env.boxed, isSelf, convSelf, convV, loadV, storeV, fieldAddrV, fieldV, indexAddrV, indexV, partV, isAggK, isStr, place, lenV, min2V, makeV, freshSl, sliceV, boundOr, bound, bounds, cutFl, copyV, slCells, srcV, appendV, room, zerosOf, eqNeg, kd, takeR, hasViewL, hasView, freshR, freshC, snapAll, snap, snapL, flatL, pureL, pureA, fillC, arrOK, oneA, partB, AV.laid, ren1, CR.gr, applyW, useL, AS.mute, isGen, startG, ev5, tbQe0, List.map_nil, List.all_nil, List.drop_zero, glob, btA, itA, List.size_toArray, Array.size_empty, List.length_nil, hcs, a1, a2, a3, a4] | simp (maxSteps := 1000000) (disch := first | omega | exact ok4096 | (simp only [updB, dsB, reduceCtorEq, Nat.reduceEqDiff, *]; done) | (simp only [digF_len, putK_len, putB_len, lnB] <;> omega) | fail) only [ev0, ev1, ev2, ev3, ↓reduceIte, reduceCtorEq, Nat.reduceAdd, Nat.reduceSub, Nat.reduceMul, Nat.reduceLT, Nat.reduceLeDiff, Nat.reduceEqDiff, Nat.reduceBEq, BitVec.reduceOfInt, Int.reduceLE, Int.reduceLT, Int.reduceGT, Int.reduceGE, Int.reduceNeg, Int.reduceAdd, Int.reduceSub, Int.reduceMul, Int.reduceToNat, ↓bind_go, ↓map_go, wantedV, isWrite, grow, write, ofV, AV.cells, Abs.start, Abs.strip, endQ, resV, rawsRes, rawRes, exports, export1, AS.grown, AS.put, Env.know, Env.boxed, isSelf, convSelf, convV, loadV, storeV, fieldAddrV, fieldV, indexAddrV, indexV, partV, isAggK, isStr, place, lenV, min2V, makeV, freshSl, sliceV, boundOr, bound, bounds, cutFl, copyV, slCells, srcV, appendV, room, zerosOf, eqNeg, kd, takeR, hasViewL, hasView, freshR, freshC, snapAll, snap, snapL, flatL, pureL, pureA, fillC, arrOK, oneA, partB, AV.laid, ren1, CR.gr, applyW, useL, AS.mute, isGen, startG, ev5, tbQe0, List.map_nil, List.all_nil, List.drop_zero, glob, btA, itA, List.size_toArray, Array.size_empty, List.length_nil, hcs, a1, a2, a3] | simp (maxSteps := 1000000) (disch := first | omega | exact ok4096 | (simp only [updB, dsB, reduceCtorEq, Nat.reduceEqDiff, *]; done) | (simp only [digF_len, putK_len, putB_len, lnB] <;> omega) | fail) only [ev0, ev1, ev2, ev3, ↓reduceIte, reduceCtorEq, Nat.reduceAdd, Nat.reduceSub, Nat.reduceMul, Nat.reduceLT, Nat.reduceLeDiff, Nat.reduceEqDiff, Nat.reduceBEq, BitVec.reduceOfInt, Int.reduceLE, Int.reduceLT, Int.reduceGT, Int.reduceGE, Int.reduceNeg, Int.reduceAdd, Int.reduceSub, Int.reduceMul, Int.reduceToNat, ↓bind_go, ↓map_go, wantedV, isWrite, grow, write, ofV, AV.cells, Abs.start, Abs.strip, endQ, resV, rawsRes, rawRes, exports, export1, AS.grown, AS.put, Env.know, Env.boxed, isSelf, convSelf, convV, loadV, storeV, fieldAddrV, fieldV, indexAddrV, indexV, partV, isAggK, isStr, place, lenV, min2V, makeV, freshSl, sliceV, boundOr, bound, bounds, cutFl, copyV, slCells, srcV, appendV, room, zerosOf, eqNeg, kd, takeR, hasViewL, hasView, freshR, freshC, snapAll, snap, snapL, flatL, pureL, pureA, fillC, arrOK, oneA, partB, AV.laid, ren1, CR.gr, applyW, useL, AS.mute, isGen, startG, ev5, tbQe0, List.map_nil, List.all_nil, List.drop_zero, glob, btA, itA, List.size_toArray, Array.size_empty, List.length_nil, hcs, a1, a2] | simp (maxSteps := 1000000) (disch := first | omega | exact ok4096 | (simp only [updB, dsB, reduceCtorEq, Nat.reduceEqDiff, *]; done) | (simp only [digF_len, putK_len, putB_len, lnB] <;> omega) | fail) only [ev0, ev1, ev2, ev3, ↓reduceIte, reduceCtorEq, Nat.reduceAdd, Nat.reduceSub, Nat.reduceMul, Nat.reduceLT, Nat.reduceLeDiff, Nat.reduceEqDiff, Nat.reduceBEq, BitVec.reduceOfInt, Int.reduceLE, Int.reduceLT, Int.reduceGT, Int.reduceGE, Int.reduceNeg, Int.reduceAdd, Int.reduceSub, Int.reduceMul, Int.reduceToNat, ↓bind_go, ↓map_go, wantedV, isWrite, grow, write, ofV, AV.cells, Abs.start, Abs.strip, endQ, resV, rawsRes, rawRes, exports, export1, AS.grown, AS.put, Env.know, Env.boxed, isSelf, convSelf, convV, loadV, storeV, fieldAddrV, fieldV, indexAddrV, indexV, partV, isAggK, isStr, place, lenV, min2V, makeV, freshSl, sliceV, boundOr, bound, bounds, cutFl, copyV, slCells, srcV, appendV, room, zerosOf, eqNeg, kd, takeR, hasViewL, hasView, freshR, freshC, snapAll, snap, snapL, flatL, pureL, pureA, fillC, arrOK, oneA, partB, AV.laid, ren1, CR.gr, applyW, useL, AS.mute, isGen, startG, ev5, tbQe0, List.map_nil, List.all_nil, List.drop_zero, glob, btA, itA, List.size_toArray, Array.size_empty, List.length_nil, hcs, a1]
      all_goals
        refine loopQ_of (fun n σ => ∃ j, j ≤ m.length ∧ n = m.length - j ∧ σ.slots 5 = .raw (.int .i64 (j : Int)) ∧ σ.slots 4 = .raw (.bool (o && !neg (m.take j))) ∧ σ.slots 1 = .ptr (.own 0 1 1) 0 ∧ σ.box (.own 0 1 1) = some (entA ⟨t, k, some d, some m⟩)) m.length ?_ ?_
        · refine ⟨0, by omega, by omega, ?_⟩
          simp (maxSteps := 1000000) (disch := first | omega | exact ok4096 | (simp only [updB, dsB, reduceCtorEq, Nat.reduceEqDiff, *]; done) | (simp only [digF_len, putK_len, putB_len, lnB] <;> omega) | fail) only [ev0, ev1, ev2, ev3, ↓reduceIte, reduceCtorEq, Nat.reduceAdd, Nat.reduceSub, Nat.reduceMul, Nat.reduceLT, Nat.reduceLeDiff, Nat.reduceEqDiff, Nat.reduceBEq, BitVec.reduceOfInt, Int.reduceLE, Int.reduceLT, Int.reduceGT, Int.reduceGE, Int.reduceNeg, Int.reduceAdd, Int.reduceSub, Int.reduceMul, Int.reduceToNat, ↓bind_go, ↓map_go, wantedV, isWrite, grow, write, ofV, AV.cells, Abs.start, Abs.strip, endQ, resV, rawsRes, rawRes, exports, export1, AS.grown, AS.put, Env.know, Env.boxed, isSelf, convSelf, convV, loadV, storeV, fieldAddrV, fieldV, indexAddrV, indexV, partV, isAggK, isStr, place, lenV, min2V, makeV, freshSl, sliceV, boundOr, bound, bounds, cutFl, copyV, slCells, srcV, appendV, room, zerosOf, eqNeg, kd, takeR, hasViewL, hasView, freshR, freshC, snapAll, snap, snapL, flatL, pureL, pureA, fillC, arrOK, oneA, partB, AV.laid, ren1, CR.gr, applyW, useL, AS.mute, isGen, startG, ev5, tbQe0, List.map_nil, List.all_nil, List.drop_zero, glob, btA, itA, List.size_toArray, Array.size_empty, List.length_nil]
          rw [ao]
          exact ⟨rfl, rfl⟩
        · rintro n ⟨sl, gn, bx, us⟩ ⟨j, hj, rfl, s5, s4, s1, hb⟩
          dsimp only at s5 s4 s1 hb
          simp (maxSteps := 1000000) (disch := first | omega | exact ok4096 | (simp only [updB, dsB, reduceCtorEq, Nat.reduceEqDiff, *]; done) | (simp only [digF_len, putK_len, putB_len, lnB] <;> omega) | fail) only [ev0, ev1, ev2, ev3, ↓reduceIte, reduceCtorEq, Nat.reduceAdd, Nat.reduceSub, Nat.reduceMul, Nat.reduceLT, Nat.reduceLeDiff, Nat.reduceEqDiff, Nat.reduceBEq, BitVec.reduceOfInt, Int.reduceLE, Int.reduceLT, Int.reduceGT, Int.reduceGE, Int.reduceNeg, Int.reduceAdd, Int.reduceSub, Int.reduceMul, Int.reduceToNat, ↓bind_go, ↓map_go, wantedV, isWrite, grow, write, ofV, AV.cells, Abs.start, Abs.strip, endQ, resV, rawsRes, rawRes, exports, export1, AS.grown, AS.put, Env.know, Env.boxed, isSelf, convSelf, convV, loadV, storeV, fieldAddrV, fieldV, indexAddrV, indexV, partV, isAggK, isStr, place, lenV, min2V, makeV, freshSl, sliceV, boundOr, bound, bounds, cutFl, copyV, slCells, srcV, appendV, room, zerosOf, eqNeg, kd, takeR, hasViewL, hasView, freshR, freshC, snapAll, snap, snapL, flatL, pureL, pureA, fillC, arrOK, oneA, partB, AV.laid, ren1, CR.gr, applyW, useL, AS.mute, isGen, startG, ev5, tbQe0, List.map_nil, List.all_nil, List.drop_zero, glob, btA, itA, List.size_toArray, Array.size_empty, List.length_nil, s5, s4, s1, hb]
          refine condQ_dec (fun hlt => ?_) (fun hge => ?_)
          · have hlt : j < m.length := by omega
            have hs := neg_snoc hlt
            cases hq : (o && !neg (m.take j))
            · rw [hq] at s4
              simp (maxSteps := 1000000) (disch := first | omega | exact ok4096 | (simp only [updB, dsB, reduceCtorEq, Nat.reduceEqDiff, *]; done) | (simp only [digF_len, putK_len, putB_len, lnB] <;> omega) | fail) only [ev0, ev1, ev2, ev3, ↓reduceIte, reduceCtorEq, Nat.reduceAdd, Nat.reduceSub, Nat.reduceMul, Nat.reduceLT, Nat.reduceLeDiff, Nat.reduceEqDiff, Nat.reduceBEq, BitVec.reduceOfInt, Int.reduceLE, Int.reduceLT, Int.reduceGT, Int.reduceGE, Int.reduceNeg, Int.reduceAdd, Int.reduceSub, Int.reduceMul, Int.reduceToNat, ↓bind_go, ↓map_go, wantedV, isWrite, grow, write, ofV, AV.cells, Abs.start, Abs.strip, endQ, resV, rawsRes, rawRes, exports, export1, AS.grown, AS.put, Env.know, Env.boxed, isSelf, convSelf, convV, loadV, storeV, fieldAddrV, fieldV, indexAddrV, indexV, partV, isAggK, isStr, place, lenV, min2V, makeV, freshSl, sliceV, boundOr, bound, bounds, cutFl, copyV, slCells, srcV, appendV, room, zerosOf, eqNeg, kd, takeR, hasViewL, hasView, freshR, freshC, snapAll, snap, snapL, flatL, pureL, pureA, fillC, arrOK, oneA, partB, AV.laid, ren1, CR.gr, applyW, useL, AS.mute, isGen, startG, ev5, tbQe0, List.map_nil, List.all_nil, List.drop_zero, glob, btA, itA, List.size_toArray, Array.size_empty, List.length_nil, s5, s4, s1, hb]
              refine ⟨m.length - (j + 1), by omega, j + 1, by omega, rfl, ?_⟩
              have : (o && !neg (m.take (j + 1))) = false := by
                rw [hs]; revert hq; cases o <;> cases neg (m.take j) <;> simp
              rw [this]
              first | exact ⟨rfl, rfl⟩ | exact ⟨rfl, rfl, rfl, rfl⟩ | rfl
            · rw [hq] at s4
              simp (maxSteps := 1000000) (disch := first | omega | exact ok4096 | (simp only [updB, dsB, reduceCtorEq, Nat.reduceEqDiff, *]; done) | (simp only [digF_len, putK_len, putB_len, lnB] <;> omega) | fail) only [ev0, ev1, ev2, ev3, ↓reduceIte, reduceCtorEq, Nat.reduceAdd, Nat.reduceSub, Nat.reduceMul, Nat.reduceLT, Nat.reduceLeDiff, Nat.reduceEqDiff, Nat.reduceBEq, BitVec.reduceOfInt, Int.reduceLE, Int.reduceLT, Int.reduceGT, Int.reduceGE, Int.reduceNeg, Int.reduceAdd, Int.reduceSub, Int.reduceMul, Int.reduceToNat, ↓bind_go, ↓map_go, wantedV, isWrite, grow, write, ofV, AV.cells, Abs.start, Abs.strip, endQ, resV, rawsRes, rawRes, exports, export1, AS.grown, AS.put, Env.know, Env.boxed, isSelf, convSelf, convV, loadV, storeV, fieldAddrV, fieldV, indexAddrV, indexV, partV, isAggK, isStr, place, lenV, min2V, makeV, freshSl, sliceV, boundOr, bound, bounds, cutFl, copyV, slCells, srcV, appendV, room, zerosOf, eqNeg, kd, takeR, hasViewL, hasView, freshR, freshC, snapAll, snap, snapL, flatL, pureL, pureA, fillC, arrOK, oneA, partB, AV.laid, ren1, CR.gr, applyW, useL, AS.mute, isGen, startG, ev5, tbQe0, List.map_nil, List.all_nil, List.drop_zero, glob, btA, itA, List.size_toArray, Array.size_empty, List.length_nil, s5, s4, s1, hb]
              refine ⟨m.length - (j + 1), by omega, j + 1, by omega, rfl, ?_⟩
              have : (o && !neg (m.take (j + 1))) = decide (m.getD j 0 ≥ 0) := by
                rw [hs]; revert hq; cases o <;> cases neg (m.take j) <;> simp
              rw [this]
              first | exact ⟨rfl, rfl⟩ | exact ⟨rfl, rfl, rfl, rfl⟩ | rfl
          · have hj : j = m.length := by omega
            subst hj
            rw [List.take_length] at s4
            cases hq : (o && !neg m)
            · rw [hq] at s4 hbad
              have hbad' : badE ⟨t, k, some d, some m⟩ = true := hbad
              have hR : entR ⟨t, k, some d, some m⟩ = ([], 1) := by rw [entR, if_pos hbad']
              rw [hR]
              simp (maxSteps := 1000000) (disch := first | omega | exact ok4096 | (simp only [updB, dsB, reduceCtorEq, Nat.reduceEqDiff, *]; done) | (simp only [digF_len, putK_len, putB_len, lnB] <;> omega) | fail) only [ev0, ev1, ev2, ev3, ↓reduceIte, reduceCtorEq, Nat.reduceAdd, Nat.reduceSub, Nat.reduceMul, Nat.reduceLT, Nat.reduceLeDiff, Nat.reduceEqDiff, Nat.reduceBEq, BitVec.reduceOfInt, Int.reduceLE, Int.reduceLT, Int.reduceGT, Int.reduceGE, Int.reduceNeg, Int.reduceAdd, Int.reduceSub, Int.reduceMul, Int.reduceToNat, ↓bind_go, ↓map_go, wantedV, isWrite, grow, write, ofV, AV.cells, Abs.start, Abs.strip, endQ, resV, rawsRes, rawRes, exports, export1, AS.grown, AS.put, Env.know, Env.boxed, isSelf, convSelf, convV, loadV, storeV, fieldAddrV, fieldV, indexAddrV, indexV, partV, isAggK, isStr, place, lenV, min2V, makeV, freshSl, sliceV, boundOr, bound, bounds, cutFl, copyV, slCells, srcV, appendV, room, zerosOf, eqNeg, kd, takeR, hasViewL, hasView, freshR, freshC, snapAll, snap, snapL, flatL, pureL, pureA, fillC, arrOK, oneA, partB, AV.laid, ren1, CR.gr, applyW, useL, AS.mute, isGen, startG, ev5, tbQe0, List.map_nil, List.all_nil, List.drop_zero, glob, btA, itA, List.size_toArray, Array.size_empty, List.length_nil, s5, s4, s1, hb]
              exact resQ_2nil
            · rw [hq] at s4 hbad
              have hb' : ¬ badE ⟨t, k, some d, some m⟩ = true := by rw [hbad]; decide
              have ho' : o = true ∧ neg m = false := by revert hq; cases o <;> cases neg m <;> simp
              rw [ho'.1] at ho
              have k1 : (0 ≤ t ∧ t ≤ 1099511627776) ∧ (0 ≤ k ∧ k ≤ 2) := by
                have := ho.symm
                simpa [inW] using this
              have hng := ho'.2
              have ht := txB_len (nmF [t, k]) d
              have n1 := need_le t.toNat (by omega)
              have n2 := need_le k.toNat (by omega)
              by_cases c4 : d.length > 4096
              · have hR : entR ⟨t, k, some d, some m⟩ = ([], 2) := by rw [entR, if_neg hb']; exact if_pos (.inl c4)
                have dd : decide ((d.length : Int) > 4096) = true := decide_eq_true (by omega)
                rw [hR]
                simp (maxSteps := 1000000) (disch := first | omega | exact ok4096 | (simp only [updB, dsB, reduceCtorEq, Nat.reduceEqDiff, *]; done) | (simp only [digF_len, putK_len, putB_len, lnB] <;> omega) | fail) only [ev0, ev1, ev2, ev3, ↓reduceIte, reduceCtorEq, Nat.reduceAdd, Nat.reduceSub, Nat.reduceMul, Nat.reduceLT, Nat.reduceLeDiff, Nat.reduceEqDiff, Nat.reduceBEq, BitVec.reduceOfInt, Int.reduceLE, Int.reduceLT, Int.reduceGT, Int.reduceGE, Int.reduceNeg, Int.reduceAdd, Int.reduceSub, Int.reduceMul, Int.reduceToNat, ↓bind_go, ↓map_go, wantedV, isWrite, grow, write, ofV, AV.cells, Abs.start, Abs.strip, endQ, resV, rawsRes, rawRes, exports, export1, AS.grown, AS.put, Env.know, Env.boxed, isSelf, convSelf, convV, loadV, storeV, fieldAddrV, fieldV, indexAddrV, indexV, partV, isAggK, isStr, place, lenV, min2V, makeV, freshSl, sliceV, boundOr, bound, bounds, cutFl, copyV, slCells, srcV, appendV, room, zerosOf, eqNeg, kd, takeR, hasViewL, hasView, freshR, freshC, snapAll, snap, snapL, flatL, pureL, pureA, fillC, arrOK, oneA, partB, AV.laid, ren1, CR.gr, applyW, useL, AS.mute, isGen, startG, ev5, tbQe0, List.map_nil, List.all_nil, List.drop_zero, glob, btA, itA, List.size_toArray, Array.size_empty, List.length_nil, s5, s4, s1, hb, dd]
                exact resQ_2nil
              have dd : decide ((d.length : Int) > 4096) = false := decide_eq_false (by omega)
              by_cases c5 : m.length > 7
              · have hR : entR ⟨t, k, some d, some m⟩ = ([], 2) := by rw [entR, if_neg hb']; exact if_pos (.inr c5)
                have dm : decide ((m.length : Int) > 7) = true := decide_eq_true (by omega)
                rw [hR]
                simp (maxSteps := 1000000) (disch := first | omega | exact ok4096 | (simp only [updB, dsB, reduceCtorEq, Nat.reduceEqDiff, *]; done) | (simp only [digF_len, putK_len, putB_len, lnB] <;> omega) | fail) only [ev0, ev1, ev2, ev3, ↓reduceIte, reduceCtorEq, Nat.reduceAdd, Nat.reduceSub, Nat.reduceMul, Nat.reduceLT, Nat.reduceLeDiff, Nat.reduceEqDiff, Nat.reduceBEq, BitVec.reduceOfInt, Int.reduceLE, Int.reduceLT, Int.reduceGT, Int.reduceGE, Int.reduceNeg, Int.reduceAdd, Int.reduceSub, Int.reduceMul, Int.reduceToNat, ↓bind_go, ↓map_go, wantedV, isWrite, grow, write, ofV, AV.cells, Abs.start, Abs.strip, endQ, resV, rawsRes, rawRes, exports, export1, AS.grown, AS.put, Env.know, Env.boxed, isSelf, convSelf, convV, loadV, storeV, fieldAddrV, fieldV, indexAddrV, indexV, partV, isAggK, isStr, place, lenV, min2V, makeV, freshSl, sliceV, boundOr, bound, bounds, cutFl, copyV, slCells, srcV, appendV, room, zerosOf, eqNeg, kd, takeR, hasViewL, hasView, freshR, freshC, snapAll, snap, snapL, flatL, pureL, pureA, fillC, arrOK, oneA, partB, AV.laid, ren1, CR.gr, applyW, useL, AS.mute, isGen, startG, ev5, tbQe0, List.map_nil, List.all_nil, List.drop_zero, glob, btA, itA, List.size_toArray, Array.size_empty, List.length_nil, s5, s4, s1, hb, dd, dm]
                exact resQ_2nil
              have dm : decide ((m.length : Int) > 7) = false := decide_eq_false (by omega)
              have hR : entR ⟨t, k, some d, some m⟩ = (putL (txB (putB (putB [] t.toNat) k.toNat) d) m, 0) := by rw [entR, if_neg hb']; exact if_neg (by simp only [dat, idat]; omega)
              have hl : (txB (putB (putB [] t.toNat) k.toNat) d).length ≤ 10000 := by
                have := txB_len (putB (putB [] t.toNat) k.toNat) d (by omega)
                rw [putB_len, putB_len, List.length_nil] at this; omega
              rw [hR]
              simp (maxSteps := 1000000) (disch := first | omega | exact ok4096 | (simp only [updB, dsB, reduceCtorEq, Nat.reduceEqDiff, *]; done) | (simp only [digF_len, putK_len, putB_len, lnB] <;> omega) | fail) only [ev0, ev1, ev2, ev3, ↓reduceIte, reduceCtorEq, Nat.reduceAdd, Nat.reduceSub, Nat.reduceMul, Nat.reduceLT, Nat.reduceLeDiff, Nat.reduceEqDiff, Nat.reduceBEq, BitVec.reduceOfInt, Int.reduceLE, Int.reduceLT, Int.reduceGT, Int.reduceGE, Int.reduceNeg, Int.reduceAdd, Int.reduceSub, Int.reduceMul, Int.reduceToNat, ↓bind_go, ↓map_go, wantedV, isWrite, grow, write, ofV, AV.cells, Abs.start, Abs.strip, endQ, resV, rawsRes, rawRes, exports, export1, AS.grown, AS.put, Env.know, Env.boxed, isSelf, convSelf, convV, loadV, storeV, fieldAddrV, fieldV, indexAddrV, indexV, partV, isAggK, isStr, place, lenV, min2V, makeV, freshSl, sliceV, boundOr, bound, bounds, cutFl, copyV, slCells, srcV, appendV, room, zerosOf, eqNeg, kd, takeR, hasViewL, hasView, freshR, freshC, snapAll, snap, snapL, flatL, pureL, pureA, fillC, arrOK, oneA, partB, AV.laid, ren1, CR.gr, applyW, useL, AS.mute, isGen, startG, ev5, tbQe0, List.map_nil, List.all_nil, List.drop_zero, glob, btA, itA, List.size_toArray, Array.size_empty, List.length_nil, s5, s4, s1, hb, dd, dm]
              exact resQ_2
    · cases hr
  · cases hr
def tbQe1 := (And.intro (And.intro (And.intro (And.intro (And.intro (And.intro @teE @cmdA_strip) (And.intro @repA_strip @entA_strip)) (And.intro (And.intro @cmdA_snap @repA_snap) (And.intro @entA_snap (And.intro @cmdA_noview @repA_noview)))) (And.intro (And.intro (And.intro @entA_noview @cmdA_take) (And.intro @cmdA_one @repA_take)) (And.intro (And.intro @repA_one @entA_take) (And.intro @entA_one (And.intro @dropC @dropR))))) (And.intro (And.intro (And.intro (And.intro @dropE @zeroC) (And.intro @zeroR @zeroE)) (And.intro (And.intro @splice_cmd @splice_cmd') (And.intro @splice_rep (And.intro @splice_rep' @splice_ent)))) (And.intro (And.intro (And.intro @splice_ent' @cmdA_len) (And.intro @repA_len @entA_len)) (And.intro (And.intro @rep1 @rep2) (And.intro @rep3 (And.intro @rep5 @one_le)))))) (And.intro (And.intro (And.intro (And.intro (And.intro @le2 @le3) (And.intro @le5 @dr1)) (And.intro (And.intro @dr2 @dr3) (And.intro @dr5 (And.intro @EB_te @EB_glob)))) (And.intro (And.intro (And.intro @EB_gs @EB_dyn) (And.intro @EB_mu @EB_12)) (And.intro (And.intro @EB_14 @EB_16) (And.intro @EB_18 (And.intro @EB_21 @EB_23))))) (And.intro (And.intro (And.intro (And.intro @ev4 @check_at) (And.intro @text_at @text_long)) (And.intro (And.intro @text_nil @list_at) (And.intro @list_nil (And.intro @pf129_at @put_nil)))) (And.intro (And.intro (And.intro @take_at @ttake_at) (And.intro @ltake_at @zz0)) (And.intro (And.intro @zz1 @repA_0) (And.intro @repA_1 (And.intro @repA_2 @repA_3)))))))
set_option maxRecDepth 4000 in
theorem sound59 : SoundV Try.prog glob 59 pf58 := by
  refine SoundV.walk EB okB mixed Try.func59 rfl Try.call59 (by kernel_rfl) ?_
  intro args r hr
  unfold pf58 at hr
  split at hr
  · simp only [Option.bind_eq_some_iff] at hr
    obtain ⟨b, h1, hr⟩ := hr
    split at hr
    · rename_i hc
      cases hr
      obtain ⟨fl, rfl⟩ := row?_of h1
      rw [Try.ntmps59, Try.results59]
      refine ⟨by simp, ?_⟩
      have l1 := tkR_le b
      have l2 := tkR_le (tkR b)
      have l3 := tkR_le (tkR (tkR b))
      have w1 : q1 b = (tkR b, (tkE b : Int)) := rfl
      by_cases c1 : tkE b = 0
      rotate_left
      · have v2 : q2 b = (tkR b, (tkE b : Int)) := by rw [q2, w1, rS_no (by dsimp only; omega)]
        have v3 : q3 b = (tkR b, (tkE b : Int)) := by rw [q3, v2, rS_no (by dsimp only; omega)]
        have v4 : r4 b = (tkR b, (tkE b : Int)) := by rw [r4, v3, tS_no (by dsimp only; omega)]
        rw [show trR b = ⟨0, 0, 0, none⟩ by rw [trR, v4, if_neg (by dsimp only; omega)], show trS b = [] by rw [trS, v4, if_neg (by dsimp only; omega)], show trE b = (tkE b : Int) by rw [trE, v4]]
        simp (maxSteps := 1000000) (disch := first | omega | exact ok4096 | (simp only [updB, dsB, reduceCtorEq, Nat.reduceEqDiff, *]; done) | (simp only [digF_len, putK_len, putB_len, lnB] <;> omega) | fail) only [ev0, ev1, ev2, ev3, ↓reduceIte, reduceCtorEq, Nat.reduceAdd, Nat.reduceSub, Nat.reduceMul, Nat.reduceLT, Nat.reduceLeDiff, Nat.reduceEqDiff, Nat.reduceBEq, BitVec.reduceOfInt, Int.reduceLE, Int.reduceLT, Int.reduceGT, Int.reduceGE, Int.reduceNeg, Int.reduceAdd, Int.reduceSub, Int.reduceMul, Int.reduceToNat, ↓bind_go, ↓map_go, wantedV, isWrite, grow, write, ofV, AV.cells, Abs.start, Abs.strip, endQ, resV, rawsRes, rawRes, exports, export1, AS.grown, AS.put, Env.know, Env.boxed, isSelf, convSelf, convV, loadV, storeV, fieldAddrV, fieldV, indexAddrV, indexV, partV, isAggK, isStr, place, lenV, min2V, makeV, freshSl, sliceV, boundOr, bound, bounds, cutFl, copyV, slCells, srcV, appendV, room, zerosOf, eqNeg, kd, takeR, hasViewL, hasView, freshR, freshC, snapAll, snap, snapL, flatL, pureL, pureA, fillC, arrOK, oneA, partB, AV.laid, ren1, CR.gr, applyW, useL, AS.mute, isGen, startG, ev5, tbQe1, List.map_nil, List.all_nil, List.drop_zero, glob, btA, itA, List.size_toArray, Array.size_empty, List.length_nil, nz_t c1]
        exact resQ_a3nil
      have w2 : q2 b = (tkR (tkR b), (tkE (tkR b) : Int)) := by rw [q2, w1, rS_ok (by dsimp only; omega)]
      by_cases c2 : tkE (tkR b) = 0
      rotate_left
      · have v3 : q3 b = (tkR (tkR b), (tkE (tkR b) : Int)) := by rw [q3, w2, rS_no (by dsimp only; omega)]
        have v4 : r4 b = (tkR (tkR b), (tkE (tkR b) : Int)) := by rw [r4, v3, tS_no (by dsimp only; omega)]
        rw [show trR b = ⟨0, 0, 0, none⟩ by rw [trR, v4, if_neg (by dsimp only; omega)], show trS b = [] by rw [trS, v4, if_neg (by dsimp only; omega)], show trE b = (tkE (tkR b) : Int) by rw [trE, v4]]
        simp (maxSteps := 1000000) (disch := first | omega | exact ok4096 | (simp only [updB, dsB, reduceCtorEq, Nat.reduceEqDiff, *]; done) | (simp only [digF_len, putK_len, putB_len, lnB] <;> omega) | fail) only [ev0, ev1, ev2, ev3, ↓reduceIte, reduceCtorEq, Nat.reduceAdd, Nat.reduceSub, Nat.reduceMul, Nat.reduceLT, Nat.reduceLeDiff, Nat.reduceEqDiff, Nat.reduceBEq, BitVec.reduceOfInt, Int.reduceLE, Int.reduceLT, Int.reduceGT, Int.reduceGE, Int.reduceNeg, Int.reduceAdd, Int.reduceSub, Int.reduceMul, Int.reduceToNat, ↓bind_go, ↓map_go, wantedV, isWrite, grow, write, ofV, AV.cells, Abs.start, Abs.strip, endQ, resV, rawsRes, rawRes, exports, export1, AS.grown, AS.put, Env.know, Env.boxed, isSelf, convSelf, convV, loadV, storeV, fieldAddrV, fieldV, indexAddrV, indexV, partV, isAggK, isStr, place, lenV, min2V, makeV, freshSl, sliceV, boundOr, bound, bounds, cutFl, copyV, slCells, srcV, appendV, room, zerosOf, eqNeg, kd, takeR, hasViewL, hasView, freshR, freshC, snapAll, snap, snapL, flatL, pureL, pureA, fillC, arrOK, oneA, partB, AV.laid, ren1, CR.gr, applyW, useL, AS.mute, isGen, startG, ev5, tbQe1, List.map_nil, List.all_nil, List.drop_zero, glob, btA, itA, List.size_toArray, Array.size_empty, List.length_nil, nz_f c1, nz_t c2]
        exact resQ_a3nil
      have w3 : q3 b = (tkR (tkR (tkR b)), (tkE (tkR (tkR b)) : Int)) := by rw [q3, w2, rS_ok (by dsimp only; omega)]
      by_cases c3 : tkE (tkR (tkR b)) = 0
      rotate_left
      · have v4 : r4 b = (tkR (tkR (tkR b)), (tkE (tkR (tkR b)) : Int)) := by rw [r4, w3, tS_no (by dsimp only; omega)]
        rw [show trR b = ⟨0, 0, 0, none⟩ by rw [trR, v4, if_neg (by dsimp only; omega)], show trS b = [] by rw [trS, v4, if_neg (by dsimp only; omega)], show trE b = (tkE (tkR (tkR b)) : Int) by rw [trE, v4]]
        simp (maxSteps := 1000000) (disch := first | omega | exact ok4096 | (simp only [updB, dsB, reduceCtorEq, Nat.reduceEqDiff, *]; done) | (simp only [digF_len, putK_len, putB_len, lnB] <;> omega) | fail) only [ev0, ev1, ev2, ev3, ↓reduceIte, reduceCtorEq, Nat.reduceAdd, Nat.reduceSub, Nat.reduceMul, Nat.reduceLT, Nat.reduceLeDiff, Nat.reduceEqDiff, Nat.reduceBEq, BitVec.reduceOfInt, Int.reduceLE, Int.reduceLT, Int.reduceGT, Int.reduceGE, Int.reduceNeg, Int.reduceAdd, Int.reduceSub, Int.reduceMul, Int.reduceToNat, ↓bind_go, ↓map_go, wantedV, isWrite, grow, write, ofV, AV.cells, Abs.start, Abs.strip, endQ, resV, rawsRes, rawRes, exports, export1, AS.grown, AS.put, Env.know, Env.boxed, isSelf, convSelf, convV, loadV, storeV, fieldAddrV, fieldV, indexAddrV, indexV, partV, isAggK, isStr, place, lenV, min2V, makeV, freshSl, sliceV, boundOr, bound, bounds, cutFl, copyV, slCells, srcV, appendV, room, zerosOf, eqNeg, kd, takeR, hasViewL, hasView, freshR, freshC, snapAll, snap, snapL, flatL, pureL, pureA, fillC, arrOK, oneA, partB, AV.laid, ren1, CR.gr, applyW, useL, AS.mute, isGen, startG, ev5, tbQe1, List.map_nil, List.all_nil, List.drop_zero, glob, btA, itA, List.size_toArray, Array.size_empty, List.length_nil, nz_f c1, nz_f c2, nz_t c3]
        exact resQ_a3nil
      have w4 : r4 b = (ttR (tkR (tkR (tkR b))) 4096, (ttE (tkR (tkR (tkR b))) 4096 : Int)) := by rw [r4, w3, tS_ok (by dsimp only; omega)]
      by_cases c4 : ttE (tkR (tkR (tkR b))) 4096 = 0
      rotate_left
      · rw [show trR b = ⟨0, 0, 0, none⟩ by rw [trR, w4, if_neg (by dsimp only; omega)], show trS b = [] by rw [trS, w4, if_neg (by dsimp only; omega)], show trE b = (ttE (tkR (tkR (tkR b))) 4096 : Int) by rw [trE, w4]]
        simp (maxSteps := 1000000) (disch := first | omega | exact ok4096 | (simp only [updB, dsB, reduceCtorEq, Nat.reduceEqDiff, *]; done) | (simp only [digF_len, putK_len, putB_len, lnB] <;> omega) | fail) only [ev0, ev1, ev2, ev3, ↓reduceIte, reduceCtorEq, Nat.reduceAdd, Nat.reduceSub, Nat.reduceMul, Nat.reduceLT, Nat.reduceLeDiff, Nat.reduceEqDiff, Nat.reduceBEq, BitVec.reduceOfInt, Int.reduceLE, Int.reduceLT, Int.reduceGT, Int.reduceGE, Int.reduceNeg, Int.reduceAdd, Int.reduceSub, Int.reduceMul, Int.reduceToNat, ↓bind_go, ↓map_go, wantedV, isWrite, grow, write, ofV, AV.cells, Abs.start, Abs.strip, endQ, resV, rawsRes, rawRes, exports, export1, AS.grown, AS.put, Env.know, Env.boxed, isSelf, convSelf, convV, loadV, storeV, fieldAddrV, fieldV, indexAddrV, indexV, partV, isAggK, isStr, place, lenV, min2V, makeV, freshSl, sliceV, boundOr, bound, bounds, cutFl, copyV, slCells, srcV, appendV, room, zerosOf, eqNeg, kd, takeR, hasViewL, hasView, freshR, freshC, snapAll, snap, snapL, flatL, pureL, pureA, fillC, arrOK, oneA, partB, AV.laid, ren1, CR.gr, applyW, useL, AS.mute, isGen, startG, ev5, tbQe1, List.map_nil, List.all_nil, List.drop_zero, glob, btA, itA, List.size_toArray, Array.size_empty, List.length_nil, nz_f c1, nz_f c2, nz_f c3, nz_t c4]
        exact resQ_a3nil
      have hF : repF b = ⟨(tkN b : Int), (tkN (tkR b) : Int), (tkN (tkR (tkR b)) : Int), some (ttT (tkR (tkR (tkR b))) 4096)⟩ := by
        rw [repF, w1, w2, w3, rN_ok' rfl, rN_ok' (by dsimp only; omega), rN_ok' (by dsimp only; omega), tN_ok (by dsimp only; omega)]
      rw [show trR b = _ by rw [trR, w4, if_pos (by dsimp only; omega), hF], show trS b = ttR (tkR (tkR (tkR b))) 4096 by rw [trS, w4, if_pos (by dsimp only; omega)], show trE b = 0 by rw [trE, w4]; dsimp only; omega]
      simp (maxSteps := 1000000) (disch := first | omega | exact ok4096 | (simp only [updB, dsB, reduceCtorEq, Nat.reduceEqDiff, *]; done) | (simp only [digF_len, putK_len, putB_len, lnB] <;> omega) | fail) only [ev0, ev1, ev2, ev3, ↓reduceIte, reduceCtorEq, Nat.reduceAdd, Nat.reduceSub, Nat.reduceMul, Nat.reduceLT, Nat.reduceLeDiff, Nat.reduceEqDiff, Nat.reduceBEq, BitVec.reduceOfInt, Int.reduceLE, Int.reduceLT, Int.reduceGT, Int.reduceGE, Int.reduceNeg, Int.reduceAdd, Int.reduceSub, Int.reduceMul, Int.reduceToNat, ↓bind_go, ↓map_go, wantedV, isWrite, grow, write, ofV, AV.cells, Abs.start, Abs.strip, endQ, resV, rawsRes, rawRes, exports, export1, AS.grown, AS.put, Env.know, Env.boxed, isSelf, convSelf, convV, loadV, storeV, fieldAddrV, fieldV, indexAddrV, indexV, partV, isAggK, isStr, place, lenV, min2V, makeV, freshSl, sliceV, boundOr, bound, bounds, cutFl, copyV, slCells, srcV, appendV, room, zerosOf, eqNeg, kd, takeR, hasViewL, hasView, freshR, freshC, snapAll, snap, snapL, flatL, pureL, pureA, fillC, arrOK, oneA, partB, AV.laid, ren1, CR.gr, applyW, useL, AS.mute, isGen, startG, ev5, tbQe1, List.map_nil, List.all_nil, List.drop_zero, glob, btA, itA, List.size_toArray, Array.size_empty, List.length_nil, nz_f c1, nz_f c2, nz_f c3, nz_f c4]
      exact ResQ.same rfl
    · cases hr
  · cases hr
end Go.Proofs.Ytjnmdphoaafjaaa
