/- What the document writes of a command, and reads as one. -/
import Derived.Test.YtjnmdphoaafjaaaPzc
import Derived.Test.YtjnmdphoaafjaaaQh
import Derived.Test.YtjnmdphoaafjaaaQc
namespace Go.Proofs.Ytjnmdphoaafjaaa
set_option linter.unusedSimpArgs false
set_option linter.unusedVariables false
set_option linter.defProp false
open Go Go.Abs
set_option maxHeartbeats 8000000
noncomputable def EG : Env := EX.know 45 pf44
theorem okG : EnvOK Try.prog EG := okX.know sound45
theorem EG_te : EG.te = te := rfl
theorem EG_glob : EG.glob = glob := rfl
theorem EG_gs : EG.gs = [] := rfl
theorem EG_dyn : EG.dyn = false := rfl
theorem EG_mu (d : Nat) : EG.mu d = false := rfl
theorem EG_12 : EG.tbl 81 = some (.val (fun xs => pf129 (xs.map norm))) := rfl
theorem EG_16 : EG.tbl 82 = some (.val (fun xs => pf79 (xs.map norm))) := rfl
theorem EG_chk : EG.tbl 45 = some (.val pf44) := rfl
noncomputable def pfCn : List AV → Option AV
  | [.agg cs] => (cmd? (cs.map strip)).bind fun c => if (c.d.isSome ∧ c.b.isSome) ∧ c.n ≤ 9223372036854775807 then some (.tup [.sl (cmdR c).1.length (nums .u8 (cmdR c).1) .bor, .raw (.int .i64 (cmdR c).2)]) else none
  | _ => none
theorem rcommand_at {c : Cmd} (h : c.n ≤ 9223372036854775807) : pfCn (List.map norm3 [.agg (cmdA c)]) = some (.tup [.sl (cmdR c).1.length (nums .u8 (cmdR c).1) .bor, .raw (.int .i64 (cmdR c).2)]) := by
  simp only [List.map_cons, List.map_nil, norm3, cmd_norm, pfCn, cmdA_strip, cmd?_at, Option.bind_some]
  rw [if_pos ⟨⟨rfl, rfl⟩, h⟩, cmdR_ful]
def tbQg0 := (And.intro (And.intro (And.intro (And.intro (And.intro (And.intro @teE @cmdA_strip) (And.intro @repA_strip @entA_strip)) (And.intro (And.intro @cmdA_snap @repA_snap) (And.intro @entA_snap (And.intro @cmdA_noview @repA_noview)))) (And.intro (And.intro (And.intro @entA_noview @cmdA_take) (And.intro @cmdA_one @repA_take)) (And.intro (And.intro @repA_one @entA_take) (And.intro @entA_one (And.intro @dropC @dropR))))) (And.intro (And.intro (And.intro (And.intro @dropE @zeroC) (And.intro @zeroR @zeroE)) (And.intro (And.intro @splice_cmd @splice_cmd') (And.intro @splice_rep (And.intro @splice_rep' @splice_ent)))) (And.intro (And.intro (And.intro @splice_ent' @cmdA_len) (And.intro @repA_len @entA_len)) (And.intro (And.intro @rep1 @rep2) (And.intro @rep3 (And.intro @rep5 @one_le)))))) (And.intro (And.intro (And.intro (And.intro (And.intro @le2 @le3) (And.intro @le5 @dr1)) (And.intro (And.intro @dr2 @dr3) (And.intro @dr5 (And.intro @EG_te @EG_glob)))) (And.intro (And.intro (And.intro @EG_gs @EG_dyn) (And.intro @EG_mu @EG_12)) (And.intro (And.intro @EG_16 @EG_chk) (And.intro @ev4 (And.intro @check_at @text_at))))) (And.intro (And.intro (And.intro (And.intro @text_long @text_nil) (And.intro @list_at @list_nil)) (And.intro (And.intro @pf129_at @put_nil) (And.intro @take_at (And.intro @ttake_at @ltake_at)))) (And.intro (And.intro (And.intro @zz0 @zz1) (And.intro @cmdA_0 @cmdA_1)) (And.intro (And.intro @cmdA_2 @cmdA_i) (And.intro @cmdA_4 (And.intro @cmdA_d @cmdA_6)))))))
set_option maxRecDepth 4000 in
theorem sound40 : SoundV Try.prog glob 40 pfCn := by
  refine SoundV.walk EG okG mixed Try.func40 rfl Try.call40 (by kernel_rfl) ?_
  intro args r hr
  unfold pfCn at hr
  split at hr
  · rename_i cs
    simp only [Option.bind_eq_some_iff] at hr
    obtain ⟨c, hc, hr⟩ := hr
    split at hr
    · rename_i hn
      cases hr
      have hcs := cmd?_of hc
      rw [Try.ntmps40, Try.results40]
      refine ⟨by simp, ?_⟩
      obtain ⟨⟨g1, g2⟩, hn⟩ := hn
      rcases check_01 c with h0 | h1
      rotate_left
      · have hR : cmdR c = ([], 1) := by rw [cmdR, if_neg (by omega), h1]
        rw [hR]
        simp (maxSteps := 1000000) (disch := first | omega | exact ok4096 | (simp only [updB, dsB, reduceCtorEq, Nat.reduceEqDiff, *]; done) | (simp only [digF_len, putK_len, putB_len, lnB] <;> omega) | fail) only [ev0, ev1, ev2, ev3, ↓reduceIte, reduceCtorEq, Nat.reduceAdd, Nat.reduceSub, Nat.reduceMul, Nat.reduceLT, Nat.reduceLeDiff, Nat.reduceEqDiff, Nat.reduceBEq, BitVec.reduceOfInt, Int.reduceLE, Int.reduceLT, Int.reduceGT, Int.reduceGE, Int.reduceNeg, Int.reduceAdd, Int.reduceSub, Int.reduceMul, Int.reduceToNat, ↓bind_go, ↓map_go, wantedV, isWrite, grow, write, ofV, AV.cells, Abs.start, Abs.strip, endQ, resV, rawsRes, rawRes, exports, export1, AS.grown, AS.put, Env.know, Env.boxed, isSelf, convSelf, convV, loadV, storeV, fieldAddrV, fieldV, indexAddrV, indexV, partV, isAggK, isStr, place, lenV, min2V, makeV, freshSl, sliceV, boundOr, bound, bounds, cutFl, copyV, slCells, srcV, appendV, room, zerosOf, eqNeg, kd, takeR, hasViewL, hasView, freshR, freshC, snapAll, snap, snapL, flatL, pureL, pureA, fillC, arrOK, oneA, partB, AV.laid, ren1, CR.gr, applyW, useL, AS.mute, isGen, startG, ev5, tbQg0, List.map_nil, List.all_nil, List.drop_zero, glob, btA, itA, List.size_toArray, Array.size_empty, List.length_nil, hcs, h1]
        exact resQ_2nil
      have e5 := num5 h0 hn
      obtain ⟨ld, lb⟩ := dat_len h0
      have hR : cmdR c = (cmdB c, 0) := by rw [cmdR, if_pos h0]
      rw [hR]
      obtain ⟨k, s, q, i, n, d, b⟩ := c
      obtain ⟨d, rfl⟩ := Option.isSome_iff_exists.1 g1
      obtain ⟨b, rfl⟩ := Option.isSome_iff_exists.1 g2
      simp only [cmdB, dat] at *
      have hB : ∃ l : List Int, l = [k, s, q, i, n] := ⟨_, rfl⟩
      obtain ⟨l, hl⟩ := hB
      have hll : l.length = 5 := by rw [hl]; rfl
      have hli : ∀ n ∈ l, i64ok n := fun x hx => by rw [hl] at hx; have := e5 x hx; unfold i64ok; omega
      have hpos : ∀ j, j < l.length → 0 ≤ l.getD j 0 ∧ l.getD j 0 ≤ 9223372036854775807 := fun j hj => e5 _ (by rw [← hl]; exact getD_mem hj)
      have hint : [AV.raw (.int .i64 k), .raw (.int .i64 s), .raw (.int .i64 q), .raw (.int .i64 i), .raw (.int .i64 n)] = ints .i64 l := by rw [hl]; rfl
      rw [← hl]
      simp (maxSteps := 1000000) (disch := first | omega | exact ok4096 | (simp only [updB, dsB, reduceCtorEq, Nat.reduceEqDiff, *]; done) | (simp only [digF_len, putK_len, putB_len, lnB] <;> omega) | fail) only [ev0, ev1, ev2, ev3, ↓reduceIte, reduceCtorEq, Nat.reduceAdd, Nat.reduceSub, Nat.reduceMul, Nat.reduceLT, Nat.reduceLeDiff, Nat.reduceEqDiff, Nat.reduceBEq, BitVec.reduceOfInt, Int.reduceLE, Int.reduceLT, Int.reduceGT, Int.reduceGE, Int.reduceNeg, Int.reduceAdd, Int.reduceSub, Int.reduceMul, Int.reduceToNat, ↓bind_go, ↓map_go, wantedV, isWrite, grow, write, ofV, AV.cells, Abs.start, Abs.strip, endQ, resV, rawsRes, rawRes, exports, export1, AS.grown, AS.put, Env.know, Env.boxed, isSelf, convSelf, convV, loadV, storeV, fieldAddrV, fieldV, indexAddrV, indexV, partV, isAggK, isStr, place, lenV, min2V, makeV, freshSl, sliceV, boundOr, bound, bounds, cutFl, copyV, slCells, srcV, appendV, room, zerosOf, eqNeg, kd, takeR, hasViewL, hasView, freshR, freshC, snapAll, snap, snapL, flatL, pureL, pureA, fillC, arrOK, oneA, partB, AV.laid, ren1, CR.gr, applyW, useL, AS.mute, isGen, startG, ev5, tbQg0, List.map_nil, List.all_nil, List.drop_zero, glob, btA, itA, List.size_toArray, Array.size_empty, List.length_nil, hcs, h0]
      refine loopQ_of (fun n' σ => ∃ j w, j ≤ 5 ∧ n' = 5 - j ∧ σ.slots 7 = .raw (.int .i64 (j : Int)) ∧ (∃ fl, σ.slots 6 = .sl 5 (ints .i64 l) fl) ∧ σ.slots 5 = .sl (nmK l j).length (nums .u8 (nmK l j)) (.own w 1) ∧ σ.slots 1 = .ptr (.own 0 1 1) 0 ∧ σ.box (.own 0 1 1) = some (cmdA ⟨k, s, q, i, n, some d, some b⟩)) 5 ?_ ?_
      · refine ⟨0, ⟨0, 13, 0, 1⟩, by omega, by omega, ?_⟩
        simp (maxSteps := 1000000) (disch := first | omega | exact ok4096 | (simp only [updB, dsB, reduceCtorEq, Nat.reduceEqDiff, *]; done) | (simp only [digF_len, putK_len, putB_len, lnB] <;> omega) | fail) only [ev0, ev1, ev2, ev3, ↓reduceIte, reduceCtorEq, Nat.reduceAdd, Nat.reduceSub, Nat.reduceMul, Nat.reduceLT, Nat.reduceLeDiff, Nat.reduceEqDiff, Nat.reduceBEq, BitVec.reduceOfInt, Int.reduceLE, Int.reduceLT, Int.reduceGT, Int.reduceGE, Int.reduceNeg, Int.reduceAdd, Int.reduceSub, Int.reduceMul, Int.reduceToNat, ↓bind_go, ↓map_go, wantedV, isWrite, grow, write, ofV, AV.cells, Abs.start, Abs.strip, endQ, resV, rawsRes, rawRes, exports, export1, AS.grown, AS.put, Env.know, Env.boxed, isSelf, convSelf, convV, loadV, storeV, fieldAddrV, fieldV, indexAddrV, indexV, partV, isAggK, isStr, place, lenV, min2V, makeV, freshSl, sliceV, boundOr, bound, bounds, cutFl, copyV, slCells, srcV, appendV, room, zerosOf, eqNeg, kd, takeR, hasViewL, hasView, freshR, freshC, snapAll, snap, snapL, flatL, pureL, pureA, fillC, arrOK, oneA, partB, AV.laid, ren1, CR.gr, applyW, useL, AS.mute, isGen, startG, ev5, tbQg0, List.map_nil, List.all_nil, List.drop_zero, glob, btA, itA, List.size_toArray, Array.size_empty, List.length_nil, hint]
        try (repeat' first | exact rfl | exact ⟨_, rfl⟩ | refine ⟨?_, ?_⟩ | (simp [updI]; done) | (intro g _; simp [updI]; done) | (intros; simp_all; done))
      · rintro n' ⟨sl, gn, bx, us⟩ ⟨j, w, hj, rfl, s7, ⟨fl, s6⟩, s5, s1, hb⟩
        dsimp only at s7 s6 s5 s1 hb
        have lM := nmK_len l hli j (by omega)
        generalize hM : nmK l j = M at s5 lM
        simp (maxSteps := 1000000) (disch := first | omega | exact ok4096 | (simp only [updB, dsB, reduceCtorEq, Nat.reduceEqDiff, *]; done) | (simp only [digF_len, putK_len, putB_len, lnB] <;> omega) | fail) only [ev0, ev1, ev2, ev3, ↓reduceIte, reduceCtorEq, Nat.reduceAdd, Nat.reduceSub, Nat.reduceMul, Nat.reduceLT, Nat.reduceLeDiff, Nat.reduceEqDiff, Nat.reduceBEq, BitVec.reduceOfInt, Int.reduceLE, Int.reduceLT, Int.reduceGT, Int.reduceGE, Int.reduceNeg, Int.reduceAdd, Int.reduceSub, Int.reduceMul, Int.reduceToNat, ↓bind_go, ↓map_go, wantedV, isWrite, grow, write, ofV, AV.cells, Abs.start, Abs.strip, endQ, resV, rawsRes, rawRes, exports, export1, AS.grown, AS.put, Env.know, Env.boxed, isSelf, convSelf, convV, loadV, storeV, fieldAddrV, fieldV, indexAddrV, indexV, partV, isAggK, isStr, place, lenV, min2V, makeV, freshSl, sliceV, boundOr, bound, bounds, cutFl, copyV, slCells, srcV, appendV, room, zerosOf, eqNeg, kd, takeR, hasViewL, hasView, freshR, freshC, snapAll, snap, snapL, flatL, pureL, pureA, fillC, arrOK, oneA, partB, AV.laid, ren1, CR.gr, applyW, useL, AS.mute, isGen, startG, ev5, tbQg0, List.map_nil, List.all_nil, List.drop_zero, glob, btA, itA, List.size_toArray, Array.size_empty, List.length_nil, s7, s6, s5, s1, hb]
        refine condQ_dec (fun hlt => ?_) (fun hge => ?_)
        · have hlt : j < 5 := by omega
          have h0' := hpos j (by omega)
          have hn8 := need_le (l.getD j 0).toNat (by omega)
          simp (maxSteps := 1000000) (disch := first | omega | exact ok4096 | (simp only [updB, dsB, reduceCtorEq, Nat.reduceEqDiff, *]; done) | (simp only [digF_len, putK_len, putB_len, lnB] <;> omega) | fail) only [ev0, ev1, ev2, ev3, ↓reduceIte, reduceCtorEq, Nat.reduceAdd, Nat.reduceSub, Nat.reduceMul, Nat.reduceLT, Nat.reduceLeDiff, Nat.reduceEqDiff, Nat.reduceBEq, BitVec.reduceOfInt, Int.reduceLE, Int.reduceLT, Int.reduceGT, Int.reduceGE, Int.reduceNeg, Int.reduceAdd, Int.reduceSub, Int.reduceMul, Int.reduceToNat, ↓bind_go, ↓map_go, wantedV, isWrite, grow, write, ofV, AV.cells, Abs.start, Abs.strip, endQ, resV, rawsRes, rawRes, exports, export1, AS.grown, AS.put, Env.know, Env.boxed, isSelf, convSelf, convV, loadV, storeV, fieldAddrV, fieldV, indexAddrV, indexV, partV, isAggK, isStr, place, lenV, min2V, makeV, freshSl, sliceV, boundOr, bound, bounds, cutFl, copyV, slCells, srcV, appendV, room, zerosOf, eqNeg, kd, takeR, hasViewL, hasView, freshR, freshC, snapAll, snap, snapL, flatL, pureL, pureA, fillC, arrOK, oneA, partB, AV.laid, ren1, CR.gr, applyW, useL, AS.mute, isGen, startG, ev5, tbQg0, List.map_nil, List.all_nil, List.drop_zero, glob, btA, itA, List.size_toArray, Array.size_empty, List.length_nil, s7, s6, s5, s1, hb]
          refine ⟨5 - (j + 1), by omega, j + 1, ⟨0, 35, 0, gn 35 + 1⟩, by omega, rfl, rfl, ⟨_, rfl⟩, ?_⟩
          have hN : nmK l (j + 1) = putB M (l.getD j 0).toNat := by rw [nmK, hM]
          rw [hN, putB_len]
          try (repeat' first | exact rfl | exact ⟨_, rfl⟩ | refine ⟨?_, ?_⟩ | (simp [updI]; done) | (intro g _; simp [updI]; done) | (intros; simp_all; done))
        · have hj : j = 5 := by omega
          subst hj
          have hF : nmF l = M := by rw [nmF, hll]; exact hM
          rw [hF]
          have lt := txB_len M d (by omega)
          cases hu : us ⟨0, 48, 0, gn 48 + 1⟩
          · simp (maxSteps := 1000000) (disch := first | omega | exact ok4096 | (simp only [updB, dsB, reduceCtorEq, Nat.reduceEqDiff, *]; done) | (simp only [digF_len, putK_len, putB_len, lnB] <;> omega) | fail) only [ev0, ev1, ev2, ev3, ↓reduceIte, reduceCtorEq, Nat.reduceAdd, Nat.reduceSub, Nat.reduceMul, Nat.reduceLT, Nat.reduceLeDiff, Nat.reduceEqDiff, Nat.reduceBEq, BitVec.reduceOfInt, Int.reduceLE, Int.reduceLT, Int.reduceGT, Int.reduceGE, Int.reduceNeg, Int.reduceAdd, Int.reduceSub, Int.reduceMul, Int.reduceToNat, ↓bind_go, ↓map_go, wantedV, isWrite, grow, write, ofV, AV.cells, Abs.start, Abs.strip, endQ, resV, rawsRes, rawRes, exports, export1, AS.grown, AS.put, Env.know, Env.boxed, isSelf, convSelf, convV, loadV, storeV, fieldAddrV, fieldV, indexAddrV, indexV, partV, isAggK, isStr, place, lenV, min2V, makeV, freshSl, sliceV, boundOr, bound, bounds, cutFl, copyV, slCells, srcV, appendV, room, zerosOf, eqNeg, kd, takeR, hasViewL, hasView, freshR, freshC, snapAll, snap, snapL, flatL, pureL, pureA, fillC, arrOK, oneA, partB, AV.laid, ren1, CR.gr, applyW, useL, AS.mute, isGen, startG, ev5, tbQg0, List.map_nil, List.all_nil, List.drop_zero, glob, btA, itA, List.size_toArray, Array.size_empty, List.length_nil, s7, s6, s5, s1, hb, hu]
            exact resQ_2
          · simp (maxSteps := 1000000) (disch := first | omega | exact ok4096 | (simp only [updB, dsB, reduceCtorEq, Nat.reduceEqDiff, *]; done) | (simp only [digF_len, putK_len, putB_len, lnB] <;> omega) | fail) only [ev0, ev1, ev2, ev3, ↓reduceIte, reduceCtorEq, Nat.reduceAdd, Nat.reduceSub, Nat.reduceMul, Nat.reduceLT, Nat.reduceLeDiff, Nat.reduceEqDiff, Nat.reduceBEq, BitVec.reduceOfInt, Int.reduceLE, Int.reduceLT, Int.reduceGT, Int.reduceGE, Int.reduceNeg, Int.reduceAdd, Int.reduceSub, Int.reduceMul, Int.reduceToNat, ↓bind_go, ↓map_go, wantedV, isWrite, grow, write, ofV, AV.cells, Abs.start, Abs.strip, endQ, resV, rawsRes, rawRes, exports, export1, AS.grown, AS.put, Env.know, Env.boxed, isSelf, convSelf, convV, loadV, storeV, fieldAddrV, fieldV, indexAddrV, indexV, partV, isAggK, isStr, place, lenV, min2V, makeV, freshSl, sliceV, boundOr, bound, bounds, cutFl, copyV, slCells, srcV, appendV, room, zerosOf, eqNeg, kd, takeR, hasViewL, hasView, freshR, freshC, snapAll, snap, snapL, flatL, pureL, pureA, fillC, arrOK, oneA, partB, AV.laid, ren1, CR.gr, applyW, useL, AS.mute, isGen, startG, ev5, tbQg0, List.map_nil, List.all_nil, List.drop_zero, glob, btA, itA, List.size_toArray, Array.size_empty, List.length_nil, s7, s6, s5, s1, hb, hu]
            exact resQ_2
    · cases hr
  · cases hr
/-- the reader, number by number -/
def qk (b : List (BitVec 8)) : Nat → List (BitVec 8) × Int
  | 0 => (b, 0)
  | k + 1 => rS (qk b k)
theorem qk5 (b : List (BitVec 8)) : qk b 5 = q5 b := rfl
theorem qk_le (b : List (BitVec 8)) (k : Nat) : (qk b k).1.length ≤ b.length := by
  induction k with
  | zero => exact Nat.le_refl _
  | succ k ih => exact Nat.le_trans (rS_le _) ih
theorem qk_bad {b : List (BitVec 8)} {k : Nat} (h : (qk b k).2 ≠ 0) (j : Nat) : (qk b (k + j)).2 ≠ 0 := by
  induction j with
  | zero => exact h
  | succ j ih => rw [← Nat.add_assoc, qk, rS_no ih]; exact ih
theorem isC_bad {b : List (BitVec 8)} (h : (q5 b).2 ≠ 0) : isC b = false := by
  rw [isC, q7, q6, tS_no h, tS_no h, decide_eq_false h, Bool.false_and]
noncomputable def ED : Env := EG.know 40 (fun xs => pfCn (xs.map norm3))
theorem okED : EnvOK Try.prog ED := okG.know (SoundV.norm3 sound40)
theorem ED_te : ED.te = te := rfl
theorem ED_glob : ED.glob = glob := rfl
theorem ED_gs : ED.gs = [] := rfl
theorem ED_dyn : ED.dyn = false := rfl
theorem ED_mu (d : Nat) : ED.mu d = false := rfl
theorem ED_14 : ED.tbl 87 = some (.val (fun xs => pf147 (xs.map norm))) := rfl
theorem ED_18 : ED.tbl 88 = some (.val (fun xs => pf132 (xs.map norm))) := rfl
theorem ED_com : ED.tbl 40 = some (.val (fun xs => pfCn (xs.map norm3))) := rfl
theorem getD5 (a b c d e : Int) : [a, b, c, d, e].getD 0 0 = a ∧ [a, b, c, d, e].getD 1 0 = b ∧ [a, b, c, d, e].getD 2 0 = c ∧ [a, b, c, d, e].getD 3 0 = d ∧ [a, b, c, d, e].getD 4 0 = e := ⟨rfl, rfl, rfl, rfl, rfl⟩
def tbQg1 := (And.intro (And.intro (And.intro (And.intro (And.intro @teE (And.intro @cmdA_strip @repA_strip)) (And.intro (And.intro @entA_strip @cmdA_snap) (And.intro @repA_snap @entA_snap))) (And.intro (And.intro @cmdA_noview (And.intro @repA_noview @entA_noview)) (And.intro (And.intro @cmdA_take @cmdA_one) (And.intro @repA_take @repA_one)))) (And.intro (And.intro (And.intro @entA_take (And.intro @entA_one @dropC)) (And.intro (And.intro @dropR @dropE) (And.intro @zeroC @zeroR))) (And.intro (And.intro (And.intro @zeroE @splice_cmd) (And.intro @splice_cmd' @splice_rep)) (And.intro (And.intro @splice_rep' @splice_ent) (And.intro @splice_ent' @cmdA_len))))) (And.intro (And.intro (And.intro (And.intro @repA_len (And.intro @entA_len @rep1)) (And.intro (And.intro @rep2 @rep3) (And.intro @rep5 @one_le))) (And.intro (And.intro @le2 (And.intro @le3 @le5)) (And.intro (And.intro @dr1 @dr2) (And.intro @dr3 @dr5)))) (And.intro (And.intro (And.intro @ED_te (And.intro @ED_glob @ED_gs)) (And.intro (And.intro @ED_dyn @ED_mu) (And.intro @ED_14 @ED_18))) (And.intro (And.intro (And.intro @ED_com @ev4) (And.intro @take_at @ttake_at)) (And.intro (And.intro @zz0 @zz1) (And.intro @dat_beq @asB0))))))
set_option maxRecDepth 4000 in
theorem sound42 : SoundV Try.prog glob 42 pf41 := by
  refine SoundV.walk ED okED mixed Try.func42 rfl Try.call42 (by kernel_rfl) ?_
  intro args r hr
  unfold pf41 at hr
  split at hr
  · simp only [Option.bind_eq_some_iff] at hr
    obtain ⟨b, h1, hr⟩ := hr
    split at hr
    · rename_i hc
      cases hr
      obtain ⟨fl, rfl⟩ := row?_of h1
      rw [Try.ntmps42, Try.results42]
      refine ⟨by simp, ?_⟩
      have bad : isC b = false → AV.tup [.agg (cmdA (tcC b)), .raw (.int .i64 (tcE b))] = .tup [.agg (cmdA noC), .raw (.int .i64 80)] := fun h => by rw [tcC, tcE, h]; rfl
      simp (maxSteps := 1000000) (disch := first | omega | exact ok4096 | (simp only [updB, dsB, reduceCtorEq, Nat.reduceEqDiff, *]; done) | (simp only [digF_len, putK_len, putB_len, lnB] <;> omega) | fail) only [ev0, ev1, ev2, ev3, ↓reduceIte, reduceCtorEq, Nat.reduceAdd, Nat.reduceSub, Nat.reduceMul, Nat.reduceLT, Nat.reduceLeDiff, Nat.reduceEqDiff, Nat.reduceBEq, BitVec.reduceOfInt, Int.reduceLE, Int.reduceLT, Int.reduceGT, Int.reduceGE, Int.reduceNeg, Int.reduceAdd, Int.reduceSub, Int.reduceMul, Int.reduceToNat, ↓bind_go, ↓map_go, wantedV, isWrite, grow, write, ofV, AV.cells, Abs.start, Abs.strip, endQ, resV, rawsRes, rawRes, exports, export1, AS.grown, AS.put, Env.know, Env.boxed, isSelf, convSelf, convV, loadV, storeV, fieldAddrV, fieldV, indexAddrV, indexV, partV, isAggK, isStr, place, lenV, min2V, makeV, freshSl, sliceV, boundOr, bound, bounds, cutFl, copyV, slCells, srcV, appendV, room, zerosOf, eqNeg, kd, takeR, hasViewL, hasView, freshR, freshC, snapAll, snap, snapL, flatL, pureL, pureA, fillC, arrOK, oneA, partB, AV.laid, ren1, CR.gr, applyW, useL, AS.mute, isGen, startG, ev5, tbQg1, List.map_nil, List.all_nil, List.drop_zero, glob, btA, itA, List.size_toArray, Array.size_empty, List.length_nil]
      refine loopQ_of (fun n σ => ∃ k i L, k ≤ 5 ∧ n = 5 - k ∧ L.length = k ∧ (qk b k).2 = 0 ∧ (∀ j, j < k → L.getD j 0 = rN (qk b j)) ∧ σ.slots 7 = .raw (.int .i64 (k : Int)) ∧ σ.slots 6 = .sl (qk b k).1.length (nums .u8 (qk b k).1) .bor ∧ σ.slots 5 = .sl k (ints .i64 L) (.own i 1) ∧ σ.slots 0 = .sl b.length (nums .u8 b) .bor ∧ σ.slots 2 = .ptr (.own 0 2 1) 0 ∧ σ.slots 4 = .ptr (.own 0 4 1) 0 ∧ (∃ z, σ.box (.own 0 2 1) = some (cmdA z)) ∧ σ.box (.own 0 4 1) = some (cmdA noC) ∧ Free σ.used (σ.gen 36) 36 i) 5 ?_ ?_
      · refine ⟨0, ⟨0, 18, 0, 1⟩, [], by omega, by omega, rfl, rfl, by simp, ?_⟩
        simp (maxSteps := 1000000) (disch := first | omega | exact ok4096 | (simp only [updB, dsB, reduceCtorEq, Nat.reduceEqDiff, *]; done) | (simp only [digF_len, putK_len, putB_len, lnB] <;> omega) | fail) only [ev0, ev1, ev2, ev3, ↓reduceIte, reduceCtorEq, Nat.reduceAdd, Nat.reduceSub, Nat.reduceMul, Nat.reduceLT, Nat.reduceLeDiff, Nat.reduceEqDiff, Nat.reduceBEq, BitVec.reduceOfInt, Int.reduceLE, Int.reduceLT, Int.reduceGT, Int.reduceGE, Int.reduceNeg, Int.reduceAdd, Int.reduceSub, Int.reduceMul, Int.reduceToNat, ↓bind_go, ↓map_go, wantedV, isWrite, grow, write, ofV, AV.cells, Abs.start, Abs.strip, endQ, resV, rawsRes, rawRes, exports, export1, AS.grown, AS.put, Env.know, Env.boxed, isSelf, convSelf, convV, loadV, storeV, fieldAddrV, fieldV, indexAddrV, indexV, partV, isAggK, isStr, place, lenV, min2V, makeV, freshSl, sliceV, boundOr, bound, bounds, cutFl, copyV, slCells, srcV, appendV, room, zerosOf, eqNeg, kd, takeR, hasViewL, hasView, freshR, freshC, snapAll, snap, snapL, flatL, pureL, pureA, fillC, arrOK, oneA, partB, AV.laid, ren1, CR.gr, applyW, useL, AS.mute, isGen, startG, ev5, tbQg1, List.map_nil, List.all_nil, List.drop_zero, glob, btA, itA, List.size_toArray, Array.size_empty, List.length_nil]
        try (repeat' first | exact rfl | exact ⟨_, rfl⟩ | refine ⟨?_, ?_⟩ | (simp [updI]; done) | (intro g _; simp [updI]; done) | (intros; simp_all; done))
      · rintro n ⟨sl, gn, bx, us⟩ ⟨k, i, L, hk, rfl, lL, hz, hL, s7, s6, s5, s0, s2, s4, ⟨z, b2⟩, b4, hf⟩
        dsimp only at s7 s6 s5 s0 s2 s4 b2 b4 hf
        have hf0 := hf.now
        have lq := qk_le b k
        have hS := rS_ok hz
        have hN := rN_ok' hz
        have hne : ∀ j, (qk b (k + j)).2 = (qk b (k + j)).2 := fun _ => rfl
        have l1 := tkR_le (qk b k).1
        simp (maxSteps := 1000000) (disch := first | omega | exact ok4096 | (simp only [updB, dsB, reduceCtorEq, Nat.reduceEqDiff, *]; done) | (simp only [digF_len, putK_len, putB_len, lnB] <;> omega) | fail) only [ev0, ev1, ev2, ev3, ↓reduceIte, reduceCtorEq, Nat.reduceAdd, Nat.reduceSub, Nat.reduceMul, Nat.reduceLT, Nat.reduceLeDiff, Nat.reduceEqDiff, Nat.reduceBEq, BitVec.reduceOfInt, Int.reduceLE, Int.reduceLT, Int.reduceGT, Int.reduceGE, Int.reduceNeg, Int.reduceAdd, Int.reduceSub, Int.reduceMul, Int.reduceToNat, ↓bind_go, ↓map_go, wantedV, isWrite, grow, write, ofV, AV.cells, Abs.start, Abs.strip, endQ, resV, rawsRes, rawRes, exports, export1, AS.grown, AS.put, Env.know, Env.boxed, isSelf, convSelf, convV, loadV, storeV, fieldAddrV, fieldV, indexAddrV, indexV, partV, isAggK, isStr, place, lenV, min2V, makeV, freshSl, sliceV, boundOr, bound, bounds, cutFl, copyV, slCells, srcV, appendV, room, zerosOf, eqNeg, kd, takeR, hasViewL, hasView, freshR, freshC, snapAll, snap, snapL, flatL, pureL, pureA, fillC, arrOK, oneA, partB, AV.laid, ren1, CR.gr, applyW, useL, AS.mute, isGen, startG, ev5, tbQg1, List.map_nil, List.all_nil, List.drop_zero, glob, btA, itA, List.size_toArray, Array.size_empty, List.length_nil, s7, s6, s5, s0, s2, s4, b2, b4, hf0, lL]
        refine condQ_dec (fun hlt => ?_) (fun hge => ?_)
        · have hlt : k < 5 := by omega
          by_cases c : tkE (qk b k).1 = 0
          · have hz' : (qk b (k + 1)).2 = 0 := by rw [qk, hS]; dsimp only; omega
            have hR : qk b (k + 1) = (tkR (qk b k).1, (tkE (qk b k).1 : Int)) := by rw [qk, hS]
            simp (maxSteps := 1000000) (disch := first | omega | exact ok4096 | (simp only [updB, dsB, reduceCtorEq, Nat.reduceEqDiff, *]; done) | (simp only [digF_len, putK_len, putB_len, lnB] <;> omega) | fail) only [ev0, ev1, ev2, ev3, ↓reduceIte, reduceCtorEq, Nat.reduceAdd, Nat.reduceSub, Nat.reduceMul, Nat.reduceLT, Nat.reduceLeDiff, Nat.reduceEqDiff, Nat.reduceBEq, BitVec.reduceOfInt, Int.reduceLE, Int.reduceLT, Int.reduceGT, Int.reduceGE, Int.reduceNeg, Int.reduceAdd, Int.reduceSub, Int.reduceMul, Int.reduceToNat, ↓bind_go, ↓map_go, wantedV, isWrite, grow, write, ofV, AV.cells, Abs.start, Abs.strip, endQ, resV, rawsRes, rawRes, exports, export1, AS.grown, AS.put, Env.know, Env.boxed, isSelf, convSelf, convV, loadV, storeV, fieldAddrV, fieldV, indexAddrV, indexV, partV, isAggK, isStr, place, lenV, min2V, makeV, freshSl, sliceV, boundOr, bound, bounds, cutFl, copyV, slCells, srcV, appendV, room, zerosOf, eqNeg, kd, takeR, hasViewL, hasView, freshR, freshC, snapAll, snap, snapL, flatL, pureL, pureA, fillC, arrOK, oneA, partB, AV.laid, ren1, CR.gr, applyW, useL, AS.mute, isGen, startG, ev5, tbQg1, List.map_nil, List.all_nil, List.drop_zero, glob, btA, itA, List.size_toArray, Array.size_empty, List.length_nil, s7, s6, s5, s0, s2, s4, b2, b4, hf0, lL, nz_f c]
            refine ⟨5 - (k + 1), by omega, k + 1, ⟨0, 36, 0, gn 36 + 1⟩, L ++ [rN (qk b k)], by omega, rfl, by simp [lL], hz', ?_, ?_⟩
            · intro j hj
              rw [List.getD_eq_getElem?_getD]
              rcases Nat.lt_or_eq_of_le (Nat.le_of_lt_succ hj) with h | h
              · rw [List.getElem?_append_left (by omega), ← List.getD_eq_getElem?_getD]; exact hL j h
              · subst h; rw [List.getElem?_append_right (by omega), lL, Nat.sub_self]; rfl
            · rw [hR, hN]
              repeat' first | exact rfl | exact ⟨_, rfl⟩ | exact hf.go | refine ⟨?_, ?_⟩ | (simp [updI]; done) | (intro g _; simp [updI]; done) | (intros; simp_all; done)
          · have hbd : (qk b (k + 1)).2 ≠ 0 := by rw [qk, hS]; dsimp only; omega
            have h5 := qk_bad hbd (5 - (k + 1))
            rw [show k + 1 + (5 - (k + 1)) = 5 by omega, qk5] at h5
            rw [bad (isC_bad h5)]
            simp (maxSteps := 1000000) (disch := first | omega | exact ok4096 | (simp only [updB, dsB, reduceCtorEq, Nat.reduceEqDiff, *]; done) | (simp only [digF_len, putK_len, putB_len, lnB] <;> omega) | fail) only [ev0, ev1, ev2, ev3, ↓reduceIte, reduceCtorEq, Nat.reduceAdd, Nat.reduceSub, Nat.reduceMul, Nat.reduceLT, Nat.reduceLeDiff, Nat.reduceEqDiff, Nat.reduceBEq, BitVec.reduceOfInt, Int.reduceLE, Int.reduceLT, Int.reduceGT, Int.reduceGE, Int.reduceNeg, Int.reduceAdd, Int.reduceSub, Int.reduceMul, Int.reduceToNat, ↓bind_go, ↓map_go, wantedV, isWrite, grow, write, ofV, AV.cells, Abs.start, Abs.strip, endQ, resV, rawsRes, rawRes, exports, export1, AS.grown, AS.put, Env.know, Env.boxed, isSelf, convSelf, convV, loadV, storeV, fieldAddrV, fieldV, indexAddrV, indexV, partV, isAggK, isStr, place, lenV, min2V, makeV, freshSl, sliceV, boundOr, bound, bounds, cutFl, copyV, slCells, srcV, appendV, room, zerosOf, eqNeg, kd, takeR, hasViewL, hasView, freshR, freshC, snapAll, snap, snapL, flatL, pureL, pureA, fillC, arrOK, oneA, partB, AV.laid, ren1, CR.gr, applyW, useL, AS.mute, isGen, startG, ev5, tbQg1, List.map_nil, List.all_nil, List.drop_zero, glob, btA, itA, List.size_toArray, Array.size_empty, List.length_nil, s7, s6, s5, s0, s2, s4, b2, b4, hf0, lL, nz_t c]
            exact ResQ.same rfl
        · have hk : k = 5 := by omega
          subst hk
          rw [qk5] at s6 hz lq l1
          have w6 : q6 b = (ttR (q5 b).1 4096, (ttE (q5 b).1 4096 : Int)) := by rw [q6, tS_ok hz]
          have l6 := ttR_le (q5 b).1 4096
          by_cases c6 : ttE (q5 b).1 4096 = 0
          rotate_left
          · have hb : isC b = false := by
              have : (q6 b).2 ≠ 0 := by rw [w6]; dsimp only; omega
              rw [isC, q7, tS_no this, decide_eq_false this, Bool.false_and]
            rw [bad hb]
            simp (maxSteps := 1000000) (disch := first | omega | exact ok4096 | (simp only [updB, dsB, reduceCtorEq, Nat.reduceEqDiff, *]; done) | (simp only [digF_len, putK_len, putB_len, lnB] <;> omega) | fail) only [ev0, ev1, ev2, ev3, ↓reduceIte, reduceCtorEq, Nat.reduceAdd, Nat.reduceSub, Nat.reduceMul, Nat.reduceLT, Nat.reduceLeDiff, Nat.reduceEqDiff, Nat.reduceBEq, BitVec.reduceOfInt, Int.reduceLE, Int.reduceLT, Int.reduceGT, Int.reduceGE, Int.reduceNeg, Int.reduceAdd, Int.reduceSub, Int.reduceMul, Int.reduceToNat, ↓bind_go, ↓map_go, wantedV, isWrite, grow, write, ofV, AV.cells, Abs.start, Abs.strip, endQ, resV, rawsRes, rawRes, exports, export1, AS.grown, AS.put, Env.know, Env.boxed, isSelf, convSelf, convV, loadV, storeV, fieldAddrV, fieldV, indexAddrV, indexV, partV, isAggK, isStr, place, lenV, min2V, makeV, freshSl, sliceV, boundOr, bound, bounds, cutFl, copyV, slCells, srcV, appendV, room, zerosOf, eqNeg, kd, takeR, hasViewL, hasView, freshR, freshC, snapAll, snap, snapL, flatL, pureL, pureA, fillC, arrOK, oneA, partB, AV.laid, ren1, CR.gr, applyW, useL, AS.mute, isGen, startG, ev5, tbQg1, List.map_nil, List.all_nil, List.drop_zero, glob, btA, itA, List.size_toArray, Array.size_empty, List.length_nil, s7, s6, s5, s0, s2, s4, b2, b4, hf0, lL, nz_t c6]
            exact ResQ.same rfl
          have w7 : q7 b = (ttR (ttR (q5 b).1 4096) 4096, (ttE (ttR (q5 b).1 4096) 4096 : Int)) := by rw [q7, w6, tS_ok (by dsimp only; omega)]
          by_cases c7 : ttE (ttR (q5 b).1 4096) 4096 = 0
          rotate_left
          · have hb : isC b = false := by rw [isC, w7, dz c7, Bool.false_and]
            rw [bad hb]
            simp (maxSteps := 1000000) (disch := first | omega | exact ok4096 | (simp only [updB, dsB, reduceCtorEq, Nat.reduceEqDiff, *]; done) | (simp only [digF_len, putK_len, putB_len, lnB] <;> omega) | fail) only [ev0, ev1, ev2, ev3, ↓reduceIte, reduceCtorEq, Nat.reduceAdd, Nat.reduceSub, Nat.reduceMul, Nat.reduceLT, Nat.reduceLeDiff, Nat.reduceEqDiff, Nat.reduceBEq, BitVec.reduceOfInt, Int.reduceLE, Int.reduceLT, Int.reduceGT, Int.reduceGE, Int.reduceNeg, Int.reduceAdd, Int.reduceSub, Int.reduceMul, Int.reduceToNat, ↓bind_go, ↓map_go, wantedV, isWrite, grow, write, ofV, AV.cells, Abs.start, Abs.strip, endQ, resV, rawsRes, rawRes, exports, export1, AS.grown, AS.put, Env.know, Env.boxed, isSelf, convSelf, convV, loadV, storeV, fieldAddrV, fieldV, indexAddrV, indexV, partV, isAggK, isStr, place, lenV, min2V, makeV, freshSl, sliceV, boundOr, bound, bounds, cutFl, copyV, slCells, srcV, appendV, room, zerosOf, eqNeg, kd, takeR, hasViewL, hasView, freshR, freshC, snapAll, snap, snapL, flatL, pureL, pureA, fillC, arrOK, oneA, partB, AV.laid, ren1, CR.gr, applyW, useL, AS.mute, isGen, startG, ev5, tbQg1, List.map_nil, List.all_nil, List.drop_zero, glob, btA, itA, List.size_toArray, Array.size_empty, List.length_nil, s7, s6, s5, s0, s2, s4, b2, b4, hf0, lL, nz_f c6, nz_t c7]
            exact ResQ.same rfl
          have n0 : L.getD 0 0 = rN (b, 0) := hL 0 (by omega)
          have n1 : L.getD 1 0 = rN (q1 b) := hL 1 (by omega)
          have n2 : L.getD 2 0 = rN (q2 b) := hL 2 (by omega)
          have n3 : L.getD 3 0 = rN (q3 b) := hL 3 (by omega)
          have n4 : L.getD 4 0 = rN (q4 b) := hL 4 (by omega)
          have hC : cC b = ⟨L.getD 0 0, L.getD 1 0, L.getD 2 0, L.getD 3 0, L.getD 4 0, some (ttT (q5 b).1 4096), some (ttT (ttR (q5 b).1 4096) 4096)⟩ := by
            rw [cC, n0, n1, n2, n3, n4, tN_ok hz, tN_ok (by rw [w6]; dsimp only; omega), w6]
          have hi : isC b = (decide ((cmdR (cC b)).2 = 0) && decide ((cmdR (cC b)).1 = b)) := by rw [isC, w7, c7]; simp
          have hE := rcommand_at (c := cC b) (rN_ok (q4 b)).2
          have hA : cmdA (cC b) = [.raw (.int .i64 (L.getD 0 0)), .raw (.int .i64 (L.getD 1 0)), .raw (.int .i64 (L.getD 2 0)), .raw (.int .i64 (L.getD 3 0)), .raw (.int .i64 (L.getD 4 0)), .sl (ttT (q5 b).1 4096).length (nums .u8 (ttT (q5 b).1 4096)) .bor, .sl (ttT (ttR (q5 b).1 4096) 4096).length (nums .u8 (ttT (ttR (q5 b).1 4096) 4096)) .bor] := by rw [hC]; rfl
          have hT : tcC b = if isC b = true then cC b else noC := rfl
          have hE2 : tcE b = if isC b = true then 0 else 80 := rfl
          generalize cC b = x at hi hE hA hT
          rw [hA] at hE
          simp only [List.map_cons, List.map_nil] at hE
          by_cases c8 : (cmdR x).2 = 0
          · have d8 : ((cmdR x).2 != 0) = false := by rw [c8]; rfl
            by_cases c9 : (cmdR x).1 = b
            · have d9 : decide ((cmdR x).1 = b) = true := decide_eq_true c9
              have hi' : isC b = true := by rw [hi, c8, d9]; rfl
              rw [hT, hE2, if_pos hi', if_pos hi', hA]
              simp (maxSteps := 1000000) (disch := first | omega | exact ok4096 | (simp only [updB, dsB, reduceCtorEq, Nat.reduceEqDiff, *]; done) | (simp only [digF_len, putK_len, putB_len, lnB] <;> omega) | fail) only [ev0, ev1, ev2, ev3, ↓reduceIte, reduceCtorEq, Nat.reduceAdd, Nat.reduceSub, Nat.reduceMul, Nat.reduceLT, Nat.reduceLeDiff, Nat.reduceEqDiff, Nat.reduceBEq, BitVec.reduceOfInt, Int.reduceLE, Int.reduceLT, Int.reduceGT, Int.reduceGE, Int.reduceNeg, Int.reduceAdd, Int.reduceSub, Int.reduceMul, Int.reduceToNat, ↓bind_go, ↓map_go, wantedV, isWrite, grow, write, ofV, AV.cells, Abs.start, Abs.strip, endQ, resV, rawsRes, rawRes, exports, export1, AS.grown, AS.put, Env.know, Env.boxed, isSelf, convSelf, convV, loadV, storeV, fieldAddrV, fieldV, indexAddrV, indexV, partV, isAggK, isStr, place, lenV, min2V, makeV, freshSl, sliceV, boundOr, bound, bounds, cutFl, copyV, slCells, srcV, appendV, room, zerosOf, eqNeg, kd, takeR, hasViewL, hasView, freshR, freshC, snapAll, snap, snapL, flatL, pureL, pureA, fillC, arrOK, oneA, partB, AV.laid, ren1, CR.gr, applyW, useL, AS.mute, isGen, startG, ev5, tbQg1, List.map_nil, List.all_nil, List.drop_zero, glob, btA, itA, List.size_toArray, Array.size_empty, List.length_nil, s7, s6, s5, s0, s2, s4, b2, b4, hf0, lL, nz_f c6, nz_f c7, hE, d8, d9]
              exact ResQ.same rfl
            · have d9 : decide ((cmdR x).1 = b) = false := decide_eq_false c9
              have hi' : ¬ isC b = true := by rw [hi, d9, Bool.and_false]; decide
              rw [hT, hE2, if_neg hi', if_neg hi']
              simp (maxSteps := 1000000) (disch := first | omega | exact ok4096 | (simp only [updB, dsB, reduceCtorEq, Nat.reduceEqDiff, *]; done) | (simp only [digF_len, putK_len, putB_len, lnB] <;> omega) | fail) only [ev0, ev1, ev2, ev3, ↓reduceIte, reduceCtorEq, Nat.reduceAdd, Nat.reduceSub, Nat.reduceMul, Nat.reduceLT, Nat.reduceLeDiff, Nat.reduceEqDiff, Nat.reduceBEq, BitVec.reduceOfInt, Int.reduceLE, Int.reduceLT, Int.reduceGT, Int.reduceGE, Int.reduceNeg, Int.reduceAdd, Int.reduceSub, Int.reduceMul, Int.reduceToNat, ↓bind_go, ↓map_go, wantedV, isWrite, grow, write, ofV, AV.cells, Abs.start, Abs.strip, endQ, resV, rawsRes, rawRes, exports, export1, AS.grown, AS.put, Env.know, Env.boxed, isSelf, convSelf, convV, loadV, storeV, fieldAddrV, fieldV, indexAddrV, indexV, partV, isAggK, isStr, place, lenV, min2V, makeV, freshSl, sliceV, boundOr, bound, bounds, cutFl, copyV, slCells, srcV, appendV, room, zerosOf, eqNeg, kd, takeR, hasViewL, hasView, freshR, freshC, snapAll, snap, snapL, flatL, pureL, pureA, fillC, arrOK, oneA, partB, AV.laid, ren1, CR.gr, applyW, useL, AS.mute, isGen, startG, ev5, tbQg1, List.map_nil, List.all_nil, List.drop_zero, glob, btA, itA, List.size_toArray, Array.size_empty, List.length_nil, s7, s6, s5, s0, s2, s4, b2, b4, hf0, lL, nz_f c6, nz_f c7, hE, d8, d9]
              exact ResQ.same rfl
          · have d8 : ((cmdR x).2 != 0) = true := by rw [bne_iff_ne]; exact c8
            have hi' : ¬ isC b = true := by rw [hi, decide_eq_false c8, Bool.false_and]; decide
            rw [hT, hE2, if_neg hi', if_neg hi']
            simp (maxSteps := 1000000) (disch := first | omega | exact ok4096 | (simp only [updB, dsB, reduceCtorEq, Nat.reduceEqDiff, *]; done) | (simp only [digF_len, putK_len, putB_len, lnB] <;> omega) | fail) only [ev0, ev1, ev2, ev3, ↓reduceIte, reduceCtorEq, Nat.reduceAdd, Nat.reduceSub, Nat.reduceMul, Nat.reduceLT, Nat.reduceLeDiff, Nat.reduceEqDiff, Nat.reduceBEq, BitVec.reduceOfInt, Int.reduceLE, Int.reduceLT, Int.reduceGT, Int.reduceGE, Int.reduceNeg, Int.reduceAdd, Int.reduceSub, Int.reduceMul, Int.reduceToNat, ↓bind_go, ↓map_go, wantedV, isWrite, grow, write, ofV, AV.cells, Abs.start, Abs.strip, endQ, resV, rawsRes, rawRes, exports, export1, AS.grown, AS.put, Env.know, Env.boxed, isSelf, convSelf, convV, loadV, storeV, fieldAddrV, fieldV, indexAddrV, indexV, partV, isAggK, isStr, place, lenV, min2V, makeV, freshSl, sliceV, boundOr, bound, bounds, cutFl, copyV, slCells, srcV, appendV, room, zerosOf, eqNeg, kd, takeR, hasViewL, hasView, freshR, freshC, snapAll, snap, snapL, flatL, pureL, pureA, fillC, arrOK, oneA, partB, AV.laid, ren1, CR.gr, applyW, useL, AS.mute, isGen, startG, ev5, tbQg1, List.map_nil, List.all_nil, List.drop_zero, glob, btA, itA, List.size_toArray, Array.size_empty, List.length_nil, s7, s6, s5, s0, s2, s4, b2, b4, hf0, lL, nz_f c6, nz_f c7, hE, d8]
            exact ResQ.same rfl
    · cases hr
  · cases hr
end Go.Proofs.Ytjnmdphoaafjaaa
