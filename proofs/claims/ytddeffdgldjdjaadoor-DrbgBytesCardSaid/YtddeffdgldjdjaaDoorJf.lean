/- DrbgRefuses, DrbgOf: what their walks come to. -/
import Derived.Test.YtddeffdgldjdjaaDoorJe
namespace Go.Proofs.YtddeffdgldjdjaaDoor
set_option linter.unusedSimpArgs false
set_option linter.unusedVariables false
set_option linter.defProp false
open Go Go.Abs
set_option maxHeartbeats 16000000
theorem eq_s {l m : List (BitVec 8)} (hl : l.length = 32) (hm : m.length = 32) : binV te .eql 23 (.agg (nums .u8 l)) (.agg (nums .u8 m)) = some (.raw (.bool (l == m))) := by
  rw [bin_agg l m rfl rfl hl hm]; rfl
theorem of_go {k v : List (BitVec 8)} {c : Int} {bx : Boxes} {us : Abs.Id → Bool} (h1 : k.length = 32) (h2 : v.length = 32) : go20 [.agg (nums .u8 k), .agg (nums .u8 v), .raw (.int .i64 c)] bx us = some { v := .ret (.ptr (.own 0 0 0) 0), cont := some (srA ⟨k, v, c⟩) } := by
  simp only [go20, agg?_at h1, agg?_at h2, int?_at, Option.bind_some]
noncomputable def EL1 : Env := (((EL0.know 19 pf19).know 23 (fun xs => pf23 (xs.map norm))).know 21 pf21).know 25 (fun xs => pf25 (xs.map norm))
theorem okL1 : EnvOK Tryd.prog EL1 := (((okL0.know sound19).know (toS sound23).norm).know (toS sound21)).know sound25.norm
theorem EL1_te : EL1.te = te := rfl
theorem EL1_glob : EL1.glob = globS := rfl
theorem EL1_gs : EL1.gs = [26, 22, 27, 20] := rfl
theorem EL1_dyn : EL1.dyn = false := rfl
theorem EL1_mu (d : Nat) : EL1.mu d = false := rfl
theorem EL1_st : EL1.tbl 24 = some (.val pf24) := rfl
theorem EL1_of : EL1.tbl 20 = some (.gen go20) := rfl
theorem EL1_d : EL1.tbl 22 = some (.gen (fun a b u => gd22 (a.map norm) b u)) := rfl
theorem EL1_r : EL1.tbl 26 = some (.gen (fun a b u => gr26 (a.map norm) b u)) := rfl
theorem EL1_h : EL1.tbl 19 = some (.val pf19) := rfl
theorem EL1_f : EL1.tbl 23 = some (.val (fun xs => pf23 (xs.map norm))) := rfl
theorem EL1_k : EL1.tbl 21 = some (.val pf21) := rfl
theorem EL1_s : EL1.tbl 25 = some (.val (fun xs => pf25 (xs.map norm))) := rfl
theorem c00 : (((0 : Nat) : Int) == 0) = true := rfl
theorem src_eta {s : Src} : (⟨s.k, s.v, s.c⟩ : Src) = s := rfl
theorem asb0 : asBytes [] = some [] := rfl
theorem shown7 : pf19 [] = some (.raw (.bool true)) := rfl
def i64B (c : Int) : Prop := -9223372036854775808 ≤ c ∧ c ≤ 9223372036854775807
instance (c : Int) : Decidable (i64B c) := inferInstanceAs (Decidable (_ ∧ _))
def op3 (ok : List (BitVec 8) → List (BitVec 8) → Int → Int → List (BitVec 8) → Bool) : List AV → Option AV
  | [k, v, .agg [x, y, w]] => (agg? .u8 8 32 k).bind fun k => (agg? .u8 8 32 v).bind fun v => (int? x).bind fun c => (int? y).bind fun n => (row? .u8 8 w).bind fun b => if (i64B c ∧ i64B n) ∧ b.length ≤ 9223372036854775807 then some (.raw (.bool (ok k v c n b))) else none
  | _ => none
def tbJf0 := (And.intro (And.intro (And.intro (And.intro (And.intro @teE @EL1_te) (And.intro @EL1_glob @EL1_gs)) (And.intro (And.intro @EL1_dyn @EL1_mu) (And.intro @EL1_st (And.intro @EL1_of @EL1_d)))) (And.intro (And.intro (And.intro @EL1_r @EL1_h) (And.intro @EL1_f (And.intro @EL1_k @EL1_s))) (And.intro (And.intro @c00 @asb0) (And.intro @src_eta (And.intro @shown7 @xfew_at))))) (And.intro (And.intro (And.intro (And.intro @xkind_at @of_go) (And.intro @draw_no (And.intro @draw_go @draw0_no))) (And.intro (And.intro @draw0_go @re_go) (And.intro @eq_s (And.intro @norm_ptr @norm_nil)))) (And.intro (And.intro (And.intro @norm_sl @norm_int) (And.intro @sr_pure (And.intro @sr_strip @sr_ren))) (And.intro (And.intro @ns_strip @ns_set) (And.intro @nums_ren (And.intro @sp32 @tk32))))))
theorem sound6 : SoundV Tryd.prog globS 6 (op3 (fun _ _ _ _ _ => true)) := by
  refine SoundV.walk EL1 okL1 mixed Tryd.func6 rfl Tryd.call6 (by kernel_rfl) ?_
  intro args r hr
  unfold op3 at hr
  split at hr
  · rename_i k v x y w
    simp only [Option.bind_eq_some_iff] at hr
    obtain ⟨k, h1, v, h2, c, h3, n, h4, b, h5, hr⟩ := hr
    split at hr
    · rename_i hc
      obtain ⟨⟨hc, hn⟩, hbl⟩ := hc
      have hc1 := hc.1
      have hc2 := hc.2
      cases hr
      obtain ⟨rfl, hk⟩ := agg?_of h1
      obtain ⟨rfl, hv⟩ := agg?_of h2
      obtain ⟨fl, rfl⟩ := row?_of h5
      rw [int?_of h3, int?_of h4]
      have hb3 : (b.take 300).length ≤ 300 := by rw [List.length_take]; exact Nat.min_le_left _ _
      obtain ⟨m, hm⟩ : ∃ m, b.take 300 = m := ⟨_, rfl⟩
      rw [hm] at hb3
      have hml : m.length ≤ 100000 := by omega
      have w0 : wfS ⟨k, v, c⟩ := ⟨hk, hv, hc.1, hc.2⟩
      have q0 := src?_at w0
      have t0 := state_at w0
      dsimp only at t0
      rw [Tryd.ntmps6, Tryd.results6]
      refine ⟨by simp, ?_⟩
      by_cases c1 : n < 0 ∨ n > 256
      · have d1 := draw_no (f := .bor) (m := m) (l := m.length) (bx := fun _ => none) (us := fun _ => false) (b := .own 0 0 0) c1 rfl hml
        by_cases c2 : n < 0
        · have e2 := eq_true c2
          simp (maxSteps := 1000000) (disch := first | omega | (simp only [updB, updI, dsB, reduceCtorEq, Nat.reduceEqDiff, Abs.Id.mk.injEq, and_false, false_and, and_true, true_and, if_false, ↓reduceIte, Option.isSome_some, *]; done) | (simp only [nums_len, sr_len, lnB] <;> omega) | fail) only [ev0, ev1, ev2, ev3, ↓reduceIte, reduceCtorEq, Nat.reduceAdd, Nat.reduceSub, Nat.reduceMul, Nat.reduceLT, Nat.reduceLeDiff, Nat.reduceEqDiff, Nat.reduceBEq, BitVec.reduceOfInt, Int.reduceLE, Int.reduceLT, Int.reduceGT, Int.reduceGE, Int.reduceNeg, Int.reduceAdd, Int.reduceSub, Int.reduceMul, Int.reduceToNat, ↓bind_go, ↓map_go, wantedV, isWrite, grow, write, ofV, AV.cells, Abs.start, Abs.strip, endQ, resV, rawsRes, rawRes, exports, export1, AS.grown, AS.put, Env.know, Env.boxed, isSelf, convSelf, convV, loadV, storeV, fieldAddrV, fieldV, indexAddrV, indexV, partV, isAggK, isStr, place, ipS, lenV, min2V, makeV, freshSl, sliceV, boundOr, bound, bounds, cutFl, copyV, slCells, srcV, appendV, room, zerosOf, eqNeg, kd, takeR, hasViewL, hasView, freshR, freshC, snapAll, snap, snapL, flatL, pureL, pureA, fillC, arrOK, oneA, partB, AV.laid, ren1, CR.gr, applyW, useL, AS.mute, isGen, startG, ev5, tbJf0, globS, Bx.own.injEq, and_false, false_and, and_true, true_and, Int.reduceBEq, Int.reduceBNe, beq_self_eq_true, hk, hv, hm, q0, t0, e2, decide_true, draw_no c1 rfl hml]
          exact ResQ.same rfl
        · have e2 := eq_false c2
          have e3 : (n > 256) = True := eq_true (by omega)
          simp (maxSteps := 1000000) (disch := first | omega | (simp only [updB, updI, dsB, reduceCtorEq, Nat.reduceEqDiff, Abs.Id.mk.injEq, and_false, false_and, and_true, true_and, if_false, ↓reduceIte, Option.isSome_some, *]; done) | (simp only [nums_len, sr_len, lnB] <;> omega) | fail) only [ev0, ev1, ev2, ev3, ↓reduceIte, reduceCtorEq, Nat.reduceAdd, Nat.reduceSub, Nat.reduceMul, Nat.reduceLT, Nat.reduceLeDiff, Nat.reduceEqDiff, Nat.reduceBEq, BitVec.reduceOfInt, Int.reduceLE, Int.reduceLT, Int.reduceGT, Int.reduceGE, Int.reduceNeg, Int.reduceAdd, Int.reduceSub, Int.reduceMul, Int.reduceToNat, ↓bind_go, ↓map_go, wantedV, isWrite, grow, write, ofV, AV.cells, Abs.start, Abs.strip, endQ, resV, rawsRes, rawRes, exports, export1, AS.grown, AS.put, Env.know, Env.boxed, isSelf, convSelf, convV, loadV, storeV, fieldAddrV, fieldV, indexAddrV, indexV, partV, isAggK, isStr, place, ipS, lenV, min2V, makeV, freshSl, sliceV, boundOr, bound, bounds, cutFl, copyV, slCells, srcV, appendV, room, zerosOf, eqNeg, kd, takeR, hasViewL, hasView, freshR, freshC, snapAll, snap, snapL, flatL, pureL, pureA, fillC, arrOK, oneA, partB, AV.laid, ren1, CR.gr, applyW, useL, AS.mute, isGen, startG, ev5, tbJf0, globS, Bx.own.injEq, and_false, false_and, and_true, true_and, Int.reduceBEq, Int.reduceBNe, beq_self_eq_true, hk, hv, hm, q0, t0, e2, e3, decide_true, decide_false, draw_no c1 rfl hml]
          exact ResQ.same rfl
      · have e2 : (n < 0) = False := eq_false (by omega)
        have e3 : (n > 256) = False := eq_false (by omega)
        by_cases c3 : c > 1048576
        · have e4 := eq_true c3
          simp (maxSteps := 1000000) (disch := first | omega | (simp only [updB, updI, dsB, reduceCtorEq, Nat.reduceEqDiff, Abs.Id.mk.injEq, and_false, false_and, and_true, true_and, if_false, ↓reduceIte, Option.isSome_some, *]; done) | (simp only [nums_len, sr_len, lnB] <;> omega) | fail) only [ev0, ev1, ev2, ev3, ↓reduceIte, reduceCtorEq, Nat.reduceAdd, Nat.reduceSub, Nat.reduceMul, Nat.reduceLT, Nat.reduceLeDiff, Nat.reduceEqDiff, Nat.reduceBEq, BitVec.reduceOfInt, Int.reduceLE, Int.reduceLT, Int.reduceGT, Int.reduceGE, Int.reduceNeg, Int.reduceAdd, Int.reduceSub, Int.reduceMul, Int.reduceToNat, ↓bind_go, ↓map_go, wantedV, isWrite, grow, write, ofV, AV.cells, Abs.start, Abs.strip, endQ, resV, rawsRes, rawRes, exports, export1, AS.grown, AS.put, Env.know, Env.boxed, isSelf, convSelf, convV, loadV, storeV, fieldAddrV, fieldV, indexAddrV, indexV, partV, isAggK, isStr, place, ipS, lenV, min2V, makeV, freshSl, sliceV, boundOr, bound, bounds, cutFl, copyV, slCells, srcV, appendV, room, zerosOf, eqNeg, kd, takeR, hasViewL, hasView, freshR, freshC, snapAll, snap, snapL, flatL, pureL, pureA, fillC, arrOK, oneA, partB, AV.laid, ren1, CR.gr, applyW, useL, AS.mute, isGen, startG, ev5, tbJf0, globS, Bx.own.injEq, and_false, false_and, and_true, true_and, Int.reduceBEq, Int.reduceBNe, beq_self_eq_true, hk, hv, hm, q0, t0, e2, e3, e4, decide_true, decide_false]
          exact ResQ.same rfl
        · have e4 := eq_false c3
          obtain ⟨nn, rfl⟩ := Int.eq_ofNat_of_zero_le (show 0 ≤ n by omega)
          have lB := drawB_len w0 nn m
          have w1 := drawS_wf w0 nn m (by dsimp only; omega)
          have t1 := state_at w1
          have k1 := w1.k
          have v1 := w1.v
          simp (maxSteps := 1000000) (disch := first | omega | (simp only [updB, updI, dsB, reduceCtorEq, Nat.reduceEqDiff, Abs.Id.mk.injEq, and_false, false_and, and_true, true_and, if_false, ↓reduceIte, Option.isSome_some, *]; done) | (simp only [nums_len, sr_len, lnB] <;> omega) | fail) only [ev0, ev1, ev2, ev3, ↓reduceIte, reduceCtorEq, Nat.reduceAdd, Nat.reduceSub, Nat.reduceMul, Nat.reduceLT, Nat.reduceLeDiff, Nat.reduceEqDiff, Nat.reduceBEq, BitVec.reduceOfInt, Int.reduceLE, Int.reduceLT, Int.reduceGT, Int.reduceGE, Int.reduceNeg, Int.reduceAdd, Int.reduceSub, Int.reduceMul, Int.reduceToNat, ↓bind_go, ↓map_go, wantedV, isWrite, grow, write, ofV, AV.cells, Abs.start, Abs.strip, endQ, resV, rawsRes, rawRes, exports, export1, AS.grown, AS.put, Env.know, Env.boxed, isSelf, convSelf, convV, loadV, storeV, fieldAddrV, fieldV, indexAddrV, indexV, partV, isAggK, isStr, place, ipS, lenV, min2V, makeV, freshSl, sliceV, boundOr, bound, bounds, cutFl, copyV, slCells, srcV, appendV, room, zerosOf, eqNeg, kd, takeR, hasViewL, hasView, freshR, freshC, snapAll, snap, snapL, flatL, pureL, pureA, fillC, arrOK, oneA, partB, AV.laid, ren1, CR.gr, applyW, useL, AS.mute, isGen, startG, ev5, tbJf0, globS, Bx.own.injEq, and_false, false_and, and_true, true_and, Int.reduceBEq, Int.reduceBNe, beq_self_eq_true, hk, hv, hm, q0, t1, e2, e3, e4, decide_true, decide_false]
          exact ResQ.same rfl
    · cases hr
  · cases hr
set_option maxRecDepth 100000 in
theorem sound3 : SoundV Tryd.prog globS 3 (op3 (fun _ _ _ _ _ => true)) := by
  refine SoundV.walk EL1 okL1 mixed Tryd.func3 rfl Tryd.call3 (by kernel_rfl) ?_
  intro args r hr
  unfold op3 at hr
  split at hr
  · rename_i k v x y w
    simp only [Option.bind_eq_some_iff] at hr
    obtain ⟨k, h1, v, h2, c, h3, n, h4, b, h5, hr⟩ := hr
    split at hr
    · rename_i hc
      obtain ⟨⟨hc, hn⟩, hbl⟩ := hc
      have hc1 := hc.1
      have hc2 := hc.2
      cases hr
      obtain ⟨rfl, hk⟩ := agg?_of h1
      obtain ⟨rfl, hv⟩ := agg?_of h2
      obtain ⟨fl, rfl⟩ := row?_of h5
      rw [int?_of h3, int?_of h4]
      have hb3 : (b.take 300).length ≤ 300 := by rw [List.length_take]; exact Nat.min_le_left _ _
      obtain ⟨m, hm⟩ : ∃ m, b.take 300 = m := ⟨_, rfl⟩
      rw [hm] at hb3
      have hml : m.length ≤ 100000 := by omega
      have w0 : wfS ⟨k, v, c⟩ := ⟨hk, hv, hc.1, hc.2⟩
      have q0 := src?_at w0
      have t0 := state_at w0
      dsimp only at t0
      rw [Tryd.ntmps3, Tryd.results3]
      refine ⟨by simp, ?_⟩
      obtain ⟨nn, hnn⟩ := Int.eq_ofNat_of_zero_le (kindF_lo (c := n) (n := 257) (by decide) hn.1)
      have hn2 := kindF_hi (c := n) (n := 257) (by decide) hn.1
      have hnb : nn ≤ 256 := by omega
      clear hn2
      obtain ⟨hn3, hn4⟩ := hn
      by_cases c3 : c > 1048576
      · have e4 := eq_true c3
        simp (maxSteps := 1000000) (disch := first | omega | (simp only [updB, updI, dsB, reduceCtorEq, Nat.reduceEqDiff, Abs.Id.mk.injEq, and_false, false_and, and_true, true_and, if_false, ↓reduceIte, Option.isSome_some, *]; done) | (simp only [nums_len, sr_len, lnB] <;> omega) | fail) only [ev0, ev1, ev2, ev3, ↓reduceIte, reduceCtorEq, Nat.reduceAdd, Nat.reduceSub, Nat.reduceMul, Nat.reduceLT, Nat.reduceLeDiff, Nat.reduceEqDiff, Nat.reduceBEq, BitVec.reduceOfInt, Int.reduceLE, Int.reduceLT, Int.reduceGT, Int.reduceGE, Int.reduceNeg, Int.reduceAdd, Int.reduceSub, Int.reduceMul, Int.reduceToNat, ↓bind_go, ↓map_go, wantedV, isWrite, grow, write, ofV, AV.cells, Abs.start, Abs.strip, endQ, resV, rawsRes, rawRes, exports, export1, AS.grown, AS.put, Env.know, Env.boxed, isSelf, convSelf, convV, loadV, storeV, fieldAddrV, fieldV, indexAddrV, indexV, partV, isAggK, isStr, place, ipS, lenV, min2V, makeV, freshSl, sliceV, boundOr, bound, bounds, cutFl, copyV, slCells, srcV, appendV, room, zerosOf, eqNeg, kd, takeR, hasViewL, hasView, freshR, freshC, snapAll, snap, snapL, flatL, pureL, pureA, fillC, arrOK, oneA, partB, AV.laid, ren1, CR.gr, applyW, useL, AS.mute, isGen, startG, ev5, tbJf0, globS, Bx.own.injEq, and_false, false_and, and_true, true_and, Int.reduceBEq, Int.reduceBNe, beq_self_eq_true, hk, hv, hm, q0, t0, hnn, e4, decide_true, decide_false]
        exact ResQ.same rfl
      · have e4 := eq_false c3
        have lB := drawB_len w0 nn m
        have w1 := drawS_wf w0 nn m (by dsimp only; omega)
        have k1 := w1.k
        have v1 := w1.v
        have cc : (drawS ⟨k, v, c⟩ nn m).c = c + 1 := drawS_c _ _ _
        obtain ⟨S1, hS1⟩ : ∃ S, drawS ⟨k, v, c⟩ nn m = S := ⟨_, rfl⟩
        obtain ⟨B1, hB1⟩ : ∃ B, drawB ⟨k, v, c⟩ nn m = B := ⟨_, rfl⟩
        rw [hS1] at w1 k1 v1 cc
        rw [hB1] at lB
        have q1 := src?_at w1
        have t1 := state_at w1
        have f1 : ((c + 1 - 1 : Int) == c) = true := by rw [Int.add_sub_cancel]; exact beq_self_eq_true c
        obtain ⟨B2, hB2⟩ : ∃ B, drawB S1 16 [] = B := ⟨_, rfl⟩
        obtain ⟨S2, hS2⟩ : ∃ B, drawS S1 16 [] = B := ⟨_, rfl⟩
        have lB2 : B2.length = 16 := by rw [← hB2]; exact drawB_len w1 16 []
        have hE : (⟨S1.k, S1.v, c + 1⟩ : Src) = S1 := by rw [← cc]
        by_cases c5 : c + 1 > 1048576
        · have e5 := eq_true c5
          clear hS2 hB2 c5 lB2
          simp (maxSteps := 1000000) (disch := first | omega | (simp only [updB, updI, dsB, reduceCtorEq, Nat.reduceEqDiff, Abs.Id.mk.injEq, and_false, false_and, and_true, true_and, if_false, ↓reduceIte, Option.isSome_some, *]; done) | (simp only [nums_len, sr_len, lnB] <;> omega) | fail) only [ev0, ev1, ev2, ev3, ↓reduceIte, reduceCtorEq, Nat.reduceAdd, Nat.reduceSub, Nat.reduceMul, Nat.reduceLT, Nat.reduceLeDiff, Nat.reduceEqDiff, Nat.reduceBEq, BitVec.reduceOfInt, Int.reduceLE, Int.reduceLT, Int.reduceGT, Int.reduceGE, Int.reduceNeg, Int.reduceAdd, Int.reduceSub, Int.reduceMul, Int.reduceToNat, ↓bind_go, ↓map_go, wantedV, isWrite, grow, write, ofV, AV.cells, Abs.start, Abs.strip, endQ, resV, rawsRes, rawRes, exports, export1, AS.grown, AS.put, Env.know, Env.boxed, isSelf, convSelf, convV, loadV, storeV, fieldAddrV, fieldV, indexAddrV, indexV, partV, isAggK, isStr, place, ipS, lenV, min2V, makeV, freshSl, sliceV, boundOr, bound, bounds, cutFl, copyV, slCells, srcV, appendV, room, zerosOf, eqNeg, kd, takeR, hasViewL, hasView, freshR, freshC, snapAll, snap, snapL, flatL, pureL, pureA, fillC, arrOK, oneA, partB, AV.laid, ren1, CR.gr, applyW, useL, AS.mute, isGen, startG, ev5, tbJf0, globS, Bx.own.injEq, and_false, false_and, and_true, true_and, Int.reduceBEq, Int.reduceBNe, beq_self_eq_true, hk, hv, hm, q0, q1, t1, hnn, e4, e5, hE, hS1, hB1, cc, f1, decide_true, decide_false]
          exact ResQ.same rfl
        · have e5 := eq_false c5
          clear c5
          simp (maxSteps := 1000000) (disch := first | omega | (simp only [updB, updI, dsB, reduceCtorEq, Nat.reduceEqDiff, Abs.Id.mk.injEq, and_false, false_and, and_true, true_and, if_false, ↓reduceIte, Option.isSome_some, *]; done) | (simp only [nums_len, sr_len, lnB] <;> omega) | fail) only [ev0, ev1, ev2, ev3, ↓reduceIte, reduceCtorEq, Nat.reduceAdd, Nat.reduceSub, Nat.reduceMul, Nat.reduceLT, Nat.reduceLeDiff, Nat.reduceEqDiff, Nat.reduceBEq, BitVec.reduceOfInt, Int.reduceLE, Int.reduceLT, Int.reduceGT, Int.reduceGE, Int.reduceNeg, Int.reduceAdd, Int.reduceSub, Int.reduceMul, Int.reduceToNat, ↓bind_go, ↓map_go, wantedV, isWrite, grow, write, ofV, AV.cells, Abs.start, Abs.strip, endQ, resV, rawsRes, rawRes, exports, export1, AS.grown, AS.put, Env.know, Env.boxed, isSelf, convSelf, convV, loadV, storeV, fieldAddrV, fieldV, indexAddrV, indexV, partV, isAggK, isStr, place, ipS, lenV, min2V, makeV, freshSl, sliceV, boundOr, bound, bounds, cutFl, copyV, slCells, srcV, appendV, room, zerosOf, eqNeg, kd, takeR, hasViewL, hasView, freshR, freshC, snapAll, snap, snapL, flatL, pureL, pureA, fillC, arrOK, oneA, partB, AV.laid, ren1, CR.gr, applyW, useL, AS.mute, isGen, startG, ev5, tbJf0, globS, Bx.own.injEq, and_false, false_and, and_true, true_and, Int.reduceBEq, Int.reduceBNe, beq_self_eq_true, hk, hv, hm, q0, q1, t1, hnn, e4, e5, hE, hS1, hB1, hS2, hB2, cc, f1, decide_true, decide_false]
          exact ResQ.same rfl
    · cases hr
  · cases hr
end Go.Proofs.YtddeffdgldjdjaaDoor
