/- The document's blocks: bit, xor, product, hash, the next counter: what the walks come to. -/
import Derived.Test.YtjnmdphoaafjaaaVa
import Derived.Test.YtjnmdphoaafjaaaUf
namespace Go.Proofs.Ytjnmdphoaafjaaa
set_option linter.unusedSimpArgs false
set_option linter.unusedVariables false
set_option linter.defProp false
open Go Go.Abs
set_option maxHeartbeats 16000000
def pf153 : List AV → Option AV
  | [v, .raw (.int .i64 z)] => (agg? .u8 8 16 v).bind fun a => if 0 ≤ z ∧ z < 128 then some (.raw (.int .u8 ((bitB a z.toNat).toNat : Int))) else none
  | _ => none
def tbVf0 := (And.intro (And.intro (And.intro @teE @E0_te) (And.intro @E0_glob @E0_gs)) (And.intro (And.intro @E0_dyn @E0_mu) (And.intro @nums_strip @nums_set8)))
theorem sound153 : SoundV Try.prog glob 153 pf153 := by
  refine SoundV.walk E0 ok0 mixed Try.func153 rfl Try.call153 (by kernel_rfl) ?_
  intro args r hr
  unfold pf153 at hr
  split at hr
  · rename_i v z
    simp only [Option.bind_eq_some_iff] at hr
    obtain ⟨a, h1, hr⟩ := hr
    obtain ⟨rfl, ha⟩ := agg?_of h1
    split at hr
    · rename_i hz
      cases hr
      obtain ⟨i, rfl⟩ := Int.eq_ofNat_of_zero_le hz.1
      have hi : i < 128 := by omega
      rw [Try.ntmps153, Try.results153]
      refine ⟨by simp, ?_⟩
      simp (maxSteps := 1000000) (disch := first | omega | (simp only [nums_len, lnB] <;> omega) | fail) only [ev0, ev1, ev2, ev3, ↓reduceIte, reduceCtorEq, Nat.reduceAdd, Nat.reduceSub, Nat.reduceMul, Nat.reduceLT, Nat.reduceLeDiff, Nat.reduceEqDiff, Nat.reduceBEq, BitVec.reduceOfInt, Int.reduceLE, Int.reduceLT, Int.reduceGT, Int.reduceGE, Int.reduceNeg, Int.reduceAdd, Int.reduceSub, Int.reduceMul, Int.reduceToNat, ↓bind_go, ↓map_go, wantedV, isWrite, grow, write, ofV, AV.cells, Abs.start, Abs.strip, endQ, resV, rawsRes, rawRes, exports, export1, AS.grown, AS.put, Env.know, Env.boxed, isSelf, convSelf, convV, loadV, storeV, fieldAddrV, fieldV, indexAddrV, indexV, partV, isAggK, isStr, place, lenV, min2V, makeV, freshSl, sliceV, boundOr, bound, bounds, cutFl, copyV, slCells, srcV, appendV, room, zerosOf, eqNeg, kd, takeR, hasViewL, hasView, freshR, freshC, snapAll, snap, snapL, flatL, pureL, pureA, fillC, arrOK, oneA, partB, AV.laid, ren1, CR.gr, applyW, useL, AS.mute, isGen, startG, ev5, tbVf0, glob, Nat.reduceMod, ha]
      exact ResQ.same rfl
    · cases hr
  · cases hr
theorem bit3_at {a : List (BitVec 8)} {i : Nat} (ha : a.length = 16) (hi : i < 128) : pf153 [.agg (nums .u8 a), .raw (.int .i64 (i : Int))] = some (.raw (.int .u8 ((bitB a i).toNat : Int))) := by
  have hz : (0 : Int) ≤ (i : Int) ∧ (i : Int) < 128 := by omega
  simp only [pf153, agg?_at ha, Option.bind_some, if_pos hz, Int.toNat_natCast]
theorem xorK_get' (s c : List (BitVec 8)) : ∀ i, (xorK s c i).getD i 0#8 = s.getD i 0#8 := by
  have key : ∀ k i, k ≤ i → (xorK s c k).getD i 0#8 = s.getD i 0#8 := by
    intro k
    induction k with
    | zero => intros; rfl
    | succ k ih => intro i hi; rw [xorK, getD_set8 (by omega), ih i (by omega)]
  exact fun i => key i i (Nat.le_refl i)
def pf117 : List AV → Option AV
  | [v, w] => (agg? .u8 8 16 v).bind fun a => (agg? .u8 8 16 w).bind fun b => some (.agg (nums .u8 (xorB a b)))
  | _ => none
theorem sound117 : SoundV Try.prog glob 117 pf117 := by
  refine SoundV.walk E0 ok0 mixed Try.func117 rfl Try.call117 (by kernel_rfl) ?_
  intro args r hr
  unfold pf117 at hr
  split at hr
  · rename_i v w
    simp only [Option.bind_eq_some_iff] at hr
    obtain ⟨a, h1, b, h2, hr⟩ := hr
    obtain ⟨rfl, ha⟩ := agg?_of h1
    obtain ⟨rfl, hb⟩ := agg?_of h2
    cases hr
    rw [Try.ntmps117, Try.results117]
    refine ⟨by simp, ?_⟩
    simp (maxSteps := 1000000) (disch := first | omega | (simp only [nums_len, lnB] <;> omega) | fail) only [ev0, ev1, ev2, ev3, ↓reduceIte, reduceCtorEq, Nat.reduceAdd, Nat.reduceSub, Nat.reduceMul, Nat.reduceLT, Nat.reduceLeDiff, Nat.reduceEqDiff, Nat.reduceBEq, BitVec.reduceOfInt, Int.reduceLE, Int.reduceLT, Int.reduceGT, Int.reduceGE, Int.reduceNeg, Int.reduceAdd, Int.reduceSub, Int.reduceMul, Int.reduceToNat, ↓bind_go, ↓map_go, wantedV, isWrite, grow, write, ofV, AV.cells, Abs.start, Abs.strip, endQ, resV, rawsRes, rawRes, exports, export1, AS.grown, AS.put, Env.know, Env.boxed, isSelf, convSelf, convV, loadV, storeV, fieldAddrV, fieldV, indexAddrV, indexV, partV, isAggK, isStr, place, lenV, min2V, makeV, freshSl, sliceV, boundOr, bound, bounds, cutFl, copyV, slCells, srcV, appendV, room, zerosOf, eqNeg, kd, takeR, hasViewL, hasView, freshR, freshC, snapAll, snap, snapL, flatL, pureL, pureA, fillC, arrOK, oneA, partB, AV.laid, ren1, CR.gr, applyW, useL, AS.mute, isGen, startG, ev5, tbVf0, glob, Nat.reduceMod, ha, hb]
    refine loopQ_of (fun n σ => ∃ i, i ≤ 16 ∧ n = 16 - i ∧ σ.slots 5 = .raw (.int .i64 (i : Int)) ∧ σ.slots 2 = .ptr (.own 0 2 1) 0 ∧ σ.slots 3 = .ptr (.own 0 3 1) 0 ∧ σ.slots 4 = .ptr (.own 0 4 1) 0 ∧ σ.box (.own 0 2 1) = some (nums .u8 (xorK a b i)) ∧ σ.box (.own 0 3 1) = some (nums .u8 b) ∧ σ.box (.own 0 4 1) = some (nums .u8 (List.replicate 16 0#8))) 16 ?_ ?_
    · refine ⟨0, by omega, by omega, ?_⟩
      simp (maxSteps := 1000000) (disch := first | omega | (simp only [nums_len, lnB] <;> omega) | fail) only [ev0, ev1, ev2, ev3, ↓reduceIte, reduceCtorEq, Nat.reduceAdd, Nat.reduceSub, Nat.reduceMul, Nat.reduceLT, Nat.reduceLeDiff, Nat.reduceEqDiff, Nat.reduceBEq, BitVec.reduceOfInt, Int.reduceLE, Int.reduceLT, Int.reduceGT, Int.reduceGE, Int.reduceNeg, Int.reduceAdd, Int.reduceSub, Int.reduceMul, Int.reduceToNat, ↓bind_go, ↓map_go, wantedV, isWrite, grow, write, ofV, AV.cells, Abs.start, Abs.strip, endQ, resV, rawsRes, rawRes, exports, export1, AS.grown, AS.put, Env.know, Env.boxed, isSelf, convSelf, convV, loadV, storeV, fieldAddrV, fieldV, indexAddrV, indexV, partV, isAggK, isStr, place, lenV, min2V, makeV, freshSl, sliceV, boundOr, bound, bounds, cutFl, copyV, slCells, srcV, appendV, room, zerosOf, eqNeg, kd, takeR, hasViewL, hasView, freshR, freshC, snapAll, snap, snapL, flatL, pureL, pureA, fillC, arrOK, oneA, partB, AV.laid, ren1, CR.gr, applyW, useL, AS.mute, isGen, startG, ev5, tbVf0, glob, Nat.reduceMod, ha, hb]
      repeat' first | exact rfl | refine ⟨?_, ?_⟩
    · rintro n ⟨sl, gn, bx', us⟩ ⟨i, hi, rfl, s5, s2, s3, s4, b2, b3, b4⟩
      dsimp only at s5 s2 s3 s4 b2 b3 b4
      have lX := (xorK_len a b i).trans ha
      have hX : xorK a b (i + 1) = (xorK a b i).set i (a.getD i 0#8 ^^^ b.getD i 0#8) := rfl
      have hG : (xorK a b i).getD i 0#8 = a.getD i 0#8 := xorK_get' a b i
      generalize hx : xorK a b i = y at b2 lX hX hG
      simp (maxSteps := 1000000) (disch := first | omega | (simp only [nums_len, lnB] <;> omega) | fail) only [ev0, ev1, ev2, ev3, ↓reduceIte, reduceCtorEq, Nat.reduceAdd, Nat.reduceSub, Nat.reduceMul, Nat.reduceLT, Nat.reduceLeDiff, Nat.reduceEqDiff, Nat.reduceBEq, BitVec.reduceOfInt, Int.reduceLE, Int.reduceLT, Int.reduceGT, Int.reduceGE, Int.reduceNeg, Int.reduceAdd, Int.reduceSub, Int.reduceMul, Int.reduceToNat, ↓bind_go, ↓map_go, wantedV, isWrite, grow, write, ofV, AV.cells, Abs.start, Abs.strip, endQ, resV, rawsRes, rawRes, exports, export1, AS.grown, AS.put, Env.know, Env.boxed, isSelf, convSelf, convV, loadV, storeV, fieldAddrV, fieldV, indexAddrV, indexV, partV, isAggK, isStr, place, lenV, min2V, makeV, freshSl, sliceV, boundOr, bound, bounds, cutFl, copyV, slCells, srcV, appendV, room, zerosOf, eqNeg, kd, takeR, hasViewL, hasView, freshR, freshC, snapAll, snap, snapL, flatL, pureL, pureA, fillC, arrOK, oneA, partB, AV.laid, ren1, CR.gr, applyW, useL, AS.mute, isGen, startG, ev5, tbVf0, glob, Nat.reduceMod, s5, s2, s3, s4, b2, b3, b4, lX, hb]
      refine condQ_dec (fun hlt => ?_) (fun hge => ?_)
      · have hlt : i < 16 := by omega
        simp (maxSteps := 1000000) (disch := first | omega | (simp only [nums_len, lnB] <;> omega) | fail) only [ev0, ev1, ev2, ev3, ↓reduceIte, reduceCtorEq, Nat.reduceAdd, Nat.reduceSub, Nat.reduceMul, Nat.reduceLT, Nat.reduceLeDiff, Nat.reduceEqDiff, Nat.reduceBEq, BitVec.reduceOfInt, Int.reduceLE, Int.reduceLT, Int.reduceGT, Int.reduceGE, Int.reduceNeg, Int.reduceAdd, Int.reduceSub, Int.reduceMul, Int.reduceToNat, ↓bind_go, ↓map_go, wantedV, isWrite, grow, write, ofV, AV.cells, Abs.start, Abs.strip, endQ, resV, rawsRes, rawRes, exports, export1, AS.grown, AS.put, Env.know, Env.boxed, isSelf, convSelf, convV, loadV, storeV, fieldAddrV, fieldV, indexAddrV, indexV, partV, isAggK, isStr, place, lenV, min2V, makeV, freshSl, sliceV, boundOr, bound, bounds, cutFl, copyV, slCells, srcV, appendV, room, zerosOf, eqNeg, kd, takeR, hasViewL, hasView, freshR, freshC, snapAll, snap, snapL, flatL, pureL, pureA, fillC, arrOK, oneA, partB, AV.laid, ren1, CR.gr, applyW, useL, AS.mute, isGen, startG, ev5, tbVf0, glob, Nat.reduceMod, s5, s2, s3, s4, b2, b3, b4, lX, hb, hG]
        refine ⟨16 - (i + 1), by omega, i + 1, by omega, rfl, rfl, ?_⟩
        rw [hX]
      · have hi : i = 16 := by omega
        subst hi
        have hF : xorB a b = y := hx
        rw [hF]
        simp (maxSteps := 1000000) (disch := first | omega | (simp only [nums_len, lnB] <;> omega) | fail) only [ev0, ev1, ev2, ev3, ↓reduceIte, reduceCtorEq, Nat.reduceAdd, Nat.reduceSub, Nat.reduceMul, Nat.reduceLT, Nat.reduceLeDiff, Nat.reduceEqDiff, Nat.reduceBEq, BitVec.reduceOfInt, Int.reduceLE, Int.reduceLT, Int.reduceGT, Int.reduceGE, Int.reduceNeg, Int.reduceAdd, Int.reduceSub, Int.reduceMul, Int.reduceToNat, ↓bind_go, ↓map_go, wantedV, isWrite, grow, write, ofV, AV.cells, Abs.start, Abs.strip, endQ, resV, rawsRes, rawRes, exports, export1, AS.grown, AS.put, Env.know, Env.boxed, isSelf, convSelf, convV, loadV, storeV, fieldAddrV, fieldV, indexAddrV, indexV, partV, isAggK, isStr, place, lenV, min2V, makeV, freshSl, sliceV, boundOr, bound, bounds, cutFl, copyV, slCells, srcV, appendV, room, zerosOf, eqNeg, kd, takeR, hasViewL, hasView, freshR, freshC, snapAll, snap, snapL, flatL, pureL, pureA, fillC, arrOK, oneA, partB, AV.laid, ren1, CR.gr, applyW, useL, AS.mute, isGen, startG, ev5, tbVf0, glob, Nat.reduceMod, s5, s2, s3, s4, b2, b3, b4, lX, hb]
        exact ResQ.same rfl
  · cases hr
noncomputable def EK : Env := E0.know 153 pf153
theorem okK : EnvOK Try.prog EK := ok0.know sound153
theorem EK_te : EK.te = te := rfl
theorem EK_glob : EK.glob = glob := rfl
theorem EK_gs : EK.gs = [] := rfl
theorem EK_dyn : EK.dyn = false := rfl
theorem EK_mu (d : Nat) : EK.mu d = false := rfl
theorem EK_b : EK.tbl 153 = some (.val pf153) := rfl
def pf141 : List AV → Option AV
  | [v, w] => (agg? .u8 8 16 v).bind fun a => (agg? .u8 8 16 w).bind fun b => some (.agg (nums .u8 (mulB a b)))
  | _ => none
theorem u8_zero {x : BitVec 8} (h : x = 0#8) : ((x.toNat : Int) == 0) = true := by rw [h]; rfl
theorem u8_nz {x : BitVec 8} (h : ¬ x = 0#8) : ((x.toNat : Int) == 0) = false := by
  rw [beq_eq_false_iff_ne]
  intro h2
  exact h (BitVec.eq_of_toNat_eq (by show x.toNat = 0; omega))
theorem u8_one {x : BitVec 8} (h : x = 1#8) : ((x.toNat : Int) == 1) = true := by rw [h]; rfl
theorem u8_no {x : BitVec 8} (h : ¬ x = 1#8) : ((x.toNat : Int) == 1) = false := by
  rw [beq_eq_false_iff_ne]
  intro h2
  exact h (BitVec.eq_of_toNat_eq (by show x.toNat = 1; omega))
def tbVf1 := (And.intro (And.intro (And.intro @teE @EK_te) (And.intro @EK_glob (And.intro @EK_gs @EK_dyn))) (And.intro (And.intro @EK_mu @EK_b) (And.intro @bit3_at (And.intro @nums_strip @nums_set8))))
set_option maxRecDepth 20000 in
theorem sound141 : SoundV Try.prog glob 141 pf141 := by
  refine SoundV.walk EK okK mixed Try.func141 rfl Try.call141 (by kernel_rfl) ?_
  intro args r hr
  unfold pf141 at hr
  split at hr
  · rename_i v w
    simp only [Option.bind_eq_some_iff] at hr
    obtain ⟨a, h1, b, h2, hr⟩ := hr
    obtain ⟨rfl, ha⟩ := agg?_of h1
    obtain ⟨rfl, hb⟩ := agg?_of h2
    cases hr
    rw [Try.ntmps141, Try.results141, ← mulR_is]
    refine ⟨by simp, ?_⟩
    simp (maxSteps := 1000000) (disch := first | omega | (simp only [rT_len, rIn_len, rR_len, rO_len, lnB] <;> omega) | fail) only [ev0, ev1, ev2, ev3, ↓reduceIte, reduceCtorEq, Nat.reduceAdd, Nat.reduceSub, Nat.reduceMul, Nat.reduceLT, Nat.reduceLeDiff, Nat.reduceEqDiff, Nat.reduceBEq, BitVec.reduceOfInt, Int.reduceLE, Int.reduceLT, Int.reduceGT, Int.reduceGE, Int.reduceNeg, Int.reduceAdd, Int.reduceSub, Int.reduceMul, Int.reduceToNat, ↓bind_go, ↓map_go, wantedV, isWrite, grow, write, ofV, AV.cells, Abs.start, Abs.strip, endQ, resV, rawsRes, rawRes, exports, export1, AS.grown, AS.put, Env.know, Env.boxed, isSelf, convSelf, convV, loadV, storeV, fieldAddrV, fieldV, indexAddrV, indexV, partV, isAggK, isStr, place, lenV, min2V, makeV, freshSl, sliceV, boundOr, bound, bounds, cutFl, copyV, slCells, srcV, appendV, room, zerosOf, eqNeg, kd, takeR, hasViewL, hasView, freshR, freshC, snapAll, snap, snapL, flatL, pureL, pureA, fillC, arrOK, oneA, partB, AV.laid, ren1, CR.gr, applyW, useL, AS.mute, isGen, startG, ev5, tbVf1, glob, Nat.reduceMod, ha, hb]
    refine loopQ_of (fun n σ => ∃ i, i ≤ 128 ∧ n = 128 - i ∧ σ.slots 6 = .raw (.int .i64 (i : Int)) ∧ σ.box (.own 0 5 1) = some (nums .u8 (rT a b i)) ∧ σ.slots 2 = .ptr (.own 0 2 1) 0 ∧ σ.slots 3 = .ptr (.own 0 3 1) 0 ∧ σ.slots 4 = .ptr (.own 0 4 1) 0 ∧ σ.slots 5 = .ptr (.own 0 5 1) 0 ∧ σ.box (.own 0 2 1) = some (nums .u8 a) ∧ σ.box (.own 0 3 1) = some (nums .u8 b) ∧ σ.box (.own 0 4 1) = some (nums .u8 (List.replicate 16 0#8))) 128 ?_ ?_
    · refine ⟨0, by omega, by omega, ?_⟩
      simp (maxSteps := 1000000) (disch := first | omega | (simp only [rT_len, rIn_len, rR_len, rO_len, lnB] <;> omega) | fail) only [ev0, ev1, ev2, ev3, ↓reduceIte, reduceCtorEq, Nat.reduceAdd, Nat.reduceSub, Nat.reduceMul, Nat.reduceLT, Nat.reduceLeDiff, Nat.reduceEqDiff, Nat.reduceBEq, BitVec.reduceOfInt, Int.reduceLE, Int.reduceLT, Int.reduceGT, Int.reduceGE, Int.reduceNeg, Int.reduceAdd, Int.reduceSub, Int.reduceMul, Int.reduceToNat, ↓bind_go, ↓map_go, wantedV, isWrite, grow, write, ofV, AV.cells, Abs.start, Abs.strip, endQ, resV, rawsRes, rawRes, exports, export1, AS.grown, AS.put, Env.know, Env.boxed, isSelf, convSelf, convV, loadV, storeV, fieldAddrV, fieldV, indexAddrV, indexV, partV, isAggK, isStr, place, lenV, min2V, makeV, freshSl, sliceV, boundOr, bound, bounds, cutFl, copyV, slCells, srcV, appendV, room, zerosOf, eqNeg, kd, takeR, hasViewL, hasView, freshR, freshC, snapAll, snap, snapL, flatL, pureL, pureA, fillC, arrOK, oneA, partB, AV.laid, ren1, CR.gr, applyW, useL, AS.mute, isGen, startG, ev5, tbVf1, glob, Nat.reduceMod, ha, hb]
      repeat' first | exact rfl | refine ⟨?_, ?_⟩
    · rintro n ⟨sl, gn, bx', us⟩ ⟨i, hi, rfl, s6, b5, s2, s3, s4, s5, b2, b3, b4⟩
      dsimp only at s6 b5 s2 s3 s4 s5 b2 b3 b4
      have lT := rT_len a b i
      have hT : rT a b (i + 1) = if bitB a i = 0#8 then rT a b i else rIn b (rT a b i) i 128 := rfl
      generalize ht : rT a b i = t at b5 lT hT
      simp (maxSteps := 1000000) (disch := first | omega | (simp only [rT_len, rIn_len, rR_len, rO_len, lnB] <;> omega) | fail) only [ev0, ev1, ev2, ev3, ↓reduceIte, reduceCtorEq, Nat.reduceAdd, Nat.reduceSub, Nat.reduceMul, Nat.reduceLT, Nat.reduceLeDiff, Nat.reduceEqDiff, Nat.reduceBEq, BitVec.reduceOfInt, Int.reduceLE, Int.reduceLT, Int.reduceGT, Int.reduceGE, Int.reduceNeg, Int.reduceAdd, Int.reduceSub, Int.reduceMul, Int.reduceToNat, ↓bind_go, ↓map_go, wantedV, isWrite, grow, write, ofV, AV.cells, Abs.start, Abs.strip, endQ, resV, rawsRes, rawRes, exports, export1, AS.grown, AS.put, Env.know, Env.boxed, isSelf, convSelf, convV, loadV, storeV, fieldAddrV, fieldV, indexAddrV, indexV, partV, isAggK, isStr, place, lenV, min2V, makeV, freshSl, sliceV, boundOr, bound, bounds, cutFl, copyV, slCells, srcV, appendV, room, zerosOf, eqNeg, kd, takeR, hasViewL, hasView, freshR, freshC, snapAll, snap, snapL, flatL, pureL, pureA, fillC, arrOK, oneA, partB, AV.laid, ren1, CR.gr, applyW, useL, AS.mute, isGen, startG, ev5, tbVf1, glob, Nat.reduceMod, s2, s3, s4, s5, b2, b3, b4, s6, b5, lT, ha, hb]
      refine condQ_dec (fun hlt => ?_) (fun hge => ?_)
      · have hlt : i < 128 := by omega
        by_cases h0 : bitB a i = 0#8
        · have e1 := u8_zero h0
          rw [if_pos h0] at hT
          simp (maxSteps := 1000000) (disch := first | omega | (simp only [rT_len, rIn_len, rR_len, rO_len, lnB] <;> omega) | fail) only [ev0, ev1, ev2, ev3, ↓reduceIte, reduceCtorEq, Nat.reduceAdd, Nat.reduceSub, Nat.reduceMul, Nat.reduceLT, Nat.reduceLeDiff, Nat.reduceEqDiff, Nat.reduceBEq, BitVec.reduceOfInt, Int.reduceLE, Int.reduceLT, Int.reduceGT, Int.reduceGE, Int.reduceNeg, Int.reduceAdd, Int.reduceSub, Int.reduceMul, Int.reduceToNat, ↓bind_go, ↓map_go, wantedV, isWrite, grow, write, ofV, AV.cells, Abs.start, Abs.strip, endQ, resV, rawsRes, rawRes, exports, export1, AS.grown, AS.put, Env.know, Env.boxed, isSelf, convSelf, convV, loadV, storeV, fieldAddrV, fieldV, indexAddrV, indexV, partV, isAggK, isStr, place, lenV, min2V, makeV, freshSl, sliceV, boundOr, bound, bounds, cutFl, copyV, slCells, srcV, appendV, room, zerosOf, eqNeg, kd, takeR, hasViewL, hasView, freshR, freshC, snapAll, snap, snapL, flatL, pureL, pureA, fillC, arrOK, oneA, partB, AV.laid, ren1, CR.gr, applyW, useL, AS.mute, isGen, startG, ev5, tbVf1, glob, Nat.reduceMod, s2, s3, s4, s5, b2, b3, b4, s6, b5, lT, ha, hb, e1]
          refine ⟨128 - (i + 1), by omega, i + 1, by omega, rfl, rfl, ?_⟩
          rw [hT]
        · have e1 := u8_nz h0
          rw [if_neg h0] at hT
          simp (maxSteps := 1000000) (disch := first | omega | (simp only [rT_len, rIn_len, rR_len, rO_len, lnB] <;> omega) | fail) only [ev0, ev1, ev2, ev3, ↓reduceIte, reduceCtorEq, Nat.reduceAdd, Nat.reduceSub, Nat.reduceMul, Nat.reduceLT, Nat.reduceLeDiff, Nat.reduceEqDiff, Nat.reduceBEq, BitVec.reduceOfInt, Int.reduceLE, Int.reduceLT, Int.reduceGT, Int.reduceGE, Int.reduceNeg, Int.reduceAdd, Int.reduceSub, Int.reduceMul, Int.reduceToNat, ↓bind_go, ↓map_go, wantedV, isWrite, grow, write, ofV, AV.cells, Abs.start, Abs.strip, endQ, resV, rawsRes, rawRes, exports, export1, AS.grown, AS.put, Env.know, Env.boxed, isSelf, convSelf, convV, loadV, storeV, fieldAddrV, fieldV, indexAddrV, indexV, partV, isAggK, isStr, place, lenV, min2V, makeV, freshSl, sliceV, boundOr, bound, bounds, cutFl, copyV, slCells, srcV, appendV, room, zerosOf, eqNeg, kd, takeR, hasViewL, hasView, freshR, freshC, snapAll, snap, snapL, flatL, pureL, pureA, fillC, arrOK, oneA, partB, AV.laid, ren1, CR.gr, applyW, useL, AS.mute, isGen, startG, ev5, tbVf1, glob, Nat.reduceMod, s2, s3, s4, s5, b2, b3, b4, s6, b5, lT, ha, hb, e1]
          refine loopQ_of (fun n σ => ∃ k, k ≤ 128 ∧ n = 128 - k ∧ σ.slots 7 = .raw (.int .i64 (k : Int)) ∧ σ.slots 6 = .raw (.int .i64 (i : Int)) ∧ σ.box (.own 0 5 1) = some (nums .u8 (rIn b t i k)) ∧ σ.slots 2 = .ptr (.own 0 2 1) 0 ∧ σ.slots 3 = .ptr (.own 0 3 1) 0 ∧ σ.slots 4 = .ptr (.own 0 4 1) 0 ∧ σ.slots 5 = .ptr (.own 0 5 1) 0 ∧ σ.box (.own 0 2 1) = some (nums .u8 a) ∧ σ.box (.own 0 3 1) = some (nums .u8 b) ∧ σ.box (.own 0 4 1) = some (nums .u8 (List.replicate 16 0#8))) 128 ?_ ?_
          · refine ⟨0, by omega, by omega, ?_⟩
            simp (maxSteps := 1000000) (disch := first | omega | (simp only [rT_len, rIn_len, rR_len, rO_len, lnB] <;> omega) | fail) only [ev0, ev1, ev2, ev3, ↓reduceIte, reduceCtorEq, Nat.reduceAdd, Nat.reduceSub, Nat.reduceMul, Nat.reduceLT, Nat.reduceLeDiff, Nat.reduceEqDiff, Nat.reduceBEq, BitVec.reduceOfInt, Int.reduceLE, Int.reduceLT, Int.reduceGT, Int.reduceGE, Int.reduceNeg, Int.reduceAdd, Int.reduceSub, Int.reduceMul, Int.reduceToNat, ↓bind_go, ↓map_go, wantedV, isWrite, grow, write, ofV, AV.cells, Abs.start, Abs.strip, endQ, resV, rawsRes, rawRes, exports, export1, AS.grown, AS.put, Env.know, Env.boxed, isSelf, convSelf, convV, loadV, storeV, fieldAddrV, fieldV, indexAddrV, indexV, partV, isAggK, isStr, place, lenV, min2V, makeV, freshSl, sliceV, boundOr, bound, bounds, cutFl, copyV, slCells, srcV, appendV, room, zerosOf, eqNeg, kd, takeR, hasViewL, hasView, freshR, freshC, snapAll, snap, snapL, flatL, pureL, pureA, fillC, arrOK, oneA, partB, AV.laid, ren1, CR.gr, applyW, useL, AS.mute, isGen, startG, ev5, tbVf1, glob, Nat.reduceMod, s2, s3, s4, s5, b2, b3, b4, s6, b5]
            repeat' first | exact rfl | refine ⟨?_, ?_⟩
          · rintro n ⟨sl, gn, bx', us⟩ ⟨k, hk, rfl, s7, s6, b5, s2, s3, s4, s5, b2, b3, b4⟩
            dsimp only at s7 s6 b5 s2 s3 s4 s5 b2 b3 b4
            have lI := (rIn_len b t i k).trans lT
            have hI : rIn b t i (k + 1) = (rIn b t i k).set (i + k) ((rIn b t i k).getD (i + k) 0#8 ^^^ bitB b k) := rfl
            generalize hq : rIn b t i k = q at b5 lI hI
            simp (maxSteps := 1000000) (disch := first | omega | (simp only [rT_len, rIn_len, rR_len, rO_len, lnB] <;> omega) | fail) only [ev0, ev1, ev2, ev3, ↓reduceIte, reduceCtorEq, Nat.reduceAdd, Nat.reduceSub, Nat.reduceMul, Nat.reduceLT, Nat.reduceLeDiff, Nat.reduceEqDiff, Nat.reduceBEq, BitVec.reduceOfInt, Int.reduceLE, Int.reduceLT, Int.reduceGT, Int.reduceGE, Int.reduceNeg, Int.reduceAdd, Int.reduceSub, Int.reduceMul, Int.reduceToNat, ↓bind_go, ↓map_go, wantedV, isWrite, grow, write, ofV, AV.cells, Abs.start, Abs.strip, endQ, resV, rawsRes, rawRes, exports, export1, AS.grown, AS.put, Env.know, Env.boxed, isSelf, convSelf, convV, loadV, storeV, fieldAddrV, fieldV, indexAddrV, indexV, partV, isAggK, isStr, place, lenV, min2V, makeV, freshSl, sliceV, boundOr, bound, bounds, cutFl, copyV, slCells, srcV, appendV, room, zerosOf, eqNeg, kd, takeR, hasViewL, hasView, freshR, freshC, snapAll, snap, snapL, flatL, pureL, pureA, fillC, arrOK, oneA, partB, AV.laid, ren1, CR.gr, applyW, useL, AS.mute, isGen, startG, ev5, tbVf1, glob, Nat.reduceMod, s2, s3, s4, s5, b2, b3, b4, s7, s6, b5, lI, ha, hb]
            refine condQ_dec (fun hlt => ?_) (fun hge => ?_)
            · have hlt : k < 128 := by omega
              simp (maxSteps := 1000000) (disch := first | omega | (simp only [rT_len, rIn_len, rR_len, rO_len, lnB] <;> omega) | fail) only [ev0, ev1, ev2, ev3, ↓reduceIte, reduceCtorEq, Nat.reduceAdd, Nat.reduceSub, Nat.reduceMul, Nat.reduceLT, Nat.reduceLeDiff, Nat.reduceEqDiff, Nat.reduceBEq, BitVec.reduceOfInt, Int.reduceLE, Int.reduceLT, Int.reduceGT, Int.reduceGE, Int.reduceNeg, Int.reduceAdd, Int.reduceSub, Int.reduceMul, Int.reduceToNat, ↓bind_go, ↓map_go, wantedV, isWrite, grow, write, ofV, AV.cells, Abs.start, Abs.strip, endQ, resV, rawsRes, rawRes, exports, export1, AS.grown, AS.put, Env.know, Env.boxed, isSelf, convSelf, convV, loadV, storeV, fieldAddrV, fieldV, indexAddrV, indexV, partV, isAggK, isStr, place, lenV, min2V, makeV, freshSl, sliceV, boundOr, bound, bounds, cutFl, copyV, slCells, srcV, appendV, room, zerosOf, eqNeg, kd, takeR, hasViewL, hasView, freshR, freshC, snapAll, snap, snapL, flatL, pureL, pureA, fillC, arrOK, oneA, partB, AV.laid, ren1, CR.gr, applyW, useL, AS.mute, isGen, startG, ev5, tbVf1, glob, Nat.reduceMod, s2, s3, s4, s5, b2, b3, b4, s7, s6, b5, lI, ha, hb]
              refine ⟨128 - (k + 1), by omega, k + 1, by omega, rfl, rfl, ?_⟩
              rw [hI]
            · have hk : k = 128 := by omega
              subst hk
              simp (maxSteps := 1000000) (disch := first | omega | (simp only [rT_len, rIn_len, rR_len, rO_len, lnB] <;> omega) | fail) only [ev0, ev1, ev2, ev3, ↓reduceIte, reduceCtorEq, Nat.reduceAdd, Nat.reduceSub, Nat.reduceMul, Nat.reduceLT, Nat.reduceLeDiff, Nat.reduceEqDiff, Nat.reduceBEq, BitVec.reduceOfInt, Int.reduceLE, Int.reduceLT, Int.reduceGT, Int.reduceGE, Int.reduceNeg, Int.reduceAdd, Int.reduceSub, Int.reduceMul, Int.reduceToNat, ↓bind_go, ↓map_go, wantedV, isWrite, grow, write, ofV, AV.cells, Abs.start, Abs.strip, endQ, resV, rawsRes, rawRes, exports, export1, AS.grown, AS.put, Env.know, Env.boxed, isSelf, convSelf, convV, loadV, storeV, fieldAddrV, fieldV, indexAddrV, indexV, partV, isAggK, isStr, place, lenV, min2V, makeV, freshSl, sliceV, boundOr, bound, bounds, cutFl, copyV, slCells, srcV, appendV, room, zerosOf, eqNeg, kd, takeR, hasViewL, hasView, freshR, freshC, snapAll, snap, snapL, flatL, pureL, pureA, fillC, arrOK, oneA, partB, AV.laid, ren1, CR.gr, applyW, useL, AS.mute, isGen, startG, ev5, tbVf1, glob, Nat.reduceMod, s2, s3, s4, s5, b2, b3, b4, s7, s6, b5, lI, ha, hb]
              refine ⟨128 - (i + 1), by omega, i + 1, by omega, rfl, rfl, ?_⟩
              rw [hT, hq]
      · have hi : i = 128 := by omega
        subst hi
        have hM : mulR a b = rO (rR t 127) 128 := by rw [mulR, ht]
        rw [hM]
        simp (maxSteps := 1000000) (disch := first | omega | (simp only [rT_len, rIn_len, rR_len, rO_len, lnB] <;> omega) | fail) only [ev0, ev1, ev2, ev3, ↓reduceIte, reduceCtorEq, Nat.reduceAdd, Nat.reduceSub, Nat.reduceMul, Nat.reduceLT, Nat.reduceLeDiff, Nat.reduceEqDiff, Nat.reduceBEq, BitVec.reduceOfInt, Int.reduceLE, Int.reduceLT, Int.reduceGT, Int.reduceGE, Int.reduceNeg, Int.reduceAdd, Int.reduceSub, Int.reduceMul, Int.reduceToNat, ↓bind_go, ↓map_go, wantedV, isWrite, grow, write, ofV, AV.cells, Abs.start, Abs.strip, endQ, resV, rawsRes, rawRes, exports, export1, AS.grown, AS.put, Env.know, Env.boxed, isSelf, convSelf, convV, loadV, storeV, fieldAddrV, fieldV, indexAddrV, indexV, partV, isAggK, isStr, place, lenV, min2V, makeV, freshSl, sliceV, boundOr, bound, bounds, cutFl, copyV, slCells, srcV, appendV, room, zerosOf, eqNeg, kd, takeR, hasViewL, hasView, freshR, freshC, snapAll, snap, snapL, flatL, pureL, pureA, fillC, arrOK, oneA, partB, AV.laid, ren1, CR.gr, applyW, useL, AS.mute, isGen, startG, ev5, tbVf1, glob, Nat.reduceMod, s2, s3, s4, s5, b2, b3, b4, s6, b5, lT, ha, hb]
        refine loopQ_of (fun n σ => ∃ d, d ≤ 127 ∧ n = 127 - d ∧ σ.slots 8 = .raw (.int .i64 (254 - (d : Int))) ∧ σ.box (.own 0 5 1) = some (nums .u8 (rR t d)) ∧ σ.slots 2 = .ptr (.own 0 2 1) 0 ∧ σ.slots 3 = .ptr (.own 0 3 1) 0 ∧ σ.slots 4 = .ptr (.own 0 4 1) 0 ∧ σ.slots 5 = .ptr (.own 0 5 1) 0 ∧ σ.box (.own 0 2 1) = some (nums .u8 a) ∧ σ.box (.own 0 3 1) = some (nums .u8 b) ∧ σ.box (.own 0 4 1) = some (nums .u8 (List.replicate 16 0#8))) 127 ?_ ?_
        · refine ⟨0, by omega, by omega, ?_⟩
          simp (maxSteps := 1000000) (disch := first | omega | (simp only [rT_len, rIn_len, rR_len, rO_len, lnB] <;> omega) | fail) only [ev0, ev1, ev2, ev3, ↓reduceIte, reduceCtorEq, Nat.reduceAdd, Nat.reduceSub, Nat.reduceMul, Nat.reduceLT, Nat.reduceLeDiff, Nat.reduceEqDiff, Nat.reduceBEq, BitVec.reduceOfInt, Int.reduceLE, Int.reduceLT, Int.reduceGT, Int.reduceGE, Int.reduceNeg, Int.reduceAdd, Int.reduceSub, Int.reduceMul, Int.reduceToNat, ↓bind_go, ↓map_go, wantedV, isWrite, grow, write, ofV, AV.cells, Abs.start, Abs.strip, endQ, resV, rawsRes, rawRes, exports, export1, AS.grown, AS.put, Env.know, Env.boxed, isSelf, convSelf, convV, loadV, storeV, fieldAddrV, fieldV, indexAddrV, indexV, partV, isAggK, isStr, place, lenV, min2V, makeV, freshSl, sliceV, boundOr, bound, bounds, cutFl, copyV, slCells, srcV, appendV, room, zerosOf, eqNeg, kd, takeR, hasViewL, hasView, freshR, freshC, snapAll, snap, snapL, flatL, pureL, pureA, fillC, arrOK, oneA, partB, AV.laid, ren1, CR.gr, applyW, useL, AS.mute, isGen, startG, ev5, tbVf1, glob, Nat.reduceMod, s2, s3, s4, s5, b2, b3, b4, s6, b5]
          repeat' first | exact rfl | refine ⟨?_, ?_⟩
        · rintro n ⟨sl, gn, bx', us⟩ ⟨d, hd, rfl, s8, b5, s2, s3, s4, s5, b2, b3, b4⟩
          dsimp only at s8 b5 s2 s3 s4 s5 b2 b3 b4
          have lR := (rR_len t d).trans lT
          have hR : rR t (d + 1) = if (rR t d).getD (254 - d) 0#8 = 1#8 then rS (254 - d) (rR t d) else rR t d := rfl
          generalize hq : rR t d = q at b5 lR hR
          have t0 : (254 - (d : Int)).toNat = 254 - d := by omega
          simp (maxSteps := 1000000) (disch := first | omega | (simp only [rT_len, rIn_len, rR_len, rO_len, lnB] <;> omega) | fail) only [ev0, ev1, ev2, ev3, ↓reduceIte, reduceCtorEq, Nat.reduceAdd, Nat.reduceSub, Nat.reduceMul, Nat.reduceLT, Nat.reduceLeDiff, Nat.reduceEqDiff, Nat.reduceBEq, BitVec.reduceOfInt, Int.reduceLE, Int.reduceLT, Int.reduceGT, Int.reduceGE, Int.reduceNeg, Int.reduceAdd, Int.reduceSub, Int.reduceMul, Int.reduceToNat, ↓bind_go, ↓map_go, wantedV, isWrite, grow, write, ofV, AV.cells, Abs.start, Abs.strip, endQ, resV, rawsRes, rawRes, exports, export1, AS.grown, AS.put, Env.know, Env.boxed, isSelf, convSelf, convV, loadV, storeV, fieldAddrV, fieldV, indexAddrV, indexV, partV, isAggK, isStr, place, lenV, min2V, makeV, freshSl, sliceV, boundOr, bound, bounds, cutFl, copyV, slCells, srcV, appendV, room, zerosOf, eqNeg, kd, takeR, hasViewL, hasView, freshR, freshC, snapAll, snap, snapL, flatL, pureL, pureA, fillC, arrOK, oneA, partB, AV.laid, ren1, CR.gr, applyW, useL, AS.mute, isGen, startG, ev5, tbVf1, glob, Nat.reduceMod, s2, s3, s4, s5, b2, b3, b4, s8, b5, lR, t0]
          refine condQ_dec (fun hlt => ?_) (fun hge => ?_)
          · have hlt : d < 127 := by omega
            by_cases h0 : q.getD (254 - d) 0#8 = 1#8
            · have e1 := u8_one h0
              rw [if_pos h0] at hR
              have t1 : (254 - (d : Int) - 128).toNat = 254 - d - 128 := by omega
              have t2 : (254 - (d : Int) - 127).toNat = 254 - d - 127 := by omega
              have t3 : (254 - (d : Int) - 126).toNat = 254 - d - 126 := by omega
              have t4 : (254 - (d : Int) - 121).toNat = 254 - d - 121 := by omega
              simp (maxSteps := 1000000) (disch := first | omega | (simp only [rT_len, rIn_len, rR_len, rO_len, lnB] <;> omega) | fail) only [ev0, ev1, ev2, ev3, ↓reduceIte, reduceCtorEq, Nat.reduceAdd, Nat.reduceSub, Nat.reduceMul, Nat.reduceLT, Nat.reduceLeDiff, Nat.reduceEqDiff, Nat.reduceBEq, BitVec.reduceOfInt, Int.reduceLE, Int.reduceLT, Int.reduceGT, Int.reduceGE, Int.reduceNeg, Int.reduceAdd, Int.reduceSub, Int.reduceMul, Int.reduceToNat, ↓bind_go, ↓map_go, wantedV, isWrite, grow, write, ofV, AV.cells, Abs.start, Abs.strip, endQ, resV, rawsRes, rawRes, exports, export1, AS.grown, AS.put, Env.know, Env.boxed, isSelf, convSelf, convV, loadV, storeV, fieldAddrV, fieldV, indexAddrV, indexV, partV, isAggK, isStr, place, lenV, min2V, makeV, freshSl, sliceV, boundOr, bound, bounds, cutFl, copyV, slCells, srcV, appendV, room, zerosOf, eqNeg, kd, takeR, hasViewL, hasView, freshR, freshC, snapAll, snap, snapL, flatL, pureL, pureA, fillC, arrOK, oneA, partB, AV.laid, ren1, CR.gr, applyW, useL, AS.mute, isGen, startG, ev5, tbVf1, glob, Nat.reduceMod, s2, s3, s4, s5, b2, b3, b4, s8, b5, lR, t0, t1, t2, t3, t4, e1]
              refine ⟨127 - (d + 1), by omega, d + 1, by omega, rfl, i64_eq (by omega), ?_⟩
              rw [hR]
              rfl
            · have e1 := u8_no h0
              rw [if_neg h0] at hR
              simp (maxSteps := 1000000) (disch := first | omega | (simp only [rT_len, rIn_len, rR_len, rO_len, lnB] <;> omega) | fail) only [ev0, ev1, ev2, ev3, ↓reduceIte, reduceCtorEq, Nat.reduceAdd, Nat.reduceSub, Nat.reduceMul, Nat.reduceLT, Nat.reduceLeDiff, Nat.reduceEqDiff, Nat.reduceBEq, BitVec.reduceOfInt, Int.reduceLE, Int.reduceLT, Int.reduceGT, Int.reduceGE, Int.reduceNeg, Int.reduceAdd, Int.reduceSub, Int.reduceMul, Int.reduceToNat, ↓bind_go, ↓map_go, wantedV, isWrite, grow, write, ofV, AV.cells, Abs.start, Abs.strip, endQ, resV, rawsRes, rawRes, exports, export1, AS.grown, AS.put, Env.know, Env.boxed, isSelf, convSelf, convV, loadV, storeV, fieldAddrV, fieldV, indexAddrV, indexV, partV, isAggK, isStr, place, lenV, min2V, makeV, freshSl, sliceV, boundOr, bound, bounds, cutFl, copyV, slCells, srcV, appendV, room, zerosOf, eqNeg, kd, takeR, hasViewL, hasView, freshR, freshC, snapAll, snap, snapL, flatL, pureL, pureA, fillC, arrOK, oneA, partB, AV.laid, ren1, CR.gr, applyW, useL, AS.mute, isGen, startG, ev5, tbVf1, glob, Nat.reduceMod, s2, s3, s4, s5, b2, b3, b4, s8, b5, lR, t0, e1]
              refine ⟨127 - (d + 1), by omega, d + 1, by omega, rfl, i64_eq (by omega), ?_⟩
              rw [hR]
          · have hd : d = 127 := by omega
            subst hd
            rw [hq]
            simp (maxSteps := 1000000) (disch := first | omega | (simp only [rT_len, rIn_len, rR_len, rO_len, lnB] <;> omega) | fail) only [ev0, ev1, ev2, ev3, ↓reduceIte, reduceCtorEq, Nat.reduceAdd, Nat.reduceSub, Nat.reduceMul, Nat.reduceLT, Nat.reduceLeDiff, Nat.reduceEqDiff, Nat.reduceBEq, BitVec.reduceOfInt, Int.reduceLE, Int.reduceLT, Int.reduceGT, Int.reduceGE, Int.reduceNeg, Int.reduceAdd, Int.reduceSub, Int.reduceMul, Int.reduceToNat, ↓bind_go, ↓map_go, wantedV, isWrite, grow, write, ofV, AV.cells, Abs.start, Abs.strip, endQ, resV, rawsRes, rawRes, exports, export1, AS.grown, AS.put, Env.know, Env.boxed, isSelf, convSelf, convV, loadV, storeV, fieldAddrV, fieldV, indexAddrV, indexV, partV, isAggK, isStr, place, lenV, min2V, makeV, freshSl, sliceV, boundOr, bound, bounds, cutFl, copyV, slCells, srcV, appendV, room, zerosOf, eqNeg, kd, takeR, hasViewL, hasView, freshR, freshC, snapAll, snap, snapL, flatL, pureL, pureA, fillC, arrOK, oneA, partB, AV.laid, ren1, CR.gr, applyW, useL, AS.mute, isGen, startG, ev5, tbVf1, glob, Nat.reduceMod, s2, s3, s4, s5, b2, b3, b4, s8, b5, lR]
            refine loopQ_of (fun n σ => ∃ i, i ≤ 128 ∧ n = 128 - i ∧ σ.slots 10 = .raw (.int .i64 (i : Int)) ∧ σ.box (.own 0 5 1) = some (nums .u8 q) ∧ (∃ g, σ.slots 9 = .ptr (.own 0 9 g) 0 ∧ σ.box (.own 0 9 g) = some (nums .u8 (rO q i))) ∧ σ.slots 2 = .ptr (.own 0 2 1) 0 ∧ σ.slots 3 = .ptr (.own 0 3 1) 0 ∧ σ.slots 4 = .ptr (.own 0 4 1) 0 ∧ σ.slots 5 = .ptr (.own 0 5 1) 0 ∧ σ.box (.own 0 2 1) = some (nums .u8 a) ∧ σ.box (.own 0 3 1) = some (nums .u8 b) ∧ σ.box (.own 0 4 1) = some (nums .u8 (List.replicate 16 0#8))) 128 ?_ ?_
            · refine ⟨0, by omega, by omega, ?_⟩
              simp (maxSteps := 1000000) (disch := first | omega | (simp only [rT_len, rIn_len, rR_len, rO_len, lnB] <;> omega) | fail) only [ev0, ev1, ev2, ev3, ↓reduceIte, reduceCtorEq, Nat.reduceAdd, Nat.reduceSub, Nat.reduceMul, Nat.reduceLT, Nat.reduceLeDiff, Nat.reduceEqDiff, Nat.reduceBEq, BitVec.reduceOfInt, Int.reduceLE, Int.reduceLT, Int.reduceGT, Int.reduceGE, Int.reduceNeg, Int.reduceAdd, Int.reduceSub, Int.reduceMul, Int.reduceToNat, ↓bind_go, ↓map_go, wantedV, isWrite, grow, write, ofV, AV.cells, Abs.start, Abs.strip, endQ, resV, rawsRes, rawRes, exports, export1, AS.grown, AS.put, Env.know, Env.boxed, isSelf, convSelf, convV, loadV, storeV, fieldAddrV, fieldV, indexAddrV, indexV, partV, isAggK, isStr, place, lenV, min2V, makeV, freshSl, sliceV, boundOr, bound, bounds, cutFl, copyV, slCells, srcV, appendV, room, zerosOf, eqNeg, kd, takeR, hasViewL, hasView, freshR, freshC, snapAll, snap, snapL, flatL, pureL, pureA, fillC, arrOK, oneA, partB, AV.laid, ren1, CR.gr, applyW, useL, AS.mute, isGen, startG, ev5, tbVf1, glob, Nat.reduceMod, s2, s3, s4, s5, b2, b3, b4, s8, b5]
              refine ⟨rfl, gn 9 + 1, rfl, ?_⟩
              rw [if_pos rfl]
              rfl
            · rintro n ⟨sl, gn, bx', us⟩ ⟨i, hi, rfl, s10, b5, ⟨g, s9, b9⟩, s2, s3, s4, s5, b2, b3, b4⟩
              dsimp only at s10 b5 s9 b9 s2 s3 s4 s5 b2 b3 b4
              have lO := rO_len q i
              have hO : rO q (i + 1) = (rO q i).set (i / 8) ((rO q i).getD (i / 8) 0#8 ||| q.getD i 0#8 <<< (7 - i % 8)) := rfl
              generalize hy : rO q i = y at b9 lO hO
              simp (maxSteps := 1000000) (disch := first | omega | (simp only [rT_len, rIn_len, rR_len, rO_len, lnB] <;> omega) | fail) only [ev0, ev1, ev2, ev3, ↓reduceIte, reduceCtorEq, Nat.reduceAdd, Nat.reduceSub, Nat.reduceMul, Nat.reduceLT, Nat.reduceLeDiff, Nat.reduceEqDiff, Nat.reduceBEq, BitVec.reduceOfInt, Int.reduceLE, Int.reduceLT, Int.reduceGT, Int.reduceGE, Int.reduceNeg, Int.reduceAdd, Int.reduceSub, Int.reduceMul, Int.reduceToNat, ↓bind_go, ↓map_go, wantedV, isWrite, grow, write, ofV, AV.cells, Abs.start, Abs.strip, endQ, resV, rawsRes, rawRes, exports, export1, AS.grown, AS.put, Env.know, Env.boxed, isSelf, convSelf, convV, loadV, storeV, fieldAddrV, fieldV, indexAddrV, indexV, partV, isAggK, isStr, place, lenV, min2V, makeV, freshSl, sliceV, boundOr, bound, bounds, cutFl, copyV, slCells, srcV, appendV, room, zerosOf, eqNeg, kd, takeR, hasViewL, hasView, freshR, freshC, snapAll, snap, snapL, flatL, pureL, pureA, fillC, arrOK, oneA, partB, AV.laid, ren1, CR.gr, applyW, useL, AS.mute, isGen, startG, ev5, tbVf1, glob, Nat.reduceMod, s2, s3, s4, s5, b2, b3, b4, s10, b5, s9, b9, lR, lO]
              refine condQ_dec (fun hlt => ?_) (fun hge => ?_)
              · have hlt : i < 128 := by omega
                simp (maxSteps := 1000000) (disch := first | omega | (simp only [rT_len, rIn_len, rR_len, rO_len, lnB] <;> omega) | fail) only [ev0, ev1, ev2, ev3, ↓reduceIte, reduceCtorEq, Nat.reduceAdd, Nat.reduceSub, Nat.reduceMul, Nat.reduceLT, Nat.reduceLeDiff, Nat.reduceEqDiff, Nat.reduceBEq, BitVec.reduceOfInt, Int.reduceLE, Int.reduceLT, Int.reduceGT, Int.reduceGE, Int.reduceNeg, Int.reduceAdd, Int.reduceSub, Int.reduceMul, Int.reduceToNat, ↓bind_go, ↓map_go, wantedV, isWrite, grow, write, ofV, AV.cells, Abs.start, Abs.strip, endQ, resV, rawsRes, rawRes, exports, export1, AS.grown, AS.put, Env.know, Env.boxed, isSelf, convSelf, convV, loadV, storeV, fieldAddrV, fieldV, indexAddrV, indexV, partV, isAggK, isStr, place, lenV, min2V, makeV, freshSl, sliceV, boundOr, bound, bounds, cutFl, copyV, slCells, srcV, appendV, room, zerosOf, eqNeg, kd, takeR, hasViewL, hasView, freshR, freshC, snapAll, snap, snapL, flatL, pureL, pureA, fillC, arrOK, oneA, partB, AV.laid, ren1, CR.gr, applyW, useL, AS.mute, isGen, startG, ev5, tbVf1, glob, Nat.reduceMod, s2, s3, s4, s5, b2, b3, b4, s10, b5, s9, b9, lR, lO]
                refine ⟨128 - (i + 1), by omega, i + 1, by omega, rfl, rfl, g, rfl, ?_⟩
                rw [if_pos rfl, hO]
              · have hi : i = 128 := by omega
                subst hi
                rw [hy]
                simp (maxSteps := 1000000) (disch := first | omega | (simp only [rT_len, rIn_len, rR_len, rO_len, lnB] <;> omega) | fail) only [ev0, ev1, ev2, ev3, ↓reduceIte, reduceCtorEq, Nat.reduceAdd, Nat.reduceSub, Nat.reduceMul, Nat.reduceLT, Nat.reduceLeDiff, Nat.reduceEqDiff, Nat.reduceBEq, BitVec.reduceOfInt, Int.reduceLE, Int.reduceLT, Int.reduceGT, Int.reduceGE, Int.reduceNeg, Int.reduceAdd, Int.reduceSub, Int.reduceMul, Int.reduceToNat, ↓bind_go, ↓map_go, wantedV, isWrite, grow, write, ofV, AV.cells, Abs.start, Abs.strip, endQ, resV, rawsRes, rawRes, exports, export1, AS.grown, AS.put, Env.know, Env.boxed, isSelf, convSelf, convV, loadV, storeV, fieldAddrV, fieldV, indexAddrV, indexV, partV, isAggK, isStr, place, lenV, min2V, makeV, freshSl, sliceV, boundOr, bound, bounds, cutFl, copyV, slCells, srcV, appendV, room, zerosOf, eqNeg, kd, takeR, hasViewL, hasView, freshR, freshC, snapAll, snap, snapL, flatL, pureL, pureA, fillC, arrOK, oneA, partB, AV.laid, ren1, CR.gr, applyW, useL, AS.mute, isGen, startG, ev5, tbVf1, glob, Nat.reduceMod, s2, s3, s4, s5, b2, b3, b4, s10, b5, s9, b9, lR, lO]
                exact ResQ.same rfl
  · cases hr
end Go.Proofs.Ytjnmdphoaafjaaa
