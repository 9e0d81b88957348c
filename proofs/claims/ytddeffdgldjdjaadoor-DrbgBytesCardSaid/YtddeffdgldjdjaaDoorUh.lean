/- A block is encrypted: what the walk comes to. -/
import Derived.Test.YtddeffdgldjdjaaDoorUf
import Derived.Test.YtddeffdgldjdjaaDoorUg
namespace Go.Proofs.YtddeffdgldjdjaaDoor
set_option linter.unusedSimpArgs false
set_option linter.unusedVariables false
set_option linter.defProp false
open Go Go.Abs
set_option maxHeartbeats 16000000
noncomputable def E5 : Env := (E0.know 102 pf102).know 134 pf134
theorem ok5 : EnvOK Tryd.prog E5 := (ok0.know sound102).know sound134
theorem E5_te : E5.te = te := rfl
theorem E5_glob : E5.glob = glob := rfl
theorem E5_gs : E5.gs = [] := rfl
theorem E5_dyn : E5.dyn = false := rfl
theorem E5_mu (d : Nat) : E5.mu d = false := rfl
theorem E5_x : E5.tbl 102 = some (.val pf102) := rfl
theorem E5_r : E5.tbl 134 = some (.val pf134) := rfl
theorem round_at {a b : List (BitVec 8)} {q : Bool} (h : a.length = 16) (h' : b.length = 16) : pf134 [.agg (nums .u8 a), .agg (nums .u8 b), .raw (.bool q)] = some (.agg (nums .u8 (roundF a b q))) := by
  simp only [pf134, agg?_at h, agg?_at h', Option.bind_some]
theorem outF_len (a k : List (BitVec 8)) (c : Nat) : (outF a k c).length = 4 := rfl
theorem roundF_len (s k : List (BitVec 8)) (b : Bool) : (roundF s k b).length = 16 := rfl
/-- the j-th round's key -/
def rk (c : List (BitVec 8)) (j : Nat) : List (BitVec 8) := (c.drop (j * 16)).take 16
theorem rk_len {c : List (BitVec 8)} (h : c.length = 240) {j : Nat} (hj : j < 15) : (rk c j).length = 16 := by
  simp only [rk, List.length_take, List.length_drop]; omega
def encK (c s : List (BitVec 8)) : Nat → List (BitVec 8)
  | 0 => xorB s (c.take 16)
  | k + 1 => roundF (encK c s k) (rk c (k + 1)) ((k + 1 : Nat) == 14)
def encB (c s : List (BitVec 8)) : List (BitVec 8) := encK c s 14
theorem encK_len {c s : List (BitVec 8)} (h : s.length = 16) (k : Nat) : (encK c s k).length = 16 := by
  cases k with
  | zero => exact xorB_len h
  | succ k => exact roundF_len _ _ _
theorem encB_len (c s : List (BitVec 8)) : (encB c s).length = 16 := roundF_len _ _ _
noncomputable def gf100 (args : List AV) (bx : Boxes) (us : Abs.Id → Bool) : Option CR := match args with
  | [.ptr r 0, w] => (bx r).bind fun cs => (agg? .u8 8 240 (.agg cs)).bind fun c => (agg? .u8 8 16 w).bind fun s => some { v := .ret (.agg (nums .u8 (encB c s))) }
  | _ => none
def tbUh0 := (And.intro (And.intro (And.intro (And.intro @teE @E5_te) (And.intro @E5_glob @E5_gs)) (And.intro (And.intro @E5_dyn @E5_mu) (And.intro @E5_x @E5_r))) (And.intro (And.intro (And.intro @bxor_at @round_at) (And.intro @roundF_len @nums_strip)) (And.intro (And.intro @nums_set8 @splice0) (And.intro @own_ne @own_ne'))))
theorem sound100 : SoundG Tryd.prog glob 100 gf100 := by
  refine SoundG.walk E5 ok5 mixed Tryd.func100 rfl Tryd.call100 (by kernel_rfl) ?_
  intro args bx us cr hr
  unfold gf100 at hr
  split at hr
  · rename_i r w
    simp only [Option.bind_eq_some_iff] at hr
    obtain ⟨cs, hb, c, h1, s, h2, hr⟩ := hr
    obtain ⟨e1, hc⟩ := agg?_of h1
    cases e1
    obtain ⟨rfl, hs⟩ := agg?_of h2
    cases hr
    rw [Tryd.ntmps100, Tryd.results100]
    refine ⟨by simp, fun L hlow hus hbf => ?_⟩
    have hbs : (bx r).isSome := by rw [hb]; rfl
    have hbL := (hlow r hbs).1
    simp (maxSteps := 1000000) (disch := first | omega | (simp only [xorB_len', roundF_len, encB_len, lnB] <;> omega) | fail) only [ev0, ev1, ev2, ev3, ↓reduceIte, reduceCtorEq, Nat.reduceAdd, Nat.reduceSub, Nat.reduceMul, Nat.reduceLT, Nat.reduceLeDiff, Nat.reduceEqDiff, Nat.reduceBEq, BitVec.reduceOfInt, Int.reduceLE, Int.reduceLT, Int.reduceGT, Int.reduceGE, Int.reduceNeg, Int.reduceAdd, Int.reduceSub, Int.reduceMul, Int.reduceToNat, ↓bind_go, ↓map_go, wantedV, isWrite, grow, write, ofV, AV.cells, Abs.start, Abs.strip, endQ, resV, rawsRes, rawRes, exports, export1, AS.grown, AS.put, Env.know, Env.boxed, isSelf, convSelf, convV, loadV, storeV, fieldAddrV, fieldV, indexAddrV, indexV, partV, isAggK, isStr, place, ipS, lenV, min2V, makeV, freshSl, sliceV, boundOr, bound, bounds, cutFl, copyV, slCells, srcV, appendV, room, zerosOf, eqNeg, kd, takeR, hasViewL, hasView, freshR, freshC, snapAll, snap, snapL, flatL, pureL, pureA, fillC, arrOK, oneA, partB, AV.laid, ren1, CR.gr, applyW, useL, AS.mute, isGen, startG, ev5, tbUh0, glob, Nat.reduceMod, Bx.own.injEq, and_false, false_and, and_true, true_and, hb, hc, hs]
    refine loopQ_of (fun n σ => ∃ k, k ≤ 14 ∧ n = 14 - k ∧ σ.slots 5 = .raw (.int .i64 ((k : Int) + 1)) ∧ σ.slots 0 = .ptr r 0 ∧ σ.slots 3 = .ptr (.own L 3 1) 0 ∧ σ.slots 4 = .ptr (.own L 4 1) 0 ∧ σ.box r = some (nums .u8 c) ∧ σ.box (.own L 3 1) = some (nums .u8 (encK c s k)) ∧ σ.box (.own L 4 1) = some (nums .u8 (List.replicate 16 0#8)) ∧ (∀ b, b.lvl < L → σ.box b = bx b) ∧ (∀ i, i.lvl < L → σ.used i = us i)) 14 ?_ ?_
    · refine ⟨0, by omega, by omega, ?_⟩
      simp (maxSteps := 1000000) (disch := first | omega | (simp only [xorB_len', roundF_len, encB_len, lnB] <;> omega) | fail) only [ev0, ev1, ev2, ev3, ↓reduceIte, reduceCtorEq, Nat.reduceAdd, Nat.reduceSub, Nat.reduceMul, Nat.reduceLT, Nat.reduceLeDiff, Nat.reduceEqDiff, Nat.reduceBEq, BitVec.reduceOfInt, Int.reduceLE, Int.reduceLT, Int.reduceGT, Int.reduceGE, Int.reduceNeg, Int.reduceAdd, Int.reduceSub, Int.reduceMul, Int.reduceToNat, ↓bind_go, ↓map_go, wantedV, isWrite, grow, write, ofV, AV.cells, Abs.start, Abs.strip, endQ, resV, rawsRes, rawRes, exports, export1, AS.grown, AS.put, Env.know, Env.boxed, isSelf, convSelf, convV, loadV, storeV, fieldAddrV, fieldV, indexAddrV, indexV, partV, isAggK, isStr, place, ipS, lenV, min2V, makeV, freshSl, sliceV, boundOr, bound, bounds, cutFl, copyV, slCells, srcV, appendV, room, zerosOf, eqNeg, kd, takeR, hasViewL, hasView, freshR, freshC, snapAll, snap, snapL, flatL, pureL, pureA, fillC, arrOK, oneA, partB, AV.laid, ren1, CR.gr, applyW, useL, AS.mute, isGen, startG, ev5, tbUh0, glob, Nat.reduceMod, Bx.own.injEq, and_false, false_and, and_true, true_and, hb, hc, hs]
      exact ⟨rfl, rfl, fun b hb' => by simp only [own_ne hb', if_false], fun _ _ => trivial⟩
    · rintro n ⟨sl, gn, bx', us'⟩ ⟨k, hk, rfl, s5, s0, s3, s4, br, b3, b4, hbx, hux⟩
      dsimp only at s5 s0 s3 s4 br b3 b4 hbx hux
      have lE := encK_len (c := c) hs k
      have hE : encK c s (k + 1) = roundF (encK c s k) (rk c (k + 1)) ((k + 1 : Nat) == 14) := rfl
      generalize hy : encK c s k = y at b3 lE hE
      simp (maxSteps := 1000000) (disch := first | omega | (simp only [xorB_len', roundF_len, encB_len, lnB] <;> omega) | fail) only [ev0, ev1, ev2, ev3, ↓reduceIte, reduceCtorEq, Nat.reduceAdd, Nat.reduceSub, Nat.reduceMul, Nat.reduceLT, Nat.reduceLeDiff, Nat.reduceEqDiff, Nat.reduceBEq, BitVec.reduceOfInt, Int.reduceLE, Int.reduceLT, Int.reduceGT, Int.reduceGE, Int.reduceNeg, Int.reduceAdd, Int.reduceSub, Int.reduceMul, Int.reduceToNat, ↓bind_go, ↓map_go, wantedV, isWrite, grow, write, ofV, AV.cells, Abs.start, Abs.strip, endQ, resV, rawsRes, rawRes, exports, export1, AS.grown, AS.put, Env.know, Env.boxed, isSelf, convSelf, convV, loadV, storeV, fieldAddrV, fieldV, indexAddrV, indexV, partV, isAggK, isStr, place, ipS, lenV, min2V, makeV, freshSl, sliceV, boundOr, bound, bounds, cutFl, copyV, slCells, srcV, appendV, room, zerosOf, eqNeg, kd, takeR, hasViewL, hasView, freshR, freshC, snapAll, snap, snapL, flatL, pureL, pureA, fillC, arrOK, oneA, partB, AV.laid, ren1, CR.gr, applyW, useL, AS.mute, isGen, startG, ev5, tbUh0, glob, Nat.reduceMod, Bx.own.injEq, and_false, false_and, and_true, true_and, s5, s0, s3, s4, br, b3, b4, lE, hc]
      refine condQ_dec (fun hlt => ?_) (fun hge => ?_)
      · have lR := rk_len hc (show k + 1 < 15 by omega)
        have e1 : (((k : Int) + 1) == 14) = ((k + 1 : Nat) == 14) := by
          by_cases h : k + 1 = 14
          · rw [beq_iff_eq.2 h, beq_iff_eq.2 (show (k : Int) + 1 = 14 by omega)]
          · rw [beq_eq_false_iff_ne.2 h, beq_eq_false_iff_ne.2 (show (k : Int) + 1 ≠ 14 by omega)]
        simp (maxSteps := 1000000) (disch := first | omega | (simp only [xorB_len', roundF_len, encB_len, lnB] <;> omega) | fail) only [ev0, ev1, ev2, ev3, ↓reduceIte, reduceCtorEq, Nat.reduceAdd, Nat.reduceSub, Nat.reduceMul, Nat.reduceLT, Nat.reduceLeDiff, Nat.reduceEqDiff, Nat.reduceBEq, BitVec.reduceOfInt, Int.reduceLE, Int.reduceLT, Int.reduceGT, Int.reduceGE, Int.reduceNeg, Int.reduceAdd, Int.reduceSub, Int.reduceMul, Int.reduceToNat, ↓bind_go, ↓map_go, wantedV, isWrite, grow, write, ofV, AV.cells, Abs.start, Abs.strip, endQ, resV, rawsRes, rawRes, exports, export1, AS.grown, AS.put, Env.know, Env.boxed, isSelf, convSelf, convV, loadV, storeV, fieldAddrV, fieldV, indexAddrV, indexV, partV, isAggK, isStr, place, ipS, lenV, min2V, makeV, freshSl, sliceV, boundOr, bound, bounds, cutFl, copyV, slCells, srcV, appendV, room, zerosOf, eqNeg, kd, takeR, hasViewL, hasView, freshR, freshC, snapAll, snap, snapL, flatL, pureL, pureA, fillC, arrOK, oneA, partB, AV.laid, ren1, CR.gr, applyW, useL, AS.mute, isGen, startG, ev5, tbUh0, glob, Nat.reduceMod, Bx.own.injEq, and_false, false_and, and_true, true_and, s5, s0, s3, s4, br, b3, b4, lE, hc, e1]
        refine ⟨14 - (k + 1), by omega, k + 1, by omega, rfl, rfl, ?_, fun b hb' => by simp only [own_ne hb', if_false, hbx b hb'], hux⟩
        rw [hE]
        rfl
      · have hk : k = 14 := by omega
        subst hk
        have hF : encB c s = y := hy
        rw [hF]
        simp (maxSteps := 1000000) (disch := first | omega | (simp only [xorB_len', roundF_len, encB_len, lnB] <;> omega) | fail) only [ev0, ev1, ev2, ev3, ↓reduceIte, reduceCtorEq, Nat.reduceAdd, Nat.reduceSub, Nat.reduceMul, Nat.reduceLT, Nat.reduceLeDiff, Nat.reduceEqDiff, Nat.reduceBEq, BitVec.reduceOfInt, Int.reduceLE, Int.reduceLT, Int.reduceGT, Int.reduceGE, Int.reduceNeg, Int.reduceAdd, Int.reduceSub, Int.reduceMul, Int.reduceToNat, ↓bind_go, ↓map_go, wantedV, isWrite, grow, write, ofV, AV.cells, Abs.start, Abs.strip, endQ, resV, rawsRes, rawRes, exports, export1, AS.grown, AS.put, Env.know, Env.boxed, isSelf, convSelf, convV, loadV, storeV, fieldAddrV, fieldV, indexAddrV, indexV, partV, isAggK, isStr, place, ipS, lenV, min2V, makeV, freshSl, sliceV, boundOr, bound, bounds, cutFl, copyV, slCells, srcV, appendV, room, zerosOf, eqNeg, kd, takeR, hasViewL, hasView, freshR, freshC, snapAll, snap, snapL, flatL, pureL, pureA, fillC, arrOK, oneA, partB, AV.laid, ren1, CR.gr, applyW, useL, AS.mute, isGen, startG, ev5, tbUh0, glob, Nat.reduceMod, Bx.own.injEq, and_false, false_and, and_true, true_and, s5, s0, s3, s4, br, b3, b4, lE, hc]
        change EndG _ _ _ _ _ _ _
        exact EndG.r0 [.agg (nums .u8 y)] [_] (by
          simp (maxSteps := 1000000) (disch := first | omega | (simp only [xorB_len', roundF_len, encB_len, lnB] <;> omega) | fail) only [ev0, ev1, ev2, ev3, ↓reduceIte, reduceCtorEq, Nat.reduceAdd, Nat.reduceSub, Nat.reduceMul, Nat.reduceLT, Nat.reduceLeDiff, Nat.reduceEqDiff, Nat.reduceBEq, BitVec.reduceOfInt, Int.reduceLE, Int.reduceLT, Int.reduceGT, Int.reduceGE, Int.reduceNeg, Int.reduceAdd, Int.reduceSub, Int.reduceMul, Int.reduceToNat, ↓bind_go, ↓map_go, wantedV, isWrite, grow, write, ofV, AV.cells, Abs.start, Abs.strip, endQ, resV, rawsRes, rawRes, exports, export1, AS.grown, AS.put, Env.know, Env.boxed, isSelf, convSelf, convV, loadV, storeV, fieldAddrV, fieldV, indexAddrV, indexV, partV, isAggK, isStr, place, ipS, lenV, min2V, makeV, freshSl, sliceV, boundOr, bound, bounds, cutFl, copyV, slCells, srcV, appendV, room, zerosOf, eqNeg, kd, takeR, hasViewL, hasView, freshR, freshC, snapAll, snap, snapL, flatL, pureL, pureA, fillC, arrOK, oneA, partB, AV.laid, ren1, CR.gr, applyW, useL, AS.mute, isGen, startG, ev5, tbUh0, glob, Nat.reduceMod, Bx.own.injEq, and_false, false_and, and_true, true_and, s4, updB, lE]) (.one (.low _ (lowA_pure _ (by simp only [pureA]; exact nums_pure y)) (by simp) (by simp) (by simp))) rfl (fun b hb' => by simp only [updB, own_ne hb', if_false, hbx b hb']) hux
  · cases hr
end Go.Proofs.YtddeffdgldjdjaaDoor
