/- Nonce: what its walk comes to. -/
import Derived.Test.YtddeffdgldjdjaaDoorBa
import Derived.Test.YtddeffdgldjdjaaDoorM3
import Derived.Test.YtddeffdgldjdjaaDoorM4
namespace Go.Proofs.YtddeffdgldjdjaaDoor
set_option linter.unusedSimpArgs false
set_option linter.unusedVariables false
set_option linter.defProp false
open Go Go.Abs
set_option maxHeartbeats 16000000
def glob : Nat → Option (List AV) := fun _ => none
def E0 : Env := { te := te, glob := glob, tbl := fun _ => none, mu := fun _ => false, dyn := false, gs := [] }
theorem ok0 : EnvOK Tryd.prog E0 := ⟨te_ok, (fun _ _ h => by cases h), (fun _ _ h => by cases h)⟩
theorem E0_te : E0.te = te := rfl
theorem E0_glob : E0.glob = glob := rfl
theorem E0_gs : E0.gs = [] := rfl
theorem E0_dyn : E0.dyn = false := rfl
theorem E0_mu (d : Nat) : E0.mu d = false := rfl
theorem nums_strip (l : List (BitVec 8)) : List.map strip (nums .u8 l) = nums .u8 l := by
  simp only [nums, List.map_map]; rfl
theorem nums_set8 (l : List (BitVec 8)) (i : Nat) (x : BitVec 8) : (nums .u8 l).set i (.raw (.int .u8 (x.toNat : Int))) = nums .u8 (l.set i x) := by
  simp only [nums, List.map_set]
def argOK (d t i : Int) : Prop := ¬ (d < 0 ∨ 256 ≤ d ∨ t < 0 ∨ 1099511627776 ≤ t ∨ i < 0 ∨ 1099511627776 ≤ i)
instance (d t i : Int) : Decidable (argOK d t i) := inferInstanceAs (Decidable (¬ _))
def nb (x : Int) (k : Nat) : BitVec 8 := BitVec.ofInt 8 (x.fdiv (2 ^ k))
def nonce (d t i : Int) : List (BitVec 8) := [BitVec.ofInt 8 d, nb t 32, nb t 24, nb t 16, nb t 8, nb t 0, nb i 40, nb i 32, nb i 24, nb i 16, nb i 8, nb i 0]
def nonceV (d t i : Int) : List (BitVec 8) := if argOK d t i then nonce d t i else List.replicate 12 0#8
def nonceE (d t i : Int) : Int := if argOK d t i then 0 else 1
def pf36 : List AV → Option AV
  | [x, y, z] => (int? x).bind fun d => (int? y).bind fun t => (int? z).bind fun i => some (.tup [.agg (nums .u8 (nonceV d t i)), .raw (.int .i64 (nonceE d t i))])
  | _ => none
def tbBb0 := (And.intro (And.intro (And.intro @teE @evY) (And.intro @E0_te @E0_glob)) (And.intro (And.intro @E0_gs @E0_dyn) (And.intro @E0_mu (And.intro @nums_strip @nums_set8))))
set_option maxRecDepth 20000 in
theorem sound36 : SoundV Tryd.prog glob 36 pf36 := by
  refine SoundV.walkY E0 [(0, 6), (2, 7)] ok0 mixed Tryd.func36 rfl Tryd.call36 (by kernel_rfl) ?_
  intro args r hr
  unfold pf36 at hr
  split at hr
  · rename_i x y z
    simp only [Option.bind_eq_some_iff] at hr
    obtain ⟨d, h1, t, h2, i, h3, hr⟩ := hr
    cases hr
    rw [int?_of h1, int?_of h2, int?_of h3, Tryd.ntmps36, Tryd.results36]
    refine ⟨by simp, ?_⟩
    by_cases hb : argOK d t i
    · rw [nonceV, nonceE, if_pos hb, if_pos hb]
      unfold argOK at hb
      have e1 : (d < 0) = False := eq_false (by omega)
      have e2 : (d ≥ 256) = False := eq_false (by omega)
      have e3 : (t < 0) = False := eq_false (by omega)
      have e4 : (t ≥ 1099511627776) = False := eq_false (by omega)
      have e5 : (i < 0) = False := eq_false (by omega)
      have e6 : (i ≥ 1099511627776) = False := eq_false (by omega)
      simp (maxSteps := 1000000) (disch := first | omega | (simp only [nums_len, lnB] <;> omega) | fail) only [ev0, ev1, ev2, ev3, ↓reduceIte, reduceCtorEq, Nat.reduceAdd, Nat.reduceSub, Nat.reduceMul, Nat.reduceLT, Nat.reduceLeDiff, Nat.reduceEqDiff, Nat.reduceBEq, BitVec.reduceOfInt, Int.reduceLE, Int.reduceLT, Int.reduceGT, Int.reduceGE, Int.reduceNeg, Int.reduceAdd, Int.reduceSub, Int.reduceMul, Int.reduceToNat, ↓bind_go, ↓map_go, wantedV, isWrite, grow, write, ofV, AV.cells, Abs.start, Abs.strip, endQ, resV, rawsRes, rawRes, exports, export1, AS.grown, AS.put, Env.know, Env.boxed, isSelf, convSelf, convV, loadV, storeV, fieldAddrV, fieldV, indexAddrV, indexV, partV, isAggK, isStr, place, ipS, lenV, min2V, makeV, freshSl, sliceV, boundOr, bound, bounds, cutFl, copyV, slCells, srcV, appendV, room, zerosOf, eqNeg, kd, takeR, hasViewL, hasView, freshR, freshC, snapAll, snap, snapL, flatL, pureL, pureA, fillC, arrOK, oneA, partB, AV.laid, ren1, CR.gr, applyW, useL, AS.mute, isGen, startG, ev5, tbBb0, glob, Nat.reduceMod, e1, e2, e3, e4, e5, e6, decide_false]
      exact ResQ.same rfl
    · rw [nonceV, nonceE, if_neg hb, if_neg hb]
      have hb' := Decidable.of_not_not hb
      by_cases f0 : d < 0
      · have e0 : (d < 0) = True := eq_true f0
        simp (maxSteps := 1000000) (disch := first | omega | (simp only [nums_len, lnB] <;> omega) | fail) only [ev0, ev1, ev2, ev3, ↓reduceIte, reduceCtorEq, Nat.reduceAdd, Nat.reduceSub, Nat.reduceMul, Nat.reduceLT, Nat.reduceLeDiff, Nat.reduceEqDiff, Nat.reduceBEq, BitVec.reduceOfInt, Int.reduceLE, Int.reduceLT, Int.reduceGT, Int.reduceGE, Int.reduceNeg, Int.reduceAdd, Int.reduceSub, Int.reduceMul, Int.reduceToNat, ↓bind_go, ↓map_go, wantedV, isWrite, grow, write, ofV, AV.cells, Abs.start, Abs.strip, endQ, resV, rawsRes, rawRes, exports, export1, AS.grown, AS.put, Env.know, Env.boxed, isSelf, convSelf, convV, loadV, storeV, fieldAddrV, fieldV, indexAddrV, indexV, partV, isAggK, isStr, place, ipS, lenV, min2V, makeV, freshSl, sliceV, boundOr, bound, bounds, cutFl, copyV, slCells, srcV, appendV, room, zerosOf, eqNeg, kd, takeR, hasViewL, hasView, freshR, freshC, snapAll, snap, snapL, flatL, pureL, pureA, fillC, arrOK, oneA, partB, AV.laid, ren1, CR.gr, applyW, useL, AS.mute, isGen, startG, ev5, tbBb0, glob, Nat.reduceMod, e0, decide_true, decide_false]
        exact ResQ.same rfl
      have e0 : (d < 0) = False := eq_false f0
      by_cases f1 : d ≥ 256
      · have e1 : (d ≥ 256) = True := eq_true f1
        simp (maxSteps := 1000000) (disch := first | omega | (simp only [nums_len, lnB] <;> omega) | fail) only [ev0, ev1, ev2, ev3, ↓reduceIte, reduceCtorEq, Nat.reduceAdd, Nat.reduceSub, Nat.reduceMul, Nat.reduceLT, Nat.reduceLeDiff, Nat.reduceEqDiff, Nat.reduceBEq, BitVec.reduceOfInt, Int.reduceLE, Int.reduceLT, Int.reduceGT, Int.reduceGE, Int.reduceNeg, Int.reduceAdd, Int.reduceSub, Int.reduceMul, Int.reduceToNat, ↓bind_go, ↓map_go, wantedV, isWrite, grow, write, ofV, AV.cells, Abs.start, Abs.strip, endQ, resV, rawsRes, rawRes, exports, export1, AS.grown, AS.put, Env.know, Env.boxed, isSelf, convSelf, convV, loadV, storeV, fieldAddrV, fieldV, indexAddrV, indexV, partV, isAggK, isStr, place, ipS, lenV, min2V, makeV, freshSl, sliceV, boundOr, bound, bounds, cutFl, copyV, slCells, srcV, appendV, room, zerosOf, eqNeg, kd, takeR, hasViewL, hasView, freshR, freshC, snapAll, snap, snapL, flatL, pureL, pureA, fillC, arrOK, oneA, partB, AV.laid, ren1, CR.gr, applyW, useL, AS.mute, isGen, startG, ev5, tbBb0, glob, Nat.reduceMod, e0, e1, decide_true, decide_false]
        exact ResQ.same rfl
      have e1 : (d ≥ 256) = False := eq_false f1
      by_cases f2 : t < 0
      · have e2 : (t < 0) = True := eq_true f2
        simp (maxSteps := 1000000) (disch := first | omega | (simp only [nums_len, lnB] <;> omega) | fail) only [ev0, ev1, ev2, ev3, ↓reduceIte, reduceCtorEq, Nat.reduceAdd, Nat.reduceSub, Nat.reduceMul, Nat.reduceLT, Nat.reduceLeDiff, Nat.reduceEqDiff, Nat.reduceBEq, BitVec.reduceOfInt, Int.reduceLE, Int.reduceLT, Int.reduceGT, Int.reduceGE, Int.reduceNeg, Int.reduceAdd, Int.reduceSub, Int.reduceMul, Int.reduceToNat, ↓bind_go, ↓map_go, wantedV, isWrite, grow, write, ofV, AV.cells, Abs.start, Abs.strip, endQ, resV, rawsRes, rawRes, exports, export1, AS.grown, AS.put, Env.know, Env.boxed, isSelf, convSelf, convV, loadV, storeV, fieldAddrV, fieldV, indexAddrV, indexV, partV, isAggK, isStr, place, ipS, lenV, min2V, makeV, freshSl, sliceV, boundOr, bound, bounds, cutFl, copyV, slCells, srcV, appendV, room, zerosOf, eqNeg, kd, takeR, hasViewL, hasView, freshR, freshC, snapAll, snap, snapL, flatL, pureL, pureA, fillC, arrOK, oneA, partB, AV.laid, ren1, CR.gr, applyW, useL, AS.mute, isGen, startG, ev5, tbBb0, glob, Nat.reduceMod, e0, e1, e2, decide_true, decide_false]
        exact ResQ.same rfl
      have e2 : (t < 0) = False := eq_false f2
      by_cases f3 : t ≥ 1099511627776
      · have e3 : (t ≥ 1099511627776) = True := eq_true f3
        simp (maxSteps := 1000000) (disch := first | omega | (simp only [nums_len, lnB] <;> omega) | fail) only [ev0, ev1, ev2, ev3, ↓reduceIte, reduceCtorEq, Nat.reduceAdd, Nat.reduceSub, Nat.reduceMul, Nat.reduceLT, Nat.reduceLeDiff, Nat.reduceEqDiff, Nat.reduceBEq, BitVec.reduceOfInt, Int.reduceLE, Int.reduceLT, Int.reduceGT, Int.reduceGE, Int.reduceNeg, Int.reduceAdd, Int.reduceSub, Int.reduceMul, Int.reduceToNat, ↓bind_go, ↓map_go, wantedV, isWrite, grow, write, ofV, AV.cells, Abs.start, Abs.strip, endQ, resV, rawsRes, rawRes, exports, export1, AS.grown, AS.put, Env.know, Env.boxed, isSelf, convSelf, convV, loadV, storeV, fieldAddrV, fieldV, indexAddrV, indexV, partV, isAggK, isStr, place, ipS, lenV, min2V, makeV, freshSl, sliceV, boundOr, bound, bounds, cutFl, copyV, slCells, srcV, appendV, room, zerosOf, eqNeg, kd, takeR, hasViewL, hasView, freshR, freshC, snapAll, snap, snapL, flatL, pureL, pureA, fillC, arrOK, oneA, partB, AV.laid, ren1, CR.gr, applyW, useL, AS.mute, isGen, startG, ev5, tbBb0, glob, Nat.reduceMod, e0, e1, e2, e3, decide_true, decide_false]
        exact ResQ.same rfl
      have e3 : (t ≥ 1099511627776) = False := eq_false f3
      by_cases f4 : i < 0
      · have e4 : (i < 0) = True := eq_true f4
        simp (maxSteps := 1000000) (disch := first | omega | (simp only [nums_len, lnB] <;> omega) | fail) only [ev0, ev1, ev2, ev3, ↓reduceIte, reduceCtorEq, Nat.reduceAdd, Nat.reduceSub, Nat.reduceMul, Nat.reduceLT, Nat.reduceLeDiff, Nat.reduceEqDiff, Nat.reduceBEq, BitVec.reduceOfInt, Int.reduceLE, Int.reduceLT, Int.reduceGT, Int.reduceGE, Int.reduceNeg, Int.reduceAdd, Int.reduceSub, Int.reduceMul, Int.reduceToNat, ↓bind_go, ↓map_go, wantedV, isWrite, grow, write, ofV, AV.cells, Abs.start, Abs.strip, endQ, resV, rawsRes, rawRes, exports, export1, AS.grown, AS.put, Env.know, Env.boxed, isSelf, convSelf, convV, loadV, storeV, fieldAddrV, fieldV, indexAddrV, indexV, partV, isAggK, isStr, place, ipS, lenV, min2V, makeV, freshSl, sliceV, boundOr, bound, bounds, cutFl, copyV, slCells, srcV, appendV, room, zerosOf, eqNeg, kd, takeR, hasViewL, hasView, freshR, freshC, snapAll, snap, snapL, flatL, pureL, pureA, fillC, arrOK, oneA, partB, AV.laid, ren1, CR.gr, applyW, useL, AS.mute, isGen, startG, ev5, tbBb0, glob, Nat.reduceMod, e0, e1, e2, e3, e4, decide_true, decide_false]
        exact ResQ.same rfl
      have e4 : (i < 0) = False := eq_false f4
      have e5 : (i ≥ 1099511627776) = True := eq_true (by omega)
      simp (maxSteps := 1000000) (disch := first | omega | (simp only [nums_len, lnB] <;> omega) | fail) only [ev0, ev1, ev2, ev3, ↓reduceIte, reduceCtorEq, Nat.reduceAdd, Nat.reduceSub, Nat.reduceMul, Nat.reduceLT, Nat.reduceLeDiff, Nat.reduceEqDiff, Nat.reduceBEq, BitVec.reduceOfInt, Int.reduceLE, Int.reduceLT, Int.reduceGT, Int.reduceGE, Int.reduceNeg, Int.reduceAdd, Int.reduceSub, Int.reduceMul, Int.reduceToNat, ↓bind_go, ↓map_go, wantedV, isWrite, grow, write, ofV, AV.cells, Abs.start, Abs.strip, endQ, resV, rawsRes, rawRes, exports, export1, AS.grown, AS.put, Env.know, Env.boxed, isSelf, convSelf, convV, loadV, storeV, fieldAddrV, fieldV, indexAddrV, indexV, partV, isAggK, isStr, place, ipS, lenV, min2V, makeV, freshSl, sliceV, boundOr, bound, bounds, cutFl, copyV, slCells, srcV, appendV, room, zerosOf, eqNeg, kd, takeR, hasViewL, hasView, freshR, freshC, snapAll, snap, snapL, flatL, pureL, pureA, fillC, arrOK, oneA, partB, AV.laid, ren1, CR.gr, applyW, useL, AS.mute, isGen, startG, ev5, tbBb0, glob, Nat.reduceMod, e0, e1, e2, e3, e4, e5, decide_true, decide_false]
      exact ResQ.same rfl
  · cases hr
end Go.Proofs.YtddeffdgldjdjaaDoor
