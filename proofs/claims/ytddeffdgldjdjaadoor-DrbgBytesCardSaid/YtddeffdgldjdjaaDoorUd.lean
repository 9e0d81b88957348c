/- Blocks: xor, the next counter, halves: what the walks come to. -/
import Derived.Test.YtddeffdgldjdjaaDoorUb
namespace Go.Proofs.YtddeffdgldjdjaaDoor
set_option linter.unusedSimpArgs false
set_option linter.unusedVariables false
set_option linter.defProp false
open Go Go.Abs
set_option maxHeartbeats 64000000
theorem getD_set8 {l : List (BitVec 8)} {i j : Nat} {x d : BitVec 8} (h : i ≠ j) : (l.set i x).getD j d = l.getD j d := by
  rw [List.getD_eq_getElem?_getD, List.getD_eq_getElem?_getD, List.getElem?_set_ne h]
def xorK (a b : List (BitVec 8)) : Nat → List (BitVec 8)
  | 0 => a
  | k + 1 => (xorK a b k).set k (a.getD k 0#8 ^^^ b.getD k 0#8)
def xorB (a b : List (BitVec 8)) : List (BitVec 8) := xorK a b 16
def pf102 : List AV → Option AV
  | [v, w] => (agg? .u8 8 16 v).bind fun a => (agg? .u8 8 16 w).bind fun b => some (.agg (nums .u8 (xorB a b)))
  | _ => none
def tbUd0 := (And.intro (And.intro (And.intro @teE @evY) (And.intro @E0_te (And.intro @E0_glob @E0_gs))) (And.intro (And.intro @E0_dyn @E0_mu) (And.intro @nums_strip (And.intro @nums_set8 @getD_set8))))
set_option maxRecDepth 20000 in
theorem sound102 : SoundV Tryd.prog glob 102 pf102 := by
  refine SoundV.walkY E0 [(0, 17)] ok0 mixed Tryd.func102 rfl Tryd.call102 (by kernel_rfl) ?_
  intro args r hr
  unfold pf102 at hr
  split at hr
  · rename_i v w
    simp only [Option.bind_eq_some_iff] at hr
    obtain ⟨s, h1, k, h2, hr⟩ := hr
    cases hr
    obtain ⟨rfl, hs⟩ := agg?_of h1
    obtain ⟨rfl, hk⟩ := agg?_of h2
    rw [Tryd.ntmps102, Tryd.results102]
    refine ⟨by simp, ?_⟩
    simp (maxSteps := 1000000) (disch := first | omega | (simp only [nums_len, lnB] <;> omega) | fail) only [ev0, ev1, ev2, ev3, ↓reduceIte, reduceCtorEq, Nat.reduceAdd, Nat.reduceSub, Nat.reduceMul, Nat.reduceLT, Nat.reduceLeDiff, Nat.reduceEqDiff, Nat.reduceBEq, BitVec.reduceOfInt, Int.reduceLE, Int.reduceLT, Int.reduceGT, Int.reduceGE, Int.reduceNeg, Int.reduceAdd, Int.reduceSub, Int.reduceMul, Int.reduceToNat, ↓bind_go, ↓map_go, wantedV, isWrite, grow, write, ofV, AV.cells, Abs.start, Abs.strip, endQ, resV, rawsRes, rawRes, exports, export1, AS.grown, AS.put, Env.know, Env.boxed, isSelf, convSelf, convV, loadV, storeV, fieldAddrV, fieldV, indexAddrV, indexV, partV, isAggK, isStr, place, ipS, lenV, min2V, makeV, freshSl, sliceV, boundOr, bound, bounds, cutFl, copyV, slCells, srcV, appendV, room, zerosOf, eqNeg, kd, takeR, hasViewL, hasView, freshR, freshC, snapAll, snap, snapL, flatL, pureL, pureA, fillC, arrOK, oneA, partB, AV.laid, ren1, CR.gr, applyW, useL, AS.mute, isGen, startG, ev5, tbUd0, glob, Nat.reduceMod, hs, hk]
    exact ResQ.same rfl
  · cases hr
def num4 (b : List (BitVec 8)) : BitVec 32 := BitVec.ofNat 32 (b.getD 12 0#8).toNat <<< 24 ||| BitVec.ofNat 32 (b.getD 13 0#8).toNat <<< 16 ||| BitVec.ofNat 32 (b.getD 14 0#8).toNat <<< 8 ||| BitVec.ofNat 32 (b.getD 15 0#8).toNat
def set4 (b : List (BitVec 8)) (n : BitVec 32) : List (BitVec 8) := (((b.set 12 (BitVec.ofNat 8 (n >>> 24).toNat)).set 13 (BitVec.ofNat 8 (n >>> 16).toNat)).set 14 (BitVec.ofNat 8 (n >>> 8).toNat)).set 15 (BitVec.ofNat 8 n.toNat)
def nextB (b : List (BitVec 8)) : List (BitVec 8) := set4 b (num4 b + 1#32)
def ctrB (n : List (BitVec 8)) (c : BitVec 32) : List (BitVec 8) := set4 (n ++ (List.replicate 16 0#8).drop 12) c
theorem splice0 (l m : List (BitVec 8)) : splice (nums .u8 l) 0 (nums .u8 m) = nums .u8 (m ++ l.drop m.length) := by
  rw [nums_splice, List.take_zero, List.nil_append, Nat.zero_add]
def pf99 : List AV → Option AV
  | [v] => (agg? .u8 8 16 v).bind fun a => some (.agg (nums .u8 (nextB a)))
  | _ => none
theorem sound99 : SoundV Tryd.prog glob 99 pf99 := by
  refine SoundV.walkY E0 [(0, 17)] ok0 mixed Tryd.func99 rfl Tryd.call99 (by kernel_rfl) ?_
  intro args r hr
  unfold pf99 at hr
  split at hr
  · rename_i v
    simp only [Option.bind_eq_some_iff] at hr
    obtain ⟨b, h1, hr⟩ := hr
    cases hr
    obtain ⟨rfl, hs⟩ := agg?_of h1
    rw [Tryd.ntmps99, Tryd.results99]
    refine ⟨by simp, ?_⟩
    simp (maxSteps := 1000000) (disch := first | omega | (simp only [nums_len, lnB] <;> omega) | fail) only [ev0, ev1, ev2, ev3, ↓reduceIte, reduceCtorEq, Nat.reduceAdd, Nat.reduceSub, Nat.reduceMul, Nat.reduceLT, Nat.reduceLeDiff, Nat.reduceEqDiff, Nat.reduceBEq, BitVec.reduceOfInt, Int.reduceLE, Int.reduceLT, Int.reduceGT, Int.reduceGE, Int.reduceNeg, Int.reduceAdd, Int.reduceSub, Int.reduceMul, Int.reduceToNat, ↓bind_go, ↓map_go, wantedV, isWrite, grow, write, ofV, AV.cells, Abs.start, Abs.strip, endQ, resV, rawsRes, rawRes, exports, export1, AS.grown, AS.put, Env.know, Env.boxed, isSelf, convSelf, convV, loadV, storeV, fieldAddrV, fieldV, indexAddrV, indexV, partV, isAggK, isStr, place, ipS, lenV, min2V, makeV, freshSl, sliceV, boundOr, bound, bounds, cutFl, copyV, slCells, srcV, appendV, room, zerosOf, eqNeg, kd, takeR, hasViewL, hasView, freshR, freshC, snapAll, snap, snapL, flatL, pureL, pureA, fillC, arrOK, oneA, partB, AV.laid, ren1, CR.gr, applyW, useL, AS.mute, isGen, startG, ev5, tbUd0, glob, Nat.reduceMod, hs]
    exact ResQ.same rfl
  · cases hr
def pf98 : List AV → Option AV
  | [v, w] => (agg? .u8 8 12 v).bind fun n => (num? .u32 32 w).bind fun c => some (.agg (nums .u8 (ctrB n c)))
  | _ => none
theorem sound98 : SoundV Tryd.prog glob 98 pf98 := by
  refine SoundV.walkY E0 [(0, 17)] ok0 mixed Tryd.func98 rfl Tryd.call98 (by kernel_rfl) ?_
  intro args r hr
  unfold pf98 at hr
  split at hr
  · rename_i v w
    simp only [Option.bind_eq_some_iff] at hr
    obtain ⟨m, h1, c, h2, hr⟩ := hr
    cases hr
    obtain ⟨rfl, hs⟩ := agg?_of h1
    rw [num?_of h2, Tryd.ntmps98, Tryd.results98]
    refine ⟨by simp, ?_⟩
    simp (maxSteps := 1000000) (disch := first | omega | (simp only [nums_len, lnB] <;> omega) | fail) only [ev0, ev1, ev2, ev3, ↓reduceIte, reduceCtorEq, Nat.reduceAdd, Nat.reduceSub, Nat.reduceMul, Nat.reduceLT, Nat.reduceLeDiff, Nat.reduceEqDiff, Nat.reduceBEq, BitVec.reduceOfInt, Int.reduceLE, Int.reduceLT, Int.reduceGT, Int.reduceGE, Int.reduceNeg, Int.reduceAdd, Int.reduceSub, Int.reduceMul, Int.reduceToNat, ↓bind_go, ↓map_go, wantedV, isWrite, grow, write, ofV, AV.cells, Abs.start, Abs.strip, endQ, resV, rawsRes, rawRes, exports, export1, AS.grown, AS.put, Env.know, Env.boxed, isSelf, convSelf, convV, loadV, storeV, fieldAddrV, fieldV, indexAddrV, indexV, partV, isAggK, isStr, place, ipS, lenV, min2V, makeV, freshSl, sliceV, boundOr, bound, bounds, cutFl, copyV, slCells, srcV, appendV, room, zerosOf, eqNeg, kd, takeR, hasViewL, hasView, freshR, freshC, snapAll, snap, snapL, flatL, pureL, pureA, fillC, arrOK, oneA, partB, AV.laid, ren1, CR.gr, applyW, useL, AS.mute, isGen, startG, ev5, tbUd0, glob, Nat.reduceMod, hs, splice0]
    exact ResQ.same rfl
  · cases hr
end Go.Proofs.YtddeffdgldjdjaaDoor
