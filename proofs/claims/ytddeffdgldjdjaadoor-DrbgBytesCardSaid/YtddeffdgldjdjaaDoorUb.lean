/- Words and rounds of AES: what the walks come to. -/
import Derived.Test.YtddeffdgldjdjaaDoorUa
namespace Go.Proofs.YtddeffdgldjdjaaDoor
set_option linter.unusedSimpArgs false
set_option linter.unusedVariables false
set_option linter.defProp false
open Go Go.Abs
set_option maxHeartbeats 16000000
noncomputable def E1 : Env := (E0.know 133 pf133).know 154 pf154
theorem ok1 : EnvOK Tryd.prog E1 := (ok0.know sound133).know sound154
theorem E1_te : E1.te = te := rfl
theorem E1_glob : E1.glob = glob := rfl
theorem E1_gs : E1.gs = [] := rfl
theorem E1_dyn : E1.dyn = false := rfl
theorem E1_mu (d : Nat) : E1.mu d = false := rfl
theorem E1_t : E1.tbl 133 = some (.val pf133) := rfl
theorem E1_b : E1.tbl 154 = some (.val pf154) := rfl
theorem t2_at {x : BitVec 8} : pf133 [.raw (.int .u8 (x.toNat : Int))] = some (.raw (.int .u8 ((t2 x).toNat : Int))) := by
  simp only [pf133, num?_num, Option.bind_some]
theorem bx_at {x : BitVec 8} : pf154 [.raw (.int .u8 (x.toNat : Int))] = some (.raw (.int .u8 ((bx x).toNat : Int))) := by
  simp only [pf154, num?_num, Option.bind_some]
/-- four bytes -/
def w4 (m : List (BitVec 8)) (f : Nat → BitVec 8) : List (BitVec 8) := [f 0, f 1, f 2, f 3]
def boxedF (m : List (BitVec 8)) : List (BitVec 8) := [bx (m.getD 0 0#8), bx (m.getD 1 0#8), bx (m.getD 2 0#8), bx (m.getD 3 0#8)]
def pf132 : List AV → Option AV
  | [v] => (agg? .u8 8 4 v).bind fun m => some (.agg (nums .u8 (boxedF m)))
  | _ => none
def tbUb0 := (And.intro (And.intro (And.intro @teE (And.intro @evY @E1_te)) (And.intro @E1_glob (And.intro @E1_gs @E1_dyn))) (And.intro (And.intro @E1_mu (And.intro @E1_t @E1_b)) (And.intro (And.intro @t2_at @bx_at) (And.intro @nums_strip @nums_set8))))
theorem sound132 : SoundV Tryd.prog glob 132 pf132 := by
  refine SoundV.walkY E1 [] ok1 mixed Tryd.func132 rfl Tryd.call132 (by kernel_rfl) ?_
  intro args r hr
  unfold pf132 at hr
  split at hr
  · simp only [Option.bind_eq_some_iff] at hr
    obtain ⟨m, h1, hr⟩ := hr
    cases hr
    obtain ⟨rfl, hm⟩ := agg?_of h1
    rw [Tryd.ntmps132, Tryd.results132]
    refine ⟨by simp, ?_⟩
    simp (maxSteps := 1000000) (disch := first | omega | (simp only [nums_len, lnB] <;> omega) | fail) only [ev0, ev1, ev2, ev3, ↓reduceIte, reduceCtorEq, Nat.reduceAdd, Nat.reduceSub, Nat.reduceMul, Nat.reduceLT, Nat.reduceLeDiff, Nat.reduceEqDiff, Nat.reduceBEq, BitVec.reduceOfInt, Int.reduceLE, Int.reduceLT, Int.reduceGT, Int.reduceGE, Int.reduceNeg, Int.reduceAdd, Int.reduceSub, Int.reduceMul, Int.reduceToNat, ↓bind_go, ↓map_go, wantedV, isWrite, grow, write, ofV, AV.cells, Abs.start, Abs.strip, endQ, resV, rawsRes, rawRes, exports, export1, AS.grown, AS.put, Env.know, Env.boxed, isSelf, convSelf, convV, loadV, storeV, fieldAddrV, fieldV, indexAddrV, indexV, partV, isAggK, isStr, place, ipS, lenV, min2V, makeV, freshSl, sliceV, boundOr, bound, bounds, cutFl, copyV, slCells, srcV, appendV, room, zerosOf, eqNeg, kd, takeR, hasViewL, hasView, freshR, freshC, snapAll, snap, snapL, flatL, pureL, pureA, fillC, arrOK, oneA, partB, AV.laid, ren1, CR.gr, applyW, useL, AS.mute, isGen, startG, ev5, tbUb0, glob, Nat.reduceMod, hm]
    exact ResQ.same rfl
  · cases hr
def allF (m : List (BitVec 8)) : BitVec 8 := m.getD 0 0#8 ^^^ m.getD 1 0#8 ^^^ m.getD 2 0#8 ^^^ m.getD 3 0#8
def mixF (m : List (BitVec 8)) (r s : Nat) : BitVec 8 := m.getD r 0#8 ^^^ allF m ^^^ t2 (m.getD r 0#8 ^^^ m.getD s 0#8)
def mixedF (m : List (BitVec 8)) : List (BitVec 8) := [mixF m 0 1, mixF m 1 2, mixF m 2 3, mixF m 3 0]
def pf155 : List AV → Option AV
  | [v] => (agg? .u8 8 4 v).bind fun m => some (.agg (nums .u8 (mixedF m)))
  | _ => none
theorem sound155 : SoundV Tryd.prog glob 155 pf155 := by
  refine SoundV.walkY E1 [(0, 5)] ok1 mixed Tryd.func155 rfl Tryd.call155 (by kernel_rfl) ?_
  intro args r hr
  unfold pf155 at hr
  split at hr
  · simp only [Option.bind_eq_some_iff] at hr
    obtain ⟨m, h1, hr⟩ := hr
    cases hr
    obtain ⟨rfl, hm⟩ := agg?_of h1
    rw [Tryd.ntmps155, Tryd.results155]
    refine ⟨by simp, ?_⟩
    simp (maxSteps := 1000000) (disch := first | omega | (simp only [nums_len, lnB] <;> omega) | fail) only [ev0, ev1, ev2, ev3, ↓reduceIte, reduceCtorEq, Nat.reduceAdd, Nat.reduceSub, Nat.reduceMul, Nat.reduceLT, Nat.reduceLeDiff, Nat.reduceEqDiff, Nat.reduceBEq, BitVec.reduceOfInt, Int.reduceLE, Int.reduceLT, Int.reduceGT, Int.reduceGE, Int.reduceNeg, Int.reduceAdd, Int.reduceSub, Int.reduceMul, Int.reduceToNat, ↓bind_go, ↓map_go, wantedV, isWrite, grow, write, ofV, AV.cells, Abs.start, Abs.strip, endQ, resV, rawsRes, rawRes, exports, export1, AS.grown, AS.put, Env.know, Env.boxed, isSelf, convSelf, convV, loadV, storeV, fieldAddrV, fieldV, indexAddrV, indexV, partV, isAggK, isStr, place, ipS, lenV, min2V, makeV, freshSl, sliceV, boundOr, bound, bounds, cutFl, copyV, slCells, srcV, appendV, room, zerosOf, eqNeg, kd, takeR, hasViewL, hasView, freshR, freshC, snapAll, snap, snapL, flatL, pureL, pureA, fillC, arrOK, oneA, partB, AV.laid, ren1, CR.gr, applyW, useL, AS.mute, isGen, startG, ev5, tbUb0, glob, Nat.reduceMod, hm]
    exact ResQ.same rfl
  · cases hr
end Go.Proofs.YtddeffdgldjdjaaDoor
