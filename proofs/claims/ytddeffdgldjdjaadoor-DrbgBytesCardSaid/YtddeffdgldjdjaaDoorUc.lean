/- A round of AES: what the walk comes to. -/
import Derived.Test.YtddeffdgldjdjaaDoorUb
namespace Go.Proofs.YtddeffdgldjdjaaDoor
set_option linter.unusedSimpArgs false
set_option linter.unusedVariables false
set_option linter.defProp false
open Go Go.Abs
set_option maxHeartbeats 64000000
noncomputable def E2 : Env := (E1.know 155 pf155).know 132 pf132
theorem ok2 : EnvOK Tryd.prog E2 := (ok1.know sound155).know sound132
theorem E2_te : E2.te = te := rfl
theorem E2_glob : E2.glob = glob := rfl
theorem E2_gs : E2.gs = [] := rfl
theorem E2_dyn : E2.dyn = false := rfl
theorem E2_mu (d : Nat) : E2.mu d = false := rfl
theorem E2_t : E2.tbl 133 = some (.val pf133) := rfl
theorem E2_b : E2.tbl 154 = some (.val pf154) := rfl
theorem E2_m : E2.tbl 155 = some (.val pf155) := rfl
theorem E2_x : E2.tbl 132 = some (.val pf132) := rfl
theorem mixed_at {m : List (BitVec 8)} (h : m.length = 4) : pf155 [.agg (nums .u8 m)] = some (.agg (nums .u8 (mixedF m))) := by
  simp only [pf155, agg?_at h, Option.bind_some]
theorem boxed_at {m : List (BitVec 8)} (h : m.length = 4) : pf132 [.agg (nums .u8 m)] = some (.agg (nums .u8 (boxedF m))) := by
  simp only [pf132, agg?_at h, Option.bind_some]
theorem mixedF_len (m : List (BitVec 8)) : (mixedF m).length = 4 := rfl
theorem boxedF_len (m : List (BitVec 8)) : (boxedF m).length = 4 := rfl
def colF (s : List (BitVec 8)) (c : Nat) : List (BitVec 8) := [bx (s.getD ((4 * (c + 0) + 0) % 16) 0#8), bx (s.getD ((4 * (c + 1) + 1) % 16) 0#8), bx (s.getD ((4 * (c + 2) + 2) % 16) 0#8), bx (s.getD ((4 * (c + 3) + 3) % 16) 0#8)]
def outF (a k : List (BitVec 8)) (c : Nat) : List (BitVec 8) := [a.getD 0 0#8 ^^^ k.getD (4 * c) 0#8, a.getD 1 0#8 ^^^ k.getD (4 * c + 1) 0#8, a.getD 2 0#8 ^^^ k.getD (4 * c + 2) 0#8, a.getD 3 0#8 ^^^ k.getD (4 * c + 3) 0#8]
def lastF (b : Bool) (a : List (BitVec 8)) : List (BitVec 8) := if b then a else mixedF a
def roundF (s k : List (BitVec 8)) (b : Bool) : List (BitVec 8) := outF (lastF b (colF s 0)) k 0 ++ outF (lastF b (colF s 1)) k 1 ++ outF (lastF b (colF s 2)) k 2 ++ outF (lastF b (colF s 3)) k 3
def pf134 : List AV → Option AV
  | [v, w, .raw (.bool b)] => (agg? .u8 8 16 v).bind fun s => (agg? .u8 8 16 w).bind fun k => some (.agg (nums .u8 (roundF s k b)))
  | _ => none
def tbUc0 := (And.intro (And.intro (And.intro (And.intro @teE @evY) (And.intro @E2_te @E2_glob)) (And.intro (And.intro @E2_gs @E2_dyn) (And.intro @E2_mu (And.intro @E2_t @E2_b)))) (And.intro (And.intro (And.intro @E2_m @E2_x) (And.intro @t2_at (And.intro @bx_at @mixed_at))) (And.intro (And.intro @boxed_at @nums_strip) (And.intro @nums_set8 (And.intro @mixedF_len @boxedF_len)))))
set_option maxRecDepth 20000 in
theorem sound134 : SoundV Tryd.prog glob 134 pf134 := by
  refine SoundV.walkY E2 [(0, 5), (2, 5), (4, 5)] ok2 mixed Tryd.func134 rfl Tryd.call134 (by kernel_rfl) ?_
  intro args r hr
  unfold pf134 at hr
  split at hr
  · rename_i v w b
    simp only [Option.bind_eq_some_iff] at hr
    obtain ⟨s, h1, k, h2, hr⟩ := hr
    cases hr
    obtain ⟨rfl, hs⟩ := agg?_of h1
    obtain ⟨rfl, hk⟩ := agg?_of h2
    rw [Tryd.ntmps134, Tryd.results134]
    refine ⟨by simp, ?_⟩
    cases b
    · simp (maxSteps := 1000000) (disch := first | omega | (simp only [mixedF_len, boxedF_len, lnB] <;> omega) | fail) only [ev0, ev1, ev2, ev3, ↓reduceIte, reduceCtorEq, Nat.reduceAdd, Nat.reduceSub, Nat.reduceMul, Nat.reduceLT, Nat.reduceLeDiff, Nat.reduceEqDiff, Nat.reduceBEq, BitVec.reduceOfInt, Int.reduceLE, Int.reduceLT, Int.reduceGT, Int.reduceGE, Int.reduceNeg, Int.reduceAdd, Int.reduceSub, Int.reduceMul, Int.reduceToNat, ↓bind_go, ↓map_go, wantedV, isWrite, grow, write, ofV, AV.cells, Abs.start, Abs.strip, endQ, resV, rawsRes, rawRes, exports, export1, AS.grown, AS.put, Env.know, Env.boxed, isSelf, convSelf, convV, loadV, storeV, fieldAddrV, fieldV, indexAddrV, indexV, partV, isAggK, isStr, place, ipS, lenV, min2V, makeV, freshSl, sliceV, boundOr, bound, bounds, cutFl, copyV, slCells, srcV, appendV, room, zerosOf, eqNeg, kd, takeR, hasViewL, hasView, freshR, freshC, snapAll, snap, snapL, flatL, pureL, pureA, fillC, arrOK, oneA, partB, AV.laid, ren1, CR.gr, applyW, useL, AS.mute, isGen, startG, ev5, tbUc0, glob, Nat.reduceMod, hs, hk]
      exact ResQ.same rfl
    · simp (maxSteps := 1000000) (disch := first | omega | (simp only [mixedF_len, boxedF_len, lnB] <;> omega) | fail) only [ev0, ev1, ev2, ev3, ↓reduceIte, reduceCtorEq, Nat.reduceAdd, Nat.reduceSub, Nat.reduceMul, Nat.reduceLT, Nat.reduceLeDiff, Nat.reduceEqDiff, Nat.reduceBEq, BitVec.reduceOfInt, Int.reduceLE, Int.reduceLT, Int.reduceGT, Int.reduceGE, Int.reduceNeg, Int.reduceAdd, Int.reduceSub, Int.reduceMul, Int.reduceToNat, ↓bind_go, ↓map_go, wantedV, isWrite, grow, write, ofV, AV.cells, Abs.start, Abs.strip, endQ, resV, rawsRes, rawRes, exports, export1, AS.grown, AS.put, Env.know, Env.boxed, isSelf, convSelf, convV, loadV, storeV, fieldAddrV, fieldV, indexAddrV, indexV, partV, isAggK, isStr, place, ipS, lenV, min2V, makeV, freshSl, sliceV, boundOr, bound, bounds, cutFl, copyV, slCells, srcV, appendV, room, zerosOf, eqNeg, kd, takeR, hasViewL, hasView, freshR, freshC, snapAll, snap, snapL, flatL, pureL, pureA, fillC, arrOK, oneA, partB, AV.laid, ren1, CR.gr, applyW, useL, AS.mute, isGen, startG, ev5, tbUc0, glob, Nat.reduceMod, hs, hk]
      exact ResQ.same rfl
  · cases hr
end Go.Proofs.YtddeffdgldjdjaaDoor
