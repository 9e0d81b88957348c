/- Seal, with the room behind what it gives. -/
import Derived.Test.YtddeffdgldjdjaaDoorUl
namespace Go.Proofs.YtddeffdgldjdjaaDoor
set_option linter.unusedSimpArgs false
set_option linter.unusedVariables false
set_option linter.defProp false
open Go Go.Abs
set_option maxHeartbeats 16000000
/-- the same, with the room behind it -/
def po43 : List AV → Option AV
  | [v, u, x, w] => (agg? .u8 8 32 v).bind fun k => (agg? .u8 8 12 u).bind fun n => (row? .u8 8 x).bind fun a => (row? .u8 8 w).bind fun t => if a.length ≤ 400000 ∧ t.length ≤ 400000 then some (.sl (sealB k n a t).length (nums .u8 (sealB k n a t)) (.own ⟨0, 0, 0, 0⟩ 1)) else none
  | _ => none
theorem soundo43 : SoundV Tryd.prog glob 43 po43 := by
  refine SoundV.walk E8 ok8 mixed Tryd.func43 rfl Tryd.call43 (by kernel_rfl) ?_
  intro args r hr
  unfold po43 at hr
  split at hr
  · rename_i v u x w
    simp only [Option.bind_eq_some_iff] at hr
    obtain ⟨k, h1, n, h2, a, h3, t, h4, hr⟩ := hr
    split at hr
    · rename_i hc
      obtain ⟨ha, ht⟩ := hc
      cases hr
      obtain ⟨rfl, hk⟩ := agg?_of h1
      obtain ⟨rfl, hn⟩ := agg?_of h2
      obtain ⟨fl, rfl⟩ := row?_of h3
      obtain ⟨fl', rfl⟩ := row?_of h4
      rw [Tryd.ntmps43, Tryd.results43]
      refine ⟨by simp, ?_⟩
      simp (maxSteps := 1000000) (disch := first | omega | (simp only [gxorB_len, tagB_len, sealB_len, lnB] <;> omega) | fail) only [ev0, ev1, ev2, ev3, ↓reduceIte, reduceCtorEq, Nat.reduceAdd, Nat.reduceSub, Nat.reduceMul, Nat.reduceLT, Nat.reduceLeDiff, Nat.reduceEqDiff, Nat.reduceBEq, BitVec.reduceOfInt, Int.reduceLE, Int.reduceLT, Int.reduceGT, Int.reduceGE, Int.reduceNeg, Int.reduceAdd, Int.reduceSub, Int.reduceMul, Int.reduceToNat, ↓bind_go, ↓map_go, wantedV, isWrite, grow, write, ofV, AV.cells, Abs.start, Abs.strip, endQ, resV, rawsRes, rawRes, exports, export1, AS.grown, AS.put, Env.know, Env.boxed, isSelf, convSelf, convV, loadV, storeV, fieldAddrV, fieldV, indexAddrV, indexV, partV, isAggK, isStr, place, lenV, min2V, makeV, freshSl, sliceV, boundOr, bound, bounds, cutFl, copyV, slCells, srcV, appendV, room, zerosOf, eqNeg, kd, takeR, hasViewL, hasView, freshR, freshC, snapAll, snap, snapL, flatL, pureL, pureA, fillC, arrOK, oneA, partB, AV.laid, ren1, CR.gr, applyW, useL, AS.mute, isGen, startG, ev5, teE, E8_te, E8_glob, E8_gs, E8_dyn, E8_mu, E8_x, E8_t, gxor_two, gtag_at, nums_strip, nums_set8, nums_ren, splice0, glob, Nat.reduceMod, tagB_len, gxorB_len, hk, hn]
      rw [← sealB_len k n a t]
      exact ResQ.same rfl
    · cases hr
  · cases hr
end Go.Proofs.YtddeffdgldjdjaaDoor
