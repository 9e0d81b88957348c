/- The document's vault: what its walks come to. -/
import Derived.Test.YtddeffdgldjdjaaDoorGf
import Derived.Test.YtddeffdgldjdjaaDoorVj
namespace Go.Proofs.YtddeffdgldjdjaaDoor
set_option linter.unusedSimpArgs false
set_option linter.unusedVariables false
set_option linter.defProp false
open Go Go.Abs
set_option maxHeartbeats 16000000
/-- what is opened stands alone -/
def po69 : List AV → Option AV
  | [v, u, x, w] => (agg? .u8 8 32 v).bind fun k => (agg? .u8 8 12 u).bind fun n => (row? .u8 8 x).bind fun a => (row? .u8 8 w).bind fun t => if a.length ≤ 400000 ∧ t.length ≤ 400000 then
      (if openE k n a t = 0 then some (.tup [.sl (openT k n a t).length (nums .u8 (openT k n a t)) (.own ⟨0, 0, 0, 0⟩ 1), .raw (.int .i64 0)]) else some (.tup [.raw (.slice none 0 0), .raw (.int .i64 (openE k n a t))])) else none
  | _ => none
def tbGh0 := (And.intro (And.intro (And.intro @teE (And.intro @EQ_te @EQ_glob)) (And.intro (And.intro @EQ_gs @EQ_dyn) (And.intro @EQ_mu @EQ_x))) (And.intro (And.intro (And.intro @EQ_t @xor4_two) (And.intro @tag4_at @nums_strip)) (And.intro (And.intro @nums_set8 @splice0) (And.intro @tagB_len @gxorB_len))))
theorem soundo69 : SoundV Tryd.prog glob 69 po69 := by
  refine SoundV.walk EQ okQ mixed Tryd.func69 rfl Tryd.call69 (by kernel_rfl) ?_
  intro args r hr
  unfold po69 at hr
  split at hr
  · rename_i v u x w
    simp only [Option.bind_eq_some_iff] at hr
    obtain ⟨k, h1, n, h2, a, h3, t, h4, hr⟩ := hr
    split at hr
    · rename_i hc
      obtain ⟨ha, ht⟩ := hc
      obtain ⟨rfl, hk⟩ := agg?_of h1
      obtain ⟨rfl, hn⟩ := agg?_of h2
      obtain ⟨fl, rfl⟩ := row?_of h3
      obtain ⟨fl', rfl⟩ := row?_of h4
      rw [Tryd.ntmps69, Tryd.results69]
      refine ⟨by simp, ?_⟩
      by_cases h16 : t.length < 16
      · rw [show openE k n a t = 3 by rw [openE, if_pos h16]] at hr
        rw [if_neg (by decide)] at hr
        cases hr
        have e1 : decide ((t.length : Int) - 16 < 0) = true := decide_eq_true (by omega)
        simp (maxSteps := 1000000) (disch := first | omega | (simp only [gxorB_len, tagB_len, sealB_len, lnB] <;> omega) | fail) only [ev0, ev1, ev2, ev3, ↓reduceIte, reduceCtorEq, Nat.reduceAdd, Nat.reduceSub, Nat.reduceMul, Nat.reduceLT, Nat.reduceLeDiff, Nat.reduceEqDiff, Nat.reduceBEq, BitVec.reduceOfInt, Int.reduceLE, Int.reduceLT, Int.reduceGT, Int.reduceGE, Int.reduceNeg, Int.reduceAdd, Int.reduceSub, Int.reduceMul, Int.reduceToNat, ↓bind_go, ↓map_go, wantedV, isWrite, grow, write, ofV, AV.cells, Abs.start, Abs.strip, endQ, resV, rawsRes, rawRes, exports, export1, AS.grown, AS.put, Env.know, Env.boxed, isSelf, convSelf, convV, loadV, storeV, fieldAddrV, fieldV, indexAddrV, indexV, partV, isAggK, isStr, place, lenV, min2V, makeV, freshSl, sliceV, boundOr, bound, bounds, cutFl, copyV, slCells, srcV, appendV, room, zerosOf, eqNeg, kd, takeR, hasViewL, hasView, freshR, freshC, snapAll, snap, snapL, flatL, pureL, pureA, fillC, arrOK, oneA, partB, AV.laid, ren1, CR.gr, applyW, useL, AS.mute, isGen, startG, ev5, tbGh0, glob, Nat.reduceMod, hk, hn, e1]
        exact ResQ.same rfl
      · obtain ⟨z, hz⟩ : ∃ z, t.length = z + 16 := ⟨t.length - 16, by omega⟩
        have e1 : decide ((t.length : Int) - 16 < 0) = false := decide_eq_false (by omega)
        have lT : (t.take z).length = z := by rw [List.length_take]; omega
        have hT : openT k n a t = if dfK (tagB k n a (t.take z)) t z 16 = 0#8 then gxorB k n 2#32 (t.take z) else [] := by
          rw [openT, if_neg h16, show t.length - 16 = z by omega]
        have hE : openE k n a t = if dfK (tagB k n a (t.take z)) t z 16 = 0#8 then 0 else 40 := by
          rw [openE, if_neg h16, show t.length - 16 = z by omega]
        obtain ⟨g, hg⟩ : ∃ g, tagB k n a (t.take z) = g := ⟨_, rfl⟩
        have lG : g.length = 16 := by rw [← hg]; exact tagB_len _ _ _ _
        have hz2 : t.length - 16 = z := by omega
        rw [hg] at hT hE
        have hD : dfK g t z 16 = 0#8 ↔ g = t.drop z := by
          rw [dfK_zero]
          constructor
          · intro h
            refine ext_getD (by rw [lG, List.length_drop]; omega) fun i hi => ?_
            rw [getD_dropD]
            exact h i (by omega)
          · intro h i hi
            rw [h, getD_dropD]
        by_cases hd : dfK g t z 16 = 0#8
        · rw [if_pos hd] at hT hE
          rw [hT, hE, if_pos rfl] at hr
          cases hr
          have e2 : (g.map UInt8.ofBitVec == (t.drop z).map UInt8.ofBitVec) = true := by rw [← hD.1 hd]; exact beq_self_eq_true _
          have e3 : t.length - z = 16 := by omega
          simp (maxSteps := 1000000) (disch := first | omega | (simp only [gxorB_len, tagB_len, sealB_len, lnB] <;> omega) | fail) only [ev0, ev1, ev2, ev3, ↓reduceIte, reduceCtorEq, Nat.reduceAdd, Nat.reduceSub, Nat.reduceMul, Nat.reduceLT, Nat.reduceLeDiff, Nat.reduceEqDiff, Nat.reduceBEq, BitVec.reduceOfInt, Int.reduceLE, Int.reduceLT, Int.reduceGT, Int.reduceGE, Int.reduceNeg, Int.reduceAdd, Int.reduceSub, Int.reduceMul, Int.reduceToNat, ↓bind_go, ↓map_go, wantedV, isWrite, grow, write, ofV, AV.cells, Abs.start, Abs.strip, endQ, resV, rawsRes, rawRes, exports, export1, AS.grown, AS.put, Env.know, Env.boxed, isSelf, convSelf, convV, loadV, storeV, fieldAddrV, fieldV, indexAddrV, indexV, partV, isAggK, isStr, place, lenV, min2V, makeV, freshSl, sliceV, boundOr, bound, bounds, cutFl, copyV, slCells, srcV, appendV, room, zerosOf, eqNeg, kd, takeR, hasViewL, hasView, freshR, freshC, snapAll, snap, snapL, flatL, pureL, pureA, fillC, arrOK, oneA, partB, AV.laid, ren1, CR.gr, applyW, useL, AS.mute, isGen, startG, ev5, tbGh0, glob, Nat.reduceMod, hk, hn, e1, lT, hz2, hg, lG, e2, e3]
          exact ResQ.same rfl
        · rw [if_neg hd] at hT hE
          rw [hT, hE, if_neg (by decide)] at hr
          cases hr
          have e2 : (g.map UInt8.ofBitVec == (t.drop z).map UInt8.ofBitVec) = false := by
            rw [beq_eq_false_iff_ne]
            exact fun h => hd (hD.2 (map_u8_inj h))
          have e3 : t.length - z = 16 := by omega
          simp (maxSteps := 1000000) (disch := first | omega | (simp only [gxorB_len, tagB_len, sealB_len, lnB] <;> omega) | fail) only [ev0, ev1, ev2, ev3, ↓reduceIte, reduceCtorEq, Nat.reduceAdd, Nat.reduceSub, Nat.reduceMul, Nat.reduceLT, Nat.reduceLeDiff, Nat.reduceEqDiff, Nat.reduceBEq, BitVec.reduceOfInt, Int.reduceLE, Int.reduceLT, Int.reduceGT, Int.reduceGE, Int.reduceNeg, Int.reduceAdd, Int.reduceSub, Int.reduceMul, Int.reduceToNat, ↓bind_go, ↓map_go, wantedV, isWrite, grow, write, ofV, AV.cells, Abs.start, Abs.strip, endQ, resV, rawsRes, rawRes, exports, export1, AS.grown, AS.put, Env.know, Env.boxed, isSelf, convSelf, convV, loadV, storeV, fieldAddrV, fieldV, indexAddrV, indexV, partV, isAggK, isStr, place, lenV, min2V, makeV, freshSl, sliceV, boundOr, bound, bounds, cutFl, copyV, slCells, srcV, appendV, room, zerosOf, eqNeg, kd, takeR, hasViewL, hasView, freshR, freshC, snapAll, snap, snapL, flatL, pureL, pureA, fillC, arrOK, oneA, partB, AV.laid, ren1, CR.gr, applyW, useL, AS.mute, isGen, startG, ev5, tbGh0, glob, Nat.reduceMod, hk, hn, e1, lT, hz2, hg, lG, e2, e3]
          exact ResQ.same rfl
    · cases hr
  · cases hr
end Go.Proofs.YtddeffdgldjdjaaDoor
