/- Bytes' hash: what the walk comes to. -/
import Derived.Test.YtddeffdgldjdjaaDoorUe
namespace Go.Proofs.YtddeffdgldjdjaaDoor
set_option linter.unusedSimpArgs false
set_option linter.unusedVariables false
set_option linter.defProp false
open Go Go.Abs
set_option maxHeartbeats 16000000
theorem xorK_len (a b : List (BitVec 8)) (k : Nat) : (xorK a b k).length = a.length := by
  induction k with
  | zero => rfl
  | succ k ih => simp [xorK, ih]
theorem xorB_len' (a b : List (BitVec 8)) : (xorB a b).length = a.length := xorK_len a b 16
theorem xorB_len {a b : List (BitVec 8)} (h : a.length = 16) : (xorB a b).length = 16 := (xorK_len a b 16).trans h
theorem mulB_len (a b : List (BitVec 8)) : (mulB a b).length = 16 := whK_len _ _ _
theorem bxor_at {a b : List (BitVec 8)} (h : a.length = 16) (h' : b.length = 16) : pf102 [.agg (nums .u8 a), .agg (nums .u8 b)] = some (.agg (nums .u8 (xorB a b))) := by
  simp only [pf102, agg?_at h, agg?_at h', Option.bind_some]
theorem bmul_at {a b : List (BitVec 8)} (h : a.length = 16) (h' : b.length = 16) : pf135 [.agg (nums .u8 a), .agg (nums .u8 b)] = some (.agg (nums .u8 (mulB a b))) := by
  simp only [pf135, agg?_at h, agg?_at h', Option.bind_some]
noncomputable def E4 : Env := (E0.know 102 pf102).know 135 pf135
theorem ok4 : EnvOK Tryd.prog E4 := (ok0.know sound102).know sound135
theorem E4_te : E4.te = te := rfl
theorem E4_glob : E4.glob = glob := rfl
theorem E4_gs : E4.gs = [] := rfl
theorem E4_dyn : E4.dyn = false := rfl
theorem E4_mu (d : Nat) : E4.mu d = false := rfl
theorem E4_x : E4.tbl 102 = some (.val pf102) := rfl
theorem E4_m : E4.tbl 135 = some (.val pf135) := rfl
/-- sixteen bytes, or what there are, and noughts -/
def padX (b : List (BitVec 8)) : List (BitVec 8) := b.take (min b.length 16) ++ List.replicate (16 - min (min b.length 16) b.length) 0#8
theorem padX_len (b : List (BitVec 8)) : (padX b).length = 16 := by
  simp only [padX, List.length_append, List.length_take, List.length_replicate]; omega
def hashK (h b : List (BitVec 8)) : Nat → List (BitVec 8)
  | 0 => List.replicate 16 0#8
  | j + 1 => mulB (xorB (hashK h b j) (padX (b.drop (16 * j)))) h
theorem hashK_len (h b : List (BitVec 8)) (j : Nat) : (hashK h b j).length = 16 := by
  cases j with
  | zero => rfl
  | succ j => exact mulB_len _ _
def hashB (h b : List (BitVec 8)) : List (BitVec 8) := hashK h b ((b.length + 15) / 16)
theorem splice0' {l m : List (BitVec 8)} {n : Nat} (h : m.length = n) : splice (nums .u8 l) 0 (nums .u8 m) = nums .u8 (m ++ l.drop n) := by
  rw [splice0, h]
def pf103 : List AV → Option AV
  | [v, w] => (agg? .u8 8 16 v).bind fun h => (row? .u8 8 w).bind fun b => if b.length ≤ 1000000 then some (.agg (nums .u8 (hashB h b))) else none
  | _ => none
def tbUf0 := (And.intro (And.intro (And.intro (And.intro @teE @E4_te) (And.intro @E4_glob @E4_gs)) (And.intro (And.intro @E4_dyn @E4_mu) (And.intro @E4_x @E4_m))) (And.intro (And.intro (And.intro @bxor_at @bmul_at) (And.intro @mulB_len @padX_len)) (And.intro (And.intro @hashK_len @nums_strip) (And.intro @nums_set8 @splice0))))
theorem sound103 : SoundV Tryd.prog glob 103 pf103 := by
  refine SoundV.walk E4 ok4 mixed Tryd.func103 rfl Tryd.call103 (by kernel_rfl) ?_
  intro args r hr
  unfold pf103 at hr
  split at hr
  · rename_i v w
    simp only [Option.bind_eq_some_iff] at hr
    obtain ⟨h, h1, b, h2, hr⟩ := hr
    split at hr
    · rename_i hc
      cases hr
      obtain ⟨rfl, hh⟩ := agg?_of h1
      obtain ⟨fl, rfl⟩ := row?_of h2
      rw [Tryd.ntmps103, Tryd.results103]
      refine ⟨by simp, ?_⟩
      simp (maxSteps := 1000000) (disch := first | omega | (simp only [xorB_len', padX_len, hashK_len, mulB_len, lnB] <;> omega) | fail) only [ev0, ev1, ev2, ev3, ↓reduceIte, reduceCtorEq, Nat.reduceAdd, Nat.reduceSub, Nat.reduceMul, Nat.reduceLT, Nat.reduceLeDiff, Nat.reduceEqDiff, Nat.reduceBEq, BitVec.reduceOfInt, Int.reduceLE, Int.reduceLT, Int.reduceGT, Int.reduceGE, Int.reduceNeg, Int.reduceAdd, Int.reduceSub, Int.reduceMul, Int.reduceToNat, ↓bind_go, ↓map_go, wantedV, isWrite, grow, write, ofV, AV.cells, Abs.start, Abs.strip, endQ, resV, rawsRes, rawRes, exports, export1, AS.grown, AS.put, Env.know, Env.boxed, isSelf, convSelf, convV, loadV, storeV, fieldAddrV, fieldV, indexAddrV, indexV, partV, isAggK, isStr, place, ipS, lenV, min2V, makeV, freshSl, sliceV, boundOr, bound, bounds, cutFl, copyV, slCells, srcV, appendV, room, zerosOf, eqNeg, kd, takeR, hasViewL, hasView, freshR, freshC, snapAll, snap, snapL, flatL, pureL, pureA, fillC, arrOK, oneA, partB, AV.laid, ren1, CR.gr, applyW, useL, AS.mute, isGen, startG, ev5, tbUf0, glob, Nat.reduceMod, hh]
      refine loopQ_of (fun n σ => ∃ j, 16 * j ≤ b.length + 15 ∧ n = b.length + 16 - 16 * j ∧ σ.slots 1 = .sl (b.drop (16 * j)).length (nums .u8 (b.drop (16 * j))) .bor ∧ σ.slots 2 = .ptr (.own 0 2 1) 0 ∧ σ.slots 4 = .ptr (.own 0 4 1) 0 ∧ σ.slots 5 = .ptr (.own 0 5 1) 0 ∧ σ.box (.own 0 2 1) = some (nums .u8 h) ∧ σ.box (.own 0 5 1) = some (nums .u8 (hashK h b j)) ∧ σ.box (.own 0 4 1) = some (nums .u8 (List.replicate 16 0#8))) (b.length + 16) ?_ ?_
      · refine ⟨0, by omega, by omega, ?_⟩
        simp (maxSteps := 1000000) (disch := first | omega | (simp only [xorB_len', padX_len, hashK_len, mulB_len, lnB] <;> omega) | fail) only [ev0, ev1, ev2, ev3, ↓reduceIte, reduceCtorEq, Nat.reduceAdd, Nat.reduceSub, Nat.reduceMul, Nat.reduceLT, Nat.reduceLeDiff, Nat.reduceEqDiff, Nat.reduceBEq, BitVec.reduceOfInt, Int.reduceLE, Int.reduceLT, Int.reduceGT, Int.reduceGE, Int.reduceNeg, Int.reduceAdd, Int.reduceSub, Int.reduceMul, Int.reduceToNat, ↓bind_go, ↓map_go, wantedV, isWrite, grow, write, ofV, AV.cells, Abs.start, Abs.strip, endQ, resV, rawsRes, rawRes, exports, export1, AS.grown, AS.put, Env.know, Env.boxed, isSelf, convSelf, convV, loadV, storeV, fieldAddrV, fieldV, indexAddrV, indexV, partV, isAggK, isStr, place, ipS, lenV, min2V, makeV, freshSl, sliceV, boundOr, bound, bounds, cutFl, copyV, slCells, srcV, appendV, room, zerosOf, eqNeg, kd, takeR, hasViewL, hasView, freshR, freshC, snapAll, snap, snapL, flatL, pureL, pureA, fillC, arrOK, oneA, partB, AV.laid, ren1, CR.gr, applyW, useL, AS.mute, isGen, startG, ev5, tbUf0, glob, Nat.reduceMod, hh]
        try (repeat' first | exact rfl | exact ⟨_, rfl⟩ | refine ⟨?_, ?_⟩)
      · rintro n ⟨sl, gn, bx, us⟩ ⟨j, hj, rfl, s1, s2, s4, s5, b2, b5, b4⟩
        dsimp only at s1 s2 s4 s5 b2 b5 b4
        have lH := hashK_len h b j
        have hN : hashK h b (j + 1) = mulB (xorB (hashK h b j) (padX (b.drop (16 * j)))) h := rfl
        have hl : (b.drop (16 * j)).length = b.length - 16 * j := List.length_drop
        have hd : (b.drop (16 * j)).drop (min (b.drop (16 * j)).length 16) = b.drop (16 * (j + 1)) := by
          rw [List.drop_drop]
          by_cases h16 : 16 ≤ (b.drop (16 * j)).length
          · rw [Nat.min_eq_right h16, show 16 * (j + 1) = 16 * j + 16 by omega]
          · rw [List.drop_of_length_le (by omega), List.drop_of_length_le (by omega)]
        have hp : padX (b.drop (16 * j)) = (b.drop (16 * j)).take (min (b.drop (16 * j)).length 16) ++ List.replicate (16 - min (min (b.drop (16 * j)).length 16) (b.drop (16 * j)).length) 0#8 := rfl
        have lP := padX_len (b.drop (16 * j))
        generalize hB : b.drop (16 * j) = B at s1 hl hd hp lP hN
        generalize hy : hashK h b j = y at b5 lH hN
        simp (maxSteps := 1000000) (disch := first | omega | (simp only [xorB_len', padX_len, hashK_len, mulB_len, lnB] <;> omega) | fail) only [ev0, ev1, ev2, ev3, ↓reduceIte, reduceCtorEq, Nat.reduceAdd, Nat.reduceSub, Nat.reduceMul, Nat.reduceLT, Nat.reduceLeDiff, Nat.reduceEqDiff, Nat.reduceBEq, BitVec.reduceOfInt, Int.reduceLE, Int.reduceLT, Int.reduceGT, Int.reduceGE, Int.reduceNeg, Int.reduceAdd, Int.reduceSub, Int.reduceMul, Int.reduceToNat, ↓bind_go, ↓map_go, wantedV, isWrite, grow, write, ofV, AV.cells, Abs.start, Abs.strip, endQ, resV, rawsRes, rawRes, exports, export1, AS.grown, AS.put, Env.know, Env.boxed, isSelf, convSelf, convV, loadV, storeV, fieldAddrV, fieldV, indexAddrV, indexV, partV, isAggK, isStr, place, ipS, lenV, min2V, makeV, freshSl, sliceV, boundOr, bound, bounds, cutFl, copyV, slCells, srcV, appendV, room, zerosOf, eqNeg, kd, takeR, hasViewL, hasView, freshR, freshC, snapAll, snap, snapL, flatL, pureL, pureA, fillC, arrOK, oneA, partB, AV.laid, ren1, CR.gr, applyW, useL, AS.mute, isGen, startG, ev5, tbUf0, glob, Nat.reduceMod, s1, s2, s4, s5, b2, b5, b4, lH, hh]
        refine condQ_dec (fun hlt => ?_) (fun hge => ?_)
        · simp (maxSteps := 1000000) (disch := first | omega | (simp only [xorB_len', padX_len, hashK_len, mulB_len, lnB] <;> omega) | fail) only [ev0, ev1, ev2, ev3, ↓reduceIte, reduceCtorEq, Nat.reduceAdd, Nat.reduceSub, Nat.reduceMul, Nat.reduceLT, Nat.reduceLeDiff, Nat.reduceEqDiff, Nat.reduceBEq, BitVec.reduceOfInt, Int.reduceLE, Int.reduceLT, Int.reduceGT, Int.reduceGE, Int.reduceNeg, Int.reduceAdd, Int.reduceSub, Int.reduceMul, Int.reduceToNat, ↓bind_go, ↓map_go, wantedV, isWrite, grow, write, ofV, AV.cells, Abs.start, Abs.strip, endQ, resV, rawsRes, rawRes, exports, export1, AS.grown, AS.put, Env.know, Env.boxed, isSelf, convSelf, convV, loadV, storeV, fieldAddrV, fieldV, indexAddrV, indexV, partV, isAggK, isStr, place, ipS, lenV, min2V, makeV, freshSl, sliceV, boundOr, bound, bounds, cutFl, copyV, slCells, srcV, appendV, room, zerosOf, eqNeg, kd, takeR, hasViewL, hasView, freshR, freshC, snapAll, snap, snapL, flatL, pureL, pureA, fillC, arrOK, oneA, partB, AV.laid, ren1, CR.gr, applyW, useL, AS.mute, isGen, startG, ev5, tbUf0, glob, Nat.reduceMod, s1, s2, s4, s5, b2, b5, b4, lH, hh]
          refine ⟨b.length + 16 - 16 * (j + 1), by omega, j + 1, by omega, rfl, ?_⟩
          rw [hN]
          refine ⟨row_eq (by omega) hd, rfl⟩
        · have hz : (b.length + 15) / 16 = j := by omega
          have hF : hashB h b = y := by rw [hashB, hz, hy]
          rw [hF]
          simp (maxSteps := 1000000) (disch := first | omega | (simp only [xorB_len', padX_len, hashK_len, mulB_len, lnB] <;> omega) | fail) only [ev0, ev1, ev2, ev3, ↓reduceIte, reduceCtorEq, Nat.reduceAdd, Nat.reduceSub, Nat.reduceMul, Nat.reduceLT, Nat.reduceLeDiff, Nat.reduceEqDiff, Nat.reduceBEq, BitVec.reduceOfInt, Int.reduceLE, Int.reduceLT, Int.reduceGT, Int.reduceGE, Int.reduceNeg, Int.reduceAdd, Int.reduceSub, Int.reduceMul, Int.reduceToNat, ↓bind_go, ↓map_go, wantedV, isWrite, grow, write, ofV, AV.cells, Abs.start, Abs.strip, endQ, resV, rawsRes, rawRes, exports, export1, AS.grown, AS.put, Env.know, Env.boxed, isSelf, convSelf, convV, loadV, storeV, fieldAddrV, fieldV, indexAddrV, indexV, partV, isAggK, isStr, place, ipS, lenV, min2V, makeV, freshSl, sliceV, boundOr, bound, bounds, cutFl, copyV, slCells, srcV, appendV, room, zerosOf, eqNeg, kd, takeR, hasViewL, hasView, freshR, freshC, snapAll, snap, snapL, flatL, pureL, pureA, fillC, arrOK, oneA, partB, AV.laid, ren1, CR.gr, applyW, useL, AS.mute, isGen, startG, ev5, tbUf0, glob, Nat.reduceMod, s1, s2, s4, s5, b2, b5, b4, lH, hh]
          exact ResQ.same rfl
    · cases hr
  · cases hr
end Go.Proofs.YtddeffdgldjdjaaDoor
