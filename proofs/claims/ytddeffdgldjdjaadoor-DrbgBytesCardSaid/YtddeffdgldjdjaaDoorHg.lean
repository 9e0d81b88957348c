/- mac.Sum: what its walk comes to. -/
import Derived.Test.YtddeffdgldjdjaaDoorHe
namespace Go.Proofs.YtddeffdgldjdjaaDoor
set_option linter.unusedSimpArgs false
set_option linter.unusedVariables false
set_option linter.defProp false
open Go Go.Abs

theorem shaB_len (b : List (BitVec 8)) : (shaB b).length = 32 := by rw [shaB, outB_len]
theorem pf60_at {n : Nat} {m : List (BitVec 8)} {fl : Fl} (h : n = m.length) (h2 : m.length ≤ 1099511627776) : pf60 [.sl n (nums .u8 m) fl] = some (.agg (nums .u8 (shaB m))) := by
  simp only [pf60, row?_at h, Option.bind_some, if_pos h2]
def ES15 : Env := (ES0.know 60 (fun xs => pf60 (xs.map norm))).know 61 (fun xs => pf61 (xs.map norm2))
theorem okS15 : EnvOK Tryd.prog ES15 := (okS0.know sound60.norm).know sound61.norm2
theorem ES15_te : ES15.te = te := rfl
theorem ES15_gs : ES15.gs = [] := rfl
theorem ES15_dyn : ES15.dyn = false := rfl
theorem ES15_glob : ES15.glob = globS := rfl
theorem ES15_mu (d : Nat) : ES15.mu d = false := rfl
theorem ES15_60 : ES15.tbl 60 = some (.val (fun xs => pf60 (xs.map norm))) := rfl
theorem ES15_61 : ES15.tbl 61 = some (.val (fun xs => pf61 (xs.map norm2))) := rfl

/-- the first k bytes turned by c -/
def xorF (c : BitVec 8) (l : List (BitVec 8)) : Nat → List (BitVec 8)
  | 0 => l
  | k + 1 => (xorF c l k).set k ((xorF c l k).getD k 0#8 ^^^ c)
theorem xorF_len (c : BitVec 8) (l : List (BitVec 8)) (k : Nat) : (xorF c l k).length = l.length := by
  induction k with
  | zero => rfl
  | succ k ih => simp [xorF, ih]
/-- the key, as it counts -/
def macK (key : List (BitVec 8)) : List (BitVec 8) := if key.length > 64 then shaB key else key
def padK (key : List (BitVec 8)) : List (BitVec 8) := key ++ List.replicate (64 - key.length) 0#8
theorem macK_len (key : List (BitVec 8)) : (macK key).length ≤ 64 := by
  unfold macK; split
  · rw [shaB_len]; omega
  · omega
theorem padK_len (key : List (BitVec 8)) (h : key.length ≤ 64) : (padK key).length = 64 := by simp [padK]; omega
def sumB (key b : List (BitVec 8)) : List (BitVec 8) := shaB (xorF 92#8 (padK (macK key)) 64 ++ shaB (xorF 54#8 (padK (macK key)) 64 ++ b))
theorem sumB_len (key b : List (BitVec 8)) : (sumB key b).length = 32 := by rw [sumB, shaB_len]
def pf25 : List AV → Option AV
  | [k, v] => (row? .u8 8 k).bind fun key => (row? .u8 8 v).bind fun b => if key.length ≤ 1000000000 ∧ b.length ≤ 1000000000 then some (.agg (nums .u8 (sumB key b))) else none
  | _ => none

set_option maxHeartbeats 4000000
def tbHg0 := (And.intro (And.intro (And.intro (And.intro @teE @ES15_te) (And.intro @ES15_gs @ES15_dyn)) (And.intro (And.intro @ES15_glob @ES15_mu) (And.intro @ES15_60 (And.intro @ES15_61 @pf60_at)))) (And.intro (And.intro (And.intro @pf61_two @ns_strip) (And.intro @ns_set (And.intro @shaB_len @norm2_sl))) (And.intro (And.intro @nums_splice @rep_two) (And.intro @rep_three (And.intro @xorF_len @padK_len)))))
theorem sound25 : SoundV Tryd.prog globS 25 pf25 := by
  refine SoundV.walk ES15 okS15 mixed Tryd.func25 rfl Tryd.call25 (by kernel_rfl) ?_
  intro args r hr
  unfold pf25 at hr
  split at hr
  · simp only [Option.bind_eq_some_iff] at hr
    obtain ⟨key, h1, b, h2, hr⟩ := hr
    split at hr
    · rename_i hc
      obtain ⟨hc1, hc2⟩ := hc
      cases hr
      obtain ⟨fl, rfl⟩ := row?_of h1
      obtain ⟨fl', rfl⟩ := row?_of h2
      clear h1 h2
      rw [Tryd.ntmps25, Tryd.results25]
      refine ⟨by simp, ?_⟩
      simp (maxSteps := 1000000) (disch := first | omega | (simp only [shaB_len, xorF_len, padK_len, lnB] <;> omega) | fail) only [ev0, ev1, ev2, ev3, ↓reduceIte, reduceCtorEq, Nat.reduceAdd, Nat.reduceSub, Nat.reduceMul, Nat.reduceLT, Nat.reduceLeDiff, Nat.reduceEqDiff, Nat.reduceBEq, BitVec.reduceOfInt, Int.reduceLE, Int.reduceLT, Int.reduceGT, Int.reduceGE, Int.reduceNeg, Int.reduceAdd, Int.reduceSub, Int.reduceMul, Int.reduceToNat, ↓bind_go, ↓map_go, wantedV, isWrite, grow, write, ofV, AV.cells, Abs.start, Abs.strip, endQ, resV, rawsRes, rawRes, exports, export1, AS.grown, AS.put, Env.know, Env.boxed, isSelf, convSelf, convV, loadV, storeV, fieldAddrV, fieldV, indexAddrV, indexV, partV, isAggK, isStr, place, ipS, lenV, min2V, makeV, freshSl, sliceV, boundOr, bound, bounds, cutFl, copyV, slCells, srcV, appendV, room, zerosOf, eqNeg, kd, takeR, hasViewL, hasView, freshR, freshC, snapAll, snap, snapL, flatL, pureL, pureA, fillC, arrOK, oneA, partB, AV.laid, ren1, CR.gr, applyW, useL, AS.mute, isGen, startG, ev5, tbHg0, globS]
      have hm : macK key = if key.length > 64 then shaB key else key := rfl
      have hml := macK_len key
      have hpl := padK_len (macK key) hml
      refine condQ_dec (fun hgt => ?_) (fun hle => ?_)
      have hgt' : key.length > 64 := by omega
      have hP : shaB key ++ List.replicate 32 0#8 = padK (macK key) := by rw [hm, if_pos hgt', padK, shaB_len]
      simp (maxSteps := 1000000) (disch := first | omega | (simp only [shaB_len, xorF_len, padK_len, lnB] <;> omega) | fail) only [ev0, ev1, ev2, ev3, ↓reduceIte, reduceCtorEq, Nat.reduceAdd, Nat.reduceSub, Nat.reduceMul, Nat.reduceLT, Nat.reduceLeDiff, Nat.reduceEqDiff, Nat.reduceBEq, BitVec.reduceOfInt, Int.reduceLE, Int.reduceLT, Int.reduceGT, Int.reduceGE, Int.reduceNeg, Int.reduceAdd, Int.reduceSub, Int.reduceMul, Int.reduceToNat, ↓bind_go, ↓map_go, wantedV, isWrite, grow, write, ofV, AV.cells, Abs.start, Abs.strip, endQ, resV, rawsRes, rawRes, exports, export1, AS.grown, AS.put, Env.know, Env.boxed, isSelf, convSelf, convV, loadV, storeV, fieldAddrV, fieldV, indexAddrV, indexV, partV, isAggK, isStr, place, ipS, lenV, min2V, makeV, freshSl, sliceV, boundOr, bound, bounds, cutFl, copyV, slCells, srcV, appendV, room, zerosOf, eqNeg, kd, takeR, hasViewL, hasView, freshR, freshC, snapAll, snap, snapL, flatL, pureL, pureA, fillC, arrOK, oneA, partB, AV.laid, ren1, CR.gr, applyW, useL, AS.mute, isGen, startG, ev5, tbHg0, globS]
      rw [hP]
      clear hgt hgt' hP
      rotate_left
      have hle' : key.length ≤ 64 := by omega
      have hP : key ++ List.replicate (64 - key.length) 0#8 = padK (macK key) := by rw [hm, if_neg (by omega), padK]
      simp (maxSteps := 1000000) (disch := first | omega | (simp only [shaB_len, xorF_len, padK_len, lnB] <;> omega) | fail) only [ev0, ev1, ev2, ev3, ↓reduceIte, reduceCtorEq, Nat.reduceAdd, Nat.reduceSub, Nat.reduceMul, Nat.reduceLT, Nat.reduceLeDiff, Nat.reduceEqDiff, Nat.reduceBEq, BitVec.reduceOfInt, Int.reduceLE, Int.reduceLT, Int.reduceGT, Int.reduceGE, Int.reduceNeg, Int.reduceAdd, Int.reduceSub, Int.reduceMul, Int.reduceToNat, ↓bind_go, ↓map_go, wantedV, isWrite, grow, write, ofV, AV.cells, Abs.start, Abs.strip, endQ, resV, rawsRes, rawRes, exports, export1, AS.grown, AS.put, Env.know, Env.boxed, isSelf, convSelf, convV, loadV, storeV, fieldAddrV, fieldV, indexAddrV, indexV, partV, isAggK, isStr, place, ipS, lenV, min2V, makeV, freshSl, sliceV, boundOr, bound, bounds, cutFl, copyV, slCells, srcV, appendV, room, zerosOf, eqNeg, kd, takeR, hasViewL, hasView, freshR, freshC, snapAll, snap, snapL, flatL, pureL, pureA, fillC, arrOK, oneA, partB, AV.laid, ren1, CR.gr, applyW, useL, AS.mute, isGen, startG, ev5, tbHg0, globS]
      rw [hP]
      clear hle hle' hP
      all_goals (
        have hsum : sumB key b = shaB (xorF 92#8 (padK (macK key)) 64 ++ shaB (xorF 54#8 (padK (macK key)) 64 ++ b)) := rfl
        generalize padK (macK key) = P at hsum hpl ⊢
        refine loopQ_of (fun n σ => ∃ k, k ≤ 64 ∧ n = 64 - k ∧ σ.slots 20 = .raw (.int .i64 (k : Int)) ∧ σ.slots 1 = .sl b.length (nums .u8 b) .bor ∧ σ.slots 4 = .ptr (.own 0 4 1) 0 ∧ σ.slots 6 = .ptr (.own 0 6 1) 0 ∧ σ.slots 7 = .ptr (.own 0 7 1) 0 ∧
          σ.box (.own 0 4 1) = some (nums .u8 (List.replicate 32 0#8)) ∧ σ.box (.own 0 6 1) = some (nums .u8 (xorF 54#8 P k)) ∧ σ.box (.own 0 7 1) = some (nums .u8 (xorF 92#8 P k))) 64 ?_ ?_
        · refine ⟨0, by omega, by omega, ?_⟩
          simp (maxSteps := 1000000) (disch := first | omega | (simp only [shaB_len, xorF_len, padK_len, lnB] <;> omega) | fail) only [ev0, ev1, ev2, ev3, ↓reduceIte, reduceCtorEq, Nat.reduceAdd, Nat.reduceSub, Nat.reduceMul, Nat.reduceLT, Nat.reduceLeDiff, Nat.reduceEqDiff, Nat.reduceBEq, BitVec.reduceOfInt, Int.reduceLE, Int.reduceLT, Int.reduceGT, Int.reduceGE, Int.reduceNeg, Int.reduceAdd, Int.reduceSub, Int.reduceMul, Int.reduceToNat, ↓bind_go, ↓map_go, wantedV, isWrite, grow, write, ofV, AV.cells, Abs.start, Abs.strip, endQ, resV, rawsRes, rawRes, exports, export1, AS.grown, AS.put, Env.know, Env.boxed, isSelf, convSelf, convV, loadV, storeV, fieldAddrV, fieldV, indexAddrV, indexV, partV, isAggK, isStr, place, ipS, lenV, min2V, makeV, freshSl, sliceV, boundOr, bound, bounds, cutFl, copyV, slCells, srcV, appendV, room, zerosOf, eqNeg, kd, takeR, hasViewL, hasView, freshR, freshC, snapAll, snap, snapL, flatL, pureL, pureA, fillC, arrOK, oneA, partB, AV.laid, ren1, CR.gr, applyW, useL, AS.mute, isGen, startG, ev5, tbHg0, globS]
          exact ⟨rfl, rfl, rfl⟩
        · rintro n ⟨sl, gn, bx, us⟩ ⟨k, hk, rfl, s20, s1, s4, s6, s7, b4, b6, b7⟩
          dsimp only at s20 s1 s4 s6 s7 b4 b6 b7
          have l1 := xorF_len 54#8 P k
          have l2 := xorF_len 92#8 P k
          rw [hpl] at l1 l2
          simp (maxSteps := 1000000) (disch := first | omega | (simp only [shaB_len, xorF_len, padK_len, lnB] <;> omega) | fail) only [ev0, ev1, ev2, ev3, ↓reduceIte, reduceCtorEq, Nat.reduceAdd, Nat.reduceSub, Nat.reduceMul, Nat.reduceLT, Nat.reduceLeDiff, Nat.reduceEqDiff, Nat.reduceBEq, BitVec.reduceOfInt, Int.reduceLE, Int.reduceLT, Int.reduceGT, Int.reduceGE, Int.reduceNeg, Int.reduceAdd, Int.reduceSub, Int.reduceMul, Int.reduceToNat, ↓bind_go, ↓map_go, wantedV, isWrite, grow, write, ofV, AV.cells, Abs.start, Abs.strip, endQ, resV, rawsRes, rawRes, exports, export1, AS.grown, AS.put, Env.know, Env.boxed, isSelf, convSelf, convV, loadV, storeV, fieldAddrV, fieldV, indexAddrV, indexV, partV, isAggK, isStr, place, ipS, lenV, min2V, makeV, freshSl, sliceV, boundOr, bound, bounds, cutFl, copyV, slCells, srcV, appendV, room, zerosOf, eqNeg, kd, takeR, hasViewL, hasView, freshR, freshC, snapAll, snap, snapL, flatL, pureL, pureA, fillC, arrOK, oneA, partB, AV.laid, ren1, CR.gr, applyW, useL, AS.mute, isGen, startG, ev5, tbHg0, globS, s20, s1, s4, s6, s7, b4, b6, b7, l1, l2]
          refine condQ_dec (fun hlt => ?_) (fun hge => ?_)
          · have hlt : k < 64 := by omega
            simp (maxSteps := 1000000) (disch := first | omega | (simp only [shaB_len, xorF_len, padK_len, lnB] <;> omega) | fail) only [ev0, ev1, ev2, ev3, ↓reduceIte, reduceCtorEq, Nat.reduceAdd, Nat.reduceSub, Nat.reduceMul, Nat.reduceLT, Nat.reduceLeDiff, Nat.reduceEqDiff, Nat.reduceBEq, BitVec.reduceOfInt, Int.reduceLE, Int.reduceLT, Int.reduceGT, Int.reduceGE, Int.reduceNeg, Int.reduceAdd, Int.reduceSub, Int.reduceMul, Int.reduceToNat, ↓bind_go, ↓map_go, wantedV, isWrite, grow, write, ofV, AV.cells, Abs.start, Abs.strip, endQ, resV, rawsRes, rawRes, exports, export1, AS.grown, AS.put, Env.know, Env.boxed, isSelf, convSelf, convV, loadV, storeV, fieldAddrV, fieldV, indexAddrV, indexV, partV, isAggK, isStr, place, ipS, lenV, min2V, makeV, freshSl, sliceV, boundOr, bound, bounds, cutFl, copyV, slCells, srcV, appendV, room, zerosOf, eqNeg, kd, takeR, hasViewL, hasView, freshR, freshC, snapAll, snap, snapL, flatL, pureL, pureA, fillC, arrOK, oneA, partB, AV.laid, ren1, CR.gr, applyW, useL, AS.mute, isGen, startG, ev5, tbHg0, globS, s20, s1, s4, s6, s7, b4, b6, b7, l1, l2]
            exact ⟨64 - (k + 1), by omega, k + 1, by omega, rfl, rfl, rfl, rfl⟩
          · have hk : k = 64 := by omega
            subst hk
            simp (maxSteps := 1000000) (disch := first | omega | (simp only [shaB_len, xorF_len, padK_len, lnB] <;> omega) | fail) only [ev0, ev1, ev2, ev3, ↓reduceIte, reduceCtorEq, Nat.reduceAdd, Nat.reduceSub, Nat.reduceMul, Nat.reduceLT, Nat.reduceLeDiff, Nat.reduceEqDiff, Nat.reduceBEq, BitVec.reduceOfInt, Int.reduceLE, Int.reduceLT, Int.reduceGT, Int.reduceGE, Int.reduceNeg, Int.reduceAdd, Int.reduceSub, Int.reduceMul, Int.reduceToNat, ↓bind_go, ↓map_go, wantedV, isWrite, grow, write, ofV, AV.cells, Abs.start, Abs.strip, endQ, resV, rawsRes, rawRes, exports, export1, AS.grown, AS.put, Env.know, Env.boxed, isSelf, convSelf, convV, loadV, storeV, fieldAddrV, fieldV, indexAddrV, indexV, partV, isAggK, isStr, place, ipS, lenV, min2V, makeV, freshSl, sliceV, boundOr, bound, bounds, cutFl, copyV, slCells, srcV, appendV, room, zerosOf, eqNeg, kd, takeR, hasViewL, hasView, freshR, freshC, snapAll, snap, snapL, flatL, pureL, pureA, fillC, arrOK, oneA, partB, AV.laid, ren1, CR.gr, applyW, useL, AS.mute, isGen, startG, ev5, tbHg0, globS, s20, s1, s4, s6, s7, b4, b6, b7, l1, l2]
            rw [hsum]
            exact ResQ.same rfl)
    · cases hr
  · cases hr
end Go.Proofs.YtddeffdgldjdjaaDoor
