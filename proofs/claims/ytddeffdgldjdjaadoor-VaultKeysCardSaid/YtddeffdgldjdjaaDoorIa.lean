/- The document's constants: what the walks of its functions come to. -/
import Derived.Test.YtddeffdgldjdjaaDoorHd
namespace Go.Proofs.YtddeffdgldjdjaaDoor
set_option linter.unusedSimpArgs false
set_option linter.unusedVariables false
set_option linter.defProp false
open Go Go.Abs

/-- turned right, as the document has it -/
def right (x : BitVec 32) (n : Int) : BitVec 32 := x >>> n.toNat ||| x <<< (32 - n).toNat
def pf137 : List AV → Option AV
  | [a, b] => (num? .u32 32 a).bind fun x => (int? b).bind fun n => if 0 ≤ n ∧ n ≤ 32 then some (.raw (.int .u32 ((right x n).toNat : Int))) else none
  | _ => none
theorem pf137_at (x : BitVec 32) (n : Int) (h : 0 ≤ n ∧ n ≤ 32) : pf137 [.raw (.int .u32 (x.toNat : Int)), .raw (.int .i64 n)] = some (.raw (.int .u32 ((right x n).toNat : Int))) := by
  simp only [pf137, num?_num, int?, Option.bind_some, if_pos h]

set_option maxHeartbeats 4000000
def tbIa0 := (And.intro (And.intro (And.intro @teE @ES0_te) (And.intro @ES0_glob @ES0_gs)) (And.intro (And.intro @ES0_dyn @ES0_mu) (And.intro @ns_strip @ns_set)))
theorem sound137 : SoundV Tryd.prog globS 137 pf137 := by
  refine SoundV.walk ES0 okS0 mixed Tryd.func137 rfl Tryd.call137 (by kernel_rfl) ?_
  intro args r h
  unfold pf137 at h
  split at h
  · simp only [Option.bind_eq_some_iff] at h
    obtain ⟨x, h1, n, h2, h3⟩ := h
    split at h3
    · rename_i hn
      obtain ⟨hn0, hn1⟩ := hn
      cases h3
      rw [num?_of h1, int?_of h2]
      rw [Tryd.ntmps137, Tryd.results137]
      refine ⟨by simp, ?_⟩
      simp (maxSteps := 1000000) (disch := first | omega | (simp only [nums_len, lnB] <;> omega) | fail) only [ev0, ev1, ev2, ev3, ↓reduceIte, reduceCtorEq, Nat.reduceAdd, Nat.reduceSub, Nat.reduceMul, Nat.reduceLT, Nat.reduceLeDiff, Nat.reduceEqDiff, Nat.reduceBEq, BitVec.reduceOfInt, Int.reduceLE, Int.reduceLT, Int.reduceGT, Int.reduceGE, Int.reduceNeg, Int.reduceAdd, Int.reduceSub, Int.reduceMul, Int.reduceToNat, ↓bind_go, ↓map_go, wantedV, isWrite, grow, write, ofV, AV.cells, Abs.start, Abs.strip, endQ, resV, rawsRes, rawRes, exports, export1, AS.grown, AS.put, Env.know, Env.boxed, isSelf, convSelf, convV, loadV, storeV, fieldAddrV, fieldV, indexAddrV, indexV, partV, isAggK, isStr, place, lenV, min2V, makeV, freshSl, sliceV, boundOr, bound, bounds, cutFl, copyV, slCells, srcV, appendV, room, zerosOf, eqNeg, kd, takeR, hasViewL, hasView, freshR, freshC, snapAll, snap, snapL, flatL, pureL, pureA, fillC, arrOK, oneA, partB, AV.laid, ren1, CR.gr, applyW, useL, AS.mute, isGen, startG, ev5, tbIa0, globS]
      refine .same ?_
      have e : (32 - n).toNat = 32 - n.toNat := by omega
      simp only [right, e]
    · cases h3
  · cases h

/-- one more digit of a row times a row; what is left over -/
def mulIn (a b : List (BitVec 64)) (i : Nat) (out : List (BitVec 64)) : Nat → List (BitVec 64) × BitVec 64
  | 0 => (out, 0#64)
  | k + 1 =>
    let p := mulIn a b i out k
    let x := p.2 + p.1.getD (i + k) 0#64 + a.getD i 0#64 * b.getD k 0#64
    (p.1.set (i + k) (x % 65536#64), x / 65536#64)
def mulOut (a b : List (BitVec 64)) : Nat → List (BitVec 64)
  | 0 => List.replicate 12 0#64
  | i + 1 =>
    let p := mulIn a b i (mulOut a b i) 4
    p.1.set (i + 4) p.2
theorem mulIn_len (a b : List (BitVec 64)) (i : Nat) (out : List (BitVec 64)) (k : Nat) : (mulIn a b i out k).1.length = out.length := by
  induction k with
  | zero => rfl
  | succ k ih => simp only [mulIn, List.length_set, ih]
theorem mulOut_len (a b : List (BitVec 64)) (i : Nat) : (mulOut a b i).length = 12 := by
  induction i with
  | zero => simp [mulOut]
  | succ i ih => simp only [mulOut, List.length_set, mulIn_len, ih]
def pf158 : List AV → Option AV
  | [a, b] => (agg? .u64 64 8 a).bind fun a => (agg? .u64 64 4 b).bind fun b => some (.agg (nums .u64 (mulOut a b 8)))
  | _ => none
theorem pf158_at {a b : List (BitVec 64)} (ha : a.length = 8) (hb : b.length = 4) : pf158 [.agg (nums .u64 a), .agg (nums .u64 b)] = some (.agg (nums .u64 (mulOut a b 8))) := by
  simp only [pf158, agg?_at ha, agg?_at hb, Option.bind_some]

theorem sound158 : SoundV Tryd.prog globS 158 pf158 := by
  refine SoundV.walk ES0 okS0 mixed Tryd.func158 rfl Tryd.call158 (by kernel_rfl) ?_
  intro args r h
  unfold pf158 at h
  split at h
  · simp only [Option.bind_eq_some_iff] at h
    obtain ⟨a, h1, b, h2, h3⟩ := h
    cases h3
    obtain ⟨rfl, la⟩ := agg?_of h1
    obtain ⟨rfl, lb⟩ := agg?_of h2
    rw [Tryd.ntmps158, Tryd.results158]
    refine ⟨by simp, ?_⟩
    simp (maxSteps := 1000000) (disch := first | omega | (simp only [nums_len, lnB] <;> omega) | fail) only [ev0, ev1, ev2, ev3, ↓reduceIte, reduceCtorEq, Nat.reduceAdd, Nat.reduceSub, Nat.reduceMul, Nat.reduceLT, Nat.reduceLeDiff, Nat.reduceEqDiff, Nat.reduceBEq, BitVec.reduceOfInt, Int.reduceLE, Int.reduceLT, Int.reduceGT, Int.reduceGE, Int.reduceNeg, Int.reduceAdd, Int.reduceSub, Int.reduceMul, Int.reduceToNat, ↓bind_go, ↓map_go, wantedV, isWrite, grow, write, ofV, AV.cells, Abs.start, Abs.strip, endQ, resV, rawsRes, rawRes, exports, export1, AS.grown, AS.put, Env.know, Env.boxed, isSelf, convSelf, convV, loadV, storeV, fieldAddrV, fieldV, indexAddrV, indexV, partV, isAggK, isStr, place, lenV, min2V, makeV, freshSl, sliceV, boundOr, bound, bounds, cutFl, copyV, slCells, srcV, appendV, room, zerosOf, eqNeg, kd, takeR, hasViewL, hasView, freshR, freshC, snapAll, snap, snapL, flatL, pureL, pureA, fillC, arrOK, oneA, partB, AV.laid, ren1, CR.gr, applyW, useL, AS.mute, isGen, startG, ev5, tbIa0, globS, la, lb]
    refine loopQ_of (fun n σ => ∃ i, i ≤ 8 ∧ n = 8 - i ∧ σ.slots 6 = .raw (.int .i64 (i : Int)) ∧ σ.slots 2 = .ptr (.own 0 2 1) 0 ∧ σ.slots 3 = .ptr (.own 0 3 1) 0 ∧ σ.slots 4 = .ptr (.own 0 4 1) 0 ∧ σ.slots 5 = .ptr (.own 0 5 1) 0 ∧
      σ.box (.own 0 2 1) = some (nums .u64 a) ∧ σ.box (.own 0 3 1) = some (nums .u64 b) ∧ σ.box (.own 0 4 1) = some (nums .u64 (List.replicate 12 0#64)) ∧ σ.box (.own 0 5 1) = some (nums .u64 (mulOut a b i))) 8 ?_ ?_
    · refine ⟨0, by omega, by omega, ?_⟩
      simp (maxSteps := 1000000) (disch := first | omega | (simp only [nums_len, lnB] <;> omega) | fail) only [ev0, ev1, ev2, ev3, ↓reduceIte, reduceCtorEq, Nat.reduceAdd, Nat.reduceSub, Nat.reduceMul, Nat.reduceLT, Nat.reduceLeDiff, Nat.reduceEqDiff, Nat.reduceBEq, BitVec.reduceOfInt, Int.reduceLE, Int.reduceLT, Int.reduceGT, Int.reduceGE, Int.reduceNeg, Int.reduceAdd, Int.reduceSub, Int.reduceMul, Int.reduceToNat, ↓bind_go, ↓map_go, wantedV, isWrite, grow, write, ofV, AV.cells, Abs.start, Abs.strip, endQ, resV, rawsRes, rawRes, exports, export1, AS.grown, AS.put, Env.know, Env.boxed, isSelf, convSelf, convV, loadV, storeV, fieldAddrV, fieldV, indexAddrV, indexV, partV, isAggK, isStr, place, lenV, min2V, makeV, freshSl, sliceV, boundOr, bound, bounds, cutFl, copyV, slCells, srcV, appendV, room, zerosOf, eqNeg, kd, takeR, hasViewL, hasView, freshR, freshC, snapAll, snap, snapL, flatL, pureL, pureA, fillC, arrOK, oneA, partB, AV.laid, ren1, CR.gr, applyW, useL, AS.mute, isGen, startG, ev5, tbIa0, globS, la, lb]
      exact ⟨rfl, rfl⟩
    · rintro n ⟨sl, gn, bx, us⟩ ⟨i, hi, rfl, s6, s2, s3, s4, s5, b2, b3, b4, b5⟩
      dsimp only at s6 s2 s3 s4 s5 b2 b3 b4 b5
      have lo := mulOut_len a b i
      generalize hO : mulOut a b i = O at b5 lo
      simp (maxSteps := 1000000) (disch := first | omega | (simp only [nums_len, lnB] <;> omega) | fail) only [ev0, ev1, ev2, ev3, ↓reduceIte, reduceCtorEq, Nat.reduceAdd, Nat.reduceSub, Nat.reduceMul, Nat.reduceLT, Nat.reduceLeDiff, Nat.reduceEqDiff, Nat.reduceBEq, BitVec.reduceOfInt, Int.reduceLE, Int.reduceLT, Int.reduceGT, Int.reduceGE, Int.reduceNeg, Int.reduceAdd, Int.reduceSub, Int.reduceMul, Int.reduceToNat, ↓bind_go, ↓map_go, wantedV, isWrite, grow, write, ofV, AV.cells, Abs.start, Abs.strip, endQ, resV, rawsRes, rawRes, exports, export1, AS.grown, AS.put, Env.know, Env.boxed, isSelf, convSelf, convV, loadV, storeV, fieldAddrV, fieldV, indexAddrV, indexV, partV, isAggK, isStr, place, lenV, min2V, makeV, freshSl, sliceV, boundOr, bound, bounds, cutFl, copyV, slCells, srcV, appendV, room, zerosOf, eqNeg, kd, takeR, hasViewL, hasView, freshR, freshC, snapAll, snap, snapL, flatL, pureL, pureA, fillC, arrOK, oneA, partB, AV.laid, ren1, CR.gr, applyW, useL, AS.mute, isGen, startG, ev5, tbIa0, globS, s6, s2, s3, s4, s5, b2, b3, b4, b5, la, lb, lo]
      refine condQ_dec (fun hlt => ?_) (fun hge => ?_)
      · have hlt : i < 8 := by omega
        simp (maxSteps := 1000000) (disch := first | omega | (simp only [nums_len, lnB] <;> omega) | fail) only [ev0, ev1, ev2, ev3, ↓reduceIte, reduceCtorEq, Nat.reduceAdd, Nat.reduceSub, Nat.reduceMul, Nat.reduceLT, Nat.reduceLeDiff, Nat.reduceEqDiff, Nat.reduceBEq, BitVec.reduceOfInt, Int.reduceLE, Int.reduceLT, Int.reduceGT, Int.reduceGE, Int.reduceNeg, Int.reduceAdd, Int.reduceSub, Int.reduceMul, Int.reduceToNat, ↓bind_go, ↓map_go, wantedV, isWrite, grow, write, ofV, AV.cells, Abs.start, Abs.strip, endQ, resV, rawsRes, rawRes, exports, export1, AS.grown, AS.put, Env.know, Env.boxed, isSelf, convSelf, convV, loadV, storeV, fieldAddrV, fieldV, indexAddrV, indexV, partV, isAggK, isStr, place, lenV, min2V, makeV, freshSl, sliceV, boundOr, bound, bounds, cutFl, copyV, slCells, srcV, appendV, room, zerosOf, eqNeg, kd, takeR, hasViewL, hasView, freshR, freshC, snapAll, snap, snapL, flatL, pureL, pureA, fillC, arrOK, oneA, partB, AV.laid, ren1, CR.gr, applyW, useL, AS.mute, isGen, startG, ev5, tbIa0, globS, s6, s2, s3, s4, s5, b2, b3, b4, b5, la, lb, lo]
        refine loopQ_of (fun n σ => ∃ k, k ≤ 4 ∧ n = 4 - k ∧ σ.slots 8 = .raw (.int .i64 (k : Int)) ∧ σ.slots 7 = .raw (.int .u64 ((mulIn a b i O k).2.toNat : Int)) ∧ σ.slots 6 = .raw (.int .i64 (i : Int)) ∧ σ.slots 2 = .ptr (.own 0 2 1) 0 ∧ σ.slots 3 = .ptr (.own 0 3 1) 0 ∧ σ.slots 4 = .ptr (.own 0 4 1) 0 ∧ σ.slots 5 = .ptr (.own 0 5 1) 0 ∧
          σ.box (.own 0 2 1) = some (nums .u64 a) ∧ σ.box (.own 0 3 1) = some (nums .u64 b) ∧ σ.box (.own 0 4 1) = some (nums .u64 (List.replicate 12 0#64)) ∧ σ.box (.own 0 5 1) = some (nums .u64 (mulIn a b i O k).1)) 4 ?_ ?_
        · refine ⟨0, by omega, by omega, ?_⟩
          simp (maxSteps := 1000000) (disch := first | omega | (simp only [nums_len, lnB] <;> omega) | fail) only [ev0, ev1, ev2, ev3, ↓reduceIte, reduceCtorEq, Nat.reduceAdd, Nat.reduceSub, Nat.reduceMul, Nat.reduceLT, Nat.reduceLeDiff, Nat.reduceEqDiff, Nat.reduceBEq, BitVec.reduceOfInt, Int.reduceLE, Int.reduceLT, Int.reduceGT, Int.reduceGE, Int.reduceNeg, Int.reduceAdd, Int.reduceSub, Int.reduceMul, Int.reduceToNat, ↓bind_go, ↓map_go, wantedV, isWrite, grow, write, ofV, AV.cells, Abs.start, Abs.strip, endQ, resV, rawsRes, rawRes, exports, export1, AS.grown, AS.put, Env.know, Env.boxed, isSelf, convSelf, convV, loadV, storeV, fieldAddrV, fieldV, indexAddrV, indexV, partV, isAggK, isStr, place, lenV, min2V, makeV, freshSl, sliceV, boundOr, bound, bounds, cutFl, copyV, slCells, srcV, appendV, room, zerosOf, eqNeg, kd, takeR, hasViewL, hasView, freshR, freshC, snapAll, snap, snapL, flatL, pureL, pureA, fillC, arrOK, oneA, partB, AV.laid, ren1, CR.gr, applyW, useL, AS.mute, isGen, startG, ev5, tbIa0, globS, s6, s2, s3, s4, s5, b2, b3, b4, b5, la, lb, lo]
          exact ⟨rfl, rfl, rfl⟩
        · clear s6 s2 s3 s4 s5 b2 b3 b4 b5 sl gn bx us
          rintro n ⟨sl, gn, bx, us⟩ ⟨k, hk, rfl, s8, s7, s6, s2, s3, s4, s5, b2, b3, b4, b5⟩
          dsimp only at s8 s7 s6 s2 s3 s4 s5 b2 b3 b4 b5
          have lp := mulIn_len a b i O k
          rw [lo] at lp
          generalize hp : mulIn a b i O k = p at s7 b5 lp
          simp (maxSteps := 1000000) (disch := first | omega | (simp only [nums_len, lnB] <;> omega) | fail) only [ev0, ev1, ev2, ev3, ↓reduceIte, reduceCtorEq, Nat.reduceAdd, Nat.reduceSub, Nat.reduceMul, Nat.reduceLT, Nat.reduceLeDiff, Nat.reduceEqDiff, Nat.reduceBEq, BitVec.reduceOfInt, Int.reduceLE, Int.reduceLT, Int.reduceGT, Int.reduceGE, Int.reduceNeg, Int.reduceAdd, Int.reduceSub, Int.reduceMul, Int.reduceToNat, ↓bind_go, ↓map_go, wantedV, isWrite, grow, write, ofV, AV.cells, Abs.start, Abs.strip, endQ, resV, rawsRes, rawRes, exports, export1, AS.grown, AS.put, Env.know, Env.boxed, isSelf, convSelf, convV, loadV, storeV, fieldAddrV, fieldV, indexAddrV, indexV, partV, isAggK, isStr, place, lenV, min2V, makeV, freshSl, sliceV, boundOr, bound, bounds, cutFl, copyV, slCells, srcV, appendV, room, zerosOf, eqNeg, kd, takeR, hasViewL, hasView, freshR, freshC, snapAll, snap, snapL, flatL, pureL, pureA, fillC, arrOK, oneA, partB, AV.laid, ren1, CR.gr, applyW, useL, AS.mute, isGen, startG, ev5, tbIa0, globS, s8, s7, s6, s2, s3, s4, s5, b2, b3, b4, b5, la, lb, lp]
          refine condQ_dec (fun hlt2 => ?_) (fun hge => ?_)
          · have hlt2 : k < 4 := by omega
            simp (maxSteps := 1000000) (disch := first | omega | (simp only [nums_len, lnB] <;> omega) | fail) only [ev0, ev1, ev2, ev3, ↓reduceIte, reduceCtorEq, Nat.reduceAdd, Nat.reduceSub, Nat.reduceMul, Nat.reduceLT, Nat.reduceLeDiff, Nat.reduceEqDiff, Nat.reduceBEq, BitVec.reduceOfInt, Int.reduceLE, Int.reduceLT, Int.reduceGT, Int.reduceGE, Int.reduceNeg, Int.reduceAdd, Int.reduceSub, Int.reduceMul, Int.reduceToNat, ↓bind_go, ↓map_go, wantedV, isWrite, grow, write, ofV, AV.cells, Abs.start, Abs.strip, endQ, resV, rawsRes, rawRes, exports, export1, AS.grown, AS.put, Env.know, Env.boxed, isSelf, convSelf, convV, loadV, storeV, fieldAddrV, fieldV, indexAddrV, indexV, partV, isAggK, isStr, place, lenV, min2V, makeV, freshSl, sliceV, boundOr, bound, bounds, cutFl, copyV, slCells, srcV, appendV, room, zerosOf, eqNeg, kd, takeR, hasViewL, hasView, freshR, freshC, snapAll, snap, snapL, flatL, pureL, pureA, fillC, arrOK, oneA, partB, AV.laid, ren1, CR.gr, applyW, useL, AS.mute, isGen, startG, ev5, tbIa0, globS, s8, s7, s6, s2, s3, s4, s5, b2, b3, b4, b5, la, lb, lp]
            refine ⟨4 - (k + 1), by omega, k + 1, by omega, rfl, rfl, ?_⟩
            rw [mulIn, hp]
            exact ⟨rfl, rfl⟩
          · have hk : k = 4 := by omega
            subst hk
            simp (maxSteps := 1000000) (disch := first | omega | (simp only [nums_len, lnB] <;> omega) | fail) only [ev0, ev1, ev2, ev3, ↓reduceIte, reduceCtorEq, Nat.reduceAdd, Nat.reduceSub, Nat.reduceMul, Nat.reduceLT, Nat.reduceLeDiff, Nat.reduceEqDiff, Nat.reduceBEq, BitVec.reduceOfInt, Int.reduceLE, Int.reduceLT, Int.reduceGT, Int.reduceGE, Int.reduceNeg, Int.reduceAdd, Int.reduceSub, Int.reduceMul, Int.reduceToNat, ↓bind_go, ↓map_go, wantedV, isWrite, grow, write, ofV, AV.cells, Abs.start, Abs.strip, endQ, resV, rawsRes, rawRes, exports, export1, AS.grown, AS.put, Env.know, Env.boxed, isSelf, convSelf, convV, loadV, storeV, fieldAddrV, fieldV, indexAddrV, indexV, partV, isAggK, isStr, place, lenV, min2V, makeV, freshSl, sliceV, boundOr, bound, bounds, cutFl, copyV, slCells, srcV, appendV, room, zerosOf, eqNeg, kd, takeR, hasViewL, hasView, freshR, freshC, snapAll, snap, snapL, flatL, pureL, pureA, fillC, arrOK, oneA, partB, AV.laid, ren1, CR.gr, applyW, useL, AS.mute, isGen, startG, ev5, tbIa0, globS, s8, s7, s6, s2, s3, s4, s5, b2, b3, b4, b5, la, lb, lp]
            refine ⟨8 - (i + 1), by omega, i + 1, by omega, rfl, rfl, ?_⟩
            rw [mulOut, hO, hp]
      · have hi : i = 8 := by omega
        subst hi
        simp (maxSteps := 1000000) (disch := first | omega | (simp only [nums_len, lnB] <;> omega) | fail) only [ev0, ev1, ev2, ev3, ↓reduceIte, reduceCtorEq, Nat.reduceAdd, Nat.reduceSub, Nat.reduceMul, Nat.reduceLT, Nat.reduceLeDiff, Nat.reduceEqDiff, Nat.reduceBEq, BitVec.reduceOfInt, Int.reduceLE, Int.reduceLT, Int.reduceGT, Int.reduceGE, Int.reduceNeg, Int.reduceAdd, Int.reduceSub, Int.reduceMul, Int.reduceToNat, ↓bind_go, ↓map_go, wantedV, isWrite, grow, write, ofV, AV.cells, Abs.start, Abs.strip, endQ, resV, rawsRes, rawRes, exports, export1, AS.grown, AS.put, Env.know, Env.boxed, isSelf, convSelf, convV, loadV, storeV, fieldAddrV, fieldV, indexAddrV, indexV, partV, isAggK, isStr, place, lenV, min2V, makeV, freshSl, sliceV, boundOr, bound, bounds, cutFl, copyV, slCells, srcV, appendV, room, zerosOf, eqNeg, kd, takeR, hasViewL, hasView, freshR, freshC, snapAll, snap, snapL, flatL, pureL, pureA, fillC, arrOK, oneA, partB, AV.laid, ren1, CR.gr, applyW, useL, AS.mute, isGen, startG, ev5, tbIa0, globS, s6, s2, s3, s4, s5, b2, b3, b4, b5, la, lb, lo]
        rw [← hO]
        exact ResQ.same rfl
  · cases h
end Go.Proofs.YtddeffdgldjdjaaDoor
