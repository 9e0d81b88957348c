/- Blocks as a field: halves, the product: what the walks come to. -/
import Derived.Test.YtddeffdgldjdjaaDoorUd
namespace Go.Proofs.YtddeffdgldjdjaaDoor
set_option linter.unusedSimpArgs false
set_option linter.unusedVariables false
set_option linter.defProp false
open Go Go.Abs
set_option maxHeartbeats 64000000
def hiK (b : List (BitVec 8)) : Nat → BitVec 64
  | 0 => 0#64
  | k + 1 => hiK b k <<< 8 ||| BitVec.ofNat 64 (b.getD k 0#8).toNat
def loK (b : List (BitVec 8)) : Nat → BitVec 64
  | 0 => 0#64
  | k + 1 => loK b k <<< 8 ||| BitVec.ofNat 64 (b.getD (k + 8) 0#8).toNat
def pf156 : List AV → Option AV
  | [v] => (agg? .u8 8 16 v).bind fun b => some (.tup [.raw (.int .u64 ((hiK b 8).toNat : Int)), .raw (.int .u64 ((loK b 8).toNat : Int))])
  | _ => none
def tbUe0 := (And.intro (And.intro (And.intro @teE @evY) (And.intro @E0_te (And.intro @E0_glob @E0_gs))) (And.intro (And.intro @E0_dyn @E0_mu) (And.intro @nums_strip (And.intro @nums_set8 @getD_set8))))
theorem sound156 : SoundV Tryd.prog glob 156 pf156 := by
  refine SoundV.walkY E0 [(0, 9)] ok0 mixed Tryd.func156 rfl Tryd.call156 (by kernel_rfl) ?_
  intro args r hr
  unfold pf156 at hr
  split at hr
  · rename_i v
    simp only [Option.bind_eq_some_iff] at hr
    obtain ⟨b, h1, hr⟩ := hr
    cases hr
    obtain ⟨rfl, hs⟩ := agg?_of h1
    rw [Tryd.ntmps156, Tryd.results156]
    refine ⟨by simp, ?_⟩
    simp (maxSteps := 1000000) (disch := first | omega | (simp only [nums_len, lnB] <;> omega) | fail) only [ev0, ev1, ev2, ev3, ↓reduceIte, reduceCtorEq, Nat.reduceAdd, Nat.reduceSub, Nat.reduceMul, Nat.reduceLT, Nat.reduceLeDiff, Nat.reduceEqDiff, Nat.reduceBEq, BitVec.reduceOfInt, Int.reduceLE, Int.reduceLT, Int.reduceGT, Int.reduceGE, Int.reduceNeg, Int.reduceAdd, Int.reduceSub, Int.reduceMul, Int.reduceToNat, ↓bind_go, ↓map_go, wantedV, isWrite, grow, write, ofV, AV.cells, Abs.start, Abs.strip, endQ, resV, rawsRes, rawRes, exports, export1, AS.grown, AS.put, Env.know, Env.boxed, isSelf, convSelf, convV, loadV, storeV, fieldAddrV, fieldV, indexAddrV, indexV, partV, isAggK, isStr, place, ipS, lenV, min2V, makeV, freshSl, sliceV, boundOr, bound, bounds, cutFl, copyV, slCells, srcV, appendV, room, zerosOf, eqNeg, kd, takeR, hasViewL, hasView, freshR, freshC, snapAll, snap, snapL, flatL, pureL, pureA, fillC, arrOK, oneA, partB, AV.laid, ren1, CR.gr, applyW, useL, AS.mute, isGen, startG, ev5, tbUe0, glob, Nat.reduceMod, hs]
    exact ResQ.same rfl
  · cases hr
def whK (h l : BitVec 64) : Nat → List (BitVec 8)
  | 0 => List.replicate 16 0#8
  | k + 1 => ((whK h l k).set k (BitVec.ofNat 8 (h >>> (56 - 8 * k)).toNat)).set (k + 8) (BitVec.ofNat 8 (l >>> (56 - 8 * k)).toNat)
def pf157 : List AV → Option AV
  | [v, w] => (num? .u64 64 v).bind fun h => (num? .u64 64 w).bind fun l => some (.agg (nums .u8 (whK h l 8)))
  | _ => none
set_option maxRecDepth 20000 in
theorem sound157 : SoundV Tryd.prog glob 157 pf157 := by
  refine SoundV.walkY E0 [(0, 9)] ok0 mixed Tryd.func157 rfl Tryd.call157 (by kernel_rfl) ?_
  intro args r hr
  unfold pf157 at hr
  split at hr
  · rename_i v w
    simp only [Option.bind_eq_some_iff] at hr
    obtain ⟨h, h1, l, h2, hr⟩ := hr
    cases hr
    rw [num?_of h1, num?_of h2, Tryd.ntmps157, Tryd.results157]
    refine ⟨by simp, ?_⟩
    simp (maxSteps := 1000000) (disch := first | omega | (simp only [nums_len, lnB] <;> omega) | fail) only [ev0, ev1, ev2, ev3, ↓reduceIte, reduceCtorEq, Nat.reduceAdd, Nat.reduceSub, Nat.reduceMul, Nat.reduceLT, Nat.reduceLeDiff, Nat.reduceEqDiff, Nat.reduceBEq, BitVec.reduceOfInt, Int.reduceLE, Int.reduceLT, Int.reduceGT, Int.reduceGE, Int.reduceNeg, Int.reduceAdd, Int.reduceSub, Int.reduceMul, Int.reduceToNat, ↓bind_go, ↓map_go, wantedV, isWrite, grow, write, ofV, AV.cells, Abs.start, Abs.strip, endQ, resV, rawsRes, rawRes, exports, export1, AS.grown, AS.put, Env.know, Env.boxed, isSelf, convSelf, convV, loadV, storeV, fieldAddrV, fieldV, indexAddrV, indexV, partV, isAggK, isStr, place, ipS, lenV, min2V, makeV, freshSl, sliceV, boundOr, bound, bounds, cutFl, copyV, slCells, srcV, appendV, room, zerosOf, eqNeg, kd, takeR, hasViewL, hasView, freshR, freshC, snapAll, snap, snapL, flatL, pureL, pureA, fillC, arrOK, oneA, partB, AV.laid, ren1, CR.gr, applyW, useL, AS.mute, isGen, startG, ev5, tbUe0, glob, Nat.reduceMod]
    exact ResQ.same rfl
  · cases hr
theorem whK_len (h l : BitVec 64) (k : Nat) : (whK h l k).length = 16 := by
  induction k with
  | zero => rfl
  | succ k ih => simp [whK, ih]
noncomputable def E3 : Env := (E0.know 156 pf156).know 157 pf157
theorem ok3 : EnvOK Tryd.prog E3 := (ok0.know sound156).know sound157
theorem E3_te : E3.te = te := rfl
theorem E3_glob : E3.glob = glob := rfl
theorem E3_gs : E3.gs = [] := rfl
theorem E3_dyn : E3.dyn = false := rfl
theorem E3_mu (d : Nat) : E3.mu d = false := rfl
theorem E3_h : E3.tbl 156 = some (.val pf156) := rfl
theorem E3_w : E3.tbl 157 = some (.val pf157) := rfl
theorem halves_at {b : List (BitVec 8)} (h : b.length = 16) : pf156 [.agg (nums .u8 b)] = some (.tup [.raw (.int .u64 ((hiK b 8).toNat : Int)), .raw (.int .u64 ((loK b 8).toNat : Int))]) := by
  simp only [pf156, agg?_at h, Option.bind_some]
theorem whole_at {h l : BitVec 64} : pf157 [.raw (.int .u64 (h.toNat : Int)), .raw (.int .u64 (l.toNat : Int))] = some (.agg (nums .u8 (whK h l 8))) := by
  simp only [pf157, num?_num, Option.bind_some]
structure MS where
  zh : BitVec 64
  zl : BitVec 64
  bh : BitVec 64
  bl : BitVec 64
def mulT (w : BitVec 64) (k : Nat) (m : MS) : MS :=
  ⟨m.zh ^^^ m.bh &&& BitVec.ofInt 64 (0 - ((w >>> (63 - k % 64) &&& 1#64).toNat : Int)),
   m.zl ^^^ m.bl &&& BitVec.ofInt 64 (0 - ((w >>> (63 - k % 64) &&& 1#64).toNat : Int)),
   m.bh >>> 1 ^^^ 16212958658533785600#64 &&& BitVec.ofInt 64 (0 - ((m.bl &&& 1#64).toNat : Int)),
   m.bl >>> 1 ||| m.bh <<< 63⟩
def mulS (ah al : BitVec 64) (k : Nat) (m : MS) : MS := mulT (if 64 ≤ k then al else ah) k m
def mulK (ah al bh bl : BitVec 64) : Nat → MS
  | 0 => ⟨0#64, 0#64, bh, bl⟩
  | k + 1 => mulS ah al k (mulK ah al bh bl k)
def mulB (a b : List (BitVec 8)) : List (BitVec 8) := let m := mulK (hiK a 8) (loK a 8) (hiK b 8) (loK b 8) 128; whK m.zh m.zl 8
def pf135 : List AV → Option AV
  | [v, w] => (agg? .u8 8 16 v).bind fun a => (agg? .u8 8 16 w).bind fun b => some (.agg (nums .u8 (mulB a b)))
  | _ => none
def tbUe1 := (And.intro (And.intro (And.intro @teE (And.intro @evY @E3_te)) (And.intro (And.intro @E3_glob @E3_gs) (And.intro @E3_dyn @E3_mu))) (And.intro (And.intro (And.intro @E3_h @E3_w) (And.intro @halves_at @whole_at)) (And.intro (And.intro @nums_strip @nums_set8) (And.intro @getD_set8 @whK_len))))
theorem sound135 : SoundV Tryd.prog glob 135 pf135 := by
  refine SoundV.walkY E3 [] ok3 mixed Tryd.func135 rfl Tryd.call135 (by kernel_rfl) ?_
  intro args r hr
  unfold pf135 at hr
  split at hr
  · rename_i v w
    simp only [Option.bind_eq_some_iff] at hr
    obtain ⟨a, h1, b, h2, hr⟩ := hr
    cases hr
    obtain ⟨rfl, ha⟩ := agg?_of h1
    obtain ⟨rfl, hb⟩ := agg?_of h2
    rw [Tryd.ntmps135, Tryd.results135]
    refine ⟨by simp, ?_⟩
    have hM : mulB a b = whK (mulK (hiK a 8) (loK a 8) (hiK b 8) (loK b 8) 128).zh (mulK (hiK a 8) (loK a 8) (hiK b 8) (loK b 8) 128).zl 8 := rfl
    rw [hM]
    simp (maxSteps := 1000000) (disch := first | omega | (simp only [whK_len, lnB] <;> omega) | fail) only [ev0, ev1, ev2, ev3, ↓reduceIte, reduceCtorEq, Nat.reduceAdd, Nat.reduceSub, Nat.reduceMul, Nat.reduceLT, Nat.reduceLeDiff, Nat.reduceEqDiff, Nat.reduceBEq, BitVec.reduceOfInt, Int.reduceLE, Int.reduceLT, Int.reduceGT, Int.reduceGE, Int.reduceNeg, Int.reduceAdd, Int.reduceSub, Int.reduceMul, Int.reduceToNat, ↓bind_go, ↓map_go, wantedV, isWrite, grow, write, ofV, AV.cells, Abs.start, Abs.strip, endQ, resV, rawsRes, rawRes, exports, export1, AS.grown, AS.put, Env.know, Env.boxed, isSelf, convSelf, convV, loadV, storeV, fieldAddrV, fieldV, indexAddrV, indexV, partV, isAggK, isStr, place, ipS, lenV, min2V, makeV, freshSl, sliceV, boundOr, bound, bounds, cutFl, copyV, slCells, srcV, appendV, room, zerosOf, eqNeg, kd, takeR, hasViewL, hasView, freshR, freshC, snapAll, snap, snapL, flatL, pureL, pureA, fillC, arrOK, oneA, partB, AV.laid, ren1, CR.gr, applyW, useL, AS.mute, isGen, startG, ev5, tbUe1, glob, Nat.reduceMod, ha, hb]
    generalize hiK a 8 = ah
    generalize loK a 8 = al
    generalize hiK b 8 = bh
    generalize loK b 8 = bl
    refine loopQ_of (fun n σ => ∃ k, k ≤ 128 ∧ n = 128 - k ∧ σ.slots 25 = .raw (.int .i64 (k : Int)) ∧ σ.slots 5 = .raw (.int .u64 (ah.toNat : Int)) ∧ σ.slots 6 = .raw (.int .u64 (al.toNat : Int)) ∧ σ.slots 7 = .raw (.int .u64 ((mulK ah al bh bl k).bh.toNat : Int)) ∧ σ.slots 8 = .raw (.int .u64 ((mulK ah al bh bl k).bl.toNat : Int)) ∧ σ.slots 9 = .raw (.int .u64 ((mulK ah al bh bl k).zh.toNat : Int)) ∧ σ.slots 10 = .raw (.int .u64 ((mulK ah al bh bl k).zl.toNat : Int)) ∧ σ.slots 4 = .ptr (.own 0 4 1) 0 ∧ σ.box (.own 0 4 1) = some (nums .u8 (List.replicate 16 0#8))) 128 ?_ ?_
    · refine ⟨0, by omega, by omega, ?_⟩
      simp (maxSteps := 1000000) (disch := first | omega | (simp only [whK_len, lnB] <;> omega) | fail) only [ev0, ev1, ev2, ev3, ↓reduceIte, reduceCtorEq, Nat.reduceAdd, Nat.reduceSub, Nat.reduceMul, Nat.reduceLT, Nat.reduceLeDiff, Nat.reduceEqDiff, Nat.reduceBEq, BitVec.reduceOfInt, Int.reduceLE, Int.reduceLT, Int.reduceGT, Int.reduceGE, Int.reduceNeg, Int.reduceAdd, Int.reduceSub, Int.reduceMul, Int.reduceToNat, ↓bind_go, ↓map_go, wantedV, isWrite, grow, write, ofV, AV.cells, Abs.start, Abs.strip, endQ, resV, rawsRes, rawRes, exports, export1, AS.grown, AS.put, Env.know, Env.boxed, isSelf, convSelf, convV, loadV, storeV, fieldAddrV, fieldV, indexAddrV, indexV, partV, isAggK, isStr, place, ipS, lenV, min2V, makeV, freshSl, sliceV, boundOr, bound, bounds, cutFl, copyV, slCells, srcV, appendV, room, zerosOf, eqNeg, kd, takeR, hasViewL, hasView, freshR, freshC, snapAll, snap, snapL, flatL, pureL, pureA, fillC, arrOK, oneA, partB, AV.laid, ren1, CR.gr, applyW, useL, AS.mute, isGen, startG, ev5, tbUe1, glob, Nat.reduceMod]
      exact ⟨rfl, rfl, rfl, rfl, rfl⟩
    · rintro n ⟨sl, gn, bx, us⟩ ⟨k, hk, rfl, s25, s5, s6, s7, s8, s9, s10, s4, hbx⟩
      dsimp only at s25 s5 s6 s7 s8 s9 s10 s4 hbx
      have hS : mulK ah al bh bl (k + 1) = mulS ah al k (mulK ah al bh bl k) := rfl
      generalize hm : mulK ah al bh bl k = m at s7 s8 s9 s10 hS
      simp (maxSteps := 1000000) (disch := first | omega | (simp only [whK_len, lnB] <;> omega) | fail) only [ev0, ev1, ev2, ev3, ↓reduceIte, reduceCtorEq, Nat.reduceAdd, Nat.reduceSub, Nat.reduceMul, Nat.reduceLT, Nat.reduceLeDiff, Nat.reduceEqDiff, Nat.reduceBEq, BitVec.reduceOfInt, Int.reduceLE, Int.reduceLT, Int.reduceGT, Int.reduceGE, Int.reduceNeg, Int.reduceAdd, Int.reduceSub, Int.reduceMul, Int.reduceToNat, ↓bind_go, ↓map_go, wantedV, isWrite, grow, write, ofV, AV.cells, Abs.start, Abs.strip, endQ, resV, rawsRes, rawRes, exports, export1, AS.grown, AS.put, Env.know, Env.boxed, isSelf, convSelf, convV, loadV, storeV, fieldAddrV, fieldV, indexAddrV, indexV, partV, isAggK, isStr, place, ipS, lenV, min2V, makeV, freshSl, sliceV, boundOr, bound, bounds, cutFl, copyV, slCells, srcV, appendV, room, zerosOf, eqNeg, kd, takeR, hasViewL, hasView, freshR, freshC, snapAll, snap, snapL, flatL, pureL, pureA, fillC, arrOK, oneA, partB, AV.laid, ren1, CR.gr, applyW, useL, AS.mute, isGen, startG, ev5, tbUe1, glob, Nat.reduceMod, s25, s5, s6, s7, s8, s9, s10, s4, hbx]
      refine condQ_dec (fun hlt => ?_) (fun hge => ?_)
      · have hlt : k < 128 := by omega
        simp (maxSteps := 1000000) (disch := first | omega | (simp only [whK_len, lnB] <;> omega) | fail) only [ev0, ev1, ev2, ev3, ↓reduceIte, reduceCtorEq, Nat.reduceAdd, Nat.reduceSub, Nat.reduceMul, Nat.reduceLT, Nat.reduceLeDiff, Nat.reduceEqDiff, Nat.reduceBEq, BitVec.reduceOfInt, Int.reduceLE, Int.reduceLT, Int.reduceGT, Int.reduceGE, Int.reduceNeg, Int.reduceAdd, Int.reduceSub, Int.reduceMul, Int.reduceToNat, ↓bind_go, ↓map_go, wantedV, isWrite, grow, write, ofV, AV.cells, Abs.start, Abs.strip, endQ, resV, rawsRes, rawRes, exports, export1, AS.grown, AS.put, Env.know, Env.boxed, isSelf, convSelf, convV, loadV, storeV, fieldAddrV, fieldV, indexAddrV, indexV, partV, isAggK, isStr, place, ipS, lenV, min2V, makeV, freshSl, sliceV, boundOr, bound, bounds, cutFl, copyV, slCells, srcV, appendV, room, zerosOf, eqNeg, kd, takeR, hasViewL, hasView, freshR, freshC, snapAll, snap, snapL, flatL, pureL, pureA, fillC, arrOK, oneA, partB, AV.laid, ren1, CR.gr, applyW, useL, AS.mute, isGen, startG, ev5, tbUe1, glob, Nat.reduceMod, s25, s5, s6, s7, s8, s9, s10, s4, hbx]
        refine condQ_dec (fun h64 => ?_) (fun h64 => ?_)
        · simp (maxSteps := 1000000) (disch := first | omega | (simp only [whK_len, lnB] <;> omega) | fail) only [ev0, ev1, ev2, ev3, ↓reduceIte, reduceCtorEq, Nat.reduceAdd, Nat.reduceSub, Nat.reduceMul, Nat.reduceLT, Nat.reduceLeDiff, Nat.reduceEqDiff, Nat.reduceBEq, BitVec.reduceOfInt, Int.reduceLE, Int.reduceLT, Int.reduceGT, Int.reduceGE, Int.reduceNeg, Int.reduceAdd, Int.reduceSub, Int.reduceMul, Int.reduceToNat, ↓bind_go, ↓map_go, wantedV, isWrite, grow, write, ofV, AV.cells, Abs.start, Abs.strip, endQ, resV, rawsRes, rawRes, exports, export1, AS.grown, AS.put, Env.know, Env.boxed, isSelf, convSelf, convV, loadV, storeV, fieldAddrV, fieldV, indexAddrV, indexV, partV, isAggK, isStr, place, ipS, lenV, min2V, makeV, freshSl, sliceV, boundOr, bound, bounds, cutFl, copyV, slCells, srcV, appendV, room, zerosOf, eqNeg, kd, takeR, hasViewL, hasView, freshR, freshC, snapAll, snap, snapL, flatL, pureL, pureA, fillC, arrOK, oneA, partB, AV.laid, ren1, CR.gr, applyW, useL, AS.mute, isGen, startG, ev5, tbUe1, glob, Nat.reduceMod, s25, s5, s6, s7, s8, s9, s10, s4, hbx]
          refine ⟨128 - (k + 1), by omega, k + 1, by omega, rfl, ?_⟩
          rw [hS, show mulS ah al k m = mulT al k m by rw [mulS, if_pos (show 64 ≤ k by omega)]]
          repeat' first | exact rfl | refine ⟨?_, ?_⟩
        · simp (maxSteps := 1000000) (disch := first | omega | (simp only [whK_len, lnB] <;> omega) | fail) only [ev0, ev1, ev2, ev3, ↓reduceIte, reduceCtorEq, Nat.reduceAdd, Nat.reduceSub, Nat.reduceMul, Nat.reduceLT, Nat.reduceLeDiff, Nat.reduceEqDiff, Nat.reduceBEq, BitVec.reduceOfInt, Int.reduceLE, Int.reduceLT, Int.reduceGT, Int.reduceGE, Int.reduceNeg, Int.reduceAdd, Int.reduceSub, Int.reduceMul, Int.reduceToNat, ↓bind_go, ↓map_go, wantedV, isWrite, grow, write, ofV, AV.cells, Abs.start, Abs.strip, endQ, resV, rawsRes, rawRes, exports, export1, AS.grown, AS.put, Env.know, Env.boxed, isSelf, convSelf, convV, loadV, storeV, fieldAddrV, fieldV, indexAddrV, indexV, partV, isAggK, isStr, place, ipS, lenV, min2V, makeV, freshSl, sliceV, boundOr, bound, bounds, cutFl, copyV, slCells, srcV, appendV, room, zerosOf, eqNeg, kd, takeR, hasViewL, hasView, freshR, freshC, snapAll, snap, snapL, flatL, pureL, pureA, fillC, arrOK, oneA, partB, AV.laid, ren1, CR.gr, applyW, useL, AS.mute, isGen, startG, ev5, tbUe1, glob, Nat.reduceMod, s25, s5, s6, s7, s8, s9, s10, s4, hbx]
          refine ⟨128 - (k + 1), by omega, k + 1, by omega, rfl, ?_⟩
          rw [hS, show mulS ah al k m = mulT ah k m by rw [mulS, if_neg (show ¬ 64 ≤ k by omega)]]
          repeat' first | exact rfl | refine ⟨?_, ?_⟩
      · have hk : k = 128 := by omega
        subst hk
        rw [hm]
        simp (maxSteps := 1000000) (disch := first | omega | (simp only [whK_len, lnB] <;> omega) | fail) only [ev0, ev1, ev2, ev3, ↓reduceIte, reduceCtorEq, Nat.reduceAdd, Nat.reduceSub, Nat.reduceMul, Nat.reduceLT, Nat.reduceLeDiff, Nat.reduceEqDiff, Nat.reduceBEq, BitVec.reduceOfInt, Int.reduceLE, Int.reduceLT, Int.reduceGT, Int.reduceGE, Int.reduceNeg, Int.reduceAdd, Int.reduceSub, Int.reduceMul, Int.reduceToNat, ↓bind_go, ↓map_go, wantedV, isWrite, grow, write, ofV, AV.cells, Abs.start, Abs.strip, endQ, resV, rawsRes, rawRes, exports, export1, AS.grown, AS.put, Env.know, Env.boxed, isSelf, convSelf, convV, loadV, storeV, fieldAddrV, fieldV, indexAddrV, indexV, partV, isAggK, isStr, place, ipS, lenV, min2V, makeV, freshSl, sliceV, boundOr, bound, bounds, cutFl, copyV, slCells, srcV, appendV, room, zerosOf, eqNeg, kd, takeR, hasViewL, hasView, freshR, freshC, snapAll, snap, snapL, flatL, pureL, pureA, fillC, arrOK, oneA, partB, AV.laid, ren1, CR.gr, applyW, useL, AS.mute, isGen, startG, ev5, tbUe1, glob, Nat.reduceMod, s25, s5, s6, s7, s8, s9, s10, s4, hbx]
        exact ResQ.same rfl
  · cases hr
end Go.Proofs.YtddeffdgldjdjaaDoor
