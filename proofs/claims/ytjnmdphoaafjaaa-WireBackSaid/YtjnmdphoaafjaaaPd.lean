/- A number is taken from the front of bytes: what the walks come to. -/
import Derived.Test.YtjnmdphoaafjaaaPc
namespace Go.Proofs.Ytjnmdphoaafjaaa
set_option linter.unusedSimpArgs false
set_option linter.unusedVariables false
set_option linter.defProp false
open Go Go.Abs

theorem wrap_u8i (c : BitVec 8) : IntKind.i64.wrap (c.toNat : Int) = (c.toNat : Int) := by
  have := c.isLt
  exact i64_is _ (by omega)
def accF (l : List (BitVec 8)) : Nat → BitVec 64
  | 0 => 0#64
  | k + 1 => accF l k <<< 8 ||| BitVec.ofNat 64 (l.getD k 0#8).toNat
def tkS (b : List (BitVec 8)) : Nat := (b.getD 0 0#8).toNat
def tkX (b : List (BitVec 8)) : BitVec 64 := accF ((b.drop 1).take (tkS b)) (tkS b)
def tkE (b : List (BitVec 8)) : Nat :=
  if b.length = 0 then 3 else if tkS b > 8 then 80 else if b.length < 1 + tkS b then 3 else if (tkX b).toInt < 0 ∨ need (tkX b).toNat ≠ tkS b then 80 else 0
def tkN (b : List (BitVec 8)) : Nat := if tkE b = 0 then (tkX b).toNat else 0
def tkR (b : List (BitVec 8)) : List (BitVec 8) := if tkE b = 0 then b.drop (1 + tkS b) else []
def pf147 : List AV → Option AV
  | [v] => (row? .u8 8 v).bind fun b => if b.length ≤ 150000000000000 then some (.tup [.raw (.int .i64 (tkN b : Int)), .sl (tkR b).length (nums .u8 (tkR b)) .bor, .raw (.int .i64 (tkE b : Int))]) else none
  | _ => none
theorem resQ_3nil {u v : Value} : ResQ (some (.tup [.raw u, .raw (.slice none 0 0), .raw v])) (.tup [.raw u, .sl 0 [] .bor, .raw v]) :=
  ⟨_, rfl, .tup rfl fun j x r hx hr => by
    match j with
    | 0 => simp at hx hr; subst hx hr; exact .same _ _
    | 1 => simp at hx hr; subst hx hr; exact .nilb _
    | 2 => simp at hx hr; subst hx hr; exact .same _ _
    | j + 3 => simp at hx⟩
theorem resQ_3 {u v : Value} {n : Nat} {xs : List AV} {fl : Fl} : ResQ (some (.tup [.raw u, .sl n xs fl, .raw v])) (.tup [.raw u, .sl n xs .bor, .raw v]) :=
  ⟨_, rfl, .tup rfl fun j x r hx hr => by
    match j with
    | 0 => simp at hx hr; subst hx hr; exact .same _ _
    | 1 => simp at hx hr; subst hx hr; exact .bor _ _ _ _
    | 2 => simp at hx hr; subst hx hr; exact .same _ _
    | j + 3 => simp at hx⟩
theorem tk_no {b : List (BitVec 8)} {e : Nat} (h : tkE b = e) (h0 : e ≠ 0) : AV.tup [.raw (.int .i64 (tkN b : Int)), .sl (tkR b).length (nums .u8 (tkR b)) .bor, .raw (.int .i64 (tkE b : Int))] = .tup [.raw (.int .i64 0), .sl 0 [] .bor, .raw (.int .i64 (e : Int))] := by
  have h1 : tkN b = 0 := by rw [tkN, if_neg (by omega)]
  have h2 : tkR b = [] := by rw [tkR, if_neg (by omega)]
  rw [h1, h2, h]
  rfl

theorem z00 : (((0 : Nat) : Int) == 0) = true := rfl
theorem ne_cast (a b : Nat) : ((a : Int) != (b : Int)) = decide (a ≠ b) := by
  by_cases h : a = b
  · subst h; simp
  · have : ¬ ((a : Int) = (b : Int)) := by omega
    simp [h, this]
set_option maxHeartbeats 4000000
def tbPd0 := (And.intro (And.intro (And.intro @teE (And.intro @E2_te @E2_gs)) (And.intro (And.intro @E2_dyn @E2_glob) (And.intro @E2_mu @E2_146))) (And.intro (And.intro @E2_69 (And.intro @E2_130 @pf69_at)) (And.intro (And.intro @pf155_nat @pf130_at) (And.intro @need_int @wrap_u8i))))
theorem sound147 : SoundV Try.prog glob 147 pf147 := by
  refine SoundV.walk E2 ok2 mixed Try.func147 rfl Try.call147 (by kernel_rfl) ?_
  intro args r hr
  unfold pf147 at hr
  split at hr
  · simp only [Option.bind_eq_some_iff] at hr
    obtain ⟨b, h1, hr⟩ := hr
    split at hr
    · rename_i hc
      cases hr
      obtain ⟨fl, rfl⟩ := row?_of h1
      rw [Try.ntmps147, Try.results147]
      refine ⟨by simp, ?_⟩
      have hE : tkE b = if b.length = 0 then 3 else if tkS b > 8 then 80 else if b.length < 1 + tkS b then 3 else if (tkX b).toInt < 0 ∨ need (tkX b).toNat ≠ tkS b then 80 else 0 := rfl
      by_cases c0 : b.length = 0
      · rw [if_pos c0] at hE
        rw [tk_no hE (by decide)]
        simp (maxSteps := 1000000) (disch := first | omega | (simp only [nums_len, lnB] <;> omega) | fail) only [ev0, ev1, ev2, ev3, ↓reduceIte, reduceCtorEq, Nat.reduceAdd, Nat.reduceSub, Nat.reduceMul, Nat.reduceLT, Nat.reduceLeDiff, Nat.reduceEqDiff, Nat.reduceBEq, BitVec.reduceOfInt, Int.reduceLE, Int.reduceLT, Int.reduceGT, Int.reduceGE, Int.reduceNeg, Int.reduceAdd, Int.reduceSub, Int.reduceMul, Int.reduceToNat, ↓bind_go, ↓map_go, wantedV, isWrite, grow, write, ofV, AV.cells, Abs.start, Abs.strip, endQ, resV, rawsRes, rawRes, exports, export1, AS.grown, AS.put, Env.know, Env.boxed, isSelf, convSelf, convV, loadV, storeV, fieldAddrV, fieldV, indexAddrV, indexV, partV, isAggK, isStr, place, lenV, min2V, makeV, freshSl, sliceV, boundOr, bound, bounds, cutFl, copyV, slCells, srcV, appendV, room, zerosOf, eqNeg, kd, takeR, hasViewL, hasView, freshR, freshC, snapAll, snap, snapL, flatL, pureL, pureA, fillC, arrOK, oneA, partB, AV.laid, ren1, CR.gr, applyW, useL, AS.mute, isGen, startG, ev5, tbPd0, glob, c0, z00]
        exact resQ_3nil
      · rw [if_neg c0] at hE
        have c0' : ((b.length : Int) == 0) = false := by rw [beq_eq_false_iff_ne]; omega
        have hS : (b.getD 0 0#8).toNat = tkS b := rfl
        simp (maxSteps := 1000000) (disch := first | omega | (simp only [nums_len, lnB] <;> omega) | fail) only [ev0, ev1, ev2, ev3, ↓reduceIte, reduceCtorEq, Nat.reduceAdd, Nat.reduceSub, Nat.reduceMul, Nat.reduceLT, Nat.reduceLeDiff, Nat.reduceEqDiff, Nat.reduceBEq, BitVec.reduceOfInt, Int.reduceLE, Int.reduceLT, Int.reduceGT, Int.reduceGE, Int.reduceNeg, Int.reduceAdd, Int.reduceSub, Int.reduceMul, Int.reduceToNat, ↓bind_go, ↓map_go, wantedV, isWrite, grow, write, ofV, AV.cells, Abs.start, Abs.strip, endQ, resV, rawsRes, rawRes, exports, export1, AS.grown, AS.put, Env.know, Env.boxed, isSelf, convSelf, convV, loadV, storeV, fieldAddrV, fieldV, indexAddrV, indexV, partV, isAggK, isStr, place, lenV, min2V, makeV, freshSl, sliceV, boundOr, bound, bounds, cutFl, copyV, slCells, srcV, appendV, room, zerosOf, eqNeg, kd, takeR, hasViewL, hasView, freshR, freshC, snapAll, snap, snapL, flatL, pureL, pureA, fillC, arrOK, oneA, partB, AV.laid, ren1, CR.gr, applyW, useL, AS.mute, isGen, startG, ev5, tbPd0, glob, c0', hS]
        refine condQ_dec (fun c1 => ?_) (fun c1 => ?_)
        · rw [if_pos (by omega)] at hE
          rw [tk_no hE (by decide)]
          simp (maxSteps := 1000000) (disch := first | omega | (simp only [nums_len, lnB] <;> omega) | fail) only [ev0, ev1, ev2, ev3, ↓reduceIte, reduceCtorEq, Nat.reduceAdd, Nat.reduceSub, Nat.reduceMul, Nat.reduceLT, Nat.reduceLeDiff, Nat.reduceEqDiff, Nat.reduceBEq, BitVec.reduceOfInt, Int.reduceLE, Int.reduceLT, Int.reduceGT, Int.reduceGE, Int.reduceNeg, Int.reduceAdd, Int.reduceSub, Int.reduceMul, Int.reduceToNat, ↓bind_go, ↓map_go, wantedV, isWrite, grow, write, ofV, AV.cells, Abs.start, Abs.strip, endQ, resV, rawsRes, rawRes, exports, export1, AS.grown, AS.put, Env.know, Env.boxed, isSelf, convSelf, convV, loadV, storeV, fieldAddrV, fieldV, indexAddrV, indexV, partV, isAggK, isStr, place, lenV, min2V, makeV, freshSl, sliceV, boundOr, bound, bounds, cutFl, copyV, slCells, srcV, appendV, room, zerosOf, eqNeg, kd, takeR, hasViewL, hasView, freshR, freshC, snapAll, snap, snapL, flatL, pureL, pureA, fillC, arrOK, oneA, partB, AV.laid, ren1, CR.gr, applyW, useL, AS.mute, isGen, startG, ev5, tbPd0, glob]
          exact resQ_3nil
        · have c1 : ¬ tkS b > 8 := by omega
          rw [if_neg c1] at hE
          simp (maxSteps := 1000000) (disch := first | omega | (simp only [nums_len, lnB] <;> omega) | fail) only [ev0, ev1, ev2, ev3, ↓reduceIte, reduceCtorEq, Nat.reduceAdd, Nat.reduceSub, Nat.reduceMul, Nat.reduceLT, Nat.reduceLeDiff, Nat.reduceEqDiff, Nat.reduceBEq, BitVec.reduceOfInt, Int.reduceLE, Int.reduceLT, Int.reduceGT, Int.reduceGE, Int.reduceNeg, Int.reduceAdd, Int.reduceSub, Int.reduceMul, Int.reduceToNat, ↓bind_go, ↓map_go, wantedV, isWrite, grow, write, ofV, AV.cells, Abs.start, Abs.strip, endQ, resV, rawsRes, rawRes, exports, export1, AS.grown, AS.put, Env.know, Env.boxed, isSelf, convSelf, convV, loadV, storeV, fieldAddrV, fieldV, indexAddrV, indexV, partV, isAggK, isStr, place, lenV, min2V, makeV, freshSl, sliceV, boundOr, bound, bounds, cutFl, copyV, slCells, srcV, appendV, room, zerosOf, eqNeg, kd, takeR, hasViewL, hasView, freshR, freshC, snapAll, snap, snapL, flatL, pureL, pureA, fillC, arrOK, oneA, partB, AV.laid, ren1, CR.gr, applyW, useL, AS.mute, isGen, startG, ev5, tbPd0, glob]
          refine condQ_dec (fun c2 => ?_) (fun c2 => ?_)
          · rw [if_pos (by omega)] at hE
            rw [tk_no hE (by decide)]
            simp (maxSteps := 1000000) (disch := first | omega | (simp only [nums_len, lnB] <;> omega) | fail) only [ev0, ev1, ev2, ev3, ↓reduceIte, reduceCtorEq, Nat.reduceAdd, Nat.reduceSub, Nat.reduceMul, Nat.reduceLT, Nat.reduceLeDiff, Nat.reduceEqDiff, Nat.reduceBEq, BitVec.reduceOfInt, Int.reduceLE, Int.reduceLT, Int.reduceGT, Int.reduceGE, Int.reduceNeg, Int.reduceAdd, Int.reduceSub, Int.reduceMul, Int.reduceToNat, ↓bind_go, ↓map_go, wantedV, isWrite, grow, write, ofV, AV.cells, Abs.start, Abs.strip, endQ, resV, rawsRes, rawRes, exports, export1, AS.grown, AS.put, Env.know, Env.boxed, isSelf, convSelf, convV, loadV, storeV, fieldAddrV, fieldV, indexAddrV, indexV, partV, isAggK, isStr, place, lenV, min2V, makeV, freshSl, sliceV, boundOr, bound, bounds, cutFl, copyV, slCells, srcV, appendV, room, zerosOf, eqNeg, kd, takeR, hasViewL, hasView, freshR, freshC, snapAll, snap, snapL, flatL, pureL, pureA, fillC, arrOK, oneA, partB, AV.laid, ren1, CR.gr, applyW, useL, AS.mute, isGen, startG, ev5, tbPd0, glob]
            exact resQ_3nil
          · have c2 : ¬ b.length < 1 + tkS b := by omega
            rw [if_neg c2] at hE
            simp (maxSteps := 1000000) (disch := first | omega | (simp only [nums_len, lnB] <;> omega) | fail) only [ev0, ev1, ev2, ev3, ↓reduceIte, reduceCtorEq, Nat.reduceAdd, Nat.reduceSub, Nat.reduceMul, Nat.reduceLT, Nat.reduceLeDiff, Nat.reduceEqDiff, Nat.reduceBEq, BitVec.reduceOfInt, Int.reduceLE, Int.reduceLT, Int.reduceGT, Int.reduceGE, Int.reduceNeg, Int.reduceAdd, Int.reduceSub, Int.reduceMul, Int.reduceToNat, ↓bind_go, ↓map_go, wantedV, isWrite, grow, write, ofV, AV.cells, Abs.start, Abs.strip, endQ, resV, rawsRes, rawRes, exports, export1, AS.grown, AS.put, Env.know, Env.boxed, isSelf, convSelf, convV, loadV, storeV, fieldAddrV, fieldV, indexAddrV, indexV, partV, isAggK, isStr, place, lenV, min2V, makeV, freshSl, sliceV, boundOr, bound, bounds, cutFl, copyV, slCells, srcV, appendV, room, zerosOf, eqNeg, kd, takeR, hasViewL, hasView, freshR, freshC, snapAll, snap, snapL, flatL, pureL, pureA, fillC, arrOK, oneA, partB, AV.laid, ren1, CR.gr, applyW, useL, AS.mute, isGen, startG, ev5, tbPd0, glob]
            have hX : accF ((b.drop 1).take (tkS b)) (tkS b) = tkX b := rfl
            have lL : ((b.drop 1).take (tkS b)).length = tkS b := by rw [List.length_take, List.length_drop]; omega
            have hL : (b.drop 1).take (1 + tkS b - 1) = (b.drop 1).take (tkS b) := by rw [show 1 + tkS b - 1 = tkS b by omega]
            rw [hL]
            generalize hl : (b.drop 1).take (tkS b) = L at hX lL ⊢
            refine loopQ_of (fun n σ => ∃ k, k ≤ tkS b ∧ n = tkS b - k ∧ σ.slots 30 = .raw (.int .i64 (k : Int)) ∧ σ.slots 29 = .raw (.int .i64 (tkS b : Int)) ∧ σ.slots 28 = .sl (tkS b) (nums .u8 L) .bor ∧ σ.slots 0 = .sl b.length (nums .u8 b) .bor ∧ σ.slots 5 = .raw (.int .i64 (tkS b : Int)) ∧ σ.slots 6 = .raw (.int .i64 (accF L k).toInt)) (tkS b) ?_ ?_
            · refine ⟨0, by omega, by omega, ?_⟩
              simp (maxSteps := 1000000) (disch := first | omega | (simp only [nums_len, lnB] <;> omega) | fail) only [ev0, ev1, ev2, ev3, ↓reduceIte, reduceCtorEq, Nat.reduceAdd, Nat.reduceSub, Nat.reduceMul, Nat.reduceLT, Nat.reduceLeDiff, Nat.reduceEqDiff, Nat.reduceBEq, BitVec.reduceOfInt, Int.reduceLE, Int.reduceLT, Int.reduceGT, Int.reduceGE, Int.reduceNeg, Int.reduceAdd, Int.reduceSub, Int.reduceMul, Int.reduceToNat, ↓bind_go, ↓map_go, wantedV, isWrite, grow, write, ofV, AV.cells, Abs.start, Abs.strip, endQ, resV, rawsRes, rawRes, exports, export1, AS.grown, AS.put, Env.know, Env.boxed, isSelf, convSelf, convV, loadV, storeV, fieldAddrV, fieldV, indexAddrV, indexV, partV, isAggK, isStr, place, lenV, min2V, makeV, freshSl, sliceV, boundOr, bound, bounds, cutFl, copyV, slCells, srcV, appendV, room, zerosOf, eqNeg, kd, takeR, hasViewL, hasView, freshR, freshC, snapAll, snap, snapL, flatL, pureL, pureA, fillC, arrOK, oneA, partB, AV.laid, ren1, CR.gr, applyW, useL, AS.mute, isGen, startG, ev5, tbPd0, glob]
              exact ⟨rfl, i64_eq (by omega), row_eq (by omega) rfl, rfl⟩
            · rintro n ⟨sl, gn, bx, us⟩ ⟨k, hk, rfl, s30, s29, s28, s0, s5, s6⟩
              dsimp only at s30 s29 s28 s0 s5 s6
              simp (maxSteps := 1000000) (disch := first | omega | (simp only [nums_len, lnB] <;> omega) | fail) only [ev0, ev1, ev2, ev3, ↓reduceIte, reduceCtorEq, Nat.reduceAdd, Nat.reduceSub, Nat.reduceMul, Nat.reduceLT, Nat.reduceLeDiff, Nat.reduceEqDiff, Nat.reduceBEq, BitVec.reduceOfInt, Int.reduceLE, Int.reduceLT, Int.reduceGT, Int.reduceGE, Int.reduceNeg, Int.reduceAdd, Int.reduceSub, Int.reduceMul, Int.reduceToNat, ↓bind_go, ↓map_go, wantedV, isWrite, grow, write, ofV, AV.cells, Abs.start, Abs.strip, endQ, resV, rawsRes, rawRes, exports, export1, AS.grown, AS.put, Env.know, Env.boxed, isSelf, convSelf, convV, loadV, storeV, fieldAddrV, fieldV, indexAddrV, indexV, partV, isAggK, isStr, place, lenV, min2V, makeV, freshSl, sliceV, boundOr, bound, bounds, cutFl, copyV, slCells, srcV, appendV, room, zerosOf, eqNeg, kd, takeR, hasViewL, hasView, freshR, freshC, snapAll, snap, snapL, flatL, pureL, pureA, fillC, arrOK, oneA, partB, AV.laid, ren1, CR.gr, applyW, useL, AS.mute, isGen, startG, ev5, tbPd0, glob, lL, s30, s29, s28, s0, s5, s6]
              refine condQ_dec (fun hlt => ?_) (fun hge => ?_)
              · have hlt : k < tkS b := by omega
                simp (maxSteps := 1000000) (disch := first | omega | (simp only [nums_len, lnB] <;> omega) | fail) only [ev0, ev1, ev2, ev3, ↓reduceIte, reduceCtorEq, Nat.reduceAdd, Nat.reduceSub, Nat.reduceMul, Nat.reduceLT, Nat.reduceLeDiff, Nat.reduceEqDiff, Nat.reduceBEq, BitVec.reduceOfInt, Int.reduceLE, Int.reduceLT, Int.reduceGT, Int.reduceGE, Int.reduceNeg, Int.reduceAdd, Int.reduceSub, Int.reduceMul, Int.reduceToNat, ↓bind_go, ↓map_go, wantedV, isWrite, grow, write, ofV, AV.cells, Abs.start, Abs.strip, endQ, resV, rawsRes, rawRes, exports, export1, AS.grown, AS.put, Env.know, Env.boxed, isSelf, convSelf, convV, loadV, storeV, fieldAddrV, fieldV, indexAddrV, indexV, partV, isAggK, isStr, place, lenV, min2V, makeV, freshSl, sliceV, boundOr, bound, bounds, cutFl, copyV, slCells, srcV, appendV, room, zerosOf, eqNeg, kd, takeR, hasViewL, hasView, freshR, freshC, snapAll, snap, snapL, flatL, pureL, pureA, fillC, arrOK, oneA, partB, AV.laid, ren1, CR.gr, applyW, useL, AS.mute, isGen, startG, ev5, tbPd0, glob, lL, s30, s29, s28, s0, s5, s6]
                exact ⟨tkS b - (k + 1), by omega, k + 1, by omega, rfl, rfl, rfl⟩
              · have hk : k = tkS b := by omega
                subst hk
                rw [hX] at s6
                have hx64 := (tkX b).isLt
                by_cases hneg : (tkX b).toInt < 0
                · rw [if_pos (.inl hneg)] at hE
                  rw [tk_no hE (by decide)]
                  simp (maxSteps := 1000000) (disch := first | omega | (simp only [nums_len, lnB] <;> omega) | fail) only [ev0, ev1, ev2, ev3, ↓reduceIte, reduceCtorEq, Nat.reduceAdd, Nat.reduceSub, Nat.reduceMul, Nat.reduceLT, Nat.reduceLeDiff, Nat.reduceEqDiff, Nat.reduceBEq, BitVec.reduceOfInt, Int.reduceLE, Int.reduceLT, Int.reduceGT, Int.reduceGE, Int.reduceNeg, Int.reduceAdd, Int.reduceSub, Int.reduceMul, Int.reduceToNat, ↓bind_go, ↓map_go, wantedV, isWrite, grow, write, ofV, AV.cells, Abs.start, Abs.strip, endQ, resV, rawsRes, rawRes, exports, export1, AS.grown, AS.put, Env.know, Env.boxed, isSelf, convSelf, convV, loadV, storeV, fieldAddrV, fieldV, indexAddrV, indexV, partV, isAggK, isStr, place, lenV, min2V, makeV, freshSl, sliceV, boundOr, bound, bounds, cutFl, copyV, slCells, srcV, appendV, room, zerosOf, eqNeg, kd, takeR, hasViewL, hasView, freshR, freshC, snapAll, snap, snapL, flatL, pureL, pureA, fillC, arrOK, oneA, partB, AV.laid, ren1, CR.gr, applyW, useL, AS.mute, isGen, startG, ev5, tbPd0, glob, lL, s30, s29, s28, s0, s5, s6, hneg]
                  exact resQ_3nil
                · by_cases hnd : need (tkX b).toNat ≠ tkS b
                  · rw [if_pos (.inr hnd)] at hE
                    rw [tk_no hE (by decide)]
                    have hb64 := blen_le _ hx64
                    have hndT := eq_true hnd
                    simp (maxSteps := 1000000) (disch := first | omega | (simp only [nums_len, lnB] <;> omega) | fail) only [ev0, ev1, ev2, ev3, ↓reduceIte, reduceCtorEq, Nat.reduceAdd, Nat.reduceSub, Nat.reduceMul, Nat.reduceLT, Nat.reduceLeDiff, Nat.reduceEqDiff, Nat.reduceBEq, BitVec.reduceOfInt, Int.reduceLE, Int.reduceLT, Int.reduceGT, Int.reduceGE, Int.reduceNeg, Int.reduceAdd, Int.reduceSub, Int.reduceMul, Int.reduceToNat, ↓bind_go, ↓map_go, wantedV, isWrite, grow, write, ofV, AV.cells, Abs.start, Abs.strip, endQ, resV, rawsRes, rawRes, exports, export1, AS.grown, AS.put, Env.know, Env.boxed, isSelf, convSelf, convV, loadV, storeV, fieldAddrV, fieldV, indexAddrV, indexV, partV, isAggK, isStr, place, lenV, min2V, makeV, freshSl, sliceV, boundOr, bound, bounds, cutFl, copyV, slCells, srcV, appendV, room, zerosOf, eqNeg, kd, takeR, hasViewL, hasView, freshR, freshC, snapAll, snap, snapL, flatL, pureL, pureA, fillC, arrOK, oneA, partB, AV.laid, ren1, CR.gr, applyW, useL, AS.mute, isGen, startG, ev5, tbPd0, glob, lL, s30, s29, s28, s0, s5, s6, hneg, ne_cast, hndT]
                    exact resQ_3nil
                  · rw [if_neg (by omega)] at hE
                    have hb64 := blen_le _ hx64
                    have hN : tkN b = (tkX b).toNat := by rw [tkN, if_pos hE]
                    have hR : tkR b = b.drop (1 + tkS b) := by rw [tkR, if_pos hE]
                    rw [hN, hR, hE]
                    have hnd' : need (tkX b).toNat = tkS b := by omega
                    have hti : (tkX b).toInt = ((tkX b).toNat : Int) := by
                      rw [BitVec.toInt_eq_toNat_cond] at hneg ⊢
                      split at hneg
                      · rename_i h2; rw [if_pos h2]
                      · omega
                    simp (maxSteps := 1000000) (disch := first | omega | (simp only [nums_len, lnB] <;> omega) | fail) only [ev0, ev1, ev2, ev3, ↓reduceIte, reduceCtorEq, Nat.reduceAdd, Nat.reduceSub, Nat.reduceMul, Nat.reduceLT, Nat.reduceLeDiff, Nat.reduceEqDiff, Nat.reduceBEq, BitVec.reduceOfInt, Int.reduceLE, Int.reduceLT, Int.reduceGT, Int.reduceGE, Int.reduceNeg, Int.reduceAdd, Int.reduceSub, Int.reduceMul, Int.reduceToNat, ↓bind_go, ↓map_go, wantedV, isWrite, grow, write, ofV, AV.cells, Abs.start, Abs.strip, endQ, resV, rawsRes, rawRes, exports, export1, AS.grown, AS.put, Env.know, Env.boxed, isSelf, convSelf, convV, loadV, storeV, fieldAddrV, fieldV, indexAddrV, indexV, partV, isAggK, isStr, place, lenV, min2V, makeV, freshSl, sliceV, boundOr, bound, bounds, cutFl, copyV, slCells, srcV, appendV, room, zerosOf, eqNeg, kd, takeR, hasViewL, hasView, freshR, freshC, snapAll, snap, snapL, flatL, pureL, pureA, fillC, arrOK, oneA, partB, AV.laid, ren1, CR.gr, applyW, useL, AS.mute, isGen, startG, ev5, tbPd0, glob, lL, s30, s29, s28, s0, s5, s6, hneg, ne_cast, hnd', ne_eq]
                    rw [hti]
                    exact resQ_3
    · cases hr
  · cases hr
end Go.Proofs.Ytjnmdphoaafjaaa
