/- Numbers are laid one behind the other; a command is written: what the walks come to. -/
import Derived.Test.YtjnmdphoaafjaaaPp
import Derived.Test.YtjnmdphoaafjaaaQl
namespace Go.Proofs.Ytjnmdphoaafjaaa
set_option linter.unusedSimpArgs false
set_option linter.unusedVariables false
set_option linter.defProp false
open Go Go.Abs
set_option maxHeartbeats 4000000
noncomputable def EW : Env := (((((((((((((((E7.know 131 (fun xs => pf147 (xs.map norm))).know 79 (fun xs => pf79 (xs.map norm))).know 82 (fun xs => pf79 (xs.map norm))).know 132 (fun xs => pf132 (xs.map norm))).know 88 (fun xs => pf132 (xs.map norm))).know 121 (fun xs => pf121 (xs.map norm))).know 122 (fun xs => pf121 (xs.map norm))).know 144 (fun xs => pf144 (xs.map norm))).know 125 (fun xs => pf144 (xs.map norm))).know 119 (fun xs => pf119 (xs.map norm))).know 129 (fun xs => pf129 (xs.map norm))).know 81 (fun xs => pf129 (xs.map norm))).know 87 (fun xs => pf147 (xs.map norm))).know 44 pf44).know 91 pf91)
theorem okW : EnvOK Try.prog EW := (((((((((((((((ok7.know sound131.norm).know sound79.norm).know sound82.norm).know sound132.norm).know sound88.norm).know sound121.norm).know sound122.norm).know sound144.norm).know sound125.norm).know sound119.norm).know sound129.norm).know sound81.norm).know sound87.norm).know sound44).know sound91)
theorem EW_te : EW.te = te := rfl
theorem EW_glob : EW.glob = glob := rfl
theorem EW_gs : EW.gs = [] := rfl
theorem EW_dyn : EW.dyn = false := rfl
theorem EW_mu (d : Nat) : EW.mu d = false := rfl
theorem EW_11 : EW.tbl 129 = some (.val (fun xs => pf129 (xs.map norm))) := rfl
theorem EW_12 : EW.tbl 81 = some (.val (fun xs => pf129 (xs.map norm))) := rfl
theorem EW_13 : EW.tbl 131 = some (.val (fun xs => pf147 (xs.map norm))) := rfl
theorem EW_14 : EW.tbl 87 = some (.val (fun xs => pf147 (xs.map norm))) := rfl
theorem EW_15 : EW.tbl 79 = some (.val (fun xs => pf79 (xs.map norm))) := rfl
theorem EW_16 : EW.tbl 82 = some (.val (fun xs => pf79 (xs.map norm))) := rfl
theorem EW_17 : EW.tbl 132 = some (.val (fun xs => pf132 (xs.map norm))) := rfl
theorem EW_18 : EW.tbl 88 = some (.val (fun xs => pf132 (xs.map norm))) := rfl
theorem EW_20 : EW.tbl 121 = some (.val (fun xs => pf121 (xs.map norm))) := rfl
theorem EW_21 : EW.tbl 122 = some (.val (fun xs => pf121 (xs.map norm))) := rfl
theorem EW_22 : EW.tbl 144 = some (.val (fun xs => pf144 (xs.map norm))) := rfl
theorem EW_23 : EW.tbl 125 = some (.val (fun xs => pf144 (xs.map norm))) := rfl
theorem EW_29 : EW.tbl 119 = some (.val (fun xs => pf119 (xs.map norm))) := rfl
theorem EW_chk : EW.tbl 44 = some (.val pf44) := rfl
theorem EW_w : EW.tbl 91 = some (.val pf91) := rfl
/-- k numbers one behind the other -/
def nmK (l : List Int) : Nat → List (BitVec 8)
  | 0 => []
  | k + 1 => putB (nmK l k) (l.getD k 0).toNat
def nmF (l : List Int) : List (BitVec 8) := nmK l l.length
theorem nmK_len (l : List Int) (hl : ∀ n ∈ l, i64ok n) (k : Nat) (hk : k ≤ l.length) : (nmK l k).length ≤ 9 * k := by
  induction k with
  | zero => exact Nat.le_refl _
  | succ k ih =>
    have := ih (by omega)
    have hm := hl _ (getD_mem (show k < l.length by omega))
    unfold i64ok at hm
    have := need_le (l.getD k 0).toNat (by omega)
    rw [nmK, putB_len]; omega
def posL (l : List Int) : Bool := l.all fun n => decide (0 ≤ n)
def pf80 : List AV → Option AV
  | [v] => (irow? v).bind fun l => if l.length ≤ 1000 ∧ posL l = true then some (.sl (nmF l).length (nums .u8 (nmF l)) .bor) else none
  | _ => none
def tbPq0 := (And.intro (And.intro (And.intro (And.intro @teE @EW_te) (And.intro @EW_glob (And.intro @EW_gs @EW_dyn))) (And.intro (And.intro @EW_mu (And.intro @EW_11 @EW_13)) (And.intro @EW_15 (And.intro @EW_17 @EW_20)))) (And.intro (And.intro (And.intro @EW_22 (And.intro @EW_29 @EW_12)) (And.intro @EW_14 (And.intro @EW_16 @EW_18))) (And.intro (And.intro @EW_21 (And.intro @EW_23 @EW_chk)) (And.intro @EW_w (And.intro @ev4 @pf129_at)))))
theorem sound80 : SoundV Try.prog glob 80 pf80 := by
  refine SoundV.walk EW okW mixed Try.func80 rfl Try.call80 (by kernel_rfl) ?_
  intro args r hr
  unfold pf80 at hr
  split at hr
  · simp only [Option.bind_eq_some_iff] at hr
    obtain ⟨l, h1, hr⟩ := hr
    split at hr
    · rename_i hc
      obtain ⟨hc, hp⟩ := hc
      cases hr
      obtain ⟨⟨fl, rfl⟩, hl⟩ := irow?_of h1
      rw [Try.ntmps80, Try.results80]
      refine ⟨by simp, ?_⟩
      have hpos : ∀ k, k < l.length → 0 ≤ l.getD k 0 := fun k hk => of_decide_eq_true (List.all_eq_true.1 hp _ (getD_mem hk))
      simp (maxSteps := 1000000) (disch := first | omega | (simp only [digF_len, putK_len, putB_len, lnB] <;> omega) | fail) only [ev0, ev1, ev2, ev3, ↓reduceIte, reduceCtorEq, Nat.reduceAdd, Nat.reduceSub, Nat.reduceMul, Nat.reduceLT, Nat.reduceLeDiff, Nat.reduceEqDiff, Nat.reduceBEq, BitVec.reduceOfInt, Int.reduceLE, Int.reduceLT, Int.reduceGT, Int.reduceGE, Int.reduceNeg, Int.reduceAdd, Int.reduceSub, Int.reduceMul, Int.reduceToNat, ↓bind_go, ↓map_go, wantedV, isWrite, grow, write, ofV, AV.cells, Abs.start, Abs.strip, endQ, resV, rawsRes, rawRes, exports, export1, AS.grown, AS.put, Env.know, Env.boxed, isSelf, convSelf, convV, loadV, storeV, fieldAddrV, fieldV, indexAddrV, indexV, partV, isAggK, isStr, place, lenV, min2V, makeV, freshSl, sliceV, boundOr, bound, bounds, cutFl, copyV, slCells, srcV, appendV, room, zerosOf, eqNeg, kd, takeR, hasViewL, hasView, freshR, freshC, snapAll, snap, snapL, flatL, pureL, pureA, fillC, arrOK, oneA, partB, AV.laid, ren1, CR.gr, applyW, useL, AS.mute, isGen, startG, ev5, tbPq0, glob]
      refine loopQ_wk _ (Wk.at (d := 3) (v := .sl 0 [] (.own ⟨0, 3, 0, 0⟩ 1)) (by simp (maxSteps := 1000000) (disch := first | omega | (simp only [digF_len, putK_len, putB_len, lnB] <;> omega) | fail) only [ev0, ev1, ev2, ev3, ↓reduceIte, reduceCtorEq, Nat.reduceAdd, Nat.reduceSub, Nat.reduceMul, Nat.reduceLT, Nat.reduceLeDiff, Nat.reduceEqDiff, Nat.reduceBEq, BitVec.reduceOfInt, Int.reduceLE, Int.reduceLT, Int.reduceGT, Int.reduceGE, Int.reduceNeg, Int.reduceAdd, Int.reduceSub, Int.reduceMul, Int.reduceToNat, ↓bind_go, ↓map_go, wantedV, isWrite, grow, write, ofV, AV.cells, Abs.start, Abs.strip, endQ, resV, rawsRes, rawRes, exports, export1, AS.grown, AS.put, Env.know, Env.boxed, isSelf, convSelf, convV, loadV, storeV, fieldAddrV, fieldV, indexAddrV, indexV, partV, isAggK, isStr, place, lenV, min2V, makeV, freshSl, sliceV, boundOr, bound, bounds, cutFl, copyV, slCells, srcV, appendV, room, zerosOf, eqNeg, kd, takeR, hasViewL, hasView, freshR, freshC, snapAll, snap, snapL, flatL, pureL, pureA, fillC, arrOK, oneA, partB, AV.laid, ren1, CR.gr, applyW, useL, AS.mute, isGen, startG, ev5, tbPq0, glob]; exact .nil 3 1)) (fun n σ => ∃ k i, k ≤ l.length ∧ n = l.length - k ∧ σ.slots 8 = .raw (.int .i64 (k : Int)) ∧ σ.slots 7 = .raw (.int .i64 (l.length : Int)) ∧ σ.slots 6 = .sl l.length (ints .i64 l) .bor ∧ σ.slots 3 = .sl (nmK l k).length (nums .u8 (nmK l k)) (.own i 1)) l.length ?_ ?_
      · refine ⟨0, ⟨0, 3, 0, 0⟩, by omega, by omega, ?_⟩
        simp (maxSteps := 1000000) (disch := first | omega | (simp only [digF_len, putK_len, putB_len, lnB] <;> omega) | fail) only [ev0, ev1, ev2, ev3, ↓reduceIte, reduceCtorEq, Nat.reduceAdd, Nat.reduceSub, Nat.reduceMul, Nat.reduceLT, Nat.reduceLeDiff, Nat.reduceEqDiff, Nat.reduceBEq, BitVec.reduceOfInt, Int.reduceLE, Int.reduceLT, Int.reduceGT, Int.reduceGE, Int.reduceNeg, Int.reduceAdd, Int.reduceSub, Int.reduceMul, Int.reduceToNat, ↓bind_go, ↓map_go, wantedV, isWrite, grow, write, ofV, AV.cells, Abs.start, Abs.strip, endQ, resV, rawsRes, rawRes, exports, export1, AS.grown, AS.put, Env.know, Env.boxed, isSelf, convSelf, convV, loadV, storeV, fieldAddrV, fieldV, indexAddrV, indexV, partV, isAggK, isStr, place, lenV, min2V, makeV, freshSl, sliceV, boundOr, bound, bounds, cutFl, copyV, slCells, srcV, appendV, room, zerosOf, eqNeg, kd, takeR, hasViewL, hasView, freshR, freshC, snapAll, snap, snapL, flatL, pureL, pureA, fillC, arrOK, oneA, partB, AV.laid, ren1, CR.gr, applyW, useL, AS.mute, isGen, startG, ev5, tbPq0, glob]
        exact ⟨rfl, rfl⟩
      · rintro n ⟨sl, gn, bx, us⟩ ⟨k, i, hk, rfl, sk, sn, s0, sb⟩
        dsimp only at sk sn s0 sb
        have lM := nmK_len l hl k hk
        generalize hM : nmK l k = M at sb lM
        simp (maxSteps := 1000000) (disch := first | omega | (simp only [digF_len, putK_len, putB_len, lnB] <;> omega) | fail) only [ev0, ev1, ev2, ev3, ↓reduceIte, reduceCtorEq, Nat.reduceAdd, Nat.reduceSub, Nat.reduceMul, Nat.reduceLT, Nat.reduceLeDiff, Nat.reduceEqDiff, Nat.reduceBEq, BitVec.reduceOfInt, Int.reduceLE, Int.reduceLT, Int.reduceGT, Int.reduceGE, Int.reduceNeg, Int.reduceAdd, Int.reduceSub, Int.reduceMul, Int.reduceToNat, ↓bind_go, ↓map_go, wantedV, isWrite, grow, write, ofV, AV.cells, Abs.start, Abs.strip, endQ, resV, rawsRes, rawRes, exports, export1, AS.grown, AS.put, Env.know, Env.boxed, isSelf, convSelf, convV, loadV, storeV, fieldAddrV, fieldV, indexAddrV, indexV, partV, isAggK, isStr, place, lenV, min2V, makeV, freshSl, sliceV, boundOr, bound, bounds, cutFl, copyV, slCells, srcV, appendV, room, zerosOf, eqNeg, kd, takeR, hasViewL, hasView, freshR, freshC, snapAll, snap, snapL, flatL, pureL, pureA, fillC, arrOK, oneA, partB, AV.laid, ren1, CR.gr, applyW, useL, AS.mute, isGen, startG, ev5, tbPq0, glob, sk, sn, s0, sb]
        refine condQ_dec (fun hlt => ?_) (fun hge => ?_)
        · have hlt : k < l.length := by omega
          have h0 := hpos k hlt
          have hm := hl _ (getD_mem hlt)
          unfold i64ok at hm
          have hn8 := need_le (l.getD k 0).toNat (by omega)
          simp (maxSteps := 1000000) (disch := first | omega | (simp only [digF_len, putK_len, putB_len, lnB] <;> omega) | fail) only [ev0, ev1, ev2, ev3, ↓reduceIte, reduceCtorEq, Nat.reduceAdd, Nat.reduceSub, Nat.reduceMul, Nat.reduceLT, Nat.reduceLeDiff, Nat.reduceEqDiff, Nat.reduceBEq, BitVec.reduceOfInt, Int.reduceLE, Int.reduceLT, Int.reduceGT, Int.reduceGE, Int.reduceNeg, Int.reduceAdd, Int.reduceSub, Int.reduceMul, Int.reduceToNat, ↓bind_go, ↓map_go, wantedV, isWrite, grow, write, ofV, AV.cells, Abs.start, Abs.strip, endQ, resV, rawsRes, rawRes, exports, export1, AS.grown, AS.put, Env.know, Env.boxed, isSelf, convSelf, convV, loadV, storeV, fieldAddrV, fieldV, indexAddrV, indexV, partV, isAggK, isStr, place, lenV, min2V, makeV, freshSl, sliceV, boundOr, bound, bounds, cutFl, copyV, slCells, srcV, appendV, room, zerosOf, eqNeg, kd, takeR, hasViewL, hasView, freshR, freshC, snapAll, snap, snapL, flatL, pureL, pureA, fillC, arrOK, oneA, partB, AV.laid, ren1, CR.gr, applyW, useL, AS.mute, isGen, startG, ev5, tbPq0, glob, sk, sn, s0, sb]
          refine ⟨l.length - (k + 1), by omega, k + 1, ⟨0, 15, 0, gn 15 + 1⟩, by omega, rfl, rfl, ?_⟩
          have hN : nmK l (k + 1) = putB M (l.getD k 0).toNat := by rw [nmK, hM]
          rw [hN, putB_len]
        · have hk : k = l.length := by omega
          subst hk
          rw [show nmF l = M from hM]
          cases hu : us i
          · simp (maxSteps := 1000000) (disch := first | omega | (simp only [digF_len, putK_len, putB_len, lnB] <;> omega) | fail) only [ev0, ev1, ev2, ev3, ↓reduceIte, reduceCtorEq, Nat.reduceAdd, Nat.reduceSub, Nat.reduceMul, Nat.reduceLT, Nat.reduceLeDiff, Nat.reduceEqDiff, Nat.reduceBEq, BitVec.reduceOfInt, Int.reduceLE, Int.reduceLT, Int.reduceGT, Int.reduceGE, Int.reduceNeg, Int.reduceAdd, Int.reduceSub, Int.reduceMul, Int.reduceToNat, ↓bind_go, ↓map_go, wantedV, isWrite, grow, write, ofV, AV.cells, Abs.start, Abs.strip, endQ, resV, rawsRes, rawRes, exports, export1, AS.grown, AS.put, Env.know, Env.boxed, isSelf, convSelf, convV, loadV, storeV, fieldAddrV, fieldV, indexAddrV, indexV, partV, isAggK, isStr, place, lenV, min2V, makeV, freshSl, sliceV, boundOr, bound, bounds, cutFl, copyV, slCells, srcV, appendV, room, zerosOf, eqNeg, kd, takeR, hasViewL, hasView, freshR, freshC, snapAll, snap, snapL, flatL, pureL, pureA, fillC, arrOK, oneA, partB, AV.laid, ren1, CR.gr, applyW, useL, AS.mute, isGen, startG, ev5, tbPq0, glob, sk, sn, s0, sb, hu]
            exact ResQ.bor
          · simp (maxSteps := 1000000) (disch := first | omega | (simp only [digF_len, putK_len, putB_len, lnB] <;> omega) | fail) only [ev0, ev1, ev2, ev3, ↓reduceIte, reduceCtorEq, Nat.reduceAdd, Nat.reduceSub, Nat.reduceMul, Nat.reduceLT, Nat.reduceLeDiff, Nat.reduceEqDiff, Nat.reduceBEq, BitVec.reduceOfInt, Int.reduceLE, Int.reduceLT, Int.reduceGT, Int.reduceGE, Int.reduceNeg, Int.reduceAdd, Int.reduceSub, Int.reduceMul, Int.reduceToNat, ↓bind_go, ↓map_go, wantedV, isWrite, grow, write, ofV, AV.cells, Abs.start, Abs.strip, endQ, resV, rawsRes, rawRes, exports, export1, AS.grown, AS.put, Env.know, Env.boxed, isSelf, convSelf, convV, loadV, storeV, fieldAddrV, fieldV, indexAddrV, indexV, partV, isAggK, isStr, place, lenV, min2V, makeV, freshSl, sliceV, boundOr, bound, bounds, cutFl, copyV, slCells, srcV, appendV, room, zerosOf, eqNeg, kd, takeR, hasViewL, hasView, freshR, freshC, snapAll, snap, snapL, flatL, pureL, pureA, fillC, arrOK, oneA, partB, AV.laid, ren1, CR.gr, applyW, useL, AS.mute, isGen, startG, ev5, tbPq0, glob, sk, sn, s0, sb, hu]
            exact ResQ.bor
    · cases hr
  · cases hr
end Go.Proofs.Ytjnmdphoaafjaaa
