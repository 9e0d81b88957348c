/- Numbers are looked through for one below nought: what the walks come to. -/
import Derived.Test.YtjnmdphoaafjaaaPh
namespace Go.Proofs.Ytjnmdphoaafjaaa
set_option linter.unusedSimpArgs false
set_option linter.unusedVariables false
set_option linter.defProp false
open Go Go.Abs

def pf143 : List AV → Option AV
  | [v] => (int? v).bind fun n => some (.raw (.bool (decide (n < 0))))
  | _ => none
theorem pf143_at {n : Int} : pf143 [.raw (.int .i64 n)] = some (.raw (.bool (decide (n < 0)))) := rfl
def tbPi0 := (And.intro (And.intro @teE (And.intro @E4_te @E4_gs)) (And.intro (And.intro @E4_dyn @E4_glob) (And.intro @E4_mu @ev4)))
theorem sound143 : SoundV Try.prog glob 143 pf143 := by
  refine SoundV.walk E4 ok4 mixed Try.func143 rfl Try.call143 (by kernel_rfl) ?_
  intro args r hr
  unfold pf143 at hr
  split at hr
  · simp only [Option.bind_eq_some_iff] at hr
    obtain ⟨n, h1, hr⟩ := hr
    cases hr
    rw [int?_of h1, Try.ntmps143, Try.results143]
    refine ⟨by simp, ?_⟩
    simp (maxSteps := 1000000) (disch := first | omega | (simp only [nums_len, lnB] <;> omega) | fail) only [ev0, ev1, ev2, ev3, ↓reduceIte, reduceCtorEq, Nat.reduceAdd, Nat.reduceSub, Nat.reduceMul, Nat.reduceLT, Nat.reduceLeDiff, Nat.reduceEqDiff, Nat.reduceBEq, BitVec.reduceOfInt, Int.reduceLE, Int.reduceLT, Int.reduceGT, Int.reduceGE, Int.reduceNeg, Int.reduceAdd, Int.reduceSub, Int.reduceMul, Int.reduceToNat, ↓bind_go, ↓map_go, wantedV, isWrite, grow, write, ofV, AV.cells, Abs.start, Abs.strip, endQ, resV, rawsRes, rawRes, exports, export1, AS.grown, AS.put, Env.know, Env.boxed, isSelf, convSelf, convV, loadV, storeV, fieldAddrV, fieldV, indexAddrV, indexV, partV, isAggK, isStr, place, lenV, min2V, makeV, freshSl, sliceV, boundOr, bound, bounds, cutFl, copyV, slCells, srcV, appendV, room, zerosOf, eqNeg, kd, takeR, hasViewL, hasView, freshR, freshC, snapAll, snap, snapL, flatL, pureL, pureA, fillC, arrOK, oneA, partB, AV.laid, ren1, CR.gr, applyW, useL, AS.mute, isGen, startG, ev5, tbPi0, glob]
    exact ResQ.same rfl
  · cases hr
theorem sound120 : SoundV Try.prog glob 120 pf143 := by
  refine SoundV.walk E4 ok4 mixed Try.func120 rfl Try.call120 (by kernel_rfl) ?_
  intro args r hr
  unfold pf143 at hr
  split at hr
  · simp only [Option.bind_eq_some_iff] at hr
    obtain ⟨n, h1, hr⟩ := hr
    cases hr
    rw [int?_of h1, Try.ntmps120, Try.results120]
    refine ⟨by simp, ?_⟩
    simp (maxSteps := 1000000) (disch := first | omega | (simp only [nums_len, lnB] <;> omega) | fail) only [ev0, ev1, ev2, ev3, ↓reduceIte, reduceCtorEq, Nat.reduceAdd, Nat.reduceSub, Nat.reduceMul, Nat.reduceLT, Nat.reduceLeDiff, Nat.reduceEqDiff, Nat.reduceBEq, BitVec.reduceOfInt, Int.reduceLE, Int.reduceLT, Int.reduceGT, Int.reduceGE, Int.reduceNeg, Int.reduceAdd, Int.reduceSub, Int.reduceMul, Int.reduceToNat, ↓bind_go, ↓map_go, wantedV, isWrite, grow, write, ofV, AV.cells, Abs.start, Abs.strip, endQ, resV, rawsRes, rawRes, exports, export1, AS.grown, AS.put, Env.know, Env.boxed, isSelf, convSelf, convV, loadV, storeV, fieldAddrV, fieldV, indexAddrV, indexV, partV, isAggK, isStr, place, lenV, min2V, makeV, freshSl, sliceV, boundOr, bound, bounds, cutFl, copyV, slCells, srcV, appendV, room, zerosOf, eqNeg, kd, takeR, hasViewL, hasView, freshR, freshC, snapAll, snap, snapL, flatL, pureL, pureA, fillC, arrOK, oneA, partB, AV.laid, ren1, CR.gr, applyW, useL, AS.mute, isGen, startG, ev5, tbPi0, glob]
    exact ResQ.same rfl
  · cases hr
def E5 : Env := (E4.know 143 pf143).know 120 pf143
theorem ok5 : EnvOK Try.prog E5 := (ok4.know sound143).know sound120
theorem E5_te : E5.te = te := rfl
theorem E5_gs : E5.gs = [] := rfl
theorem E5_dyn : E5.dyn = false := rfl
theorem E5_glob : E5.glob = glob := rfl
theorem E5_mu (d : Nat) : E5.mu d = false := rfl
theorem E5_143 : E5.tbl 143 = some (.val pf143) := rfl
def isNeg (g : Nat) : Prop := g = 143 ∨ g = 120
instance (g : Nat) : Decidable (isNeg g) := by unfold isNeg; infer_instance
theorem E5_neg {g : Nat} (h : isNeg g) : E5.tbl g = some (.val pf143) := by rcases h with rfl | rfl <;> rfl


/-- where the first one below nought stands, or -1 -/
def negF (l : List Int) : Int := match l.findIdx? (fun n => decide (n < 0)) with | some i => (i : Int) | none => -1
theorem negF_at {l : List Int} {k : Nat} (hk : k < l.length) (hn : l.getD k 0 < 0) (hs : ∀ i, i < k → ¬ l.getD i 0 < 0) : negF l = (k : Int) := by
  have : l.findIdx? (fun n => decide (n < 0)) = some k := by
    rw [List.findIdx?_eq_some_iff_getElem]
    refine ⟨hk, ?_, ?_⟩
    · rw [List.getD_eq_getElem?_getD, List.getElem?_eq_getElem hk] at hn
      exact decide_eq_true hn
    · intro j hj
      have := hs j hj
      rw [List.getD_eq_getElem?_getD, List.getElem?_eq_getElem (show j < l.length by omega)] at this
      simpa using this
  rw [negF, this]
theorem negF_no {l : List Int} (hs : ∀ i, i < l.length → ¬ l.getD i 0 < 0) : negF l = -1 := by
  have : l.findIdx? (fun n => decide (n < 0)) = none := by
    rw [List.findIdx?_eq_none_iff]
    intro x hx
    obtain ⟨i, hi, rfl⟩ := List.mem_iff_getElem.1 hx
    have := hs i hi
    rw [List.getD_eq_getElem?_getD, List.getElem?_eq_getElem hi] at this
    simpa using this
  rw [negF, this]
theorem negF_any (l : List Int) : decide (negF l ≥ 0) = l.any fun n => decide (n < 0) := by
  rw [negF, ← List.findIdx?_isSome]
  cases l.findIdx? (fun n => decide (n < 0)) with
  | none => rfl
  | some i => simp
def pf142 : List AV → Option AV
  | [v, .fn g []] => if isNeg g then (irow? v).bind fun l => if l.length ≤ 9223372036854775807 then some (.raw (.int .i64 (negF l))) else none else none
  | _ => none
set_option maxHeartbeats 4000000
def tbPi1 := (And.intro (And.intro (And.intro @teE @E5_te) (And.intro @E5_gs @E5_dyn)) (And.intro (And.intro @E5_glob @E5_mu) (And.intro @pf143_at @ev4)))
theorem sound142 : SoundV Try.prog glob 142 pf142 := by
  refine SoundV.walk E5 ok5 mixed Try.func142 rfl Try.call142 (by kernel_rfl) ?_
  intro args r hr
  unfold pf142 at hr
  split at hr
  · rename_i v g
    split at hr
    · rename_i hg
      have hg' := E5_neg hg
      simp only [Option.bind_eq_some_iff] at hr
      obtain ⟨l, h1, hr⟩ := hr
      split at hr
      · rename_i hc
        cases hr
        obtain ⟨⟨fl, rfl⟩, hl⟩ := irow?_of h1
        rw [Try.ntmps142, Try.results142]
        refine ⟨by simp, ?_⟩
        simp (maxSteps := 1000000) (disch := first | omega | (simp only [nums_len, lnB] <;> omega) | fail) only [ev0, ev1, ev2, ev3, ↓reduceIte, reduceCtorEq, Nat.reduceAdd, Nat.reduceSub, Nat.reduceMul, Nat.reduceLT, Nat.reduceLeDiff, Nat.reduceEqDiff, Nat.reduceBEq, BitVec.reduceOfInt, Int.reduceLE, Int.reduceLT, Int.reduceGT, Int.reduceGE, Int.reduceNeg, Int.reduceAdd, Int.reduceSub, Int.reduceMul, Int.reduceToNat, ↓bind_go, ↓map_go, wantedV, isWrite, grow, write, ofV, AV.cells, Abs.start, Abs.strip, endQ, resV, rawsRes, rawRes, exports, export1, AS.grown, AS.put, Env.know, Env.boxed, isSelf, convSelf, convV, loadV, storeV, fieldAddrV, fieldV, indexAddrV, indexV, partV, isAggK, isStr, place, lenV, min2V, makeV, freshSl, sliceV, boundOr, bound, bounds, cutFl, copyV, slCells, srcV, appendV, room, zerosOf, eqNeg, kd, takeR, hasViewL, hasView, freshR, freshC, snapAll, snap, snapL, flatL, pureL, pureA, fillC, arrOK, oneA, partB, AV.laid, ren1, CR.gr, applyW, useL, AS.mute, isGen, startG, ev5, tbPi1, glob, hg']
        refine loopQ_of (fun n σ => ∃ k, k ≤ l.length ∧ n = l.length - k ∧ (∀ i, i < k → ¬ l.getD i 0 < 0) ∧ σ.slots 8 = .raw (.int .i64 (k : Int)) ∧ σ.slots 7 = .raw (.int .i64 (l.length : Int)) ∧ σ.slots 0 = .sl l.length (ints .i64 l) .bor ∧ σ.slots 1 = .fn g []) l.length ?_ ?_
        · refine ⟨0, by omega, by omega, by omega, ?_⟩
          simp (maxSteps := 1000000) (disch := first | omega | (simp only [nums_len, lnB] <;> omega) | fail) only [ev0, ev1, ev2, ev3, ↓reduceIte, reduceCtorEq, Nat.reduceAdd, Nat.reduceSub, Nat.reduceMul, Nat.reduceLT, Nat.reduceLeDiff, Nat.reduceEqDiff, Nat.reduceBEq, BitVec.reduceOfInt, Int.reduceLE, Int.reduceLT, Int.reduceGT, Int.reduceGE, Int.reduceNeg, Int.reduceAdd, Int.reduceSub, Int.reduceMul, Int.reduceToNat, ↓bind_go, ↓map_go, wantedV, isWrite, grow, write, ofV, AV.cells, Abs.start, Abs.strip, endQ, resV, rawsRes, rawRes, exports, export1, AS.grown, AS.put, Env.know, Env.boxed, isSelf, convSelf, convV, loadV, storeV, fieldAddrV, fieldV, indexAddrV, indexV, partV, isAggK, isStr, place, lenV, min2V, makeV, freshSl, sliceV, boundOr, bound, bounds, cutFl, copyV, slCells, srcV, appendV, room, zerosOf, eqNeg, kd, takeR, hasViewL, hasView, freshR, freshC, snapAll, snap, snapL, flatL, pureL, pureA, fillC, arrOK, oneA, partB, AV.laid, ren1, CR.gr, applyW, useL, AS.mute, isGen, startG, ev5, tbPi1, glob, hg']
          rfl
        · rintro n ⟨sl, gn, bx, us⟩ ⟨k, hk, rfl, hs, s8, s7, s0, s1⟩
          dsimp only at s8 s7 s0 s1
          simp (maxSteps := 1000000) (disch := first | omega | (simp only [nums_len, lnB] <;> omega) | fail) only [ev0, ev1, ev2, ev3, ↓reduceIte, reduceCtorEq, Nat.reduceAdd, Nat.reduceSub, Nat.reduceMul, Nat.reduceLT, Nat.reduceLeDiff, Nat.reduceEqDiff, Nat.reduceBEq, BitVec.reduceOfInt, Int.reduceLE, Int.reduceLT, Int.reduceGT, Int.reduceGE, Int.reduceNeg, Int.reduceAdd, Int.reduceSub, Int.reduceMul, Int.reduceToNat, ↓bind_go, ↓map_go, wantedV, isWrite, grow, write, ofV, AV.cells, Abs.start, Abs.strip, endQ, resV, rawsRes, rawRes, exports, export1, AS.grown, AS.put, Env.know, Env.boxed, isSelf, convSelf, convV, loadV, storeV, fieldAddrV, fieldV, indexAddrV, indexV, partV, isAggK, isStr, place, lenV, min2V, makeV, freshSl, sliceV, boundOr, bound, bounds, cutFl, copyV, slCells, srcV, appendV, room, zerosOf, eqNeg, kd, takeR, hasViewL, hasView, freshR, freshC, snapAll, snap, snapL, flatL, pureL, pureA, fillC, arrOK, oneA, partB, AV.laid, ren1, CR.gr, applyW, useL, AS.mute, isGen, startG, ev5, tbPi1, glob, hg', s8, s7, s0, s1]
          refine condQ_dec (fun hlt => ?_) (fun hge => ?_)
          · have hlt : k < l.length := by omega
            simp (maxSteps := 1000000) (disch := first | omega | (simp only [nums_len, lnB] <;> omega) | fail) only [ev0, ev1, ev2, ev3, ↓reduceIte, reduceCtorEq, Nat.reduceAdd, Nat.reduceSub, Nat.reduceMul, Nat.reduceLT, Nat.reduceLeDiff, Nat.reduceEqDiff, Nat.reduceBEq, BitVec.reduceOfInt, Int.reduceLE, Int.reduceLT, Int.reduceGT, Int.reduceGE, Int.reduceNeg, Int.reduceAdd, Int.reduceSub, Int.reduceMul, Int.reduceToNat, ↓bind_go, ↓map_go, wantedV, isWrite, grow, write, ofV, AV.cells, Abs.start, Abs.strip, endQ, resV, rawsRes, rawRes, exports, export1, AS.grown, AS.put, Env.know, Env.boxed, isSelf, convSelf, convV, loadV, storeV, fieldAddrV, fieldV, indexAddrV, indexV, partV, isAggK, isStr, place, lenV, min2V, makeV, freshSl, sliceV, boundOr, bound, bounds, cutFl, copyV, slCells, srcV, appendV, room, zerosOf, eqNeg, kd, takeR, hasViewL, hasView, freshR, freshC, snapAll, snap, snapL, flatL, pureL, pureA, fillC, arrOK, oneA, partB, AV.laid, ren1, CR.gr, applyW, useL, AS.mute, isGen, startG, ev5, tbPi1, glob, hg', s8, s7, s0, s1]
            refine condQ_dec (fun hn => ?_) (fun hn => ?_)
            · rw [negF_at hlt hn hs]
              simp (maxSteps := 1000000) (disch := first | omega | (simp only [nums_len, lnB] <;> omega) | fail) only [ev0, ev1, ev2, ev3, ↓reduceIte, reduceCtorEq, Nat.reduceAdd, Nat.reduceSub, Nat.reduceMul, Nat.reduceLT, Nat.reduceLeDiff, Nat.reduceEqDiff, Nat.reduceBEq, BitVec.reduceOfInt, Int.reduceLE, Int.reduceLT, Int.reduceGT, Int.reduceGE, Int.reduceNeg, Int.reduceAdd, Int.reduceSub, Int.reduceMul, Int.reduceToNat, ↓bind_go, ↓map_go, wantedV, isWrite, grow, write, ofV, AV.cells, Abs.start, Abs.strip, endQ, resV, rawsRes, rawRes, exports, export1, AS.grown, AS.put, Env.know, Env.boxed, isSelf, convSelf, convV, loadV, storeV, fieldAddrV, fieldV, indexAddrV, indexV, partV, isAggK, isStr, place, lenV, min2V, makeV, freshSl, sliceV, boundOr, bound, bounds, cutFl, copyV, slCells, srcV, appendV, room, zerosOf, eqNeg, kd, takeR, hasViewL, hasView, freshR, freshC, snapAll, snap, snapL, flatL, pureL, pureA, fillC, arrOK, oneA, partB, AV.laid, ren1, CR.gr, applyW, useL, AS.mute, isGen, startG, ev5, tbPi1, glob, hg', s8, s7, s0, s1]
              exact ResQ.same rfl
            · simp (maxSteps := 1000000) (disch := first | omega | (simp only [nums_len, lnB] <;> omega) | fail) only [ev0, ev1, ev2, ev3, ↓reduceIte, reduceCtorEq, Nat.reduceAdd, Nat.reduceSub, Nat.reduceMul, Nat.reduceLT, Nat.reduceLeDiff, Nat.reduceEqDiff, Nat.reduceBEq, BitVec.reduceOfInt, Int.reduceLE, Int.reduceLT, Int.reduceGT, Int.reduceGE, Int.reduceNeg, Int.reduceAdd, Int.reduceSub, Int.reduceMul, Int.reduceToNat, ↓bind_go, ↓map_go, wantedV, isWrite, grow, write, ofV, AV.cells, Abs.start, Abs.strip, endQ, resV, rawsRes, rawRes, exports, export1, AS.grown, AS.put, Env.know, Env.boxed, isSelf, convSelf, convV, loadV, storeV, fieldAddrV, fieldV, indexAddrV, indexV, partV, isAggK, isStr, place, lenV, min2V, makeV, freshSl, sliceV, boundOr, bound, bounds, cutFl, copyV, slCells, srcV, appendV, room, zerosOf, eqNeg, kd, takeR, hasViewL, hasView, freshR, freshC, snapAll, snap, snapL, flatL, pureL, pureA, fillC, arrOK, oneA, partB, AV.laid, ren1, CR.gr, applyW, useL, AS.mute, isGen, startG, ev5, tbPi1, glob, hg', s8, s7, s0, s1]
              refine ⟨l.length - (k + 1), by omega, k + 1, by omega, rfl, ?_, rfl⟩
              intro i hi
              rcases Nat.lt_or_eq_of_le (Nat.le_of_lt_succ hi) with h | h
              · exact hs i h
              · rw [h]; exact hn
          · have hk : k = l.length := by omega
            subst hk
            rw [negF_no hs]
            simp (maxSteps := 1000000) (disch := first | omega | (simp only [nums_len, lnB] <;> omega) | fail) only [ev0, ev1, ev2, ev3, ↓reduceIte, reduceCtorEq, Nat.reduceAdd, Nat.reduceSub, Nat.reduceMul, Nat.reduceLT, Nat.reduceLeDiff, Nat.reduceEqDiff, Nat.reduceBEq, BitVec.reduceOfInt, Int.reduceLE, Int.reduceLT, Int.reduceGT, Int.reduceGE, Int.reduceNeg, Int.reduceAdd, Int.reduceSub, Int.reduceMul, Int.reduceToNat, ↓bind_go, ↓map_go, wantedV, isWrite, grow, write, ofV, AV.cells, Abs.start, Abs.strip, endQ, resV, rawsRes, rawRes, exports, export1, AS.grown, AS.put, Env.know, Env.boxed, isSelf, convSelf, convV, loadV, storeV, fieldAddrV, fieldV, indexAddrV, indexV, partV, isAggK, isStr, place, lenV, min2V, makeV, freshSl, sliceV, boundOr, bound, bounds, cutFl, copyV, slCells, srcV, appendV, room, zerosOf, eqNeg, kd, takeR, hasViewL, hasView, freshR, freshC, snapAll, snap, snapL, flatL, pureL, pureA, fillC, arrOK, oneA, partB, AV.laid, ren1, CR.gr, applyW, useL, AS.mute, isGen, startG, ev5, tbPi1, glob, hg', s8, s7, s0, s1]
            exact ResQ.same rfl
      · cases hr
    · cases hr
  · cases hr

def E6 : Env := E5.know 142 pf142
theorem ok6 : EnvOK Try.prog E6 := ok5.know sound142
theorem E6_te : E6.te = te := rfl
theorem E6_gs : E6.gs = [] := rfl
theorem E6_dyn : E6.dyn = false := rfl
theorem E6_glob : E6.glob = glob := rfl
theorem E6_mu (d : Nat) : E6.mu d = false := rfl
theorem E6_142 : E6.tbl 142 = some (.val pf142) := rfl
theorem pf142_at {n : Nat} {l : List Int} {fl : Fl} (h : n = l.length) (h2 : ∀ n ∈ l, i64ok n) (h3 : l.length ≤ 9223372036854775807) {g : Nat} (hg : isNeg g) : pf142 [.sl n (ints .i64 l) fl, .fn g []] = some (.raw (.int .i64 (negF l))) := by
  simp only [pf142, if_pos hg, irow?_at h h2, Option.bind_some, if_pos h3]
def pf119 : List AV → Option AV
  | [v, .fn g []] => if isNeg g then (irow? v).bind fun l => if l.length ≤ 9223372036854775807 then some (.raw (.bool (l.any fun n => decide (n < 0)))) else none else none
  | _ => none
theorem sound119 : SoundV Try.prog glob 119 pf119 := by
  refine SoundV.walk E6 ok6 mixed Try.func119 rfl Try.call119 (by kernel_rfl) ?_
  intro args r hr
  unfold pf119 at hr
  split at hr
  · rename_i v g
    split at hr
    · rename_i hg
      have hg' := E5_neg hg
      simp only [Option.bind_eq_some_iff] at hr
      obtain ⟨l, h1, hr⟩ := hr
      split at hr
      · rename_i hc
        cases hr
        obtain ⟨⟨fl, rfl⟩, hl⟩ := irow?_of h1
        rw [Try.ntmps119, Try.results119]
        refine ⟨by simp, ?_⟩
        have hp := pf142_at (l := l) (fl := .bor) rfl hl hc hg
        rw [← negF_any]
        simp (maxSteps := 1000000) (disch := first | omega | (simp only [nums_len, lnB] <;> omega) | fail) only [ev0, ev1, ev2, ev3, ↓reduceIte, reduceCtorEq, Nat.reduceAdd, Nat.reduceSub, Nat.reduceMul, Nat.reduceLT, Nat.reduceLeDiff, Nat.reduceEqDiff, Nat.reduceBEq, BitVec.reduceOfInt, Int.reduceLE, Int.reduceLT, Int.reduceGT, Int.reduceGE, Int.reduceNeg, Int.reduceAdd, Int.reduceSub, Int.reduceMul, Int.reduceToNat, ↓bind_go, ↓map_go, wantedV, isWrite, grow, write, ofV, AV.cells, Abs.start, Abs.strip, endQ, resV, rawsRes, rawRes, exports, export1, AS.grown, AS.put, Env.know, Env.boxed, isSelf, convSelf, convV, loadV, storeV, fieldAddrV, fieldV, indexAddrV, indexV, partV, isAggK, isStr, place, lenV, min2V, makeV, freshSl, sliceV, boundOr, bound, bounds, cutFl, copyV, slCells, srcV, appendV, room, zerosOf, eqNeg, kd, takeR, hasViewL, hasView, freshR, freshC, snapAll, snap, snapL, flatL, pureL, pureA, fillC, arrOK, oneA, partB, AV.laid, ren1, CR.gr, applyW, useL, AS.mute, isGen, startG, ev5, teE, E6_te, E6_gs, E6_dyn, E6_glob, E6_mu, E6_142, glob, ev4, hp, List.isEmpty_nil]
        exact ResQ.same rfl
      · cases hr
    · cases hr
  · cases hr
end Go.Proofs.Ytjnmdphoaafjaaa
