/- Rows of numbers are laid behind bytes: what the walks come to. -/
import Derived.Test.YtohemglpjjcohaaBi
namespace Go.Proofs.Ytohemglpjjcohaa
set_option linter.unusedSimpArgs false
set_option linter.unusedVariables false
open Go Go.Abs

def E7 : Env := (E6.know 29 pf29)
theorem ok7 : EnvOK Try.prog E7 := ok6.know sound29
theorem E7_te : E7.te = te := rfl
theorem E7_glob : E7.glob = glob := rfl
theorem E7_mu (d : Nat) : E7.mu d = false := rfl
theorem E7_29 : E7.tbl 29 = some (.val pf29) := rfl
theorem E7_11 : E7.tbl 11 = some (.val (fun xs => pf11 (xs.map norm))) := rfl
theorem E7_12 : E7.tbl 12 = some (.val (fun xs => pf11 (xs.map norm))) := rfl
theorem E7_14 : E7.tbl 14 = some (.val (fun xs => pf28 (xs.map norm))) := rfl
theorem E7_26 : E7.tbl 26 = some (.val (fun xs => pf26 (xs.map norm))) := rfl
theorem E7_28 : E7.tbl 28 = some (.val (fun xs => pf28 (xs.map norm))) := rfl
theorem pf29_at {n : Nat} {l : List Int} {fl : Fl} (h : n = l.length) (h2 : ∀ n ∈ l, i64ok n) (h3 : l.length ≤ 1000000000) : pf29 [.sl n (ints .i64 l) fl, .fn 30 []] = some (.raw (.bool (l.any fun n => decide (n < 0)))) := by
  simp only [pf29, irow?_at h h2, Option.bind_some, if_pos h3]
/-- the bytes when k numbers are laid -/
def putLk (b : List (BitVec 8)) (l : List Int) : Nat → List (BitVec 8)
  | 0 => putB b l.length
  | k + 1 => putB (putLk b l k) (l.getD k 0).toNat
def putL (b : List (BitVec 8)) (l : List Int) : List (BitVec 8) := putLk b l l.length
theorem putLk_len (b : List (BitVec 8)) (l : List Int) (hl : ∀ n ∈ l, i64ok n) (h : l.length ≤ 4096) (k : Nat) (hk : k ≤ l.length) : (putLk b l k).length ≤ b.length + 9 + 9 * k := by
  induction k with
  | zero =>
    have := need_le l.length (by omega)
    rw [putLk, putB_len]; omega
  | succ k ih =>
    have := ih (by omega)
    have hm := hl _ (getD_mem (show k < l.length by omega))
    unfold i64ok at hm
    have := need_le (l.getD k 0).toNat (by omega)
    rw [putLk, putB_len]; omega
theorem ne10 : ((1 : Int) != 0) = true := rfl
theorem ne00 : ((0 : Int) != 0) = false := rfl
def neg (l : List Int) : Bool := l.any fun n => decide (n < 0)
theorem neg_iff (l : List Int) : neg l = true ↔ ∃ n ∈ l, n < 0 := by simp [neg]
def pf20 : List AV → Option AV
  | [v, w] => (row? .u8 8 v).bind fun b => (irow? w).bind fun l => if b.length ≤ 1000000000 ∧ l.length ≤ 1000000000 then
      (if l.length > 4096 then some (.tup [.sl 0 [] .bor, .raw (.int .i64 2)]) else if neg l = true then some (.tup [.sl 0 [] .bor, .raw (.int .i64 1)]) else some (.tup [.sl (putL b l).length (nums .u8 (putL b l)) .bor, .raw (.int .i64 0)])) else none
  | _ => none
theorem resQ_2nil {v : Value} : ResQ (some (.tup [.raw (.slice none 0 0), .raw v])) (.tup [.sl 0 [] .bor, .raw v]) :=
  ⟨_, rfl, .tup rfl fun j x r hx hr => by
    match j with
    | 0 => simp at hx hr; subst hx hr; exact .nilb _
    | 1 => simp at hx hr; subst hx hr; exact .same _ _
    | j + 2 => simp at hx⟩
theorem resQ_2 {v : Value} {n : Nat} {xs : List AV} {fl : Fl} : ResQ (some (.tup [.sl n xs fl, .raw v])) (.tup [.sl n xs .bor, .raw v]) :=
  ⟨_, rfl, .tup rfl fun j x r hx hr => by
    match j with
    | 0 => simp at hx hr; subst hx hr; exact .bor _ _ _ _
    | 1 => simp at hx hr; subst hx hr; exact .same _ _
    | j + 2 => simp at hx⟩
set_option maxHeartbeats 4000000
theorem sound20 : SoundV Try.prog glob 20 pf20 := by
  refine SoundV.walk E7 ok7 mixed Try.func20 rfl Try.call20 (by kernel_rfl) ?_
  intro args r hr
  unfold pf20 at hr
  split at hr
  · simp only [Option.bind_eq_some_iff] at hr
    obtain ⟨b, h1, l, h2, hr⟩ := hr
    split at hr
    · rename_i hc
      obtain ⟨fl, rfl⟩ := row?_of h1
      obtain ⟨⟨gl, rfl⟩, hl⟩ := irow?_of h2
      by_cases c1 : l.length > 4096
      · rw [if_pos c1] at hr
        cases hr
        rw [Try.ntmps20, Try.results20]
        refine ⟨by simp, ?_⟩
        have d1 : decide ((l.length : Int) > 4096) = true := decide_eq_true (by omega)
        simp (maxSteps := 1000000) (disch := first | omega | (simp only [digF_len, putK_len, putB_len, nums_len, List.length_cons, List.length_nil, List.length_append, List.length_take, List.length_drop, List.length_replicate, List.length_set, List.length_map] <;> omega) | fail) only [ev0, ev1, ev2, ev3, ↓reduceIte, reduceCtorEq, Nat.reduceAdd, Nat.reduceSub, Nat.reduceMul, Nat.reduceLT, Nat.reduceLeDiff, Nat.reduceEqDiff, Nat.reduceBEq, BitVec.reduceOfInt, Int.reduceLE, Int.reduceLT, Int.reduceGT, Int.reduceGE, Int.reduceNeg, Int.reduceAdd, Int.reduceSub, Int.reduceMul, Int.reduceToNat, ↓bind_go, ↓map_go, wantedV, isWrite, grow, write, ofV, AV.cells, Abs.start, Abs.strip, endQ, resV, rawsRes, rawRes, exports, export1, AS.grown, AS.put, Env.know, Env.boxed, isSelf, convSelf, convV, loadV, storeV, fieldAddrV, fieldV, indexAddrV, indexV, partV, isAggK, isStr, place, lenV, min2V, makeV, freshSl, sliceV, boundOr, bound, bounds, cutFl, copyV, slCells, srcV, appendV, room, zerosOf, eqNeg, kd, takeR, hasViewL, hasView, freshR, freshC, snapAll, snap, snapL, flatL, pureL, pureA, fillC, arrOK, oneA, te2, te3, te4, te5, te9, te22, te24, te36, te46, te52, te54, E7_te, E7_glob, E7_mu, E7_11, E7_12, E7_14, E7_26, E7_28, E7_29, pf26_at, pf11_at, pf28_at, glob, ev4, d1]
        exact resQ_2nil
      · rw [if_neg c1] at hr
        have d1 : decide ((l.length : Int) > 4096) = false := decide_eq_false (by omega)
        have hp := pf29_at (l := l) (fl := .bor) rfl hl (by omega)
        have hn8 := need_le l.length (by omega)
        by_cases c2 : neg l = true
        · rw [if_pos c2] at hr
          cases hr
          rw [Try.ntmps20, Try.results20]
          refine ⟨by simp, ?_⟩
          rw [show (l.any fun n => decide (n < 0)) = true from c2] at hp
          simp (maxSteps := 1000000) (disch := first | omega | (simp only [digF_len, putK_len, putB_len, nums_len, List.length_cons, List.length_nil, List.length_append, List.length_take, List.length_drop, List.length_replicate, List.length_set, List.length_map] <;> omega) | fail) only [ev0, ev1, ev2, ev3, ↓reduceIte, reduceCtorEq, Nat.reduceAdd, Nat.reduceSub, Nat.reduceMul, Nat.reduceLT, Nat.reduceLeDiff, Nat.reduceEqDiff, Nat.reduceBEq, BitVec.reduceOfInt, Int.reduceLE, Int.reduceLT, Int.reduceGT, Int.reduceGE, Int.reduceNeg, Int.reduceAdd, Int.reduceSub, Int.reduceMul, Int.reduceToNat, ↓bind_go, ↓map_go, wantedV, isWrite, grow, write, ofV, AV.cells, Abs.start, Abs.strip, endQ, resV, rawsRes, rawRes, exports, export1, AS.grown, AS.put, Env.know, Env.boxed, isSelf, convSelf, convV, loadV, storeV, fieldAddrV, fieldV, indexAddrV, indexV, partV, isAggK, isStr, place, lenV, min2V, makeV, freshSl, sliceV, boundOr, bound, bounds, cutFl, copyV, slCells, srcV, appendV, room, zerosOf, eqNeg, kd, takeR, hasViewL, hasView, freshR, freshC, snapAll, snap, snapL, flatL, pureL, pureA, fillC, arrOK, oneA, te2, te3, te4, te5, te9, te22, te24, te36, te46, te52, te54, E7_te, E7_glob, E7_mu, E7_11, E7_12, E7_14, E7_26, E7_28, E7_29, pf26_at, pf11_at, pf28_at, glob, ev4, d1, hp, List.isEmpty_nil]
          exact resQ_2nil
        · rw [if_neg c2] at hr
          cases hr
          rw [Try.ntmps20, Try.results20]
          refine ⟨by simp, ?_⟩
          rw [show (l.any fun n => decide (n < 0)) = false from Bool.eq_false_iff.2 c2] at hp
          simp (maxSteps := 1000000) (disch := first | omega | (simp only [digF_len, putK_len, putB_len, nums_len, List.length_cons, List.length_nil, List.length_append, List.length_take, List.length_drop, List.length_replicate, List.length_set, List.length_map] <;> omega) | fail) only [ev0, ev1, ev2, ev3, ↓reduceIte, reduceCtorEq, Nat.reduceAdd, Nat.reduceSub, Nat.reduceMul, Nat.reduceLT, Nat.reduceLeDiff, Nat.reduceEqDiff, Nat.reduceBEq, BitVec.reduceOfInt, Int.reduceLE, Int.reduceLT, Int.reduceGT, Int.reduceGE, Int.reduceNeg, Int.reduceAdd, Int.reduceSub, Int.reduceMul, Int.reduceToNat, ↓bind_go, ↓map_go, wantedV, isWrite, grow, write, ofV, AV.cells, Abs.start, Abs.strip, endQ, resV, rawsRes, rawRes, exports, export1, AS.grown, AS.put, Env.know, Env.boxed, isSelf, convSelf, convV, loadV, storeV, fieldAddrV, fieldV, indexAddrV, indexV, partV, isAggK, isStr, place, lenV, min2V, makeV, freshSl, sliceV, boundOr, bound, bounds, cutFl, copyV, slCells, srcV, appendV, room, zerosOf, eqNeg, kd, takeR, hasViewL, hasView, freshR, freshC, snapAll, snap, snapL, flatL, pureL, pureA, fillC, arrOK, oneA, te2, te3, te4, te5, te9, te22, te24, te36, te46, te52, te54, E7_te, E7_glob, E7_mu, E7_11, E7_12, E7_14, E7_26, E7_28, E7_29, pf26_at, pf11_at, pf28_at, glob, ev4, d1, hp, List.isEmpty_nil]
          have hpos : ∀ k, k < l.length → 0 ≤ l.getD k 0 := fun k hk => by
            apply Classical.byContradiction
            intro h
            exact c2 ((neg_iff l).2 ⟨_, getD_mem hk, by omega⟩)
          refine loopQ_of (fun n σ => ∃ k i, k ≤ l.length ∧ n = l.length - k ∧ σ.slots 22 = .raw (.int .i64 (k : Int)) ∧ σ.slots 21 = .raw (.int .i64 (l.length : Int)) ∧ σ.slots 20 = .sl l.length (ints .i64 l) .bor ∧ σ.slots 0 = .sl (putLk b l k).length (nums .u8 (putLk b l k)) (.own i 1)) l.length ?_ ?_
          · refine ⟨0, ⟨17, 0, 1⟩, by omega, by omega, ?_⟩
            simp (maxSteps := 1000000) (disch := first | omega | (simp only [digF_len, putK_len, putB_len, nums_len, List.length_cons, List.length_nil, List.length_append, List.length_take, List.length_drop, List.length_replicate, List.length_set, List.length_map] <;> omega) | fail) only [ev0, ev1, ev2, ev3, ↓reduceIte, reduceCtorEq, Nat.reduceAdd, Nat.reduceSub, Nat.reduceMul, Nat.reduceLT, Nat.reduceLeDiff, Nat.reduceEqDiff, Nat.reduceBEq, BitVec.reduceOfInt, Int.reduceLE, Int.reduceLT, Int.reduceGT, Int.reduceGE, Int.reduceNeg, Int.reduceAdd, Int.reduceSub, Int.reduceMul, Int.reduceToNat, ↓bind_go, ↓map_go, wantedV, isWrite, grow, write, ofV, AV.cells, Abs.start, Abs.strip, endQ, resV, rawsRes, rawRes, exports, export1, AS.grown, AS.put, Env.know, Env.boxed, isSelf, convSelf, convV, loadV, storeV, fieldAddrV, fieldV, indexAddrV, indexV, partV, isAggK, isStr, place, lenV, min2V, makeV, freshSl, sliceV, boundOr, bound, bounds, cutFl, copyV, slCells, srcV, appendV, room, zerosOf, eqNeg, kd, takeR, hasViewL, hasView, freshR, freshC, snapAll, snap, snapL, flatL, pureL, pureA, fillC, arrOK, oneA, te2, te3, te4, te5, te9, te22, te24, te36, te46, te52, te54, E7_te, E7_glob, E7_mu, E7_11, E7_12, E7_14, E7_26, E7_28, E7_29, pf26_at, pf11_at, pf28_at, glob, ev4]
            exact ⟨rfl, rfl⟩
          · rintro n ⟨sl, gn, bx, us⟩ ⟨k, i, hk, rfl, s22, s21, s20, s0⟩
            dsimp only at s22 s21 s20 s0
            have lM := putLk_len b l hl (by omega) k hk
            generalize hM : putLk b l k = M at s0 lM
            simp (maxSteps := 1000000) (disch := first | omega | (simp only [digF_len, putK_len, putB_len, nums_len, List.length_cons, List.length_nil, List.length_append, List.length_take, List.length_drop, List.length_replicate, List.length_set, List.length_map] <;> omega) | fail) only [ev0, ev1, ev2, ev3, ↓reduceIte, reduceCtorEq, Nat.reduceAdd, Nat.reduceSub, Nat.reduceMul, Nat.reduceLT, Nat.reduceLeDiff, Nat.reduceEqDiff, Nat.reduceBEq, BitVec.reduceOfInt, Int.reduceLE, Int.reduceLT, Int.reduceGT, Int.reduceGE, Int.reduceNeg, Int.reduceAdd, Int.reduceSub, Int.reduceMul, Int.reduceToNat, ↓bind_go, ↓map_go, wantedV, isWrite, grow, write, ofV, AV.cells, Abs.start, Abs.strip, endQ, resV, rawsRes, rawRes, exports, export1, AS.grown, AS.put, Env.know, Env.boxed, isSelf, convSelf, convV, loadV, storeV, fieldAddrV, fieldV, indexAddrV, indexV, partV, isAggK, isStr, place, lenV, min2V, makeV, freshSl, sliceV, boundOr, bound, bounds, cutFl, copyV, slCells, srcV, appendV, room, zerosOf, eqNeg, kd, takeR, hasViewL, hasView, freshR, freshC, snapAll, snap, snapL, flatL, pureL, pureA, fillC, arrOK, oneA, te2, te3, te4, te5, te9, te22, te24, te36, te46, te52, te54, E7_te, E7_glob, E7_mu, E7_11, E7_12, E7_14, E7_26, E7_28, E7_29, pf26_at, pf11_at, pf28_at, glob, ev4, s22, s21, s20, s0]
            refine condQ_dec (fun hlt => ?_) (fun hge => ?_)
            · have hlt : k < l.length := by omega
              have h0 := hpos k hlt
              have hm := hl _ (getD_mem hlt)
              unfold i64ok at hm
              have hn8 := need_le (l.getD k 0).toNat (by omega)
              simp (maxSteps := 1000000) (disch := first | omega | (simp only [digF_len, putK_len, putB_len, nums_len, List.length_cons, List.length_nil, List.length_append, List.length_take, List.length_drop, List.length_replicate, List.length_set, List.length_map] <;> omega) | fail) only [ev0, ev1, ev2, ev3, ↓reduceIte, reduceCtorEq, Nat.reduceAdd, Nat.reduceSub, Nat.reduceMul, Nat.reduceLT, Nat.reduceLeDiff, Nat.reduceEqDiff, Nat.reduceBEq, BitVec.reduceOfInt, Int.reduceLE, Int.reduceLT, Int.reduceGT, Int.reduceGE, Int.reduceNeg, Int.reduceAdd, Int.reduceSub, Int.reduceMul, Int.reduceToNat, ↓bind_go, ↓map_go, wantedV, isWrite, grow, write, ofV, AV.cells, Abs.start, Abs.strip, endQ, resV, rawsRes, rawRes, exports, export1, AS.grown, AS.put, Env.know, Env.boxed, isSelf, convSelf, convV, loadV, storeV, fieldAddrV, fieldV, indexAddrV, indexV, partV, isAggK, isStr, place, lenV, min2V, makeV, freshSl, sliceV, boundOr, bound, bounds, cutFl, copyV, slCells, srcV, appendV, room, zerosOf, eqNeg, kd, takeR, hasViewL, hasView, freshR, freshC, snapAll, snap, snapL, flatL, pureL, pureA, fillC, arrOK, oneA, te2, te3, te4, te5, te9, te22, te24, te36, te46, te52, te54, E7_te, E7_glob, E7_mu, E7_11, E7_12, E7_14, E7_26, E7_28, E7_29, pf26_at, pf11_at, pf28_at, glob, ev4, s22, s21, s20, s0]
              refine ⟨l.length - (k + 1), by omega, k + 1, ⟨29, 0, gn 29 + 1⟩, by omega, rfl, rfl, ?_⟩
              have hN : putLk b l (k + 1) = putB M (l.getD k 0).toNat := by rw [putLk, hM]
              rw [hN, putB_len]
            · have hk : k = l.length := by omega
              subst hk
              rw [show putL b l = M from hM]
              cases hu : us i
              · simp (maxSteps := 1000000) (disch := first | omega | (simp only [digF_len, putK_len, putB_len, nums_len, List.length_cons, List.length_nil, List.length_append, List.length_take, List.length_drop, List.length_replicate, List.length_set, List.length_map] <;> omega) | fail) only [ev0, ev1, ev2, ev3, ↓reduceIte, reduceCtorEq, Nat.reduceAdd, Nat.reduceSub, Nat.reduceMul, Nat.reduceLT, Nat.reduceLeDiff, Nat.reduceEqDiff, Nat.reduceBEq, BitVec.reduceOfInt, Int.reduceLE, Int.reduceLT, Int.reduceGT, Int.reduceGE, Int.reduceNeg, Int.reduceAdd, Int.reduceSub, Int.reduceMul, Int.reduceToNat, ↓bind_go, ↓map_go, wantedV, isWrite, grow, write, ofV, AV.cells, Abs.start, Abs.strip, endQ, resV, rawsRes, rawRes, exports, export1, AS.grown, AS.put, Env.know, Env.boxed, isSelf, convSelf, convV, loadV, storeV, fieldAddrV, fieldV, indexAddrV, indexV, partV, isAggK, isStr, place, lenV, min2V, makeV, freshSl, sliceV, boundOr, bound, bounds, cutFl, copyV, slCells, srcV, appendV, room, zerosOf, eqNeg, kd, takeR, hasViewL, hasView, freshR, freshC, snapAll, snap, snapL, flatL, pureL, pureA, fillC, arrOK, oneA, te2, te3, te4, te5, te9, te22, te24, te36, te46, te52, te54, E7_te, E7_glob, E7_mu, E7_11, E7_12, E7_14, E7_26, E7_28, E7_29, pf26_at, pf11_at, pf28_at, glob, ev4, s22, s21, s20, s0, hu]
                exact resQ_2
              · simp (maxSteps := 1000000) (disch := first | omega | (simp only [digF_len, putK_len, putB_len, nums_len, List.length_cons, List.length_nil, List.length_append, List.length_take, List.length_drop, List.length_replicate, List.length_set, List.length_map] <;> omega) | fail) only [ev0, ev1, ev2, ev3, ↓reduceIte, reduceCtorEq, Nat.reduceAdd, Nat.reduceSub, Nat.reduceMul, Nat.reduceLT, Nat.reduceLeDiff, Nat.reduceEqDiff, Nat.reduceBEq, BitVec.reduceOfInt, Int.reduceLE, Int.reduceLT, Int.reduceGT, Int.reduceGE, Int.reduceNeg, Int.reduceAdd, Int.reduceSub, Int.reduceMul, Int.reduceToNat, ↓bind_go, ↓map_go, wantedV, isWrite, grow, write, ofV, AV.cells, Abs.start, Abs.strip, endQ, resV, rawsRes, rawRes, exports, export1, AS.grown, AS.put, Env.know, Env.boxed, isSelf, convSelf, convV, loadV, storeV, fieldAddrV, fieldV, indexAddrV, indexV, partV, isAggK, isStr, place, lenV, min2V, makeV, freshSl, sliceV, boundOr, bound, bounds, cutFl, copyV, slCells, srcV, appendV, room, zerosOf, eqNeg, kd, takeR, hasViewL, hasView, freshR, freshC, snapAll, snap, snapL, flatL, pureL, pureA, fillC, arrOK, oneA, te2, te3, te4, te5, te9, te22, te24, te36, te46, te52, te54, E7_te, E7_glob, E7_mu, E7_11, E7_12, E7_14, E7_26, E7_28, E7_29, pf26_at, pf11_at, pf28_at, glob, ev4, s22, s21, s20, s0, hu]
                exact resQ_2
    · cases hr
  · cases hr

theorem sound21 : SoundV Try.prog glob 21 pf20 := by
  refine SoundV.walk E7 ok7 mixed Try.func21 rfl Try.call21 (by kernel_rfl) ?_
  intro args r hr
  unfold pf20 at hr
  split at hr
  · simp only [Option.bind_eq_some_iff] at hr
    obtain ⟨b, h1, l, h2, hr⟩ := hr
    split at hr
    · rename_i hc
      obtain ⟨fl, rfl⟩ := row?_of h1
      obtain ⟨⟨gl, rfl⟩, hl⟩ := irow?_of h2
      by_cases c1 : l.length > 4096
      · rw [if_pos c1] at hr
        cases hr
        rw [Try.ntmps21, Try.results21]
        refine ⟨by simp, ?_⟩
        have d1 : decide ((l.length : Int) > 4096) = true := decide_eq_true (by omega)
        simp (maxSteps := 1000000) (disch := first | omega | (simp only [digF_len, putK_len, putB_len, nums_len, List.length_cons, List.length_nil, List.length_append, List.length_take, List.length_drop, List.length_replicate, List.length_set, List.length_map] <;> omega) | fail) only [ev0, ev1, ev2, ev3, ↓reduceIte, reduceCtorEq, Nat.reduceAdd, Nat.reduceSub, Nat.reduceMul, Nat.reduceLT, Nat.reduceLeDiff, Nat.reduceEqDiff, Nat.reduceBEq, BitVec.reduceOfInt, Int.reduceLE, Int.reduceLT, Int.reduceGT, Int.reduceGE, Int.reduceNeg, Int.reduceAdd, Int.reduceSub, Int.reduceMul, Int.reduceToNat, ↓bind_go, ↓map_go, wantedV, isWrite, grow, write, ofV, AV.cells, Abs.start, Abs.strip, endQ, resV, rawsRes, rawRes, exports, export1, AS.grown, AS.put, Env.know, Env.boxed, isSelf, convSelf, convV, loadV, storeV, fieldAddrV, fieldV, indexAddrV, indexV, partV, isAggK, isStr, place, lenV, min2V, makeV, freshSl, sliceV, boundOr, bound, bounds, cutFl, copyV, slCells, srcV, appendV, room, zerosOf, eqNeg, kd, takeR, hasViewL, hasView, freshR, freshC, snapAll, snap, snapL, flatL, pureL, pureA, fillC, arrOK, oneA, te2, te3, te4, te5, te9, te22, te24, te36, te46, te52, te54, E7_te, E7_glob, E7_mu, E7_11, E7_12, E7_14, E7_26, E7_28, E7_29, pf26_at, pf11_at, pf28_at, glob, ev4, d1]
        exact resQ_2nil
      · rw [if_neg c1] at hr
        have d1 : decide ((l.length : Int) > 4096) = false := decide_eq_false (by omega)
        have hn8 := need_le l.length (by omega)
        rw [Try.ntmps21, Try.results21]
        refine ⟨by simp, ?_⟩
        simp (maxSteps := 1000000) (disch := first | omega | (simp only [digF_len, putK_len, putB_len, nums_len, List.length_cons, List.length_nil, List.length_append, List.length_take, List.length_drop, List.length_replicate, List.length_set, List.length_map] <;> omega) | fail) only [ev0, ev1, ev2, ev3, ↓reduceIte, reduceCtorEq, Nat.reduceAdd, Nat.reduceSub, Nat.reduceMul, Nat.reduceLT, Nat.reduceLeDiff, Nat.reduceEqDiff, Nat.reduceBEq, BitVec.reduceOfInt, Int.reduceLE, Int.reduceLT, Int.reduceGT, Int.reduceGE, Int.reduceNeg, Int.reduceAdd, Int.reduceSub, Int.reduceMul, Int.reduceToNat, ↓bind_go, ↓map_go, wantedV, isWrite, grow, write, ofV, AV.cells, Abs.start, Abs.strip, endQ, resV, rawsRes, rawRes, exports, export1, AS.grown, AS.put, Env.know, Env.boxed, isSelf, convSelf, convV, loadV, storeV, fieldAddrV, fieldV, indexAddrV, indexV, partV, isAggK, isStr, place, lenV, min2V, makeV, freshSl, sliceV, boundOr, bound, bounds, cutFl, copyV, slCells, srcV, appendV, room, zerosOf, eqNeg, kd, takeR, hasViewL, hasView, freshR, freshC, snapAll, snap, snapL, flatL, pureL, pureA, fillC, arrOK, oneA, te2, te3, te4, te5, te9, te22, te24, te36, te46, te52, te54, E7_te, E7_glob, E7_mu, E7_11, E7_12, E7_14, E7_26, E7_28, E7_29, pf26_at, pf11_at, pf28_at, glob, ev4, d1]
        refine loopQ_of (fun n σ => ∃ k i, k ≤ l.length ∧ n = l.length - k ∧ (∀ j, j < k → 0 ≤ l.getD j 0) ∧ σ.slots 8 = .raw (.int .i64 (k : Int)) ∧ σ.slots 1 = .sl l.length (ints .i64 l) .bor ∧ σ.slots 6 = .sl (putLk b l k).length (nums .u8 (putLk b l k)) (.own i 1)) l.length ?_ ?_
        · refine ⟨0, ⟨18, 0, 1⟩, by omega, by omega, by omega, ?_⟩
          simp (maxSteps := 1000000) (disch := first | omega | (simp only [digF_len, putK_len, putB_len, nums_len, List.length_cons, List.length_nil, List.length_append, List.length_take, List.length_drop, List.length_replicate, List.length_set, List.length_map] <;> omega) | fail) only [ev0, ev1, ev2, ev3, ↓reduceIte, reduceCtorEq, Nat.reduceAdd, Nat.reduceSub, Nat.reduceMul, Nat.reduceLT, Nat.reduceLeDiff, Nat.reduceEqDiff, Nat.reduceBEq, BitVec.reduceOfInt, Int.reduceLE, Int.reduceLT, Int.reduceGT, Int.reduceGE, Int.reduceNeg, Int.reduceAdd, Int.reduceSub, Int.reduceMul, Int.reduceToNat, ↓bind_go, ↓map_go, wantedV, isWrite, grow, write, ofV, AV.cells, Abs.start, Abs.strip, endQ, resV, rawsRes, rawRes, exports, export1, AS.grown, AS.put, Env.know, Env.boxed, isSelf, convSelf, convV, loadV, storeV, fieldAddrV, fieldV, indexAddrV, indexV, partV, isAggK, isStr, place, lenV, min2V, makeV, freshSl, sliceV, boundOr, bound, bounds, cutFl, copyV, slCells, srcV, appendV, room, zerosOf, eqNeg, kd, takeR, hasViewL, hasView, freshR, freshC, snapAll, snap, snapL, flatL, pureL, pureA, fillC, arrOK, oneA, te2, te3, te4, te5, te9, te22, te24, te36, te46, te52, te54, E7_te, E7_glob, E7_mu, E7_11, E7_12, E7_14, E7_26, E7_28, E7_29, pf26_at, pf11_at, pf28_at, glob, ev4]
          exact ⟨rfl, rfl⟩
        · rintro n ⟨sl, gn, bx, us⟩ ⟨k, i, hk, rfl, hs, s8, s1, s6⟩
          dsimp only at s8 s1 s6
          have lM := putLk_len b l hl (by omega) k hk
          generalize hM : putLk b l k = M at s6 lM
          simp (maxSteps := 1000000) (disch := first | omega | (simp only [digF_len, putK_len, putB_len, nums_len, List.length_cons, List.length_nil, List.length_append, List.length_take, List.length_drop, List.length_replicate, List.length_set, List.length_map] <;> omega) | fail) only [ev0, ev1, ev2, ev3, ↓reduceIte, reduceCtorEq, Nat.reduceAdd, Nat.reduceSub, Nat.reduceMul, Nat.reduceLT, Nat.reduceLeDiff, Nat.reduceEqDiff, Nat.reduceBEq, BitVec.reduceOfInt, Int.reduceLE, Int.reduceLT, Int.reduceGT, Int.reduceGE, Int.reduceNeg, Int.reduceAdd, Int.reduceSub, Int.reduceMul, Int.reduceToNat, ↓bind_go, ↓map_go, wantedV, isWrite, grow, write, ofV, AV.cells, Abs.start, Abs.strip, endQ, resV, rawsRes, rawRes, exports, export1, AS.grown, AS.put, Env.know, Env.boxed, isSelf, convSelf, convV, loadV, storeV, fieldAddrV, fieldV, indexAddrV, indexV, partV, isAggK, isStr, place, lenV, min2V, makeV, freshSl, sliceV, boundOr, bound, bounds, cutFl, copyV, slCells, srcV, appendV, room, zerosOf, eqNeg, kd, takeR, hasViewL, hasView, freshR, freshC, snapAll, snap, snapL, flatL, pureL, pureA, fillC, arrOK, oneA, te2, te3, te4, te5, te9, te22, te24, te36, te46, te52, te54, E7_te, E7_glob, E7_mu, E7_11, E7_12, E7_14, E7_26, E7_28, E7_29, pf26_at, pf11_at, pf28_at, glob, ev4, s8, s1, s6]
          refine condQ_dec (fun hlt => ?_) (fun hge => ?_)
          · have hlt : k < l.length := by omega
            have hm := hl _ (getD_mem hlt)
            unfold i64ok at hm
            by_cases h0 : l.getD k 0 < 0
            · have hng : neg l = true := (neg_iff l).2 ⟨_, getD_mem hlt, h0⟩
              rw [if_pos hng] at hr
              cases hr
              have hp := pf11_neg (b := M) (fl := .own i 1) (n := l.getD k 0) rfl (by omega) (by omega) h0
              have hp2 := pf11_neg (b := M) (fl := .bor) (n := l.getD k 0) rfl (by omega) (by omega) h0
              simp (maxSteps := 1000000) (disch := first | omega | (simp only [digF_len, putK_len, putB_len, nums_len, List.length_cons, List.length_nil, List.length_append, List.length_take, List.length_drop, List.length_replicate, List.length_set, List.length_map] <;> omega) | fail) only [ev0, ev1, ev2, ev3, ↓reduceIte, reduceCtorEq, Nat.reduceAdd, Nat.reduceSub, Nat.reduceMul, Nat.reduceLT, Nat.reduceLeDiff, Nat.reduceEqDiff, Nat.reduceBEq, BitVec.reduceOfInt, Int.reduceLE, Int.reduceLT, Int.reduceGT, Int.reduceGE, Int.reduceNeg, Int.reduceAdd, Int.reduceSub, Int.reduceMul, Int.reduceToNat, ↓bind_go, ↓map_go, wantedV, isWrite, grow, write, ofV, AV.cells, Abs.start, Abs.strip, endQ, resV, rawsRes, rawRes, exports, export1, AS.grown, AS.put, Env.know, Env.boxed, isSelf, convSelf, convV, loadV, storeV, fieldAddrV, fieldV, indexAddrV, indexV, partV, isAggK, isStr, place, lenV, min2V, makeV, freshSl, sliceV, boundOr, bound, bounds, cutFl, copyV, slCells, srcV, appendV, room, zerosOf, eqNeg, kd, takeR, hasViewL, hasView, freshR, freshC, snapAll, snap, snapL, flatL, pureL, pureA, fillC, arrOK, oneA, te2, te3, te4, te5, te9, te22, te24, te36, te46, te52, te54, E7_te, E7_glob, E7_mu, E7_11, E7_12, E7_14, E7_26, E7_28, E7_29, pf26_at, pf11_at, pf28_at, glob, ev4, s8, s1, s6, hp, hp2, ne10]
              exact resQ_2nil
            · have hn8 := need_le (l.getD k 0).toNat (by omega)
              simp (maxSteps := 1000000) (disch := first | omega | (simp only [digF_len, putK_len, putB_len, nums_len, List.length_cons, List.length_nil, List.length_append, List.length_take, List.length_drop, List.length_replicate, List.length_set, List.length_map] <;> omega) | fail) only [ev0, ev1, ev2, ev3, ↓reduceIte, reduceCtorEq, Nat.reduceAdd, Nat.reduceSub, Nat.reduceMul, Nat.reduceLT, Nat.reduceLeDiff, Nat.reduceEqDiff, Nat.reduceBEq, BitVec.reduceOfInt, Int.reduceLE, Int.reduceLT, Int.reduceGT, Int.reduceGE, Int.reduceNeg, Int.reduceAdd, Int.reduceSub, Int.reduceMul, Int.reduceToNat, ↓bind_go, ↓map_go, wantedV, isWrite, grow, write, ofV, AV.cells, Abs.start, Abs.strip, endQ, resV, rawsRes, rawRes, exports, export1, AS.grown, AS.put, Env.know, Env.boxed, isSelf, convSelf, convV, loadV, storeV, fieldAddrV, fieldV, indexAddrV, indexV, partV, isAggK, isStr, place, lenV, min2V, makeV, freshSl, sliceV, boundOr, bound, bounds, cutFl, copyV, slCells, srcV, appendV, room, zerosOf, eqNeg, kd, takeR, hasViewL, hasView, freshR, freshC, snapAll, snap, snapL, flatL, pureL, pureA, fillC, arrOK, oneA, te2, te3, te4, te5, te9, te22, te24, te36, te46, te52, te54, E7_te, E7_glob, E7_mu, E7_11, E7_12, E7_14, E7_26, E7_28, E7_29, pf26_at, pf11_at, pf28_at, glob, ev4, s8, s1, s6, ne00]
              refine ⟨l.length - (k + 1), by omega, k + 1, ⟨33, 0, gn 33 + 1⟩, by omega, rfl, ?_, ?_⟩
              · intro j hj
                rcases Nat.lt_or_eq_of_le (Nat.le_of_lt_succ hj) with h | h
                · exact hs j h
                · rw [h]; omega
              · have hN : putLk b l (k + 1) = putB M (l.getD k 0).toNat := by rw [putLk, hM]
                rw [hN, putB_len]
                exact ⟨rfl, rfl⟩
          · have hk : k = l.length := by omega
            subst hk
            have hng : ¬ neg l = true := fun h => by
              obtain ⟨x, hx, h0⟩ := (neg_iff l).1 h
              obtain ⟨j, hj, rfl⟩ := List.mem_iff_getElem.1 hx
              have := hs j hj
              rw [List.getD_eq_getElem?_getD, List.getElem?_eq_getElem hj] at this
              simp at this
              omega
            rw [if_neg hng] at hr
            cases hr
            rw [show putL b l = M from hM]
            cases hu : us i
            · simp (maxSteps := 1000000) (disch := first | omega | (simp only [digF_len, putK_len, putB_len, nums_len, List.length_cons, List.length_nil, List.length_append, List.length_take, List.length_drop, List.length_replicate, List.length_set, List.length_map] <;> omega) | fail) only [ev0, ev1, ev2, ev3, ↓reduceIte, reduceCtorEq, Nat.reduceAdd, Nat.reduceSub, Nat.reduceMul, Nat.reduceLT, Nat.reduceLeDiff, Nat.reduceEqDiff, Nat.reduceBEq, BitVec.reduceOfInt, Int.reduceLE, Int.reduceLT, Int.reduceGT, Int.reduceGE, Int.reduceNeg, Int.reduceAdd, Int.reduceSub, Int.reduceMul, Int.reduceToNat, ↓bind_go, ↓map_go, wantedV, isWrite, grow, write, ofV, AV.cells, Abs.start, Abs.strip, endQ, resV, rawsRes, rawRes, exports, export1, AS.grown, AS.put, Env.know, Env.boxed, isSelf, convSelf, convV, loadV, storeV, fieldAddrV, fieldV, indexAddrV, indexV, partV, isAggK, isStr, place, lenV, min2V, makeV, freshSl, sliceV, boundOr, bound, bounds, cutFl, copyV, slCells, srcV, appendV, room, zerosOf, eqNeg, kd, takeR, hasViewL, hasView, freshR, freshC, snapAll, snap, snapL, flatL, pureL, pureA, fillC, arrOK, oneA, te2, te3, te4, te5, te9, te22, te24, te36, te46, te52, te54, E7_te, E7_glob, E7_mu, E7_11, E7_12, E7_14, E7_26, E7_28, E7_29, pf26_at, pf11_at, pf28_at, glob, ev4, s8, s1, s6, hu]
              exact resQ_2
            · simp (maxSteps := 1000000) (disch := first | omega | (simp only [digF_len, putK_len, putB_len, nums_len, List.length_cons, List.length_nil, List.length_append, List.length_take, List.length_drop, List.length_replicate, List.length_set, List.length_map] <;> omega) | fail) only [ev0, ev1, ev2, ev3, ↓reduceIte, reduceCtorEq, Nat.reduceAdd, Nat.reduceSub, Nat.reduceMul, Nat.reduceLT, Nat.reduceLeDiff, Nat.reduceEqDiff, Nat.reduceBEq, BitVec.reduceOfInt, Int.reduceLE, Int.reduceLT, Int.reduceGT, Int.reduceGE, Int.reduceNeg, Int.reduceAdd, Int.reduceSub, Int.reduceMul, Int.reduceToNat, ↓bind_go, ↓map_go, wantedV, isWrite, grow, write, ofV, AV.cells, Abs.start, Abs.strip, endQ, resV, rawsRes, rawRes, exports, export1, AS.grown, AS.put, Env.know, Env.boxed, isSelf, convSelf, convV, loadV, storeV, fieldAddrV, fieldV, indexAddrV, indexV, partV, isAggK, isStr, place, lenV, min2V, makeV, freshSl, sliceV, boundOr, bound, bounds, cutFl, copyV, slCells, srcV, appendV, room, zerosOf, eqNeg, kd, takeR, hasViewL, hasView, freshR, freshC, snapAll, snap, snapL, flatL, pureL, pureA, fillC, arrOK, oneA, te2, te3, te4, te5, te9, te22, te24, te36, te46, te52, te54, E7_te, E7_glob, E7_mu, E7_11, E7_12, E7_14, E7_26, E7_28, E7_29, pf26_at, pf11_at, pf28_at, glob, ev4, s8, s1, s6, hu]
              exact resQ_2
    · cases hr
  · cases hr
end Go.Proofs.Ytohemglpjjcohaa
