/- mac.Expand: what its walk comes to. -/
import Derived.Test.YtddeffdgldjdjaaDoorHg
namespace Go.Proofs.YtddeffdgldjdjaaDoor
set_option linter.unusedSimpArgs false
set_option linter.unusedVariables false
set_option linter.defProp false
open Go Go.Abs

def ES16 : Env := ES0.know 25 (fun xs => pf25 (xs.map norm))
theorem okS16 : EnvOK Tryd.prog ES16 := okS0.know sound25.norm
theorem pf25_at {n l : Nat} {key b : List (BitVec 8)} {fl fl' : Fl} (hn : n = key.length) (hl : l = b.length) (h1 : key.length ≤ 1000000000) (h2 : b.length ≤ 1000000000) : pf25 [.sl n (nums .u8 key) fl, .sl l (nums .u8 b) fl'] = some (.agg (nums .u8 (sumB key b))) := by
  simp only [pf25, row?_at hn, row?_at hl, Option.bind_some, if_pos (And.intro h1 h2)]
theorem norm2_nil : norm2 (.raw (.slice none 0 0)) = .sl 0 [] .bor := rfl
def ES17 : Env := ES16.know 61 (fun xs => pf61 (xs.map norm2))
theorem okS17 : EnvOK Tryd.prog ES17 := okS16.know sound61.norm2
theorem ES17_te : ES17.te = te := rfl
theorem ES17_gs : ES17.gs = [] := rfl
theorem ES17_dyn : ES17.dyn = false := rfl
theorem ES17_glob : ES17.glob = globS := rfl
theorem ES17_mu (d : Nat) : ES17.mu d = false := rfl
theorem ES17_25 : ES17.tbl 25 = some (.val (fun xs => pf25 (xs.map norm))) := rfl
theorem ES17_61 : ES17.tbl 61 = some (.val (fun xs => pf61 (xs.map norm2))) := rfl

theorem pf61_v {n a b : Nat} {l y : List (BitVec 8)} {x : BitVec 8} {fl : Fl} (h0 : n = 3) (ha : a = l.length) (hb : b = y.length) (h : l.length + y.length + 1 ≤ 1099511627776) :
    pf61 [.sl n [.sl a (nums .u8 l) .bor, .sl b (nums .u8 y) .bor, .sl 1 [.raw (.int .u8 (x.toNat : Int))] .bor] fl] = some (.sl (l.length + y.length + 1) (nums .u8 (l ++ y ++ [x])) (.own ⟨0, 0, 0, 0⟩ 1)) :=
  pf61_three (z := [x]) h0 ha hb rfl h
theorem pf61_n {n b : Nat} {y : List (BitVec 8)} {x : BitVec 8} {fl : Fl} (h0 : n = 3) (hb : b = y.length) (h : y.length + 1 ≤ 1099511627776) :
    pf61 [.sl n [.sl 0 [] .bor, .sl b (nums .u8 y) .bor, .sl 1 [.raw (.int .u8 (x.toNat : Int))] .bor] fl] = some (.sl (y.length + 1) (nums .u8 (y ++ [x])) (.own ⟨0, 0, 0, 0⟩ 1)) := by
  have := pf61_three (x := []) (z := [x]) (fl := fl) h0 (show 0 = ([] : List (BitVec 8)).length from rfl) hb rfl (by simpa using h)
  simpa [nums] using this
/-- the last sum of i ones; all of them -/
def expL (key info : List (BitVec 8)) : Nat → List (BitVec 8)
  | 0 => []
  | i + 1 => sumB key (expL key info i ++ info ++ [BitVec.ofInt 8 ((i : Int) + 1)])
def expO (key info : List (BitVec 8)) : Nat → List (BitVec 8)
  | 0 => []
  | i + 1 => expO key info i ++ expL key info (i + 1)
theorem expL_len (key info : List (BitVec 8)) (i : Nat) : (expL key info (i + 1)).length = 32 := by rw [expL, sumB_len]
theorem expO_len (key info : List (BitVec 8)) (i : Nat) : (expO key info i).length = 32 * i := by
  induction i with
  | zero => rfl
  | succ i ih => rw [expO, List.length_append, ih, expL_len]; omega
def expandB (key info : List (BitVec 8)) (n : Nat) : List (BitVec 8) := (expO key info ((n + 31) / 32)).take n
theorem expandB_len (key info : List (BitVec 8)) (n : Nat) : (expandB key info n).length = n := by rw [expandB, List.length_take, expO_len]; omega
/-- the room behind what is expanded, if nothing is cut off -/
def xfl (n : Nat) : Fl := if n = 32 * ((n + 31) / 32) then .own ⟨0, 0, 0, 0⟩ 1 else .bor
def pf64 : List AV → Option AV
  | [k, v, m] => (row? .u8 8 k).bind fun key => (row? .u8 8 v).bind fun info => (int? m).bind fun n => if key.length ≤ 1000000 ∧ info.length ≤ 1000000 then
      (if n < 0 ∨ n > 8160 then some (.tup [.sl 0 [] .bor, .raw (.int .i64 1)]) else some (.tup [.sl n.toNat (nums .u8 (expandB key info n.toNat)) (xfl n.toNat), .raw (.int .i64 0)])) else none
  | _ => none

theorem resQ_two {n : Nat} {xs : List AV} {fl : Fl} {v : Value} : ResQ (some (.tup [.sl n xs fl, .raw v])) (.tup [.sl n xs .bor, .raw v]) :=
  ⟨_, rfl, .tup rfl fun j x r hx hr => by
    match j with
    | 0 => simp at hx hr; subst hx hr; exact .bor _ _ _ _
    | 1 => simp at hx hr; subst hx hr; exact .same _ _
    | j + 2 => simp at hx⟩
theorem resQ_two_nil {v : Value} : ResQ (some (.tup [.raw (.slice none 0 0), .raw v])) (.tup [.sl 0 [] .bor, .raw v]) :=
  ⟨_, rfl, .tup rfl fun j x r hx hr => by
    match j with
    | 0 => simp at hx hr; subst hx hr; exact .nilb _
    | 1 => simp at hx hr; subst hx hr; exact .same _ _
    | j + 2 => simp at hx⟩

set_option maxHeartbeats 4000000
def tbHh0 := (And.intro (And.intro (And.intro (And.intro @teE @ES17_te) (And.intro @ES17_gs @ES17_dyn)) (And.intro (And.intro @ES17_glob @ES17_mu) (And.intro @ES17_25 (And.intro @ES17_61 @pf25_at)))) (And.intro (And.intro (And.intro @pf61_v @pf61_n) (And.intro @ns_strip @ns_set)) (And.intro (And.intro @sumB_len @norm2_sl) (And.intro @norm2_nil (And.intro @rep_two @rep_three)))))
theorem sound64 : SoundV Tryd.prog globS 64 pf64 := by
  refine SoundV.walk ES17 okS17 mixed Tryd.func64 rfl Tryd.call64 (by kernel_rfl) ?_
  intro args r hr
  unfold pf64 at hr
  split at hr
  · simp only [Option.bind_eq_some_iff] at hr
    obtain ⟨key, h1, info, h2, n, h3, hr⟩ := hr
    split at hr
    · rename_i hc
      obtain ⟨hc1, hc2⟩ := hc
      obtain ⟨fl, rfl⟩ := row?_of h1
      obtain ⟨fl', rfl⟩ := row?_of h2
      rw [int?_of h3]
      clear h1 h2 h3
      rw [Tryd.ntmps64, Tryd.results64]
      refine ⟨by simp, ?_⟩
      by_cases hn : n < 0
      · rw [if_pos (.inl hn)] at hr
        cases hr
        simp (maxSteps := 1000000) (disch := first | omega | (simp only [sumB_len, expO_len, expL_len, lnB] <;> omega) | fail) only [ev0, ev1, ev2, ev3, ↓reduceIte, reduceCtorEq, Nat.reduceAdd, Nat.reduceSub, Nat.reduceMul, Nat.reduceLT, Nat.reduceLeDiff, Nat.reduceEqDiff, Nat.reduceBEq, BitVec.reduceOfInt, Int.reduceLE, Int.reduceLT, Int.reduceGT, Int.reduceGE, Int.reduceNeg, Int.reduceAdd, Int.reduceSub, Int.reduceMul, Int.reduceToNat, ↓bind_go, ↓map_go, wantedV, isWrite, grow, write, ofV, AV.cells, Abs.start, Abs.strip, endQ, resV, rawsRes, rawRes, exports, export1, AS.grown, AS.put, Env.know, Env.boxed, isSelf, convSelf, convV, loadV, storeV, fieldAddrV, fieldV, indexAddrV, indexV, partV, isAggK, isStr, place, ipS, lenV, min2V, makeV, freshSl, sliceV, boundOr, bound, bounds, cutFl, copyV, slCells, srcV, appendV, room, zerosOf, eqNeg, kd, takeR, hasViewL, hasView, freshR, freshC, snapAll, snap, snapL, flatL, pureL, pureA, fillC, arrOK, oneA, partB, AV.laid, ren1, CR.gr, applyW, useL, AS.mute, isGen, startG, ev5, tbHh0, globS, hn]
        exact resQ_two_nil
      · by_cases hn2 : n > 8160
        · rw [if_pos (.inr hn2)] at hr
          cases hr
          simp (maxSteps := 1000000) (disch := first | omega | (simp only [sumB_len, expO_len, expL_len, lnB] <;> omega) | fail) only [ev0, ev1, ev2, ev3, ↓reduceIte, reduceCtorEq, Nat.reduceAdd, Nat.reduceSub, Nat.reduceMul, Nat.reduceLT, Nat.reduceLeDiff, Nat.reduceEqDiff, Nat.reduceBEq, BitVec.reduceOfInt, Int.reduceLE, Int.reduceLT, Int.reduceGT, Int.reduceGE, Int.reduceNeg, Int.reduceAdd, Int.reduceSub, Int.reduceMul, Int.reduceToNat, ↓bind_go, ↓map_go, wantedV, isWrite, grow, write, ofV, AV.cells, Abs.start, Abs.strip, endQ, resV, rawsRes, rawRes, exports, export1, AS.grown, AS.put, Env.know, Env.boxed, isSelf, convSelf, convV, loadV, storeV, fieldAddrV, fieldV, indexAddrV, indexV, partV, isAggK, isStr, place, ipS, lenV, min2V, makeV, freshSl, sliceV, boundOr, bound, bounds, cutFl, copyV, slCells, srcV, appendV, room, zerosOf, eqNeg, kd, takeR, hasViewL, hasView, freshR, freshC, snapAll, snap, snapL, flatL, pureL, pureA, fillC, arrOK, oneA, partB, AV.laid, ren1, CR.gr, applyW, useL, AS.mute, isGen, startG, ev5, tbHh0, globS, hn, hn2]
          exact resQ_two_nil
        · rw [if_neg (by omega)] at hr
          cases hr
          obtain ⟨m, rfl⟩ := Int.eq_ofNat_of_zero_le (show 0 ≤ n by omega)
          simp (maxSteps := 1000000) (disch := first | omega | (simp only [sumB_len, expO_len, expL_len, lnB] <;> omega) | fail) only [ev0, ev1, ev2, ev3, ↓reduceIte, reduceCtorEq, Nat.reduceAdd, Nat.reduceSub, Nat.reduceMul, Nat.reduceLT, Nat.reduceLeDiff, Nat.reduceEqDiff, Nat.reduceBEq, BitVec.reduceOfInt, Int.reduceLE, Int.reduceLT, Int.reduceGT, Int.reduceGE, Int.reduceNeg, Int.reduceAdd, Int.reduceSub, Int.reduceMul, Int.reduceToNat, ↓bind_go, ↓map_go, wantedV, isWrite, grow, write, ofV, AV.cells, Abs.start, Abs.strip, endQ, resV, rawsRes, rawRes, exports, export1, AS.grown, AS.put, Env.know, Env.boxed, isSelf, convSelf, convV, loadV, storeV, fieldAddrV, fieldV, indexAddrV, indexV, partV, isAggK, isStr, place, ipS, lenV, min2V, makeV, freshSl, sliceV, boundOr, bound, bounds, cutFl, copyV, slCells, srcV, appendV, room, zerosOf, eqNeg, kd, takeR, hasViewL, hasView, freshR, freshC, snapAll, snap, snapL, flatL, pureL, pureA, fillC, arrOK, oneA, partB, AV.laid, ren1, CR.gr, applyW, useL, AS.mute, isGen, startG, ev5, tbHh0, globS, hn, hn2]
          have hcn : (m + 31) / 32 ≤ 255 := by omega
          obtain ⟨c, hcd⟩ : ∃ c, c = (m + 31) / 32 := ⟨_, rfl⟩
          rw [← hcd] at hcn
          refine loopQ_wk _ (Wk.at (d := 8) (v := .sl 0 [] (.own ⟨0, 8, 0, 0⟩ 1)) (by simp (maxSteps := 1000000) (disch := first | omega | (simp only [sumB_len, expO_len, expL_len, lnB] <;> omega) | fail) only [ev0, ev1, ev2, ev3, ↓reduceIte, reduceCtorEq, Nat.reduceAdd, Nat.reduceSub, Nat.reduceMul, Nat.reduceLT, Nat.reduceLeDiff, Nat.reduceEqDiff, Nat.reduceBEq, BitVec.reduceOfInt, Int.reduceLE, Int.reduceLT, Int.reduceGT, Int.reduceGE, Int.reduceNeg, Int.reduceAdd, Int.reduceSub, Int.reduceMul, Int.reduceToNat, ↓bind_go, ↓map_go, wantedV, isWrite, grow, write, ofV, AV.cells, Abs.start, Abs.strip, endQ, resV, rawsRes, rawRes, exports, export1, AS.grown, AS.put, Env.know, Env.boxed, isSelf, convSelf, convV, loadV, storeV, fieldAddrV, fieldV, indexAddrV, indexV, partV, isAggK, isStr, place, ipS, lenV, min2V, makeV, freshSl, sliceV, boundOr, bound, bounds, cutFl, copyV, slCells, srcV, appendV, room, zerosOf, eqNeg, kd, takeR, hasViewL, hasView, freshR, freshC, snapAll, snap, snapL, flatL, pureL, pureA, fillC, arrOK, oneA, partB, AV.laid, ren1, CR.gr, applyW, useL, AS.mute, isGen, startG, ev5, tbHh0, globS]; exact .nil 8 1)) (fun n σ => ∃ k i, k ≤ c ∧ n = c - k ∧ σ.slots 22 = .raw (.int .i64 (k : Int)) ∧ σ.slots 21 = .raw (.int .i64 (c : Int)) ∧ σ.slots 0 = .sl key.length (nums .u8 key) .bor ∧ σ.slots 1 = .sl info.length (nums .u8 info) .bor ∧ σ.slots 2 = .raw (.int .i64 (m : Int)) ∧
            σ.slots 8 = .sl (32 * k) (nums .u8 (expO key info k)) (.own i 1) ∧ Free σ.used (σ.gen 38) 38 i ∧ ((k = 0 ∧ σ.slots 9 = .raw (.slice none 0 0)) ∨ (0 < k ∧ ∃ g, σ.slots 9 = .view (.own 0 11 g) 0 32 32 1 ∧ σ.box (.own 0 11 g) = some (nums .u8 (expL key info k))))) c ?_ ?_
          · refine ⟨0, ⟨0, 8, 0, 0⟩, by omega, by omega, ?_⟩
            simp (maxSteps := 1000000) (disch := first | omega | (simp only [sumB_len, expO_len, expL_len, lnB] <;> omega) | fail) only [ev0, ev1, ev2, ev3, ↓reduceIte, reduceCtorEq, Nat.reduceAdd, Nat.reduceSub, Nat.reduceMul, Nat.reduceLT, Nat.reduceLeDiff, Nat.reduceEqDiff, Nat.reduceBEq, BitVec.reduceOfInt, Int.reduceLE, Int.reduceLT, Int.reduceGT, Int.reduceGE, Int.reduceNeg, Int.reduceAdd, Int.reduceSub, Int.reduceMul, Int.reduceToNat, ↓bind_go, ↓map_go, wantedV, isWrite, grow, write, ofV, AV.cells, Abs.start, Abs.strip, endQ, resV, rawsRes, rawRes, exports, export1, AS.grown, AS.put, Env.know, Env.boxed, isSelf, convSelf, convV, loadV, storeV, fieldAddrV, fieldV, indexAddrV, indexV, partV, isAggK, isStr, place, ipS, lenV, min2V, makeV, freshSl, sliceV, boundOr, bound, bounds, cutFl, copyV, slCells, srcV, appendV, room, zerosOf, eqNeg, kd, takeR, hasViewL, hasView, freshR, freshC, snapAll, snap, snapL, flatL, pureL, pureA, fillC, arrOK, oneA, partB, AV.laid, ren1, CR.gr, applyW, useL, AS.mute, isGen, startG, ev5, tbHh0, globS]
            exact ⟨rfl, i64_eq (by omega), rfl, ⟨rfl, fun _ _ => rfl, by simp⟩⟩
          · rintro n ⟨sl, gn, bx, us⟩ ⟨k, i, hk, rfl, s22, s21, s0, s1, s2, s8, hf, h9⟩
            dsimp only at s22 s21 s0 s1 s2 s8 hf h9
            have hf0 := hf.now
            have lo := expO_len key info k
            simp (maxSteps := 1000000) (disch := first | omega | (simp only [sumB_len, expO_len, expL_len, lnB] <;> omega) | fail) only [ev0, ev1, ev2, ev3, ↓reduceIte, reduceCtorEq, Nat.reduceAdd, Nat.reduceSub, Nat.reduceMul, Nat.reduceLT, Nat.reduceLeDiff, Nat.reduceEqDiff, Nat.reduceBEq, BitVec.reduceOfInt, Int.reduceLE, Int.reduceLT, Int.reduceGT, Int.reduceGE, Int.reduceNeg, Int.reduceAdd, Int.reduceSub, Int.reduceMul, Int.reduceToNat, ↓bind_go, ↓map_go, wantedV, isWrite, grow, write, ofV, AV.cells, Abs.start, Abs.strip, endQ, resV, rawsRes, rawRes, exports, export1, AS.grown, AS.put, Env.know, Env.boxed, isSelf, convSelf, convV, loadV, storeV, fieldAddrV, fieldV, indexAddrV, indexV, partV, isAggK, isStr, place, ipS, lenV, min2V, makeV, freshSl, sliceV, boundOr, bound, bounds, cutFl, copyV, slCells, srcV, appendV, room, zerosOf, eqNeg, kd, takeR, hasViewL, hasView, freshR, freshC, snapAll, snap, snapL, flatL, pureL, pureA, fillC, arrOK, oneA, partB, AV.laid, ren1, CR.gr, applyW, useL, AS.mute, isGen, startG, ev5, tbHh0, globS, s22, s21, s0, s1, s2, s8, hf0]
            refine condQ_dec (fun hlt => ?_) (fun hge => ?_)
            · have hlt : k < c := by omega
              have lo1 := expO_len key info (k + 1)
              rcases h9 with ⟨h0, s9⟩ | ⟨h0, g, s9, b9⟩
              · simp (maxSteps := 1000000) (disch := first | omega | (simp only [sumB_len, expO_len, expL_len, lnB] <;> omega) | fail) only [ev0, ev1, ev2, ev3, ↓reduceIte, reduceCtorEq, Nat.reduceAdd, Nat.reduceSub, Nat.reduceMul, Nat.reduceLT, Nat.reduceLeDiff, Nat.reduceEqDiff, Nat.reduceBEq, BitVec.reduceOfInt, Int.reduceLE, Int.reduceLT, Int.reduceGT, Int.reduceGE, Int.reduceNeg, Int.reduceAdd, Int.reduceSub, Int.reduceMul, Int.reduceToNat, ↓bind_go, ↓map_go, wantedV, isWrite, grow, write, ofV, AV.cells, Abs.start, Abs.strip, endQ, resV, rawsRes, rawRes, exports, export1, AS.grown, AS.put, Env.know, Env.boxed, isSelf, convSelf, convV, loadV, storeV, fieldAddrV, fieldV, indexAddrV, indexV, partV, isAggK, isStr, place, ipS, lenV, min2V, makeV, freshSl, sliceV, boundOr, bound, bounds, cutFl, copyV, slCells, srcV, appendV, room, zerosOf, eqNeg, kd, takeR, hasViewL, hasView, freshR, freshC, snapAll, snap, snapL, flatL, pureL, pureA, fillC, arrOK, oneA, partB, AV.laid, ren1, CR.gr, applyW, useL, AS.mute, isGen, startG, ev5, tbHh0, globS, s22, s21, s0, s1, s2, s8, hf0, s9, lo]
                subst h0
                refine ⟨c - (0 + 1), by omega, 0 + 1, ⟨0, 38, 0, gn 38 + 1⟩, by omega, rfl, rfl, row_eq (by omega) rfl, hf.go, by omega, gn 11 + 1, rfl, ?_⟩
                rw [if_pos rfl]
                rfl
              · have ll : (expL key info k).length = 32 := by
                  obtain ⟨j, rfl⟩ : ∃ j, k = j + 1 := ⟨k - 1, by omega⟩
                  exact expL_len key info j
                simp (maxSteps := 1000000) (disch := first | omega | (simp only [sumB_len, expO_len, expL_len, lnB] <;> omega) | fail) only [ev0, ev1, ev2, ev3, ↓reduceIte, reduceCtorEq, Nat.reduceAdd, Nat.reduceSub, Nat.reduceMul, Nat.reduceLT, Nat.reduceLeDiff, Nat.reduceEqDiff, Nat.reduceBEq, BitVec.reduceOfInt, Int.reduceLE, Int.reduceLT, Int.reduceGT, Int.reduceGE, Int.reduceNeg, Int.reduceAdd, Int.reduceSub, Int.reduceMul, Int.reduceToNat, ↓bind_go, ↓map_go, wantedV, isWrite, grow, write, ofV, AV.cells, Abs.start, Abs.strip, endQ, resV, rawsRes, rawRes, exports, export1, AS.grown, AS.put, Env.know, Env.boxed, isSelf, convSelf, convV, loadV, storeV, fieldAddrV, fieldV, indexAddrV, indexV, partV, isAggK, isStr, place, ipS, lenV, min2V, makeV, freshSl, sliceV, boundOr, bound, bounds, cutFl, copyV, slCells, srcV, appendV, room, zerosOf, eqNeg, kd, takeR, hasViewL, hasView, freshR, freshC, snapAll, snap, snapL, flatL, pureL, pureA, fillC, arrOK, oneA, partB, AV.laid, ren1, CR.gr, applyW, useL, AS.mute, isGen, startG, ev5, tbHh0, globS, s22, s21, s0, s1, s2, s8, hf0, s9, b9, ll, lo]
                refine ⟨c - (k + 1), by omega, k + 1, ⟨0, 38, 0, gn 38 + 1⟩, by omega, rfl, rfl, row_eq (by omega) rfl, hf.go, by omega, gn 11 + 1, rfl, ?_⟩
                rw [if_pos rfl]
                rfl
            · have hk : k = c := by omega
              subst hk
              have hexp : expandB key info m = (expO key info k).take m := by rw [expandB, ← hcd]
              by_cases hmc : m = 32 * k
              · have hme := eq_true hmc
                simp (maxSteps := 1000000) (disch := first | omega | (simp only [sumB_len, expO_len, expL_len, lnB] <;> omega) | fail) only [ev0, ev1, ev2, ev3, ↓reduceIte, reduceCtorEq, Nat.reduceAdd, Nat.reduceSub, Nat.reduceMul, Nat.reduceLT, Nat.reduceLeDiff, Nat.reduceEqDiff, Nat.reduceBEq, BitVec.reduceOfInt, Int.reduceLE, Int.reduceLT, Int.reduceGT, Int.reduceGE, Int.reduceNeg, Int.reduceAdd, Int.reduceSub, Int.reduceMul, Int.reduceToNat, ↓bind_go, ↓map_go, wantedV, isWrite, grow, write, ofV, AV.cells, Abs.start, Abs.strip, endQ, resV, rawsRes, rawRes, exports, export1, AS.grown, AS.put, Env.know, Env.boxed, isSelf, convSelf, convV, loadV, storeV, fieldAddrV, fieldV, indexAddrV, indexV, partV, isAggK, isStr, place, ipS, lenV, min2V, makeV, freshSl, sliceV, boundOr, bound, bounds, cutFl, copyV, slCells, srcV, appendV, room, zerosOf, eqNeg, kd, takeR, hasViewL, hasView, freshR, freshC, snapAll, snap, snapL, flatL, pureL, pureA, fillC, arrOK, oneA, partB, AV.laid, ren1, CR.gr, applyW, useL, AS.mute, isGen, startG, ev5, tbHh0, globS, s22, s21, s0, s1, s2, s8, hf0, lo, hme]
                rw [hexp, List.take_of_length_le (by omega), show xfl m = .own ⟨0, 0, 0, 0⟩ 1 from if_pos (by omega)]
                exact ResQ.same rfl
              · have hme := eq_false hmc
                simp (maxSteps := 1000000) (disch := first | omega | (simp only [sumB_len, expO_len, expL_len, lnB] <;> omega) | fail) only [ev0, ev1, ev2, ev3, ↓reduceIte, reduceCtorEq, Nat.reduceAdd, Nat.reduceSub, Nat.reduceMul, Nat.reduceLT, Nat.reduceLeDiff, Nat.reduceEqDiff, Nat.reduceBEq, BitVec.reduceOfInt, Int.reduceLE, Int.reduceLT, Int.reduceGT, Int.reduceGE, Int.reduceNeg, Int.reduceAdd, Int.reduceSub, Int.reduceMul, Int.reduceToNat, ↓bind_go, ↓map_go, wantedV, isWrite, grow, write, ofV, AV.cells, Abs.start, Abs.strip, endQ, resV, rawsRes, rawRes, exports, export1, AS.grown, AS.put, Env.know, Env.boxed, isSelf, convSelf, convV, loadV, storeV, fieldAddrV, fieldV, indexAddrV, indexV, partV, isAggK, isStr, place, ipS, lenV, min2V, makeV, freshSl, sliceV, boundOr, bound, bounds, cutFl, copyV, slCells, srcV, appendV, room, zerosOf, eqNeg, kd, takeR, hasViewL, hasView, freshR, freshC, snapAll, snap, snapL, flatL, pureL, pureA, fillC, arrOK, oneA, partB, AV.laid, ren1, CR.gr, applyW, useL, AS.mute, isGen, startG, ev5, tbHh0, globS, s22, s21, s0, s1, s2, s8, hf0, lo, hme]
                rw [hexp, show xfl m = .bor from if_neg (by omega)]
                exact resQ_two
    · cases hr
  · cases hr
end Go.Proofs.YtddeffdgldjdjaaDoor
