/- A number is laid behind bytes: what the walks come to. -/
import Derived.Test.YtjnmdphoaafjaaaPb
namespace Go.Proofs.Ytjnmdphoaafjaaa
set_option linter.unusedSimpArgs false
set_option linter.unusedVariables false
set_option linter.defProp false
open Go Go.Abs

def own0 : Fl := .own ⟨0, 0, 0, 0⟩ 1
def top : Nat := 150000000000000
def pf69 : List AV → Option AV
  | [v] => (row? .u8 8 v).bind fun m => if m.length ≤ 150000000000000 then some (.sl m.length (nums .u8 m) (.own ⟨0, 0, 0, 0⟩ 1)) else none
  | _ => none
theorem pf69_at {n : Nat} {m : List (BitVec 8)} {fl : Fl} (h : n = m.length) (h2 : m.length ≤ 150000000000000) : pf69 [.sl n (nums .u8 m) fl] = some (.sl m.length (nums .u8 m) (.own ⟨0, 0, 0, 0⟩ 1)) := by
  simp only [pf69, row?_at h, Option.bind_some, if_pos h2]

set_option maxHeartbeats 4000000
theorem sound69 : SoundV Try.prog glob 69 pf69 := by
  refine SoundV.walk E0 ok0 mixed Try.func69 rfl Try.call69 (by kernel_rfl) ?_
  intro args r h
  unfold pf69 at h
  split at h
  · simp only [Option.bind_eq_some_iff] at h
    obtain ⟨m, h1, h2⟩ := h
    split at h2
    · rename_i hm
      cases h2
      obtain ⟨fl, rfl⟩ := row?_of h1
      rw [Try.ntmps69, Try.results69]
      refine ⟨by simp, ?_⟩
      by_cases h0 : m.length = 0
      · simp (maxSteps := 1000000) (disch := first | omega | (simp only [nums_len, lnB] <;> omega) | fail) only [ev0, ev1, ev2, ev3, ↓reduceIte, reduceCtorEq, Nat.reduceAdd, Nat.reduceSub, Nat.reduceMul, Nat.reduceLT, Nat.reduceLeDiff, Nat.reduceEqDiff, Nat.reduceBEq, BitVec.reduceOfInt, Int.reduceLE, Int.reduceLT, Int.reduceGT, Int.reduceGE, Int.reduceNeg, Int.reduceAdd, Int.reduceSub, Int.reduceMul, Int.reduceToNat, ↓bind_go, ↓map_go, wantedV, isWrite, grow, write, ofV, AV.cells, Abs.start, Abs.strip, endQ, resV, rawsRes, rawRes, exports, export1, AS.grown, AS.put, Env.know, Env.boxed, isSelf, convSelf, convV, loadV, storeV, fieldAddrV, fieldV, indexAddrV, indexV, partV, isAggK, isStr, place, lenV, min2V, makeV, freshSl, sliceV, boundOr, bound, bounds, cutFl, copyV, slCells, srcV, appendV, room, zerosOf, eqNeg, kd, takeR, hasViewL, hasView, freshR, freshC, snapAll, snap, snapL, flatL, pureL, pureA, fillC, arrOK, oneA, partB, AV.laid, ren1, CR.gr, applyW, useL, AS.mute, isGen, startG, ev5, teE, E0, h0]
        have : m = [] := List.eq_nil_of_length_eq_zero h0
        subst this
        exact ⟨ResQ.nil 1, ResQ.same rfl⟩
      · simp (maxSteps := 1000000) (disch := first | omega | (simp only [nums_len, lnB] <;> omega) | fail) only [ev0, ev1, ev2, ev3, ↓reduceIte, reduceCtorEq, Nat.reduceAdd, Nat.reduceSub, Nat.reduceMul, Nat.reduceLT, Nat.reduceLeDiff, Nat.reduceEqDiff, Nat.reduceBEq, BitVec.reduceOfInt, Int.reduceLE, Int.reduceLT, Int.reduceGT, Int.reduceGE, Int.reduceNeg, Int.reduceAdd, Int.reduceSub, Int.reduceMul, Int.reduceToNat, ↓bind_go, ↓map_go, wantedV, isWrite, grow, write, ofV, AV.cells, Abs.start, Abs.strip, endQ, resV, rawsRes, rawRes, exports, export1, AS.grown, AS.put, Env.know, Env.boxed, isSelf, convSelf, convV, loadV, storeV, fieldAddrV, fieldV, indexAddrV, indexV, partV, isAggK, isStr, place, lenV, min2V, makeV, freshSl, sliceV, boundOr, bound, bounds, cutFl, copyV, slCells, srcV, appendV, room, zerosOf, eqNeg, kd, takeR, hasViewL, hasView, freshR, freshC, snapAll, snap, snapL, flatL, pureL, pureA, fillC, arrOK, oneA, partB, AV.laid, ren1, CR.gr, applyW, useL, AS.mute, isGen, startG, ev5, teE, E0, h0]
        exact ResQ.same rfl
    · cases h2
  · cases h

def E2 : Env := ((E0.know 69 (fun xs => pf69 (xs.map norm))).know 146 pf155).know 130 pf130
theorem ok2 : EnvOK Try.prog E2 := ((ok0.know sound69.norm).know sound146).know sound130
theorem E2_te : E2.te = te := rfl
theorem E2_gs : E2.gs = [] := rfl
theorem E2_dyn : E2.dyn = false := rfl
theorem E2_glob : E2.glob = glob := rfl
theorem E2_mu (d : Nat) : E2.mu d = false := rfl
theorem E2_146 : E2.tbl 146 = some (.val pf155) := rfl
theorem E2_69 : E2.tbl 69 = some (.val (fun xs => pf69 (xs.map norm))) := rfl
theorem E2_130 : E2.tbl 130 = some (.val pf130) := rfl
theorem pf130_at {n : Int} (h : 0 ≤ n ∧ n ≤ 9223372036854775807) : pf130 [.raw (.int .i64 n)] = some (.raw (.int .i64 (need n.toNat : Int))) := by
  simp only [pf130, int?_at, Option.bind_some, if_pos h]
theorem nat64 {m : Nat} (h : m < 18446744073709551616) : (BitVec.ofNat 64 m).toNat = m := by rw [BitVec.toNat_ofNat]; omega
theorem pf155_nat {m : Nat} (h : m < 18446744073709551616) : pf155 [.raw (.int .u64 (m : Int))] = some (.raw (.int .i64 (blen m : Int))) := by
  have := pf155_at (x := BitVec.ofNat 64 m)
  rwa [nat64 h] at this
theorem need_int (m : Nat) : ((blen m : Int) + 7) / 8 = ((need m : Nat) : Int) := by unfold need; omega
theorem blen_le (m : Nat) (h : m < 2 ^ 64) : blen m ≤ 64 := by
  unfold blen
  split
  · omega
  · have : m.log2 < 64 := (Nat.log2_lt (by assumption)).2 h
    omega

def byteAt (n e : Nat) : BitVec 8 := BitVec.ofInt 8 ((n : Int).fdiv (2 ^ e))
def digF (n s : Nat) : Nat → List (BitVec 8)
  | 0 => []
  | k + 1 => digF n s k ++ [byteAt n (8 * (s - 1 - k))]
theorem digF_len (n s k : Nat) : (digF n s k).length = k := by
  induction k with
  | zero => rfl
  | succ k ih => simp [digF, ih]
def putK (b : List (BitVec 8)) (n k : Nat) : List (BitVec 8) := b ++ [BitVec.ofInt 8 ((need n : Nat) : Int)] ++ digF n (need n) k
def putB (b : List (BitVec 8)) (n : Nat) : List (BitVec 8) := putK b n (need n)
theorem putK_len (b : List (BitVec 8)) (n k : Nat) : (putK b n k).length = b.length + 1 + k := by simp [putK, digF_len]; omega
theorem putB_len (b : List (BitVec 8)) (n : Nat) : (putB b n).length = b.length + 1 + need n := putK_len _ _ _
def pf129 : List AV → Option AV
  | [v, m] => (row? .u8 8 v).bind fun b => (int? m).bind fun n => if b.length ≤ 150000000000000 ∧ n ≤ 9223372036854775807 then
      (if n < 0 then some (.tup [.sl 0 [] (.own ⟨0, 0, 0, 0⟩ 1), .raw (.int .i64 1)]) else some (.tup [.sl (putB b n.toNat).length (nums .u8 (putB b n.toNat)) (.own ⟨0, 0, 0, 0⟩ 1), .raw (.int .i64 0)])) else none
  | _ => none
theorem resQ_tnil {v : Value} : ResQ (some (.tup [.raw (.slice none 0 0), .raw v])) (.tup [.sl 0 [] (.own ⟨0, 0, 0, 0⟩ 1), .raw v]) :=
  ⟨_, rfl, .tup rfl fun j x r hx hr => by
    match j with
    | 0 => simp at hx hr; subst hx hr; exact .nil _ _
    | 1 => simp at hx hr; subst hx hr; exact .same _ _
    | j + 2 => simp at hx⟩

def tbPc1 := (And.intro (And.intro (And.intro @teE (And.intro @E2_te @E2_gs)) (And.intro (And.intro @E2_dyn @E2_glob) (And.intro @E2_mu @E2_146))) (And.intro (And.intro @E2_69 (And.intro @E2_130 @pf69_at)) (And.intro (And.intro @pf155_nat @pf130_at) (And.intro @nat64 @need_int))))
theorem sound129 : SoundV Try.prog glob 129 pf129 := by
  refine SoundV.walk E2 ok2 mixed Try.func129 rfl Try.call129 (by kernel_rfl) ?_
  intro args r hr
  unfold pf129 at hr
  split at hr
  · simp only [Option.bind_eq_some_iff] at hr
    obtain ⟨b, h1, n, h2, hr⟩ := hr
    split at hr
    · rename_i hc
      obtain ⟨fl, rfl⟩ := row?_of h1
      rw [int?_of h2, Try.ntmps129, Try.results129]
      refine ⟨by simp, ?_⟩
      by_cases hn : n < 0
      · rw [if_pos hn] at hr
        cases hr
        simp (maxSteps := 1000000) (disch := first | omega | (simp only [digF_len, putK_len, putB_len, lnB] <;> omega) | fail) only [ev0, ev1, ev2, ev3, ↓reduceIte, reduceCtorEq, Nat.reduceAdd, Nat.reduceSub, Nat.reduceMul, Nat.reduceLT, Nat.reduceLeDiff, Nat.reduceEqDiff, Nat.reduceBEq, BitVec.reduceOfInt, Int.reduceLE, Int.reduceLT, Int.reduceGT, Int.reduceGE, Int.reduceNeg, Int.reduceAdd, Int.reduceSub, Int.reduceMul, Int.reduceToNat, ↓bind_go, ↓map_go, wantedV, isWrite, grow, write, ofV, AV.cells, Abs.start, Abs.strip, endQ, resV, rawsRes, rawRes, exports, export1, AS.grown, AS.put, Env.know, Env.boxed, isSelf, convSelf, convV, loadV, storeV, fieldAddrV, fieldV, indexAddrV, indexV, partV, isAggK, isStr, place, lenV, min2V, makeV, freshSl, sliceV, boundOr, bound, bounds, cutFl, copyV, slCells, srcV, appendV, room, zerosOf, eqNeg, kd, takeR, hasViewL, hasView, freshR, freshC, snapAll, snap, snapL, flatL, pureL, pureA, fillC, arrOK, oneA, partB, AV.laid, ren1, CR.gr, applyW, useL, AS.mute, isGen, startG, ev5, tbPc1, glob, hn]
        exact resQ_tnil
      · rw [if_neg hn] at hr
        cases hr
        obtain ⟨m, rfl⟩ := Int.eq_ofNat_of_zero_le (show 0 ≤ n by omega)
        have hb64 := blen_le m (by omega)
        have hn8 := need_le m (by omega)
        simp (maxSteps := 1000000) (disch := first | omega | (simp only [digF_len, putK_len, putB_len, lnB] <;> omega) | fail) only [ev0, ev1, ev2, ev3, ↓reduceIte, reduceCtorEq, Nat.reduceAdd, Nat.reduceSub, Nat.reduceMul, Nat.reduceLT, Nat.reduceLeDiff, Nat.reduceEqDiff, Nat.reduceBEq, BitVec.reduceOfInt, Int.reduceLE, Int.reduceLT, Int.reduceGT, Int.reduceGE, Int.reduceNeg, Int.reduceAdd, Int.reduceSub, Int.reduceMul, Int.reduceToNat, ↓bind_go, ↓map_go, wantedV, isWrite, grow, write, ofV, AV.cells, Abs.start, Abs.strip, endQ, resV, rawsRes, rawRes, exports, export1, AS.grown, AS.put, Env.know, Env.boxed, isSelf, convSelf, convV, loadV, storeV, fieldAddrV, fieldV, indexAddrV, indexV, partV, isAggK, isStr, place, lenV, min2V, makeV, freshSl, sliceV, boundOr, bound, bounds, cutFl, copyV, slCells, srcV, appendV, room, zerosOf, eqNeg, kd, takeR, hasViewL, hasView, freshR, freshC, snapAll, snap, snapL, flatL, pureL, pureA, fillC, arrOK, oneA, partB, AV.laid, ren1, CR.gr, applyW, useL, AS.mute, isGen, startG, ev5, tbPc1, glob, hn]
        refine loopQ_of (fun n σ => ∃ k i, k ≤ need m ∧ n = need m - k ∧ σ.slots 8 = .raw (.int .i64 ((need m : Int) - 1 - (k : Int))) ∧ σ.slots 1 = .raw (.int .i64 (m : Int)) ∧ σ.slots 7 = .sl (putK b m k).length (nums .u8 (putK b m k)) (.own i 1) ∧ Free σ.used (σ.gen 35) 35 i) (need m) ?_ ?_
        · refine ⟨0, ⟨0, 21, 0, 1⟩, by omega, by omega, ?_⟩
          simp (maxSteps := 1000000) (disch := first | omega | (simp only [digF_len, putK_len, putB_len, lnB] <;> omega) | fail) only [ev0, ev1, ev2, ev3, ↓reduceIte, reduceCtorEq, Nat.reduceAdd, Nat.reduceSub, Nat.reduceMul, Nat.reduceLT, Nat.reduceLeDiff, Nat.reduceEqDiff, Nat.reduceBEq, BitVec.reduceOfInt, Int.reduceLE, Int.reduceLT, Int.reduceGT, Int.reduceGE, Int.reduceNeg, Int.reduceAdd, Int.reduceSub, Int.reduceMul, Int.reduceToNat, ↓bind_go, ↓map_go, wantedV, isWrite, grow, write, ofV, AV.cells, Abs.start, Abs.strip, endQ, resV, rawsRes, rawRes, exports, export1, AS.grown, AS.put, Env.know, Env.boxed, isSelf, convSelf, convV, loadV, storeV, fieldAddrV, fieldV, indexAddrV, indexV, partV, isAggK, isStr, place, lenV, min2V, makeV, freshSl, sliceV, boundOr, bound, bounds, cutFl, copyV, slCells, srcV, appendV, room, zerosOf, eqNeg, kd, takeR, hasViewL, hasView, freshR, freshC, snapAll, snap, snapL, flatL, pureL, pureA, fillC, arrOK, oneA, partB, AV.laid, ren1, CR.gr, applyW, useL, AS.mute, isGen, startG, ev5, tbPc1, glob]
          refine ⟨i64_eq (by omega), row_eq ?_ ?_, ?_⟩
          · have := putK_len b m 0; omega
          · simp [putK, digF]
          · exact ⟨by simp [updI], fun g _ => by simp [updI], by simp⟩
        · rintro n ⟨sl, gn, bx, us⟩ ⟨k, i, hk, rfl, s8, s1, s7, hf⟩
          dsimp only at s8 s1 s7 hf
          have hf0 := hf.now
          have lM := putK_len b m k
          generalize hM : putK b m k = M at s7 lM
          simp (maxSteps := 1000000) (disch := first | omega | (simp only [digF_len, putK_len, putB_len, lnB] <;> omega) | fail) only [ev0, ev1, ev2, ev3, ↓reduceIte, reduceCtorEq, Nat.reduceAdd, Nat.reduceSub, Nat.reduceMul, Nat.reduceLT, Nat.reduceLeDiff, Nat.reduceEqDiff, Nat.reduceBEq, BitVec.reduceOfInt, Int.reduceLE, Int.reduceLT, Int.reduceGT, Int.reduceGE, Int.reduceNeg, Int.reduceAdd, Int.reduceSub, Int.reduceMul, Int.reduceToNat, ↓bind_go, ↓map_go, wantedV, isWrite, grow, write, ofV, AV.cells, Abs.start, Abs.strip, endQ, resV, rawsRes, rawRes, exports, export1, AS.grown, AS.put, Env.know, Env.boxed, isSelf, convSelf, convV, loadV, storeV, fieldAddrV, fieldV, indexAddrV, indexV, partV, isAggK, isStr, place, lenV, min2V, makeV, freshSl, sliceV, boundOr, bound, bounds, cutFl, copyV, slCells, srcV, appendV, room, zerosOf, eqNeg, kd, takeR, hasViewL, hasView, freshR, freshC, snapAll, snap, snapL, flatL, pureL, pureA, fillC, arrOK, oneA, partB, AV.laid, ren1, CR.gr, applyW, useL, AS.mute, isGen, startG, ev5, tbPc1, glob, s8, s1, s7, hf0]
          refine condQ_dec (fun hge => ?_) (fun hlt => ?_)
          · have hlt : k < need m := by omega
            simp (maxSteps := 1000000) (disch := first | omega | (simp only [digF_len, putK_len, putB_len, lnB] <;> omega) | fail) only [ev0, ev1, ev2, ev3, ↓reduceIte, reduceCtorEq, Nat.reduceAdd, Nat.reduceSub, Nat.reduceMul, Nat.reduceLT, Nat.reduceLeDiff, Nat.reduceEqDiff, Nat.reduceBEq, BitVec.reduceOfInt, Int.reduceLE, Int.reduceLT, Int.reduceGT, Int.reduceGE, Int.reduceNeg, Int.reduceAdd, Int.reduceSub, Int.reduceMul, Int.reduceToNat, ↓bind_go, ↓map_go, wantedV, isWrite, grow, write, ofV, AV.cells, Abs.start, Abs.strip, endQ, resV, rawsRes, rawRes, exports, export1, AS.grown, AS.put, Env.know, Env.boxed, isSelf, convSelf, convV, loadV, storeV, fieldAddrV, fieldV, indexAddrV, indexV, partV, isAggK, isStr, place, lenV, min2V, makeV, freshSl, sliceV, boundOr, bound, bounds, cutFl, copyV, slCells, srcV, appendV, room, zerosOf, eqNeg, kd, takeR, hasViewL, hasView, freshR, freshC, snapAll, snap, snapL, flatL, pureL, pureA, fillC, arrOK, oneA, partB, AV.laid, ren1, CR.gr, applyW, useL, AS.mute, isGen, startG, ev5, tbPc1, glob, s8, s1, s7, hf0]
            refine ⟨need m - (k + 1), by omega, k + 1, ⟨0, 35, 0, gn 35 + 1⟩, by omega, rfl, i64_eq (by omega), row_eq ?_ ?_, hf.go⟩
            · have := putK_len b m (k + 1); omega
            · rw [← hM]; simp only [putK, digF, byteAt, List.append_assoc]
          · have hk : k = need m := by omega
            subst hk
            simp (maxSteps := 1000000) (disch := first | omega | (simp only [digF_len, putK_len, putB_len, lnB] <;> omega) | fail) only [ev0, ev1, ev2, ev3, ↓reduceIte, reduceCtorEq, Nat.reduceAdd, Nat.reduceSub, Nat.reduceMul, Nat.reduceLT, Nat.reduceLeDiff, Nat.reduceEqDiff, Nat.reduceBEq, BitVec.reduceOfInt, Int.reduceLE, Int.reduceLT, Int.reduceGT, Int.reduceGE, Int.reduceNeg, Int.reduceAdd, Int.reduceSub, Int.reduceMul, Int.reduceToNat, ↓bind_go, ↓map_go, wantedV, isWrite, grow, write, ofV, AV.cells, Abs.start, Abs.strip, endQ, resV, rawsRes, rawRes, exports, export1, AS.grown, AS.put, Env.know, Env.boxed, isSelf, convSelf, convV, loadV, storeV, fieldAddrV, fieldV, indexAddrV, indexV, partV, isAggK, isStr, place, lenV, min2V, makeV, freshSl, sliceV, boundOr, bound, bounds, cutFl, copyV, slCells, srcV, appendV, room, zerosOf, eqNeg, kd, takeR, hasViewL, hasView, freshR, freshC, snapAll, snap, snapL, flatL, pureL, pureA, fillC, arrOK, oneA, partB, AV.laid, ren1, CR.gr, applyW, useL, AS.mute, isGen, startG, ev5, tbPc1, glob, s8, s1, s7, hf0]
            rw [show putB b m = M from hM]
            exact ResQ.same rfl
    · cases hr
  · cases hr

def pf81 : List AV → Option AV := pf129
theorem sound81 : SoundV Try.prog glob 81 pf129 := by
  refine SoundV.walk E2 ok2 mixed Try.func81 rfl Try.call81 (by kernel_rfl) ?_
  intro args r hr
  unfold pf129 at hr
  split at hr
  · simp only [Option.bind_eq_some_iff] at hr
    obtain ⟨b, h1, n, h2, hr⟩ := hr
    split at hr
    · rename_i hc
      obtain ⟨fl, rfl⟩ := row?_of h1
      rw [int?_of h2, Try.ntmps81, Try.results81]
      refine ⟨by simp, ?_⟩
      by_cases hn : n < 0
      · rw [if_pos hn] at hr
        cases hr
        simp (maxSteps := 1000000) (disch := first | omega | (simp only [digF_len, putK_len, putB_len, lnB] <;> omega) | fail) only [ev0, ev1, ev2, ev3, ↓reduceIte, reduceCtorEq, Nat.reduceAdd, Nat.reduceSub, Nat.reduceMul, Nat.reduceLT, Nat.reduceLeDiff, Nat.reduceEqDiff, Nat.reduceBEq, BitVec.reduceOfInt, Int.reduceLE, Int.reduceLT, Int.reduceGT, Int.reduceGE, Int.reduceNeg, Int.reduceAdd, Int.reduceSub, Int.reduceMul, Int.reduceToNat, ↓bind_go, ↓map_go, wantedV, isWrite, grow, write, ofV, AV.cells, Abs.start, Abs.strip, endQ, resV, rawsRes, rawRes, exports, export1, AS.grown, AS.put, Env.know, Env.boxed, isSelf, convSelf, convV, loadV, storeV, fieldAddrV, fieldV, indexAddrV, indexV, partV, isAggK, isStr, place, lenV, min2V, makeV, freshSl, sliceV, boundOr, bound, bounds, cutFl, copyV, slCells, srcV, appendV, room, zerosOf, eqNeg, kd, takeR, hasViewL, hasView, freshR, freshC, snapAll, snap, snapL, flatL, pureL, pureA, fillC, arrOK, oneA, partB, AV.laid, ren1, CR.gr, applyW, useL, AS.mute, isGen, startG, ev5, tbPc1, glob, hn]
        exact resQ_tnil
      · rw [if_neg hn] at hr
        cases hr
        obtain ⟨m, rfl⟩ := Int.eq_ofNat_of_zero_le (show 0 ≤ n by omega)
        have hb64 := blen_le m (by omega)
        have hn8 := need_le m (by omega)
        simp (maxSteps := 1000000) (disch := first | omega | (simp only [digF_len, putK_len, putB_len, lnB] <;> omega) | fail) only [ev0, ev1, ev2, ev3, ↓reduceIte, reduceCtorEq, Nat.reduceAdd, Nat.reduceSub, Nat.reduceMul, Nat.reduceLT, Nat.reduceLeDiff, Nat.reduceEqDiff, Nat.reduceBEq, BitVec.reduceOfInt, Int.reduceLE, Int.reduceLT, Int.reduceGT, Int.reduceGE, Int.reduceNeg, Int.reduceAdd, Int.reduceSub, Int.reduceMul, Int.reduceToNat, ↓bind_go, ↓map_go, wantedV, isWrite, grow, write, ofV, AV.cells, Abs.start, Abs.strip, endQ, resV, rawsRes, rawRes, exports, export1, AS.grown, AS.put, Env.know, Env.boxed, isSelf, convSelf, convV, loadV, storeV, fieldAddrV, fieldV, indexAddrV, indexV, partV, isAggK, isStr, place, lenV, min2V, makeV, freshSl, sliceV, boundOr, bound, bounds, cutFl, copyV, slCells, srcV, appendV, room, zerosOf, eqNeg, kd, takeR, hasViewL, hasView, freshR, freshC, snapAll, snap, snapL, flatL, pureL, pureA, fillC, arrOK, oneA, partB, AV.laid, ren1, CR.gr, applyW, useL, AS.mute, isGen, startG, ev5, tbPc1, glob, hn]
        refine loopQ_of (fun n σ => ∃ k i, k ≤ need m ∧ n = need m - k ∧ σ.slots 8 = .raw (.int .i64 ((need m : Int) - 1 - (k : Int))) ∧ σ.slots 1 = .raw (.int .i64 (m : Int)) ∧ σ.slots 7 = .sl (putK b m k).length (nums .u8 (putK b m k)) (.own i 1) ∧ Free σ.used (σ.gen 33) 33 i) (need m) ?_ ?_
        · refine ⟨0, ⟨0, 19, 0, 1⟩, by omega, by omega, ?_⟩
          simp (maxSteps := 1000000) (disch := first | omega | (simp only [digF_len, putK_len, putB_len, lnB] <;> omega) | fail) only [ev0, ev1, ev2, ev3, ↓reduceIte, reduceCtorEq, Nat.reduceAdd, Nat.reduceSub, Nat.reduceMul, Nat.reduceLT, Nat.reduceLeDiff, Nat.reduceEqDiff, Nat.reduceBEq, BitVec.reduceOfInt, Int.reduceLE, Int.reduceLT, Int.reduceGT, Int.reduceGE, Int.reduceNeg, Int.reduceAdd, Int.reduceSub, Int.reduceMul, Int.reduceToNat, ↓bind_go, ↓map_go, wantedV, isWrite, grow, write, ofV, AV.cells, Abs.start, Abs.strip, endQ, resV, rawsRes, rawRes, exports, export1, AS.grown, AS.put, Env.know, Env.boxed, isSelf, convSelf, convV, loadV, storeV, fieldAddrV, fieldV, indexAddrV, indexV, partV, isAggK, isStr, place, lenV, min2V, makeV, freshSl, sliceV, boundOr, bound, bounds, cutFl, copyV, slCells, srcV, appendV, room, zerosOf, eqNeg, kd, takeR, hasViewL, hasView, freshR, freshC, snapAll, snap, snapL, flatL, pureL, pureA, fillC, arrOK, oneA, partB, AV.laid, ren1, CR.gr, applyW, useL, AS.mute, isGen, startG, ev5, tbPc1, glob]
          refine ⟨i64_eq (by omega), row_eq ?_ ?_, ?_⟩
          · have := putK_len b m 0; omega
          · simp [putK, digF]
          · exact ⟨by simp [updI], fun g _ => by simp [updI], by simp⟩
        · rintro n ⟨sl, gn, bx, us⟩ ⟨k, i, hk, rfl, s8, s1, s7, hf⟩
          dsimp only at s8 s1 s7 hf
          have hf0 := hf.now
          have lM := putK_len b m k
          generalize hM : putK b m k = M at s7 lM
          simp (maxSteps := 1000000) (disch := first | omega | (simp only [digF_len, putK_len, putB_len, lnB] <;> omega) | fail) only [ev0, ev1, ev2, ev3, ↓reduceIte, reduceCtorEq, Nat.reduceAdd, Nat.reduceSub, Nat.reduceMul, Nat.reduceLT, Nat.reduceLeDiff, Nat.reduceEqDiff, Nat.reduceBEq, BitVec.reduceOfInt, Int.reduceLE, Int.reduceLT, Int.reduceGT, Int.reduceGE, Int.reduceNeg, Int.reduceAdd, Int.reduceSub, Int.reduceMul, Int.reduceToNat, ↓bind_go, ↓map_go, wantedV, isWrite, grow, write, ofV, AV.cells, Abs.start, Abs.strip, endQ, resV, rawsRes, rawRes, exports, export1, AS.grown, AS.put, Env.know, Env.boxed, isSelf, convSelf, convV, loadV, storeV, fieldAddrV, fieldV, indexAddrV, indexV, partV, isAggK, isStr, place, lenV, min2V, makeV, freshSl, sliceV, boundOr, bound, bounds, cutFl, copyV, slCells, srcV, appendV, room, zerosOf, eqNeg, kd, takeR, hasViewL, hasView, freshR, freshC, snapAll, snap, snapL, flatL, pureL, pureA, fillC, arrOK, oneA, partB, AV.laid, ren1, CR.gr, applyW, useL, AS.mute, isGen, startG, ev5, tbPc1, glob, s8, s1, s7, hf0]
          refine condQ_dec (fun hge => ?_) (fun hlt => ?_)
          · have hlt : k < need m := by omega
            simp (maxSteps := 1000000) (disch := first | omega | (simp only [digF_len, putK_len, putB_len, lnB] <;> omega) | fail) only [ev0, ev1, ev2, ev3, ↓reduceIte, reduceCtorEq, Nat.reduceAdd, Nat.reduceSub, Nat.reduceMul, Nat.reduceLT, Nat.reduceLeDiff, Nat.reduceEqDiff, Nat.reduceBEq, BitVec.reduceOfInt, Int.reduceLE, Int.reduceLT, Int.reduceGT, Int.reduceGE, Int.reduceNeg, Int.reduceAdd, Int.reduceSub, Int.reduceMul, Int.reduceToNat, ↓bind_go, ↓map_go, wantedV, isWrite, grow, write, ofV, AV.cells, Abs.start, Abs.strip, endQ, resV, rawsRes, rawRes, exports, export1, AS.grown, AS.put, Env.know, Env.boxed, isSelf, convSelf, convV, loadV, storeV, fieldAddrV, fieldV, indexAddrV, indexV, partV, isAggK, isStr, place, lenV, min2V, makeV, freshSl, sliceV, boundOr, bound, bounds, cutFl, copyV, slCells, srcV, appendV, room, zerosOf, eqNeg, kd, takeR, hasViewL, hasView, freshR, freshC, snapAll, snap, snapL, flatL, pureL, pureA, fillC, arrOK, oneA, partB, AV.laid, ren1, CR.gr, applyW, useL, AS.mute, isGen, startG, ev5, tbPc1, glob, s8, s1, s7, hf0]
            refine ⟨need m - (k + 1), by omega, k + 1, ⟨0, 33, 0, gn 33 + 1⟩, by omega, rfl, i64_eq (by omega), row_eq ?_ ?_, hf.go⟩
            · have := putK_len b m (k + 1); omega
            · rw [← hM]; simp only [putK, digF, byteAt, List.append_assoc]
          · have hk : k = need m := by omega
            subst hk
            simp (maxSteps := 1000000) (disch := first | omega | (simp only [digF_len, putK_len, putB_len, lnB] <;> omega) | fail) only [ev0, ev1, ev2, ev3, ↓reduceIte, reduceCtorEq, Nat.reduceAdd, Nat.reduceSub, Nat.reduceMul, Nat.reduceLT, Nat.reduceLeDiff, Nat.reduceEqDiff, Nat.reduceBEq, BitVec.reduceOfInt, Int.reduceLE, Int.reduceLT, Int.reduceGT, Int.reduceGE, Int.reduceNeg, Int.reduceAdd, Int.reduceSub, Int.reduceMul, Int.reduceToNat, ↓bind_go, ↓map_go, wantedV, isWrite, grow, write, ofV, AV.cells, Abs.start, Abs.strip, endQ, resV, rawsRes, rawRes, exports, export1, AS.grown, AS.put, Env.know, Env.boxed, isSelf, convSelf, convV, loadV, storeV, fieldAddrV, fieldV, indexAddrV, indexV, partV, isAggK, isStr, place, lenV, min2V, makeV, freshSl, sliceV, boundOr, bound, bounds, cutFl, copyV, slCells, srcV, appendV, room, zerosOf, eqNeg, kd, takeR, hasViewL, hasView, freshR, freshC, snapAll, snap, snapL, flatL, pureL, pureA, fillC, arrOK, oneA, partB, AV.laid, ren1, CR.gr, applyW, useL, AS.mute, isGen, startG, ev5, tbPc1, glob, s8, s1, s7, hf0]
            rw [show putB b m = M from hM]
            exact ResQ.same rfl
    · cases hr
  · cases hr
end Go.Proofs.Ytjnmdphoaafjaaa
