/- Bytes are laid over: what the walk comes to. -/
import Derived.Test.YtddeffdgldjdjaaDoorUi
namespace Go.Proofs.YtddeffdgldjdjaaDoor
set_option linter.unusedSimpArgs false
set_option linter.unusedVariables false
set_option linter.defProp false
open Go Go.Abs
set_option maxHeartbeats 16000000
theorem num4set_len (b : List (BitVec 8)) (n : BitVec 32) : (set4 b n).length = b.length := by simp [set4]
theorem ctrB_len {n : List (BitVec 8)} (h : n.length = 12) (c : BitVec 32) : (ctrB n c).length = 16 := by
  rw [ctrB, num4set_len]; simp [h]
theorem nextB_len (b : List (BitVec 8)) : (nextB b).length = b.length := num4set_len _ _
theorem expF_len {k : List (BitVec 8)} (h : k.length = 32) : (expF k).length = 240 := cK_len h (by omega)
def pcK (d m : List (BitVec 8)) (i : Nat) : Nat → List (BitVec 8)
  | 0 => d
  | j + 1 => (pcK d m i j).set (i + j) ((pcK d m i j).getD (i + j) 0#8 ^^^ m.getD j 0#8)
theorem pcK_len (d m : List (BitVec 8)) (i j : Nat) : (pcK d m i j).length = d.length := by
  induction j with
  | zero => rfl
  | succ j ih => simp [pcK, ih]
/-- the counter's block when i bytes are done -/
def gxC (n : List (BitVec 8)) (c : BitVec 32) : Nat → List (BitVec 8)
  | 0 => ctrB n c
  | i + 1 => if i % 16 = 0 ∧ 0 < i then nextB (gxC n c i) else gxC n c i
theorem gxC_len {n : List (BitVec 8)} (h : n.length = 12) (c : BitVec 32) (i : Nat) : (gxC n c i).length = 16 := by
  induction i with
  | zero => exact ctrB_len h c
  | succ i ih =>
    rw [gxC]; split
    · rw [nextB_len, ih]
    · exact ih
def gxD (w n : List (BitVec 8)) (c : BitVec 32) (b : List (BitVec 8)) : Nat → List (BitVec 8)
  | 0 => b
  | i + 1 => if i % 16 = 0 then pcK (gxD w n c b i) (encB w (gxC n c (i + 1))) i (min (i + 16) b.length - i) else gxD w n c b i
theorem gxD_len (w n : List (BitVec 8)) (c : BitVec 32) (b : List (BitVec 8)) (i : Nat) : (gxD w n c b i).length = b.length := by
  induction i with
  | zero => rfl
  | succ i ih =>
    rw [gxD]; split
    · rw [pcK_len, ih]
    · exact ih
def gxorB (k n : List (BitVec 8)) (c : BitVec 32) (b : List (BitVec 8)) : List (BitVec 8) := gxD (expF k) n c b b.length
theorem gxorB_len (k n : List (BitVec 8)) (c : BitVec 32) (b : List (BitVec 8)) : (gxorB k n c b).length = b.length := gxD_len _ _ _ _ _
def pf70 : List AV → Option AV
  | [v, u, x, w] => (agg? .u8 8 32 v).bind fun k => (agg? .u8 8 12 u).bind fun n => (num? .u32 32 x).bind fun c => (row? .u8 8 w).bind fun b => if b.length ≤ 1000000 then some (.sl (gxorB k n c b).length (nums .u8 (gxorB k n c b)) .bor) else none
  | _ => none
noncomputable def E6 : Env := ((((E0.know 97 pf97).know 98 pf98).know 99 pf99).knowG 100 gf100).knowG 90 gm90
theorem ok6 : EnvOK Tryd.prog E6 := ((((ok0.know sound97).know sound98).know sound99).knowG sound100).knowG soundM90
theorem E6_te : E6.te = te := rfl
theorem E6_glob : E6.glob = glob := rfl
theorem E6_gs : E6.gs = [90, 100] := rfl
theorem E6_dyn : E6.dyn = false := rfl
theorem E6_mu (d : Nat) : E6.mu d = false := rfl
theorem E6_e : E6.tbl 97 = some (.val pf97) := rfl
theorem E6_c : E6.tbl 98 = some (.val pf98) := rfl
theorem E6_n : E6.tbl 99 = some (.val pf99) := rfl
theorem E6_y : E6.tbl 100 = some (.gen gf100) := rfl
theorem E6_k : E6.tbl 90 = some (.gen gm90) := rfl
theorem expand_at {k : List (BitVec 8)} (h : k.length = 32) : pf97 [.agg (nums .u8 k)] = some (.agg (nums .u8 (expF k))) := by
  simp only [pf97, agg?_at h, Option.bind_some]
theorem ctr_at {n : List (BitVec 8)} {c : BitVec 32} (h : n.length = 12) : pf98 [.agg (nums .u8 n), .raw (.int .u32 (c.toNat : Int))] = some (.agg (nums .u8 (ctrB n c))) := by
  simp only [pf98, agg?_at h, num?_num, Option.bind_some]
theorem next_at {b : List (BitVec 8)} (h : b.length = 16) : pf99 [.agg (nums .u8 b)] = some (.agg (nums .u8 (nextB b))) := by
  simp only [pf99, agg?_at h, Option.bind_some]
theorem enc_go {r : Bx} {w : AV} {bx : Boxes} {us : Abs.Id → Bool} : gf100 [.ptr r 0, w] bx us = (bx r).bind fun cs => (agg? .u8 8 240 (.agg cs)).bind fun c => (agg? .u8 8 16 w).bind fun s => some { v := .ret (.agg (nums .u8 (encB c s))) } := rfl
theorem clone_go {n : Nat} {m : List (BitVec 8)} {fl : Fl} {bx : Boxes} {us : Abs.Id → Bool} (h : n = m.length) (h2 : m.length ≤ 150000000000000) (h0 : m.length ≠ 0) : gm90 [.sl n (nums .u8 m) fl] bx us = some { v := .ret (.view (.own 0 0 0) 0 m.length m.length 1), cont := some (nums .u8 m) } := by
  simp only [gm90, row?_at h, Option.bind_some, if_pos h2, if_neg h0]
theorem clone_go0 {fl : Fl} {bx : Boxes} {us : Abs.Id → Bool} : gm90 [.sl 0 [] fl] bx us = some { v := .ret (.sl 0 [] .bor) } := by
  have e : gm90 [.sl 0 (nums .u8 ([] : List (BitVec 8))) fl] bx us = some { v := .ret (.sl 0 [] .bor) } := by
    simp only [gm90, row?_at (show 0 = ([] : List (BitVec 8)).length from rfl), Option.bind_some, List.length_nil, Nat.zero_le, if_true]
  exact e
theorem nums_ren (l s g : Nat) (b : List (BitVec 8)) : List.map (ren1 l s g) (nums .u8 b) = nums .u8 b := by
  simp only [nums, List.map_map]
  rfl
theorem ctr_0 {n : List (BitVec 8)} {c : BitVec 32} : gxC n c 0 = ctrB n c := rfl
def tbUj0 := (And.intro (And.intro (And.intro (And.intro @teE @E6_te) (And.intro @E6_glob (And.intro @E6_gs @E6_dyn))) (And.intro (And.intro @E6_mu @E6_e) (And.intro @E6_c (And.intro @E6_n @E6_y)))) (And.intro (And.intro (And.intro @E6_k @expand_at) (And.intro @ctr_at (And.intro @next_at @enc_go))) (And.intro (And.intro @clone_go (And.intro @clone_go0 @nums_strip)) (And.intro @nums_set8 (And.intro @nums_ren @splice0)))))
theorem sound70 : SoundV Tryd.prog glob 70 pf70 := by
  refine SoundV.walk E6 ok6 mixed Tryd.func70 rfl Tryd.call70 (by kernel_rfl) ?_
  intro args r hr
  unfold pf70 at hr
  split at hr
  · rename_i v u x w
    simp only [Option.bind_eq_some_iff] at hr
    obtain ⟨k, h1, n, h2, c, h3, b, h4, hr⟩ := hr
    split at hr
    · rename_i hc
      cases hr
      obtain ⟨rfl, hk⟩ := agg?_of h1
      obtain ⟨rfl, hn⟩ := agg?_of h2
      obtain ⟨fl, rfl⟩ := row?_of h4
      rw [num?_of h3, Tryd.ntmps70, Tryd.results70]
      have lX := expF_len hk
      have lC0 := ctrB_len hn c
      refine ⟨by simp, ?_⟩
      by_cases h0 : b.length = 0
      · have : b = [] := List.eq_nil_of_length_eq_zero h0
        subst this
        simp (maxSteps := 1000000) (disch := first | omega | (simp only [updB, dsB, reduceCtorEq, Nat.reduceEqDiff, and_false, false_and, and_true, true_and, if_false, *]; done) | (simp only [gxorB_len, encB_len, nextB_len, pcK_len, lnB] <;> omega) | fail) only [ev0, ev1, ev2, ev3, ↓reduceIte, reduceCtorEq, Nat.reduceAdd, Nat.reduceSub, Nat.reduceMul, Nat.reduceLT, Nat.reduceLeDiff, Nat.reduceEqDiff, Nat.reduceBEq, BitVec.reduceOfInt, Int.reduceLE, Int.reduceLT, Int.reduceGT, Int.reduceGE, Int.reduceNeg, Int.reduceAdd, Int.reduceSub, Int.reduceMul, Int.reduceToNat, ↓bind_go, ↓map_go, wantedV, isWrite, grow, write, ofV, AV.cells, Abs.start, Abs.strip, endQ, resV, rawsRes, rawRes, exports, export1, AS.grown, AS.put, Env.know, Env.boxed, isSelf, convSelf, convV, loadV, storeV, fieldAddrV, fieldV, indexAddrV, indexV, partV, isAggK, isStr, place, ipS, lenV, min2V, makeV, freshSl, sliceV, boundOr, bound, bounds, cutFl, copyV, slCells, srcV, appendV, room, zerosOf, eqNeg, kd, takeR, hasViewL, hasView, freshR, freshC, snapAll, snap, snapL, flatL, pureL, pureA, fillC, arrOK, oneA, partB, AV.laid, ren1, CR.gr, applyW, useL, AS.mute, isGen, startG, ev5, tbUj0, agg?_at, glob, Nat.reduceMod, Bx.own.injEq, and_false, false_and, and_true, true_and, hk, hn, lX, lC0]
        refine loopQ_of (fun n' σ => n' = 0 ∧ σ.slots 25 = .raw (.int .i64 0) ∧ σ.slots 24 = .raw (.int .i64 0) ∧ σ.slots 10 = .sl 0 [] .bor) 0 ?_ ?_
        · simp (maxSteps := 1000000) (disch := first | omega | (simp only [updB, dsB, reduceCtorEq, Nat.reduceEqDiff, and_false, false_and, and_true, true_and, if_false, *]; done) | (simp only [gxorB_len, encB_len, nextB_len, pcK_len, lnB] <;> omega) | fail) only [ev0, ev1, ev2, ev3, ↓reduceIte, reduceCtorEq, Nat.reduceAdd, Nat.reduceSub, Nat.reduceMul, Nat.reduceLT, Nat.reduceLeDiff, Nat.reduceEqDiff, Nat.reduceBEq, BitVec.reduceOfInt, Int.reduceLE, Int.reduceLT, Int.reduceGT, Int.reduceGE, Int.reduceNeg, Int.reduceAdd, Int.reduceSub, Int.reduceMul, Int.reduceToNat, ↓bind_go, ↓map_go, wantedV, isWrite, grow, write, ofV, AV.cells, Abs.start, Abs.strip, endQ, resV, rawsRes, rawRes, exports, export1, AS.grown, AS.put, Env.know, Env.boxed, isSelf, convSelf, convV, loadV, storeV, fieldAddrV, fieldV, indexAddrV, indexV, partV, isAggK, isStr, place, ipS, lenV, min2V, makeV, freshSl, sliceV, boundOr, bound, bounds, cutFl, copyV, slCells, srcV, appendV, room, zerosOf, eqNeg, kd, takeR, hasViewL, hasView, freshR, freshC, snapAll, snap, snapL, flatL, pureL, pureA, fillC, arrOK, oneA, partB, AV.laid, ren1, CR.gr, applyW, useL, AS.mute, isGen, startG, ev5, tbUj0, agg?_at, glob, Nat.reduceMod, Bx.own.injEq, and_false, false_and, and_true, true_and, hk, hn, lX, lC0, h0]
          rfl
        · rintro n' ⟨sl, gn, bx, us⟩ ⟨rfl, s25, s24, s10⟩
          dsimp only at s25 s24 s10
          simp (maxSteps := 1000000) (disch := first | omega | (simp only [updB, dsB, reduceCtorEq, Nat.reduceEqDiff, and_false, false_and, and_true, true_and, if_false, *]; done) | (simp only [gxorB_len, encB_len, nextB_len, pcK_len, lnB] <;> omega) | fail) only [ev0, ev1, ev2, ev3, ↓reduceIte, reduceCtorEq, Nat.reduceAdd, Nat.reduceSub, Nat.reduceMul, Nat.reduceLT, Nat.reduceLeDiff, Nat.reduceEqDiff, Nat.reduceBEq, BitVec.reduceOfInt, Int.reduceLE, Int.reduceLT, Int.reduceGT, Int.reduceGE, Int.reduceNeg, Int.reduceAdd, Int.reduceSub, Int.reduceMul, Int.reduceToNat, ↓bind_go, ↓map_go, wantedV, isWrite, grow, write, ofV, AV.cells, Abs.start, Abs.strip, endQ, resV, rawsRes, rawRes, exports, export1, AS.grown, AS.put, Env.know, Env.boxed, isSelf, convSelf, convV, loadV, storeV, fieldAddrV, fieldV, indexAddrV, indexV, partV, isAggK, isStr, place, ipS, lenV, min2V, makeV, freshSl, sliceV, boundOr, bound, bounds, cutFl, copyV, slCells, srcV, appendV, room, zerosOf, eqNeg, kd, takeR, hasViewL, hasView, freshR, freshC, snapAll, snap, snapL, flatL, pureL, pureA, fillC, arrOK, oneA, partB, AV.laid, ren1, CR.gr, applyW, useL, AS.mute, isGen, startG, ev5, tbUj0, agg?_at, glob, Nat.reduceMod, Bx.own.injEq, and_false, false_and, and_true, true_and, s25, s24, s10]
          exact ResQ.same rfl
      · simp (maxSteps := 1000000) (disch := first | omega | (simp only [updB, dsB, reduceCtorEq, Nat.reduceEqDiff, and_false, false_and, and_true, true_and, if_false, *]; done) | (simp only [gxorB_len, encB_len, nextB_len, pcK_len, lnB] <;> omega) | fail) only [ev0, ev1, ev2, ev3, ↓reduceIte, reduceCtorEq, Nat.reduceAdd, Nat.reduceSub, Nat.reduceMul, Nat.reduceLT, Nat.reduceLeDiff, Nat.reduceEqDiff, Nat.reduceBEq, BitVec.reduceOfInt, Int.reduceLE, Int.reduceLT, Int.reduceGT, Int.reduceGE, Int.reduceNeg, Int.reduceAdd, Int.reduceSub, Int.reduceMul, Int.reduceToNat, ↓bind_go, ↓map_go, wantedV, isWrite, grow, write, ofV, AV.cells, Abs.start, Abs.strip, endQ, resV, rawsRes, rawRes, exports, export1, AS.grown, AS.put, Env.know, Env.boxed, isSelf, convSelf, convV, loadV, storeV, fieldAddrV, fieldV, indexAddrV, indexV, partV, isAggK, isStr, place, ipS, lenV, min2V, makeV, freshSl, sliceV, boundOr, bound, bounds, cutFl, copyV, slCells, srcV, appendV, room, zerosOf, eqNeg, kd, takeR, hasViewL, hasView, freshR, freshC, snapAll, snap, snapL, flatL, pureL, pureA, fillC, arrOK, oneA, partB, AV.laid, ren1, CR.gr, applyW, useL, AS.mute, isGen, startG, ev5, tbUj0, agg?_at, glob, Nat.reduceMod, Bx.own.injEq, and_false, false_and, and_true, true_and, hk, hn, lX, lC0, h0]
        refine loopQ_of (fun n' σ => ∃ i, i ≤ b.length ∧ n' = b.length - i ∧ σ.slots 25 = .raw (.int .i64 (i : Int)) ∧ σ.slots 24 = .raw (.int .i64 (b.length : Int)) ∧ σ.slots 10 = .view (.own 0 19 1) 0 b.length b.length 1 ∧ σ.slots 9 = .ptr (.own 0 9 1) 0 ∧ σ.slots 11 = .ptr (.own 0 11 1) 0 ∧ σ.box (.own 0 9 1) = some (nums .u8 (expF k)) ∧ σ.box (.own 0 11 1) = some (nums .u8 (gxC n c i)) ∧ σ.box (.own 0 19 1) = some (nums .u8 (gxD (expF k) n c b i))) b.length ?_ ?_
        · refine ⟨0, by omega, by omega, ?_⟩
          simp (maxSteps := 1000000) (disch := first | omega | (simp only [updB, dsB, reduceCtorEq, Nat.reduceEqDiff, and_false, false_and, and_true, true_and, if_false, *]; done) | (simp only [gxorB_len, encB_len, nextB_len, pcK_len, lnB] <;> omega) | fail) only [ev0, ev1, ev2, ev3, ↓reduceIte, reduceCtorEq, Nat.reduceAdd, Nat.reduceSub, Nat.reduceMul, Nat.reduceLT, Nat.reduceLeDiff, Nat.reduceEqDiff, Nat.reduceBEq, BitVec.reduceOfInt, Int.reduceLE, Int.reduceLT, Int.reduceGT, Int.reduceGE, Int.reduceNeg, Int.reduceAdd, Int.reduceSub, Int.reduceMul, Int.reduceToNat, ↓bind_go, ↓map_go, wantedV, isWrite, grow, write, ofV, AV.cells, Abs.start, Abs.strip, endQ, resV, rawsRes, rawRes, exports, export1, AS.grown, AS.put, Env.know, Env.boxed, isSelf, convSelf, convV, loadV, storeV, fieldAddrV, fieldV, indexAddrV, indexV, partV, isAggK, isStr, place, ipS, lenV, min2V, makeV, freshSl, sliceV, boundOr, bound, bounds, cutFl, copyV, slCells, srcV, appendV, room, zerosOf, eqNeg, kd, takeR, hasViewL, hasView, freshR, freshC, snapAll, snap, snapL, flatL, pureL, pureA, fillC, arrOK, oneA, partB, AV.laid, ren1, CR.gr, applyW, useL, AS.mute, isGen, startG, ev5, tbUj0, agg?_at, glob, Nat.reduceMod, Bx.own.injEq, and_false, false_and, and_true, true_and, hk, hn, lX, lC0, h0]
          repeat' first | exact rfl | refine ⟨?_, ?_⟩
        · rintro n' ⟨sl, gn, bx, us⟩ ⟨i, hi, rfl, s25, s24, s10, s9, s11, b9, b11, b19⟩
          dsimp only at s25 s24 s10 s9 s11 b9 b11 b19
          have lC := gxC_len hn c i
          have lD := gxD_len (expF k) n c b i
          have hC : gxC n c (i + 1) = if i % 16 = 0 ∧ 0 < i then nextB (gxC n c i) else gxC n c i := rfl
          have hD : gxD (expF k) n c b (i + 1) = if i % 16 = 0 then pcK (gxD (expF k) n c b i) (encB (expF k) (gxC n c (i + 1))) i (min (i + 16) b.length - i) else gxD (expF k) n c b i := rfl
          have hF : gxorB k n c b = gxD (expF k) n c b b.length := rfl
          generalize hw : expF k = w at b9 b19 hD lD lX hF
          generalize hc' : gxC n c i = y at b11 lC hC
          have hd' : ∃ d, gxD w n c b i = d := ⟨_, rfl⟩
          obtain ⟨d, hd⟩ := hd'
          rw [hd] at b19 lD hD
          simp (maxSteps := 1000000) (disch := first | omega | (simp only [updB, dsB, reduceCtorEq, Nat.reduceEqDiff, and_false, false_and, and_true, true_and, if_false, *]; done) | (simp only [gxorB_len, encB_len, nextB_len, pcK_len, lnB] <;> omega) | fail) only [ev0, ev1, ev2, ev3, ↓reduceIte, reduceCtorEq, Nat.reduceAdd, Nat.reduceSub, Nat.reduceMul, Nat.reduceLT, Nat.reduceLeDiff, Nat.reduceEqDiff, Nat.reduceBEq, BitVec.reduceOfInt, Int.reduceLE, Int.reduceLT, Int.reduceGT, Int.reduceGE, Int.reduceNeg, Int.reduceAdd, Int.reduceSub, Int.reduceMul, Int.reduceToNat, ↓bind_go, ↓map_go, wantedV, isWrite, grow, write, ofV, AV.cells, Abs.start, Abs.strip, endQ, resV, rawsRes, rawRes, exports, export1, AS.grown, AS.put, Env.know, Env.boxed, isSelf, convSelf, convV, loadV, storeV, fieldAddrV, fieldV, indexAddrV, indexV, partV, isAggK, isStr, place, ipS, lenV, min2V, makeV, freshSl, sliceV, boundOr, bound, bounds, cutFl, copyV, slCells, srcV, appendV, room, zerosOf, eqNeg, kd, takeR, hasViewL, hasView, freshR, freshC, snapAll, snap, snapL, flatL, pureL, pureA, fillC, arrOK, oneA, partB, AV.laid, ren1, CR.gr, applyW, useL, AS.mute, isGen, startG, ev5, tbUj0, agg?_at, glob, Nat.reduceMod, Bx.own.injEq, and_false, false_and, and_true, true_and, s25, s24, s10, s9, s11, b9, b11, b19, lC, lD, lX]
          refine condQ_dec (fun hlt => ?_) (fun hge => ?_)
          · have hlt : i < b.length := by omega
            by_cases m0 : i % 16 = 0
            · have e1 : ((i : Int) % 16 == 0) = true := beq_iff_eq.2 (by omega)
              by_cases p0 : 0 < i
              · have e2 : decide ((i : Int) > 0) = true := decide_eq_true (by omega)
                have lN : (nextB y).length = 16 := (nextB_len y).trans lC
                rw [if_pos ⟨m0, p0⟩] at hC
                rw [if_pos m0, hC] at hD
                have e3 : (b.length = i) = False := eq_false (by omega)
                obtain ⟨p, hp⟩ : ∃ p, min (i + 16) b.length - i = p := ⟨_, rfl⟩
                have e4 : (if (b.length : Int) < (i : Int) + 16 then (b.length : Int) else (i : Int) + 16).toNat - i = p := by split <;> omega
                have hp1 : i + p ≤ b.length := by omega
                have hp2 : p ≤ 16 := by omega
                rw [hp] at hD
                simp (maxSteps := 1000000) (disch := first | omega | (simp only [updB, dsB, reduceCtorEq, Nat.reduceEqDiff, and_false, false_and, and_true, true_and, if_false, *]; done) | (simp only [gxorB_len, encB_len, nextB_len, pcK_len, lnB] <;> omega) | fail) only [ev0, ev1, ev2, ev3, ↓reduceIte, reduceCtorEq, Nat.reduceAdd, Nat.reduceSub, Nat.reduceMul, Nat.reduceLT, Nat.reduceLeDiff, Nat.reduceEqDiff, Nat.reduceBEq, BitVec.reduceOfInt, Int.reduceLE, Int.reduceLT, Int.reduceGT, Int.reduceGE, Int.reduceNeg, Int.reduceAdd, Int.reduceSub, Int.reduceMul, Int.reduceToNat, ↓bind_go, ↓map_go, wantedV, isWrite, grow, write, ofV, AV.cells, Abs.start, Abs.strip, endQ, resV, rawsRes, rawRes, exports, export1, AS.grown, AS.put, Env.know, Env.boxed, isSelf, convSelf, convV, loadV, storeV, fieldAddrV, fieldV, indexAddrV, indexV, partV, isAggK, isStr, place, ipS, lenV, min2V, makeV, freshSl, sliceV, boundOr, bound, bounds, cutFl, copyV, slCells, srcV, appendV, room, zerosOf, eqNeg, kd, takeR, hasViewL, hasView, freshR, freshC, snapAll, snap, snapL, flatL, pureL, pureA, fillC, arrOK, oneA, partB, AV.laid, ren1, CR.gr, applyW, useL, AS.mute, isGen, startG, ev5, tbUj0, agg?_at, glob, Nat.reduceMod, Bx.own.injEq, and_false, false_and, and_true, true_and, s25, s24, s10, s9, s11, b9, b11, b19, lC, lD, lX, e1, e2, e3, e4, lN, encB_len]
                refine loopQ_of (fun n' σ => ∃ j, j ≤ p ∧ n' = p - j ∧ σ.slots 52 = .raw (.int .i64 (j : Int)) ∧ σ.slots 51 = .raw (.int .i64 (p : Int)) ∧ σ.slots 14 = .view (.own 0 19 1) i p (b.length - i) 1 ∧ (∃ g, σ.slots 13 = .ptr (.own 0 13 g) 0 ∧ σ.box (.own 0 13 g) = some (nums .u8 (encB w (nextB y)))) ∧ σ.slots 25 = .raw (.int .i64 (i : Int)) ∧ σ.slots 24 = .raw (.int .i64 (b.length : Int)) ∧ σ.slots 10 = .view (.own 0 19 1) 0 b.length b.length 1 ∧ σ.slots 9 = .ptr (.own 0 9 1) 0 ∧ σ.slots 11 = .ptr (.own 0 11 1) 0 ∧ σ.box (.own 0 9 1) = some (nums .u8 w) ∧ σ.box (.own 0 11 1) = some (nums .u8 (nextB y)) ∧ σ.box (.own 0 19 1) = some (nums .u8 (pcK d (encB w (nextB y)) i j))) p ?_ ?_
                · refine ⟨0, by omega, by omega, ?_⟩
                  simp (maxSteps := 1000000) (disch := first | omega | (simp only [updB, dsB, reduceCtorEq, Nat.reduceEqDiff, and_false, false_and, and_true, true_and, if_false, *]; done) | (simp only [gxorB_len, encB_len, nextB_len, pcK_len, lnB] <;> omega) | fail) only [ev0, ev1, ev2, ev3, ↓reduceIte, reduceCtorEq, Nat.reduceAdd, Nat.reduceSub, Nat.reduceMul, Nat.reduceLT, Nat.reduceLeDiff, Nat.reduceEqDiff, Nat.reduceBEq, BitVec.reduceOfInt, Int.reduceLE, Int.reduceLT, Int.reduceGT, Int.reduceGE, Int.reduceNeg, Int.reduceAdd, Int.reduceSub, Int.reduceMul, Int.reduceToNat, ↓bind_go, ↓map_go, wantedV, isWrite, grow, write, ofV, AV.cells, Abs.start, Abs.strip, endQ, resV, rawsRes, rawRes, exports, export1, AS.grown, AS.put, Env.know, Env.boxed, isSelf, convSelf, convV, loadV, storeV, fieldAddrV, fieldV, indexAddrV, indexV, partV, isAggK, isStr, place, ipS, lenV, min2V, makeV, freshSl, sliceV, boundOr, bound, bounds, cutFl, copyV, slCells, srcV, appendV, room, zerosOf, eqNeg, kd, takeR, hasViewL, hasView, freshR, freshC, snapAll, snap, snapL, flatL, pureL, pureA, fillC, arrOK, oneA, partB, AV.laid, ren1, CR.gr, applyW, useL, AS.mute, isGen, startG, ev5, tbUj0, agg?_at, glob, Nat.reduceMod, Bx.own.injEq, and_false, false_and, and_true, true_and, s25, s24, s10, s9, s11, b9, b11, b19, lC, lD, lX, e1, e2, e3, e4, lN, encB_len]
                  exact ⟨rfl, ⟨_, rfl, if_pos rfl⟩, rfl⟩
                · rintro n' ⟨sl', gn', bx', us'⟩ ⟨j, hj, rfl, s52, s51, s14, ⟨g, s13, b13⟩, s25', s24', s10', s9', s11', b9', b11', b19'⟩
                  dsimp only at s52 s51 s14 s13 b13 s25' s24' s10' s9' s11' b9' b11' b19'
                  have lP := pcK_len d (encB w (nextB y)) i j
                  have hP : pcK d (encB w (nextB y)) i (j + 1) = (pcK d (encB w (nextB y)) i j).set (i + j) ((pcK d (encB w (nextB y)) i j).getD (i + j) 0#8 ^^^ (encB w (nextB y)).getD j 0#8) := rfl
                  simp (maxSteps := 1000000) (disch := first | omega | (simp only [updB, dsB, reduceCtorEq, Nat.reduceEqDiff, and_false, false_and, and_true, true_and, if_false, *]; done) | (simp only [gxorB_len, encB_len, nextB_len, pcK_len, lnB] <;> omega) | fail) only [ev0, ev1, ev2, ev3, ↓reduceIte, reduceCtorEq, Nat.reduceAdd, Nat.reduceSub, Nat.reduceMul, Nat.reduceLT, Nat.reduceLeDiff, Nat.reduceEqDiff, Nat.reduceBEq, BitVec.reduceOfInt, Int.reduceLE, Int.reduceLT, Int.reduceGT, Int.reduceGE, Int.reduceNeg, Int.reduceAdd, Int.reduceSub, Int.reduceMul, Int.reduceToNat, ↓bind_go, ↓map_go, wantedV, isWrite, grow, write, ofV, AV.cells, Abs.start, Abs.strip, endQ, resV, rawsRes, rawRes, exports, export1, AS.grown, AS.put, Env.know, Env.boxed, isSelf, convSelf, convV, loadV, storeV, fieldAddrV, fieldV, indexAddrV, indexV, partV, isAggK, isStr, place, ipS, lenV, min2V, makeV, freshSl, sliceV, boundOr, bound, bounds, cutFl, copyV, slCells, srcV, appendV, room, zerosOf, eqNeg, kd, takeR, hasViewL, hasView, freshR, freshC, snapAll, snap, snapL, flatL, pureL, pureA, fillC, arrOK, oneA, partB, AV.laid, ren1, CR.gr, applyW, useL, AS.mute, isGen, startG, ev5, tbUj0, agg?_at, glob, Nat.reduceMod, Bx.own.injEq, and_false, false_and, and_true, true_and, s52, s51, s14, s13, b13, s25', s24', s10', s9', s11', b9', b11', b19', lP, lD, encB_len]
                  refine condQ_dec (fun hlt' => ?_) (fun hge' => ?_)
                  · have hlt' : j < p := by omega
                    simp (maxSteps := 1000000) (disch := first | omega | (simp only [updB, dsB, reduceCtorEq, Nat.reduceEqDiff, and_false, false_and, and_true, true_and, if_false, *]; done) | (simp only [gxorB_len, encB_len, nextB_len, pcK_len, lnB] <;> omega) | fail) only [ev0, ev1, ev2, ev3, ↓reduceIte, reduceCtorEq, Nat.reduceAdd, Nat.reduceSub, Nat.reduceMul, Nat.reduceLT, Nat.reduceLeDiff, Nat.reduceEqDiff, Nat.reduceBEq, BitVec.reduceOfInt, Int.reduceLE, Int.reduceLT, Int.reduceGT, Int.reduceGE, Int.reduceNeg, Int.reduceAdd, Int.reduceSub, Int.reduceMul, Int.reduceToNat, ↓bind_go, ↓map_go, wantedV, isWrite, grow, write, ofV, AV.cells, Abs.start, Abs.strip, endQ, resV, rawsRes, rawRes, exports, export1, AS.grown, AS.put, Env.know, Env.boxed, isSelf, convSelf, convV, loadV, storeV, fieldAddrV, fieldV, indexAddrV, indexV, partV, isAggK, isStr, place, ipS, lenV, min2V, makeV, freshSl, sliceV, boundOr, bound, bounds, cutFl, copyV, slCells, srcV, appendV, room, zerosOf, eqNeg, kd, takeR, hasViewL, hasView, freshR, freshC, snapAll, snap, snapL, flatL, pureL, pureA, fillC, arrOK, oneA, partB, AV.laid, ren1, CR.gr, applyW, useL, AS.mute, isGen, startG, ev5, tbUj0, agg?_at, glob, Nat.reduceMod, Bx.own.injEq, and_false, false_and, and_true, true_and, s52, s51, s14, s13, b13, s25', s24', s10', s9', s11', b9', b11', b19', lP, lD, encB_len]
                    exact ⟨p - (j + 1), by omega, j + 1, by omega, rfl, rfl, ⟨g, rfl, b13⟩, rfl⟩
                  · have hj : j = p := by omega
                    subst hj
                    simp (maxSteps := 1000000) (disch := first | omega | (simp only [updB, dsB, reduceCtorEq, Nat.reduceEqDiff, and_false, false_and, and_true, true_and, if_false, *]; done) | (simp only [gxorB_len, encB_len, nextB_len, pcK_len, lnB] <;> omega) | fail) only [ev0, ev1, ev2, ev3, ↓reduceIte, reduceCtorEq, Nat.reduceAdd, Nat.reduceSub, Nat.reduceMul, Nat.reduceLT, Nat.reduceLeDiff, Nat.reduceEqDiff, Nat.reduceBEq, BitVec.reduceOfInt, Int.reduceLE, Int.reduceLT, Int.reduceGT, Int.reduceGE, Int.reduceNeg, Int.reduceAdd, Int.reduceSub, Int.reduceMul, Int.reduceToNat, ↓bind_go, ↓map_go, wantedV, isWrite, grow, write, ofV, AV.cells, Abs.start, Abs.strip, endQ, resV, rawsRes, rawRes, exports, export1, AS.grown, AS.put, Env.know, Env.boxed, isSelf, convSelf, convV, loadV, storeV, fieldAddrV, fieldV, indexAddrV, indexV, partV, isAggK, isStr, place, ipS, lenV, min2V, makeV, freshSl, sliceV, boundOr, bound, bounds, cutFl, copyV, slCells, srcV, appendV, room, zerosOf, eqNeg, kd, takeR, hasViewL, hasView, freshR, freshC, snapAll, snap, snapL, flatL, pureL, pureA, fillC, arrOK, oneA, partB, AV.laid, ren1, CR.gr, applyW, useL, AS.mute, isGen, startG, ev5, tbUj0, agg?_at, glob, Nat.reduceMod, Bx.own.injEq, and_false, false_and, and_true, true_and, s52, s51, s14, s13, b13, s25', s24', s10', s9', s11', b9', b11', b19', lP, lD, encB_len]
                    refine ⟨b.length - (i + 1), by omega, i + 1, by omega, rfl, ?_⟩
                    rw [hC, hD]
                    exact ⟨rfl, rfl, rfl⟩
              · have e2 : decide ((i : Int) > 0) = false := decide_eq_false (by omega)
                have lN := lC
                rw [if_neg (fun h => p0 h.2)] at hC
                rw [if_pos m0, hC] at hD
                have e3 : (b.length = i) = False := eq_false (by omega)
                obtain ⟨p, hp⟩ : ∃ p, min (i + 16) b.length - i = p := ⟨_, rfl⟩
                have e4 : (if (b.length : Int) < (i : Int) + 16 then (b.length : Int) else (i : Int) + 16).toNat - i = p := by split <;> omega
                have hp1 : i + p ≤ b.length := by omega
                have hp2 : p ≤ 16 := by omega
                rw [hp] at hD
                simp (maxSteps := 1000000) (disch := first | omega | (simp only [updB, dsB, reduceCtorEq, Nat.reduceEqDiff, and_false, false_and, and_true, true_and, if_false, *]; done) | (simp only [gxorB_len, encB_len, nextB_len, pcK_len, lnB] <;> omega) | fail) only [ev0, ev1, ev2, ev3, ↓reduceIte, reduceCtorEq, Nat.reduceAdd, Nat.reduceSub, Nat.reduceMul, Nat.reduceLT, Nat.reduceLeDiff, Nat.reduceEqDiff, Nat.reduceBEq, BitVec.reduceOfInt, Int.reduceLE, Int.reduceLT, Int.reduceGT, Int.reduceGE, Int.reduceNeg, Int.reduceAdd, Int.reduceSub, Int.reduceMul, Int.reduceToNat, ↓bind_go, ↓map_go, wantedV, isWrite, grow, write, ofV, AV.cells, Abs.start, Abs.strip, endQ, resV, rawsRes, rawRes, exports, export1, AS.grown, AS.put, Env.know, Env.boxed, isSelf, convSelf, convV, loadV, storeV, fieldAddrV, fieldV, indexAddrV, indexV, partV, isAggK, isStr, place, ipS, lenV, min2V, makeV, freshSl, sliceV, boundOr, bound, bounds, cutFl, copyV, slCells, srcV, appendV, room, zerosOf, eqNeg, kd, takeR, hasViewL, hasView, freshR, freshC, snapAll, snap, snapL, flatL, pureL, pureA, fillC, arrOK, oneA, partB, AV.laid, ren1, CR.gr, applyW, useL, AS.mute, isGen, startG, ev5, tbUj0, agg?_at, glob, Nat.reduceMod, Bx.own.injEq, and_false, false_and, and_true, true_and, s25, s24, s10, s9, s11, b9, b11, b19, lC, lD, lX, e1, e2, e3, e4, lN, encB_len]
                refine loopQ_of (fun n' σ => ∃ j, j ≤ p ∧ n' = p - j ∧ σ.slots 52 = .raw (.int .i64 (j : Int)) ∧ σ.slots 51 = .raw (.int .i64 (p : Int)) ∧ σ.slots 14 = .view (.own 0 19 1) i p (b.length - i) 1 ∧ (∃ g, σ.slots 13 = .ptr (.own 0 13 g) 0 ∧ σ.box (.own 0 13 g) = some (nums .u8 (encB w y))) ∧ σ.slots 25 = .raw (.int .i64 (i : Int)) ∧ σ.slots 24 = .raw (.int .i64 (b.length : Int)) ∧ σ.slots 10 = .view (.own 0 19 1) 0 b.length b.length 1 ∧ σ.slots 9 = .ptr (.own 0 9 1) 0 ∧ σ.slots 11 = .ptr (.own 0 11 1) 0 ∧ σ.box (.own 0 9 1) = some (nums .u8 w) ∧ σ.box (.own 0 11 1) = some (nums .u8 y) ∧ σ.box (.own 0 19 1) = some (nums .u8 (pcK d (encB w y) i j))) p ?_ ?_
                · refine ⟨0, by omega, by omega, ?_⟩
                  simp (maxSteps := 1000000) (disch := first | omega | (simp only [updB, dsB, reduceCtorEq, Nat.reduceEqDiff, and_false, false_and, and_true, true_and, if_false, *]; done) | (simp only [gxorB_len, encB_len, nextB_len, pcK_len, lnB] <;> omega) | fail) only [ev0, ev1, ev2, ev3, ↓reduceIte, reduceCtorEq, Nat.reduceAdd, Nat.reduceSub, Nat.reduceMul, Nat.reduceLT, Nat.reduceLeDiff, Nat.reduceEqDiff, Nat.reduceBEq, BitVec.reduceOfInt, Int.reduceLE, Int.reduceLT, Int.reduceGT, Int.reduceGE, Int.reduceNeg, Int.reduceAdd, Int.reduceSub, Int.reduceMul, Int.reduceToNat, ↓bind_go, ↓map_go, wantedV, isWrite, grow, write, ofV, AV.cells, Abs.start, Abs.strip, endQ, resV, rawsRes, rawRes, exports, export1, AS.grown, AS.put, Env.know, Env.boxed, isSelf, convSelf, convV, loadV, storeV, fieldAddrV, fieldV, indexAddrV, indexV, partV, isAggK, isStr, place, ipS, lenV, min2V, makeV, freshSl, sliceV, boundOr, bound, bounds, cutFl, copyV, slCells, srcV, appendV, room, zerosOf, eqNeg, kd, takeR, hasViewL, hasView, freshR, freshC, snapAll, snap, snapL, flatL, pureL, pureA, fillC, arrOK, oneA, partB, AV.laid, ren1, CR.gr, applyW, useL, AS.mute, isGen, startG, ev5, tbUj0, agg?_at, glob, Nat.reduceMod, Bx.own.injEq, and_false, false_and, and_true, true_and, s25, s24, s10, s9, s11, b9, b11, b19, lC, lD, lX, e1, e2, e3, e4, lN, encB_len]
                  exact ⟨rfl, ⟨_, rfl, if_pos rfl⟩, rfl⟩
                · rintro n' ⟨sl', gn', bx', us'⟩ ⟨j, hj, rfl, s52, s51, s14, ⟨g, s13, b13⟩, s25', s24', s10', s9', s11', b9', b11', b19'⟩
                  dsimp only at s52 s51 s14 s13 b13 s25' s24' s10' s9' s11' b9' b11' b19'
                  have lP := pcK_len d (encB w y) i j
                  have hP : pcK d (encB w y) i (j + 1) = (pcK d (encB w y) i j).set (i + j) ((pcK d (encB w y) i j).getD (i + j) 0#8 ^^^ (encB w y).getD j 0#8) := rfl
                  simp (maxSteps := 1000000) (disch := first | omega | (simp only [updB, dsB, reduceCtorEq, Nat.reduceEqDiff, and_false, false_and, and_true, true_and, if_false, *]; done) | (simp only [gxorB_len, encB_len, nextB_len, pcK_len, lnB] <;> omega) | fail) only [ev0, ev1, ev2, ev3, ↓reduceIte, reduceCtorEq, Nat.reduceAdd, Nat.reduceSub, Nat.reduceMul, Nat.reduceLT, Nat.reduceLeDiff, Nat.reduceEqDiff, Nat.reduceBEq, BitVec.reduceOfInt, Int.reduceLE, Int.reduceLT, Int.reduceGT, Int.reduceGE, Int.reduceNeg, Int.reduceAdd, Int.reduceSub, Int.reduceMul, Int.reduceToNat, ↓bind_go, ↓map_go, wantedV, isWrite, grow, write, ofV, AV.cells, Abs.start, Abs.strip, endQ, resV, rawsRes, rawRes, exports, export1, AS.grown, AS.put, Env.know, Env.boxed, isSelf, convSelf, convV, loadV, storeV, fieldAddrV, fieldV, indexAddrV, indexV, partV, isAggK, isStr, place, ipS, lenV, min2V, makeV, freshSl, sliceV, boundOr, bound, bounds, cutFl, copyV, slCells, srcV, appendV, room, zerosOf, eqNeg, kd, takeR, hasViewL, hasView, freshR, freshC, snapAll, snap, snapL, flatL, pureL, pureA, fillC, arrOK, oneA, partB, AV.laid, ren1, CR.gr, applyW, useL, AS.mute, isGen, startG, ev5, tbUj0, agg?_at, glob, Nat.reduceMod, Bx.own.injEq, and_false, false_and, and_true, true_and, s52, s51, s14, s13, b13, s25', s24', s10', s9', s11', b9', b11', b19', lP, lD, encB_len]
                  refine condQ_dec (fun hlt' => ?_) (fun hge' => ?_)
                  · have hlt' : j < p := by omega
                    simp (maxSteps := 1000000) (disch := first | omega | (simp only [updB, dsB, reduceCtorEq, Nat.reduceEqDiff, and_false, false_and, and_true, true_and, if_false, *]; done) | (simp only [gxorB_len, encB_len, nextB_len, pcK_len, lnB] <;> omega) | fail) only [ev0, ev1, ev2, ev3, ↓reduceIte, reduceCtorEq, Nat.reduceAdd, Nat.reduceSub, Nat.reduceMul, Nat.reduceLT, Nat.reduceLeDiff, Nat.reduceEqDiff, Nat.reduceBEq, BitVec.reduceOfInt, Int.reduceLE, Int.reduceLT, Int.reduceGT, Int.reduceGE, Int.reduceNeg, Int.reduceAdd, Int.reduceSub, Int.reduceMul, Int.reduceToNat, ↓bind_go, ↓map_go, wantedV, isWrite, grow, write, ofV, AV.cells, Abs.start, Abs.strip, endQ, resV, rawsRes, rawRes, exports, export1, AS.grown, AS.put, Env.know, Env.boxed, isSelf, convSelf, convV, loadV, storeV, fieldAddrV, fieldV, indexAddrV, indexV, partV, isAggK, isStr, place, ipS, lenV, min2V, makeV, freshSl, sliceV, boundOr, bound, bounds, cutFl, copyV, slCells, srcV, appendV, room, zerosOf, eqNeg, kd, takeR, hasViewL, hasView, freshR, freshC, snapAll, snap, snapL, flatL, pureL, pureA, fillC, arrOK, oneA, partB, AV.laid, ren1, CR.gr, applyW, useL, AS.mute, isGen, startG, ev5, tbUj0, agg?_at, glob, Nat.reduceMod, Bx.own.injEq, and_false, false_and, and_true, true_and, s52, s51, s14, s13, b13, s25', s24', s10', s9', s11', b9', b11', b19', lP, lD, encB_len]
                    exact ⟨p - (j + 1), by omega, j + 1, by omega, rfl, rfl, ⟨g, rfl, b13⟩, rfl⟩
                  · have hj : j = p := by omega
                    subst hj
                    simp (maxSteps := 1000000) (disch := first | omega | (simp only [updB, dsB, reduceCtorEq, Nat.reduceEqDiff, and_false, false_and, and_true, true_and, if_false, *]; done) | (simp only [gxorB_len, encB_len, nextB_len, pcK_len, lnB] <;> omega) | fail) only [ev0, ev1, ev2, ev3, ↓reduceIte, reduceCtorEq, Nat.reduceAdd, Nat.reduceSub, Nat.reduceMul, Nat.reduceLT, Nat.reduceLeDiff, Nat.reduceEqDiff, Nat.reduceBEq, BitVec.reduceOfInt, Int.reduceLE, Int.reduceLT, Int.reduceGT, Int.reduceGE, Int.reduceNeg, Int.reduceAdd, Int.reduceSub, Int.reduceMul, Int.reduceToNat, ↓bind_go, ↓map_go, wantedV, isWrite, grow, write, ofV, AV.cells, Abs.start, Abs.strip, endQ, resV, rawsRes, rawRes, exports, export1, AS.grown, AS.put, Env.know, Env.boxed, isSelf, convSelf, convV, loadV, storeV, fieldAddrV, fieldV, indexAddrV, indexV, partV, isAggK, isStr, place, ipS, lenV, min2V, makeV, freshSl, sliceV, boundOr, bound, bounds, cutFl, copyV, slCells, srcV, appendV, room, zerosOf, eqNeg, kd, takeR, hasViewL, hasView, freshR, freshC, snapAll, snap, snapL, flatL, pureL, pureA, fillC, arrOK, oneA, partB, AV.laid, ren1, CR.gr, applyW, useL, AS.mute, isGen, startG, ev5, tbUj0, agg?_at, glob, Nat.reduceMod, Bx.own.injEq, and_false, false_and, and_true, true_and, s52, s51, s14, s13, b13, s25', s24', s10', s9', s11', b9', b11', b19', lP, lD, encB_len]
                    refine ⟨b.length - (i + 1), by omega, i + 1, by omega, rfl, ?_⟩
                    rw [hC, hD]
                    exact ⟨rfl, rfl, rfl⟩
            · have e1 : ((i : Int) % 16 == 0) = false := beq_eq_false_iff_ne.2 (by omega)
              rw [if_neg (fun h => m0 h.1)] at hC
              rw [if_neg m0] at hD
              simp (maxSteps := 1000000) (disch := first | omega | (simp only [updB, dsB, reduceCtorEq, Nat.reduceEqDiff, and_false, false_and, and_true, true_and, if_false, *]; done) | (simp only [gxorB_len, encB_len, nextB_len, pcK_len, lnB] <;> omega) | fail) only [ev0, ev1, ev2, ev3, ↓reduceIte, reduceCtorEq, Nat.reduceAdd, Nat.reduceSub, Nat.reduceMul, Nat.reduceLT, Nat.reduceLeDiff, Nat.reduceEqDiff, Nat.reduceBEq, BitVec.reduceOfInt, Int.reduceLE, Int.reduceLT, Int.reduceGT, Int.reduceGE, Int.reduceNeg, Int.reduceAdd, Int.reduceSub, Int.reduceMul, Int.reduceToNat, ↓bind_go, ↓map_go, wantedV, isWrite, grow, write, ofV, AV.cells, Abs.start, Abs.strip, endQ, resV, rawsRes, rawRes, exports, export1, AS.grown, AS.put, Env.know, Env.boxed, isSelf, convSelf, convV, loadV, storeV, fieldAddrV, fieldV, indexAddrV, indexV, partV, isAggK, isStr, place, ipS, lenV, min2V, makeV, freshSl, sliceV, boundOr, bound, bounds, cutFl, copyV, slCells, srcV, appendV, room, zerosOf, eqNeg, kd, takeR, hasViewL, hasView, freshR, freshC, snapAll, snap, snapL, flatL, pureL, pureA, fillC, arrOK, oneA, partB, AV.laid, ren1, CR.gr, applyW, useL, AS.mute, isGen, startG, ev5, tbUj0, agg?_at, glob, Nat.reduceMod, Bx.own.injEq, and_false, false_and, and_true, true_and, s25, s24, s10, s9, s11, b9, b11, b19, lC, lD, lX, e1]
              refine ⟨b.length - (i + 1), by omega, i + 1, by omega, rfl, ?_⟩
              rw [hC, hD]
              repeat' first | exact rfl | refine ⟨?_, ?_⟩
          · have hi : i = b.length := by omega
            subst hi
            simp (maxSteps := 1000000) (disch := first | omega | (simp only [updB, dsB, reduceCtorEq, Nat.reduceEqDiff, and_false, false_and, and_true, true_and, if_false, *]; done) | (simp only [gxorB_len, encB_len, nextB_len, pcK_len, lnB] <;> omega) | fail) only [ev0, ev1, ev2, ev3, ↓reduceIte, reduceCtorEq, Nat.reduceAdd, Nat.reduceSub, Nat.reduceMul, Nat.reduceLT, Nat.reduceLeDiff, Nat.reduceEqDiff, Nat.reduceBEq, BitVec.reduceOfInt, Int.reduceLE, Int.reduceLT, Int.reduceGT, Int.reduceGE, Int.reduceNeg, Int.reduceAdd, Int.reduceSub, Int.reduceMul, Int.reduceToNat, ↓bind_go, ↓map_go, wantedV, isWrite, grow, write, ofV, AV.cells, Abs.start, Abs.strip, endQ, resV, rawsRes, rawRes, exports, export1, AS.grown, AS.put, Env.know, Env.boxed, isSelf, convSelf, convV, loadV, storeV, fieldAddrV, fieldV, indexAddrV, indexV, partV, isAggK, isStr, place, ipS, lenV, min2V, makeV, freshSl, sliceV, boundOr, bound, bounds, cutFl, copyV, slCells, srcV, appendV, room, zerosOf, eqNeg, kd, takeR, hasViewL, hasView, freshR, freshC, snapAll, snap, snapL, flatL, pureL, pureA, fillC, arrOK, oneA, partB, AV.laid, ren1, CR.gr, applyW, useL, AS.mute, isGen, startG, ev5, tbUj0, agg?_at, glob, Nat.reduceMod, Bx.own.injEq, and_false, false_and, and_true, true_and, s25, s24, s10, s9, s11, b9, b11, b19, lC, lD, lX]
            rw [hF, hd, lD]
            exact ResQ.same rfl
    · cases hr
  · cases hr
end Go.Proofs.YtddeffdgldjdjaaDoor
