/- Clone, Xor, Open of bytes that stand in a box. -/
import Derived.Test.YtjnmdphoaafjaaaUo
namespace Go.Proofs.Ytjnmdphoaafjaaa
set_option linter.unusedSimpArgs false
set_option linter.unusedVariables false
set_option linter.defProp false
open Go Go.Abs
set_option maxHeartbeats 16000000
/-- bytes that stand in a box, from its beginning on -/
def vw? (bx : Boxes) : AV → Option (List (BitVec 8))
  | .view r 0 n c 1 => (bx r).bind fun cs => (row? .u8 8 (.sl cs.length cs .bor)).bind fun b => if n ≤ b.length ∧ n ≤ c then some (b.take n) else none
  | _ => none
theorem vw?_of {bx : Boxes} {v : AV} {t : List (BitVec 8)} (h : vw? bx v = some t) : ∃ r c b, v = .view r 0 t.length c 1 ∧ bx r = some (nums .u8 b) ∧ b.take t.length = t ∧ t.length ≤ b.length ∧ t.length ≤ c := by
  unfold vw? at h
  split at h
  · rename_i r n c
    simp only [Option.bind_eq_some_iff] at h
    obtain ⟨cs, h1, b, h2, h3⟩ := h
    obtain ⟨fl, h4⟩ := row?_of h2
    simp only [AV.sl.injEq] at h4
    obtain ⟨_, h5, _⟩ := h4
    subst h5
    split at h3
    · rename_i hn
      cases h3
      have : (b.take n).length = n := by rw [List.length_take]; omega
      exact ⟨r, c, b, by rw [this], h1, by rw [this], by omega, by omega⟩
    · cases h3
  · cases h
theorem vw?_at {bx : Boxes} {r : Bx} {n c : Nat} {b : List (BitVec 8)} (h : bx r = some (nums .u8 b)) (hn : n ≤ b.length) (hc : n ≤ c) : vw? bx (.view r 0 n c 1) = some (b.take n) := by
  unfold vw?
  simp only [h, Option.bind_some, row?_at (show (nums .u8 b).length = b.length by simp only [nums_len]), if_pos (And.intro hn hc)]
/-- a copy of what stands in a box -/
def gv69 (args : List AV) (bx : Boxes) (us : Abs.Id → Bool) : Option CR := match args with
  | [v] => (vw? bx v).bind fun m => if m.length ≤ 1000000 then
      if m.length = 0 then some { v := .ret (.sl 0 [] .bor) } else some { v := .ret (.view (.own 0 0 0) 0 m.length m.length 1), cont := some (nums .u8 m) } else none
  | _ => none
def tbUq0 := (And.intro (And.intro (And.intro @teE @EC_te) (And.intro @EC_glob @EC_gs)) (And.intro (And.intro @EC_dyn @EC_mu5) (And.intro @EC_mu7 (And.intro @own_ne @own_ne'))))
theorem soundW69 : SoundG Try.prog glob 69 gv69 := by
  refine SoundG.walk EC okC mixed Try.func69 rfl Try.call69 (by kernel_rfl) ?_
  intro args bx us cr hr
  unfold gv69 at hr
  split at hr
  · simp only [Option.bind_eq_some_iff] at hr
    obtain ⟨m, h1, hr⟩ := hr
    split at hr
    · rename_i hm
      obtain ⟨r, c, b, rfl, hb, ht, hle, hlc⟩ := vw?_of h1
      rw [Try.ntmps69, Try.results69]
      split at hr
      · rename_i h0
        cases hr
        refine ⟨by simp, fun L hlow hus hbf => ?_⟩
        have hbs : (bx r).isSome := by rw [hb]; rfl
        have hbL := (hlow r hbs).1
        rw [h0]
        simp (maxSteps := 1000000) (disch := first | omega | (simp only [updB, updI, dsB, reduceCtorEq, Nat.reduceEqDiff, Abs.Id.mk.injEq, and_false, false_and, and_true, true_and, if_false, ↓reduceIte, Option.isSome_some, *]; done) | (simp only [nums_len, lnB] <;> omega) | fail) only [ev0, ev1, ev2, ev3, ↓reduceIte, reduceCtorEq, Nat.reduceAdd, Nat.reduceSub, Nat.reduceMul, Nat.reduceLT, Nat.reduceLeDiff, Nat.reduceEqDiff, Nat.reduceBEq, BitVec.reduceOfInt, Int.reduceLE, Int.reduceLT, Int.reduceGT, Int.reduceGE, Int.reduceNeg, Int.reduceAdd, Int.reduceSub, Int.reduceMul, Int.reduceToNat, ↓bind_go, ↓map_go, wantedV, isWrite, grow, write, ofV, AV.cells, Abs.start, Abs.strip, endQ, resV, rawsRes, rawRes, exports, export1, AS.grown, AS.put, Env.know, Env.boxed, isSelf, convSelf, convV, loadV, storeV, fieldAddrV, fieldV, indexAddrV, indexV, partV, isAggK, isStr, place, lenV, min2V, makeV, freshSl, sliceV, boundOr, bound, bounds, cutFl, copyV, slCells, srcV, appendV, room, zerosOf, eqNeg, kd, takeR, hasViewL, hasView, freshR, freshC, snapAll, snap, snapL, flatL, pureL, pureA, fillC, arrOK, oneA, partB, AV.laid, ren1, CR.gr, applyW, useL, AS.mute, isGen, startG, ev5, tbUq0, glob, Bx.own.injEq, and_false, false_and, and_true, true_and, hb]
        change EndG _ _ _ _ _ _ _
        exact EndG.r0 [_] [_] rfl (.one (.bor _ _ _ trivial)) rfl (fun _ _ => rfl) (fun _ _ => rfl)
      · rename_i h0
        cases hr
        refine ⟨by simp, fun L hlow hus hbf => ?_⟩
        have hbs : (bx r).isSome := by rw [hb]; rfl
        have hbL := (hlow r hbs).1
        simp (maxSteps := 1000000) (disch := first | omega | (simp only [updB, updI, dsB, reduceCtorEq, Nat.reduceEqDiff, Abs.Id.mk.injEq, and_false, false_and, and_true, true_and, if_false, ↓reduceIte, Option.isSome_some, *]; done) | (simp only [nums_len, lnB] <;> omega) | fail) only [ev0, ev1, ev2, ev3, ↓reduceIte, reduceCtorEq, Nat.reduceAdd, Nat.reduceSub, Nat.reduceMul, Nat.reduceLT, Nat.reduceLeDiff, Nat.reduceEqDiff, Nat.reduceBEq, BitVec.reduceOfInt, Int.reduceLE, Int.reduceLT, Int.reduceGT, Int.reduceGE, Int.reduceNeg, Int.reduceAdd, Int.reduceSub, Int.reduceMul, Int.reduceToNat, ↓bind_go, ↓map_go, wantedV, isWrite, grow, write, ofV, AV.cells, Abs.start, Abs.strip, endQ, resV, rawsRes, rawRes, exports, export1, AS.grown, AS.put, Env.know, Env.boxed, isSelf, convSelf, convV, loadV, storeV, fieldAddrV, fieldV, indexAddrV, indexV, partV, isAggK, isStr, place, lenV, min2V, makeV, freshSl, sliceV, boundOr, bound, bounds, cutFl, copyV, slCells, srcV, appendV, room, zerosOf, eqNeg, kd, takeR, hasViewL, hasView, freshR, freshC, snapAll, snap, snapL, flatL, pureL, pureA, fillC, arrOK, oneA, partB, AV.laid, ren1, CR.gr, applyW, useL, AS.mute, isGen, startG, ev5, tbUq0, glob, Bx.own.injEq, and_false, false_and, and_true, true_and, h0, hb, ht]
        change EndG _ _ _ _ _ _ _
        refine EndG.new (b := .own L 7 1) [_] [_] rfl (.one (.newv _ _ _ _ _ rfl)) rfl rfl (fun b' h1 => ?_) updB_self ?_ (fun _ _ => rfl)
        · simp only [updB, own_ne h1, if_false]
        · rw [nums_strip]
          exact ExpL.same ⟨lowL_pure _ (nums_pure _), nums_cells _⟩
    · cases hr
  · cases hr

def gv48 (args : List AV) (bx : Boxes) (us : Abs.Id → Bool) : Option CR := match args with
  | [v, u, x, w] => (agg? .u8 8 32 v).bind fun k => (agg? .u8 8 12 u).bind fun n => (num? .u32 32 x).bind fun c => (vw? bx w).bind fun b => if b.length ≤ 1000000 then
      if b.length = 0 then some { v := .ret (.sl 0 [] .bor) } else some { v := .ret (.view (.own 0 0 0) 0 (gxorB k n c b).length (gxorB k n c b).length 1), cont := some (nums .u8 (gxorB k n c b)) } else none
  | _ => none
noncomputable def EW : Env := ((((E0.know 103 pf103).know 104 pf104).know 105 pf105).knowG 106 gf106).knowG 69 gv69
theorem okW : EnvOK Try.prog EW := ((((ok0.know sound103).know sound104).know sound105).knowG sound106).knowG soundW69
theorem EW_te : EW.te = te := rfl
theorem EW_glob : EW.glob = glob := rfl
theorem EW_gs : EW.gs = [69, 106] := rfl
theorem EW_dyn : EW.dyn = false := rfl
theorem EW_mu (d : Nat) : EW.mu d = false := rfl
theorem EW_e : EW.tbl 103 = some (.val pf103) := rfl
theorem EW_c : EW.tbl 104 = some (.val pf104) := rfl
theorem EW_n : EW.tbl 105 = some (.val pf105) := rfl
theorem EW_y : EW.tbl 106 = some (.gen gf106) := rfl
theorem EW_k : EW.tbl 69 = some (.gen gv69) := rfl
theorem vw?_is {r : Bx} {n c : Nat} {bx : Boxes} : vw? bx (.view r 0 n c 1) = (bx r).bind fun cs => (row? .u8 8 (.sl cs.length cs .bor)).bind fun b => if n ≤ b.length ∧ n ≤ c then some (b.take n) else none := rfl
theorem clonev_go {w : AV} {bx : Boxes} {us : Abs.Id → Bool} : gv69 [w] bx us = (vw? bx w).bind fun m => if m.length ≤ 1000000 then
      if m.length = 0 then some { v := .ret (.sl 0 [] .bor) } else some { v := .ret (.view (.own 0 0 0) 0 m.length m.length 1), cont := some (nums .u8 m) } else none := rfl
theorem row_bor {b : List (BitVec 8)} : row? .u8 8 (.sl b.length (nums .u8 b) .bor) = some b := row?_at rfl
def tbUq1 := (And.intro (And.intro (And.intro (And.intro @teE @EW_te) (And.intro @EW_glob (And.intro @EW_gs @EW_dyn))) (And.intro (And.intro @EW_mu (And.intro @EW_e @EW_c)) (And.intro @EW_n (And.intro @EW_y @EW_k)))) (And.intro (And.intro (And.intro @expand_at (And.intro @ctr_at @next_at)) (And.intro @enc_go (And.intro @clonev_go @row_bor))) (And.intro (And.intro @nums_strip (And.intro @nums_set8 @nums_ren)) (And.intro @splice0 (And.intro @own_ne @own_ne')))))
theorem soundW48 : SoundG Try.prog glob 48 gv48 := by
  refine SoundG.walk EW okW mixed Try.func48 rfl Try.call48 (by kernel_rfl) ?_
  intro args bx us cr hr
  unfold gv48 at hr
  split at hr
  · rename_i v u x w
    simp only [Option.bind_eq_some_iff] at hr
    obtain ⟨k, h1, n, h2, c, h3, b, h4, hr⟩ := hr
    obtain ⟨rfl, hk⟩ := agg?_of h1
    obtain ⟨rfl, hn⟩ := agg?_of h2
    split at hr
    · rename_i hc
      obtain ⟨r, cp, bb, rfl, hb, ht, hle, hlc⟩ := vw?_of h4
      have hbs : (bx r).isSome := by rw [hb]; rfl
      rw [num?_of h3, Try.ntmps48, Try.results48]
      have lX := expF_len hk
      have lC0 := ctrB_len hn c
      split at hr
      · rename_i h0
        cases hr
        refine ⟨by simp, fun L hlow hus hbf => ?_⟩
        have hbL := (hlow r hbs).1
        simp (maxSteps := 1000000) (disch := first | omega | (simp only [updB, updI, dsB, reduceCtorEq, Nat.reduceEqDiff, Abs.Id.mk.injEq, and_false, false_and, and_true, true_and, if_false, ↓reduceIte, Option.isSome_some, *]; done) | (simp only [gxorB_len, encB_len, nextB_len, pcK_len, lnB] <;> omega) | fail) only [ev0, ev1, ev2, ev3, ↓reduceIte, reduceCtorEq, Nat.reduceAdd, Nat.reduceSub, Nat.reduceMul, Nat.reduceLT, Nat.reduceLeDiff, Nat.reduceEqDiff, Nat.reduceBEq, BitVec.reduceOfInt, Int.reduceLE, Int.reduceLT, Int.reduceGT, Int.reduceGE, Int.reduceNeg, Int.reduceAdd, Int.reduceSub, Int.reduceMul, Int.reduceToNat, ↓bind_go, ↓map_go, wantedV, isWrite, grow, write, ofV, AV.cells, Abs.start, Abs.strip, endQ, resV, rawsRes, rawRes, exports, export1, AS.grown, AS.put, Env.know, Env.boxed, isSelf, convSelf, convV, loadV, storeV, fieldAddrV, fieldV, indexAddrV, indexV, partV, isAggK, isStr, place, lenV, min2V, makeV, freshSl, sliceV, boundOr, bound, bounds, cutFl, copyV, slCells, srcV, appendV, room, zerosOf, eqNeg, kd, takeR, hasViewL, hasView, freshR, freshC, snapAll, snap, snapL, flatL, pureL, pureA, fillC, arrOK, oneA, partB, AV.laid, ren1, CR.gr, applyW, useL, AS.mute, isGen, startG, ev5, tbUq1, agg?_at, vw?_is, glob, Nat.reduceMod, Bx.own.injEq, and_false, false_and, and_true, true_and, hk, hn, lX, lC0, h0, hb, ht, hle, hlc]
        refine loopQ_of (fun n' σ => n' = 0 ∧ σ.slots 25 = .raw (.int .i64 0) ∧ σ.slots 24 = .raw (.int .i64 0) ∧ σ.slots 10 = .sl 0 [] .bor ∧ (∀ b, b.lvl < L → σ.box b = bx b) ∧ (∀ i, i.lvl < L → σ.used i = us i)) 0 ?_ ?_
        · simp (maxSteps := 1000000) (disch := first | omega | (simp only [updB, updI, dsB, reduceCtorEq, Nat.reduceEqDiff, Abs.Id.mk.injEq, and_false, false_and, and_true, true_and, if_false, ↓reduceIte, Option.isSome_some, *]; done) | (simp only [gxorB_len, encB_len, nextB_len, pcK_len, lnB] <;> omega) | fail) only [ev0, ev1, ev2, ev3, ↓reduceIte, reduceCtorEq, Nat.reduceAdd, Nat.reduceSub, Nat.reduceMul, Nat.reduceLT, Nat.reduceLeDiff, Nat.reduceEqDiff, Nat.reduceBEq, BitVec.reduceOfInt, Int.reduceLE, Int.reduceLT, Int.reduceGT, Int.reduceGE, Int.reduceNeg, Int.reduceAdd, Int.reduceSub, Int.reduceMul, Int.reduceToNat, ↓bind_go, ↓map_go, wantedV, isWrite, grow, write, ofV, AV.cells, Abs.start, Abs.strip, endQ, resV, rawsRes, rawRes, exports, export1, AS.grown, AS.put, Env.know, Env.boxed, isSelf, convSelf, convV, loadV, storeV, fieldAddrV, fieldV, indexAddrV, indexV, partV, isAggK, isStr, place, lenV, min2V, makeV, freshSl, sliceV, boundOr, bound, bounds, cutFl, copyV, slCells, srcV, appendV, room, zerosOf, eqNeg, kd, takeR, hasViewL, hasView, freshR, freshC, snapAll, snap, snapL, flatL, pureL, pureA, fillC, arrOK, oneA, partB, AV.laid, ren1, CR.gr, applyW, useL, AS.mute, isGen, startG, ev5, tbUq1, agg?_at, vw?_is, glob, Nat.reduceMod, Bx.own.injEq, and_false, false_and, and_true, true_and, hk, hn, lX, lC0, h0]
          exact ⟨rfl, fun b hb' => by simp only [own_ne hb', if_false], fun _ _ => trivial⟩
        · rintro n' ⟨sl, gn, bx1, us1⟩ ⟨rfl, s25, s24, s10, hbx, hux⟩
          dsimp only at s25 s24 s10 hbx hux
          simp (maxSteps := 1000000) (disch := first | omega | (simp only [updB, updI, dsB, reduceCtorEq, Nat.reduceEqDiff, Abs.Id.mk.injEq, and_false, false_and, and_true, true_and, if_false, ↓reduceIte, Option.isSome_some, *]; done) | (simp only [gxorB_len, encB_len, nextB_len, pcK_len, lnB] <;> omega) | fail) only [ev0, ev1, ev2, ev3, ↓reduceIte, reduceCtorEq, Nat.reduceAdd, Nat.reduceSub, Nat.reduceMul, Nat.reduceLT, Nat.reduceLeDiff, Nat.reduceEqDiff, Nat.reduceBEq, BitVec.reduceOfInt, Int.reduceLE, Int.reduceLT, Int.reduceGT, Int.reduceGE, Int.reduceNeg, Int.reduceAdd, Int.reduceSub, Int.reduceMul, Int.reduceToNat, ↓bind_go, ↓map_go, wantedV, isWrite, grow, write, ofV, AV.cells, Abs.start, Abs.strip, endQ, resV, rawsRes, rawRes, exports, export1, AS.grown, AS.put, Env.know, Env.boxed, isSelf, convSelf, convV, loadV, storeV, fieldAddrV, fieldV, indexAddrV, indexV, partV, isAggK, isStr, place, lenV, min2V, makeV, freshSl, sliceV, boundOr, bound, bounds, cutFl, copyV, slCells, srcV, appendV, room, zerosOf, eqNeg, kd, takeR, hasViewL, hasView, freshR, freshC, snapAll, snap, snapL, flatL, pureL, pureA, fillC, arrOK, oneA, partB, AV.laid, ren1, CR.gr, applyW, useL, AS.mute, isGen, startG, ev5, tbUq1, agg?_at, vw?_is, glob, Nat.reduceMod, Bx.own.injEq, and_false, false_and, and_true, true_and, s25, s24, s10]
          change EndG _ _ _ _ _ _ _
          exact EndG.r0 [_] [_] rfl (.one (.bor _ _ _ trivial)) rfl hbx hux
      · rename_i h0
        cases hr
        refine ⟨by simp, fun L hlow hus hbf => ?_⟩
        have hbL := (hlow r hbs).1
        simp (maxSteps := 1000000) (disch := first | omega | (simp only [updB, updI, dsB, reduceCtorEq, Nat.reduceEqDiff, Abs.Id.mk.injEq, and_false, false_and, and_true, true_and, if_false, ↓reduceIte, Option.isSome_some, *]; done) | (simp only [gxorB_len, encB_len, nextB_len, pcK_len, lnB] <;> omega) | fail) only [ev0, ev1, ev2, ev3, ↓reduceIte, reduceCtorEq, Nat.reduceAdd, Nat.reduceSub, Nat.reduceMul, Nat.reduceLT, Nat.reduceLeDiff, Nat.reduceEqDiff, Nat.reduceBEq, BitVec.reduceOfInt, Int.reduceLE, Int.reduceLT, Int.reduceGT, Int.reduceGE, Int.reduceNeg, Int.reduceAdd, Int.reduceSub, Int.reduceMul, Int.reduceToNat, ↓bind_go, ↓map_go, wantedV, isWrite, grow, write, ofV, AV.cells, Abs.start, Abs.strip, endQ, resV, rawsRes, rawRes, exports, export1, AS.grown, AS.put, Env.know, Env.boxed, isSelf, convSelf, convV, loadV, storeV, fieldAddrV, fieldV, indexAddrV, indexV, partV, isAggK, isStr, place, lenV, min2V, makeV, freshSl, sliceV, boundOr, bound, bounds, cutFl, copyV, slCells, srcV, appendV, room, zerosOf, eqNeg, kd, takeR, hasViewL, hasView, freshR, freshC, snapAll, snap, snapL, flatL, pureL, pureA, fillC, arrOK, oneA, partB, AV.laid, ren1, CR.gr, applyW, useL, AS.mute, isGen, startG, ev5, tbUq1, agg?_at, vw?_is, glob, Nat.reduceMod, Bx.own.injEq, and_false, false_and, and_true, true_and, hk, hn, lX, lC0, h0, hb, ht, hle, hlc]
        refine loopQ_of (fun n' σ => ∃ i, i ≤ b.length ∧ n' = b.length - i ∧ σ.slots 25 = .raw (.int .i64 (i : Int)) ∧ σ.slots 24 = .raw (.int .i64 (b.length : Int)) ∧ σ.slots 10 = .view (.own L 19 1) 0 b.length b.length 1 ∧ σ.slots 9 = .ptr (.own L 9 1) 0 ∧ σ.slots 11 = .ptr (.own L 11 1) 0 ∧ σ.box (.own L 9 1) = some (nums .u8 (expF k)) ∧ σ.box (.own L 11 1) = some (nums .u8 (gxC n c i)) ∧ σ.box (.own L 19 1) = some (nums .u8 (gxD (expF k) n c b i)) ∧ (∀ b, b.lvl < L → σ.box b = bx b) ∧ (∀ i, i.lvl < L → σ.used i = us i)) b.length ?_ ?_
        · refine ⟨0, by omega, by omega, ?_⟩
          simp (maxSteps := 1000000) (disch := first | omega | (simp only [updB, updI, dsB, reduceCtorEq, Nat.reduceEqDiff, Abs.Id.mk.injEq, and_false, false_and, and_true, true_and, if_false, ↓reduceIte, Option.isSome_some, *]; done) | (simp only [gxorB_len, encB_len, nextB_len, pcK_len, lnB] <;> omega) | fail) only [ev0, ev1, ev2, ev3, ↓reduceIte, reduceCtorEq, Nat.reduceAdd, Nat.reduceSub, Nat.reduceMul, Nat.reduceLT, Nat.reduceLeDiff, Nat.reduceEqDiff, Nat.reduceBEq, BitVec.reduceOfInt, Int.reduceLE, Int.reduceLT, Int.reduceGT, Int.reduceGE, Int.reduceNeg, Int.reduceAdd, Int.reduceSub, Int.reduceMul, Int.reduceToNat, ↓bind_go, ↓map_go, wantedV, isWrite, grow, write, ofV, AV.cells, Abs.start, Abs.strip, endQ, resV, rawsRes, rawRes, exports, export1, AS.grown, AS.put, Env.know, Env.boxed, isSelf, convSelf, convV, loadV, storeV, fieldAddrV, fieldV, indexAddrV, indexV, partV, isAggK, isStr, place, lenV, min2V, makeV, freshSl, sliceV, boundOr, bound, bounds, cutFl, copyV, slCells, srcV, appendV, room, zerosOf, eqNeg, kd, takeR, hasViewL, hasView, freshR, freshC, snapAll, snap, snapL, flatL, pureL, pureA, fillC, arrOK, oneA, partB, AV.laid, ren1, CR.gr, applyW, useL, AS.mute, isGen, startG, ev5, tbUq1, agg?_at, vw?_is, glob, Nat.reduceMod, Bx.own.injEq, and_false, false_and, and_true, true_and, hk, hn, lX, lC0, h0, hb, ht, hle, hlc]
          exact ⟨rfl, rfl, rfl, fun b hb' => by simp only [own_ne hb', if_false], fun _ _ => trivial⟩
        · rintro n' ⟨sl, gn, bx1, us1⟩ ⟨i, hi, rfl, s25, s24, s10, s9, s11, b9, b11, b19, hbx, hux⟩
          dsimp only at s25 s24 s10 s9 s11 b9 b11 b19 hbx hux
          have lC := gxC_len hn c i
          have lD := gxD_len (expF k) n c b i
          have hC : gxC n c (i + 1) = if i % 16 = 0 ∧ 0 < i then nextB (gxC n c i) else gxC n c i := rfl
          have hD : gxD (expF k) n c b (i + 1) = if i % 16 = 0 then pcK (gxD (expF k) n c b i) (encB (expF k) (gxC n c (i + 1))) i (min (i + 16) b.length - i) else gxD (expF k) n c b i := rfl
          have hF : gxorB k n c b = gxD (expF k) n c b b.length := rfl
          generalize hw : expF k = w at b9 b19 hD lD lX hF
          generalize hc' : gxC n c i = y at b11 lC hC
          have hd' : ∃ d, gxD w n c b i = d := ⟨_, rfl⟩
          obtain ⟨d, hd⟩ := hd'
          rw [hd] at b19 lD hD
          simp (maxSteps := 1000000) (disch := first | omega | (simp only [updB, updI, dsB, reduceCtorEq, Nat.reduceEqDiff, Abs.Id.mk.injEq, and_false, false_and, and_true, true_and, if_false, ↓reduceIte, Option.isSome_some, *]; done) | (simp only [gxorB_len, encB_len, nextB_len, pcK_len, lnB] <;> omega) | fail) only [ev0, ev1, ev2, ev3, ↓reduceIte, reduceCtorEq, Nat.reduceAdd, Nat.reduceSub, Nat.reduceMul, Nat.reduceLT, Nat.reduceLeDiff, Nat.reduceEqDiff, Nat.reduceBEq, BitVec.reduceOfInt, Int.reduceLE, Int.reduceLT, Int.reduceGT, Int.reduceGE, Int.reduceNeg, Int.reduceAdd, Int.reduceSub, Int.reduceMul, Int.reduceToNat, ↓bind_go, ↓map_go, wantedV, isWrite, grow, write, ofV, AV.cells, Abs.start, Abs.strip, endQ, resV, rawsRes, rawRes, exports, export1, AS.grown, AS.put, Env.know, Env.boxed, isSelf, convSelf, convV, loadV, storeV, fieldAddrV, fieldV, indexAddrV, indexV, partV, isAggK, isStr, place, lenV, min2V, makeV, freshSl, sliceV, boundOr, bound, bounds, cutFl, copyV, slCells, srcV, appendV, room, zerosOf, eqNeg, kd, takeR, hasViewL, hasView, freshR, freshC, snapAll, snap, snapL, flatL, pureL, pureA, fillC, arrOK, oneA, partB, AV.laid, ren1, CR.gr, applyW, useL, AS.mute, isGen, startG, ev5, tbUq1, agg?_at, vw?_is, glob, Nat.reduceMod, Bx.own.injEq, and_false, false_and, and_true, true_and, s25, s24, s10, s9, s11, b9, b11, b19, lC, lD, lX]
          refine condQ_dec (fun hlt => ?_) (fun hge => ?_)
          · have hlt : i < b.length := by omega
            by_cases m0 : i % 16 = 0
            · have e1 : ((i : Int) % 16 == 0) = true := beq_iff_eq.2 (by omega)
              by_cases p0 : 0 < i
              · have e2 : decide ((i : Int) > 0) = true := decide_eq_true (by omega)
                have lN : (nextB y).length = 16 := (nextB_len y).trans lC
                rw [if_pos ⟨m0, p0⟩] at hC
                rw [if_pos m0, hC] at hD
                have e3 : (b.length = i) = False := eq_false (by omega)
                obtain ⟨p, hp⟩ : ∃ p, min (i + 16) b.length - i = p := ⟨_, rfl⟩
                have e4 : (if (b.length : Int) < (i : Int) + 16 then (b.length : Int) else (i : Int) + 16).toNat - i = p := by split <;> omega
                have hp1 : i + p ≤ b.length := by omega
                have hp2 : p ≤ 16 := by omega
                rw [hp] at hD
                simp (maxSteps := 1000000) (disch := first | omega | (simp only [updB, updI, dsB, reduceCtorEq, Nat.reduceEqDiff, Abs.Id.mk.injEq, and_false, false_and, and_true, true_and, if_false, ↓reduceIte, Option.isSome_some, *]; done) | (simp only [gxorB_len, encB_len, nextB_len, pcK_len, lnB] <;> omega) | fail) only [ev0, ev1, ev2, ev3, ↓reduceIte, reduceCtorEq, Nat.reduceAdd, Nat.reduceSub, Nat.reduceMul, Nat.reduceLT, Nat.reduceLeDiff, Nat.reduceEqDiff, Nat.reduceBEq, BitVec.reduceOfInt, Int.reduceLE, Int.reduceLT, Int.reduceGT, Int.reduceGE, Int.reduceNeg, Int.reduceAdd, Int.reduceSub, Int.reduceMul, Int.reduceToNat, ↓bind_go, ↓map_go, wantedV, isWrite, grow, write, ofV, AV.cells, Abs.start, Abs.strip, endQ, resV, rawsRes, rawRes, exports, export1, AS.grown, AS.put, Env.know, Env.boxed, isSelf, convSelf, convV, loadV, storeV, fieldAddrV, fieldV, indexAddrV, indexV, partV, isAggK, isStr, place, lenV, min2V, makeV, freshSl, sliceV, boundOr, bound, bounds, cutFl, copyV, slCells, srcV, appendV, room, zerosOf, eqNeg, kd, takeR, hasViewL, hasView, freshR, freshC, snapAll, snap, snapL, flatL, pureL, pureA, fillC, arrOK, oneA, partB, AV.laid, ren1, CR.gr, applyW, useL, AS.mute, isGen, startG, ev5, tbUq1, agg?_at, vw?_is, glob, Nat.reduceMod, Bx.own.injEq, and_false, false_and, and_true, true_and, s25, s24, s10, s9, s11, b9, b11, b19, lC, lD, lX, e1, e2, e3, e4, lN, encB_len]
                refine loopQ_of (fun n' σ => ∃ j, j ≤ p ∧ n' = p - j ∧ σ.slots 52 = .raw (.int .i64 (j : Int)) ∧ σ.slots 51 = .raw (.int .i64 (p : Int)) ∧ σ.slots 14 = .view (.own L 19 1) i p (b.length - i) 1 ∧ (∃ g, σ.slots 13 = .ptr (.own L 13 g) 0 ∧ σ.box (.own L 13 g) = some (nums .u8 (encB w (nextB y)))) ∧ σ.slots 25 = .raw (.int .i64 (i : Int)) ∧ σ.slots 24 = .raw (.int .i64 (b.length : Int)) ∧ σ.slots 10 = .view (.own L 19 1) 0 b.length b.length 1 ∧ σ.slots 9 = .ptr (.own L 9 1) 0 ∧ σ.slots 11 = .ptr (.own L 11 1) 0 ∧ σ.box (.own L 9 1) = some (nums .u8 w) ∧ σ.box (.own L 11 1) = some (nums .u8 (nextB y)) ∧ σ.box (.own L 19 1) = some (nums .u8 (pcK d (encB w (nextB y)) i j)) ∧ (∀ b, b.lvl < L → σ.box b = bx b) ∧ (∀ i, i.lvl < L → σ.used i = us i)) p ?_ ?_
                · refine ⟨0, by omega, by omega, ?_⟩
                  simp (maxSteps := 1000000) (disch := first | omega | (simp only [updB, updI, dsB, reduceCtorEq, Nat.reduceEqDiff, Abs.Id.mk.injEq, and_false, false_and, and_true, true_and, if_false, ↓reduceIte, Option.isSome_some, *]; done) | (simp only [gxorB_len, encB_len, nextB_len, pcK_len, lnB] <;> omega) | fail) only [ev0, ev1, ev2, ev3, ↓reduceIte, reduceCtorEq, Nat.reduceAdd, Nat.reduceSub, Nat.reduceMul, Nat.reduceLT, Nat.reduceLeDiff, Nat.reduceEqDiff, Nat.reduceBEq, BitVec.reduceOfInt, Int.reduceLE, Int.reduceLT, Int.reduceGT, Int.reduceGE, Int.reduceNeg, Int.reduceAdd, Int.reduceSub, Int.reduceMul, Int.reduceToNat, ↓bind_go, ↓map_go, wantedV, isWrite, grow, write, ofV, AV.cells, Abs.start, Abs.strip, endQ, resV, rawsRes, rawRes, exports, export1, AS.grown, AS.put, Env.know, Env.boxed, isSelf, convSelf, convV, loadV, storeV, fieldAddrV, fieldV, indexAddrV, indexV, partV, isAggK, isStr, place, lenV, min2V, makeV, freshSl, sliceV, boundOr, bound, bounds, cutFl, copyV, slCells, srcV, appendV, room, zerosOf, eqNeg, kd, takeR, hasViewL, hasView, freshR, freshC, snapAll, snap, snapL, flatL, pureL, pureA, fillC, arrOK, oneA, partB, AV.laid, ren1, CR.gr, applyW, useL, AS.mute, isGen, startG, ev5, tbUq1, agg?_at, vw?_is, glob, Nat.reduceMod, Bx.own.injEq, and_false, false_and, and_true, true_and, s25, s24, s10, s9, s11, b9, b11, b19, lC, lD, lX, e1, e2, e3, e4, lN, encB_len]
                  exact ⟨rfl, ⟨_, rfl, if_pos rfl⟩, rfl, fun b hb' => by simp only [own_ne hb', if_false, hbx b hb'], hux⟩
                · rintro n' ⟨sl', gn', bx2, us2⟩ ⟨j, hj, rfl, s52, s51, s14, ⟨g, s13, b13⟩, s25', s24', s10', s9', s11', b9', b11', b19', hbx', hux'⟩
                  dsimp only at s52 s51 s14 s13 b13 s25' s24' s10' s9' s11' b9' b11' b19' hbx' hux'
                  have lP := pcK_len d (encB w (nextB y)) i j
                  have hP : pcK d (encB w (nextB y)) i (j + 1) = (pcK d (encB w (nextB y)) i j).set (i + j) ((pcK d (encB w (nextB y)) i j).getD (i + j) 0#8 ^^^ (encB w (nextB y)).getD j 0#8) := rfl
                  simp (maxSteps := 1000000) (disch := first | omega | (simp only [updB, updI, dsB, reduceCtorEq, Nat.reduceEqDiff, Abs.Id.mk.injEq, and_false, false_and, and_true, true_and, if_false, ↓reduceIte, Option.isSome_some, *]; done) | (simp only [gxorB_len, encB_len, nextB_len, pcK_len, lnB] <;> omega) | fail) only [ev0, ev1, ev2, ev3, ↓reduceIte, reduceCtorEq, Nat.reduceAdd, Nat.reduceSub, Nat.reduceMul, Nat.reduceLT, Nat.reduceLeDiff, Nat.reduceEqDiff, Nat.reduceBEq, BitVec.reduceOfInt, Int.reduceLE, Int.reduceLT, Int.reduceGT, Int.reduceGE, Int.reduceNeg, Int.reduceAdd, Int.reduceSub, Int.reduceMul, Int.reduceToNat, ↓bind_go, ↓map_go, wantedV, isWrite, grow, write, ofV, AV.cells, Abs.start, Abs.strip, endQ, resV, rawsRes, rawRes, exports, export1, AS.grown, AS.put, Env.know, Env.boxed, isSelf, convSelf, convV, loadV, storeV, fieldAddrV, fieldV, indexAddrV, indexV, partV, isAggK, isStr, place, lenV, min2V, makeV, freshSl, sliceV, boundOr, bound, bounds, cutFl, copyV, slCells, srcV, appendV, room, zerosOf, eqNeg, kd, takeR, hasViewL, hasView, freshR, freshC, snapAll, snap, snapL, flatL, pureL, pureA, fillC, arrOK, oneA, partB, AV.laid, ren1, CR.gr, applyW, useL, AS.mute, isGen, startG, ev5, tbUq1, agg?_at, vw?_is, glob, Nat.reduceMod, Bx.own.injEq, and_false, false_and, and_true, true_and, s52, s51, s14, s13, b13, s25', s24', s10', s9', s11', b9', b11', b19', lP, lD, encB_len]
                  refine condQ_dec (fun hlt' => ?_) (fun hge' => ?_)
                  · have hlt' : j < p := by omega
                    simp (maxSteps := 1000000) (disch := first | omega | (simp only [updB, updI, dsB, reduceCtorEq, Nat.reduceEqDiff, Abs.Id.mk.injEq, and_false, false_and, and_true, true_and, if_false, ↓reduceIte, Option.isSome_some, *]; done) | (simp only [gxorB_len, encB_len, nextB_len, pcK_len, lnB] <;> omega) | fail) only [ev0, ev1, ev2, ev3, ↓reduceIte, reduceCtorEq, Nat.reduceAdd, Nat.reduceSub, Nat.reduceMul, Nat.reduceLT, Nat.reduceLeDiff, Nat.reduceEqDiff, Nat.reduceBEq, BitVec.reduceOfInt, Int.reduceLE, Int.reduceLT, Int.reduceGT, Int.reduceGE, Int.reduceNeg, Int.reduceAdd, Int.reduceSub, Int.reduceMul, Int.reduceToNat, ↓bind_go, ↓map_go, wantedV, isWrite, grow, write, ofV, AV.cells, Abs.start, Abs.strip, endQ, resV, rawsRes, rawRes, exports, export1, AS.grown, AS.put, Env.know, Env.boxed, isSelf, convSelf, convV, loadV, storeV, fieldAddrV, fieldV, indexAddrV, indexV, partV, isAggK, isStr, place, lenV, min2V, makeV, freshSl, sliceV, boundOr, bound, bounds, cutFl, copyV, slCells, srcV, appendV, room, zerosOf, eqNeg, kd, takeR, hasViewL, hasView, freshR, freshC, snapAll, snap, snapL, flatL, pureL, pureA, fillC, arrOK, oneA, partB, AV.laid, ren1, CR.gr, applyW, useL, AS.mute, isGen, startG, ev5, tbUq1, agg?_at, vw?_is, glob, Nat.reduceMod, Bx.own.injEq, and_false, false_and, and_true, true_and, s52, s51, s14, s13, b13, s25', s24', s10', s9', s11', b9', b11', b19', lP, lD, encB_len]
                    refine ⟨p - (j + 1), by omega, j + 1, by omega, rfl, rfl, ⟨g, rfl, b13⟩, rfl, fun b hb' => by simp only [own_ne hb', if_false, hbx' b hb'], hux'⟩
                  · have hj : j = p := by omega
                    subst hj
                    simp (maxSteps := 1000000) (disch := first | omega | (simp only [updB, updI, dsB, reduceCtorEq, Nat.reduceEqDiff, Abs.Id.mk.injEq, and_false, false_and, and_true, true_and, if_false, ↓reduceIte, Option.isSome_some, *]; done) | (simp only [gxorB_len, encB_len, nextB_len, pcK_len, lnB] <;> omega) | fail) only [ev0, ev1, ev2, ev3, ↓reduceIte, reduceCtorEq, Nat.reduceAdd, Nat.reduceSub, Nat.reduceMul, Nat.reduceLT, Nat.reduceLeDiff, Nat.reduceEqDiff, Nat.reduceBEq, BitVec.reduceOfInt, Int.reduceLE, Int.reduceLT, Int.reduceGT, Int.reduceGE, Int.reduceNeg, Int.reduceAdd, Int.reduceSub, Int.reduceMul, Int.reduceToNat, ↓bind_go, ↓map_go, wantedV, isWrite, grow, write, ofV, AV.cells, Abs.start, Abs.strip, endQ, resV, rawsRes, rawRes, exports, export1, AS.grown, AS.put, Env.know, Env.boxed, isSelf, convSelf, convV, loadV, storeV, fieldAddrV, fieldV, indexAddrV, indexV, partV, isAggK, isStr, place, lenV, min2V, makeV, freshSl, sliceV, boundOr, bound, bounds, cutFl, copyV, slCells, srcV, appendV, room, zerosOf, eqNeg, kd, takeR, hasViewL, hasView, freshR, freshC, snapAll, snap, snapL, flatL, pureL, pureA, fillC, arrOK, oneA, partB, AV.laid, ren1, CR.gr, applyW, useL, AS.mute, isGen, startG, ev5, tbUq1, agg?_at, vw?_is, glob, Nat.reduceMod, Bx.own.injEq, and_false, false_and, and_true, true_and, s52, s51, s14, s13, b13, s25', s24', s10', s9', s11', b9', b11', b19', lP, lD, encB_len]
                    refine ⟨b.length - (i + 1), by omega, i + 1, by omega, rfl, ?_⟩
                    rw [hC, hD]
                    exact ⟨rfl, rfl, rfl, hbx', hux'⟩
              · have e2 : decide ((i : Int) > 0) = false := decide_eq_false (by omega)
                have lN := lC
                rw [if_neg (fun h => p0 h.2)] at hC
                rw [if_pos m0, hC] at hD
                have e3 : (b.length = i) = False := eq_false (by omega)
                obtain ⟨p, hp⟩ : ∃ p, min (i + 16) b.length - i = p := ⟨_, rfl⟩
                have e4 : (if (b.length : Int) < (i : Int) + 16 then (b.length : Int) else (i : Int) + 16).toNat - i = p := by split <;> omega
                have hp1 : i + p ≤ b.length := by omega
                have hp2 : p ≤ 16 := by omega
                rw [hp] at hD
                simp (maxSteps := 1000000) (disch := first | omega | (simp only [updB, updI, dsB, reduceCtorEq, Nat.reduceEqDiff, Abs.Id.mk.injEq, and_false, false_and, and_true, true_and, if_false, ↓reduceIte, Option.isSome_some, *]; done) | (simp only [gxorB_len, encB_len, nextB_len, pcK_len, lnB] <;> omega) | fail) only [ev0, ev1, ev2, ev3, ↓reduceIte, reduceCtorEq, Nat.reduceAdd, Nat.reduceSub, Nat.reduceMul, Nat.reduceLT, Nat.reduceLeDiff, Nat.reduceEqDiff, Nat.reduceBEq, BitVec.reduceOfInt, Int.reduceLE, Int.reduceLT, Int.reduceGT, Int.reduceGE, Int.reduceNeg, Int.reduceAdd, Int.reduceSub, Int.reduceMul, Int.reduceToNat, ↓bind_go, ↓map_go, wantedV, isWrite, grow, write, ofV, AV.cells, Abs.start, Abs.strip, endQ, resV, rawsRes, rawRes, exports, export1, AS.grown, AS.put, Env.know, Env.boxed, isSelf, convSelf, convV, loadV, storeV, fieldAddrV, fieldV, indexAddrV, indexV, partV, isAggK, isStr, place, lenV, min2V, makeV, freshSl, sliceV, boundOr, bound, bounds, cutFl, copyV, slCells, srcV, appendV, room, zerosOf, eqNeg, kd, takeR, hasViewL, hasView, freshR, freshC, snapAll, snap, snapL, flatL, pureL, pureA, fillC, arrOK, oneA, partB, AV.laid, ren1, CR.gr, applyW, useL, AS.mute, isGen, startG, ev5, tbUq1, agg?_at, vw?_is, glob, Nat.reduceMod, Bx.own.injEq, and_false, false_and, and_true, true_and, s25, s24, s10, s9, s11, b9, b11, b19, lC, lD, lX, e1, e2, e3, e4, lN, encB_len]
                refine loopQ_of (fun n' σ => ∃ j, j ≤ p ∧ n' = p - j ∧ σ.slots 52 = .raw (.int .i64 (j : Int)) ∧ σ.slots 51 = .raw (.int .i64 (p : Int)) ∧ σ.slots 14 = .view (.own L 19 1) i p (b.length - i) 1 ∧ (∃ g, σ.slots 13 = .ptr (.own L 13 g) 0 ∧ σ.box (.own L 13 g) = some (nums .u8 (encB w y))) ∧ σ.slots 25 = .raw (.int .i64 (i : Int)) ∧ σ.slots 24 = .raw (.int .i64 (b.length : Int)) ∧ σ.slots 10 = .view (.own L 19 1) 0 b.length b.length 1 ∧ σ.slots 9 = .ptr (.own L 9 1) 0 ∧ σ.slots 11 = .ptr (.own L 11 1) 0 ∧ σ.box (.own L 9 1) = some (nums .u8 w) ∧ σ.box (.own L 11 1) = some (nums .u8 y) ∧ σ.box (.own L 19 1) = some (nums .u8 (pcK d (encB w y) i j)) ∧ (∀ b, b.lvl < L → σ.box b = bx b) ∧ (∀ i, i.lvl < L → σ.used i = us i)) p ?_ ?_
                · refine ⟨0, by omega, by omega, ?_⟩
                  simp (maxSteps := 1000000) (disch := first | omega | (simp only [updB, updI, dsB, reduceCtorEq, Nat.reduceEqDiff, Abs.Id.mk.injEq, and_false, false_and, and_true, true_and, if_false, ↓reduceIte, Option.isSome_some, *]; done) | (simp only [gxorB_len, encB_len, nextB_len, pcK_len, lnB] <;> omega) | fail) only [ev0, ev1, ev2, ev3, ↓reduceIte, reduceCtorEq, Nat.reduceAdd, Nat.reduceSub, Nat.reduceMul, Nat.reduceLT, Nat.reduceLeDiff, Nat.reduceEqDiff, Nat.reduceBEq, BitVec.reduceOfInt, Int.reduceLE, Int.reduceLT, Int.reduceGT, Int.reduceGE, Int.reduceNeg, Int.reduceAdd, Int.reduceSub, Int.reduceMul, Int.reduceToNat, ↓bind_go, ↓map_go, wantedV, isWrite, grow, write, ofV, AV.cells, Abs.start, Abs.strip, endQ, resV, rawsRes, rawRes, exports, export1, AS.grown, AS.put, Env.know, Env.boxed, isSelf, convSelf, convV, loadV, storeV, fieldAddrV, fieldV, indexAddrV, indexV, partV, isAggK, isStr, place, lenV, min2V, makeV, freshSl, sliceV, boundOr, bound, bounds, cutFl, copyV, slCells, srcV, appendV, room, zerosOf, eqNeg, kd, takeR, hasViewL, hasView, freshR, freshC, snapAll, snap, snapL, flatL, pureL, pureA, fillC, arrOK, oneA, partB, AV.laid, ren1, CR.gr, applyW, useL, AS.mute, isGen, startG, ev5, tbUq1, agg?_at, vw?_is, glob, Nat.reduceMod, Bx.own.injEq, and_false, false_and, and_true, true_and, s25, s24, s10, s9, s11, b9, b11, b19, lC, lD, lX, e1, e2, e3, e4, lN, encB_len]
                  exact ⟨rfl, ⟨_, rfl, if_pos rfl⟩, rfl, fun b hb' => by simp only [own_ne hb', if_false, hbx b hb'], hux⟩
                · rintro n' ⟨sl', gn', bx2, us2⟩ ⟨j, hj, rfl, s52, s51, s14, ⟨g, s13, b13⟩, s25', s24', s10', s9', s11', b9', b11', b19', hbx', hux'⟩
                  dsimp only at s52 s51 s14 s13 b13 s25' s24' s10' s9' s11' b9' b11' b19' hbx' hux'
                  have lP := pcK_len d (encB w y) i j
                  have hP : pcK d (encB w y) i (j + 1) = (pcK d (encB w y) i j).set (i + j) ((pcK d (encB w y) i j).getD (i + j) 0#8 ^^^ (encB w y).getD j 0#8) := rfl
                  simp (maxSteps := 1000000) (disch := first | omega | (simp only [updB, updI, dsB, reduceCtorEq, Nat.reduceEqDiff, Abs.Id.mk.injEq, and_false, false_and, and_true, true_and, if_false, ↓reduceIte, Option.isSome_some, *]; done) | (simp only [gxorB_len, encB_len, nextB_len, pcK_len, lnB] <;> omega) | fail) only [ev0, ev1, ev2, ev3, ↓reduceIte, reduceCtorEq, Nat.reduceAdd, Nat.reduceSub, Nat.reduceMul, Nat.reduceLT, Nat.reduceLeDiff, Nat.reduceEqDiff, Nat.reduceBEq, BitVec.reduceOfInt, Int.reduceLE, Int.reduceLT, Int.reduceGT, Int.reduceGE, Int.reduceNeg, Int.reduceAdd, Int.reduceSub, Int.reduceMul, Int.reduceToNat, ↓bind_go, ↓map_go, wantedV, isWrite, grow, write, ofV, AV.cells, Abs.start, Abs.strip, endQ, resV, rawsRes, rawRes, exports, export1, AS.grown, AS.put, Env.know, Env.boxed, isSelf, convSelf, convV, loadV, storeV, fieldAddrV, fieldV, indexAddrV, indexV, partV, isAggK, isStr, place, lenV, min2V, makeV, freshSl, sliceV, boundOr, bound, bounds, cutFl, copyV, slCells, srcV, appendV, room, zerosOf, eqNeg, kd, takeR, hasViewL, hasView, freshR, freshC, snapAll, snap, snapL, flatL, pureL, pureA, fillC, arrOK, oneA, partB, AV.laid, ren1, CR.gr, applyW, useL, AS.mute, isGen, startG, ev5, tbUq1, agg?_at, vw?_is, glob, Nat.reduceMod, Bx.own.injEq, and_false, false_and, and_true, true_and, s52, s51, s14, s13, b13, s25', s24', s10', s9', s11', b9', b11', b19', lP, lD, encB_len]
                  refine condQ_dec (fun hlt' => ?_) (fun hge' => ?_)
                  · have hlt' : j < p := by omega
                    simp (maxSteps := 1000000) (disch := first | omega | (simp only [updB, updI, dsB, reduceCtorEq, Nat.reduceEqDiff, Abs.Id.mk.injEq, and_false, false_and, and_true, true_and, if_false, ↓reduceIte, Option.isSome_some, *]; done) | (simp only [gxorB_len, encB_len, nextB_len, pcK_len, lnB] <;> omega) | fail) only [ev0, ev1, ev2, ev3, ↓reduceIte, reduceCtorEq, Nat.reduceAdd, Nat.reduceSub, Nat.reduceMul, Nat.reduceLT, Nat.reduceLeDiff, Nat.reduceEqDiff, Nat.reduceBEq, BitVec.reduceOfInt, Int.reduceLE, Int.reduceLT, Int.reduceGT, Int.reduceGE, Int.reduceNeg, Int.reduceAdd, Int.reduceSub, Int.reduceMul, Int.reduceToNat, ↓bind_go, ↓map_go, wantedV, isWrite, grow, write, ofV, AV.cells, Abs.start, Abs.strip, endQ, resV, rawsRes, rawRes, exports, export1, AS.grown, AS.put, Env.know, Env.boxed, isSelf, convSelf, convV, loadV, storeV, fieldAddrV, fieldV, indexAddrV, indexV, partV, isAggK, isStr, place, lenV, min2V, makeV, freshSl, sliceV, boundOr, bound, bounds, cutFl, copyV, slCells, srcV, appendV, room, zerosOf, eqNeg, kd, takeR, hasViewL, hasView, freshR, freshC, snapAll, snap, snapL, flatL, pureL, pureA, fillC, arrOK, oneA, partB, AV.laid, ren1, CR.gr, applyW, useL, AS.mute, isGen, startG, ev5, tbUq1, agg?_at, vw?_is, glob, Nat.reduceMod, Bx.own.injEq, and_false, false_and, and_true, true_and, s52, s51, s14, s13, b13, s25', s24', s10', s9', s11', b9', b11', b19', lP, lD, encB_len]
                    refine ⟨p - (j + 1), by omega, j + 1, by omega, rfl, rfl, ⟨g, rfl, b13⟩, rfl, fun b hb' => by simp only [own_ne hb', if_false, hbx' b hb'], hux'⟩
                  · have hj : j = p := by omega
                    subst hj
                    simp (maxSteps := 1000000) (disch := first | omega | (simp only [updB, updI, dsB, reduceCtorEq, Nat.reduceEqDiff, Abs.Id.mk.injEq, and_false, false_and, and_true, true_and, if_false, ↓reduceIte, Option.isSome_some, *]; done) | (simp only [gxorB_len, encB_len, nextB_len, pcK_len, lnB] <;> omega) | fail) only [ev0, ev1, ev2, ev3, ↓reduceIte, reduceCtorEq, Nat.reduceAdd, Nat.reduceSub, Nat.reduceMul, Nat.reduceLT, Nat.reduceLeDiff, Nat.reduceEqDiff, Nat.reduceBEq, BitVec.reduceOfInt, Int.reduceLE, Int.reduceLT, Int.reduceGT, Int.reduceGE, Int.reduceNeg, Int.reduceAdd, Int.reduceSub, Int.reduceMul, Int.reduceToNat, ↓bind_go, ↓map_go, wantedV, isWrite, grow, write, ofV, AV.cells, Abs.start, Abs.strip, endQ, resV, rawsRes, rawRes, exports, export1, AS.grown, AS.put, Env.know, Env.boxed, isSelf, convSelf, convV, loadV, storeV, fieldAddrV, fieldV, indexAddrV, indexV, partV, isAggK, isStr, place, lenV, min2V, makeV, freshSl, sliceV, boundOr, bound, bounds, cutFl, copyV, slCells, srcV, appendV, room, zerosOf, eqNeg, kd, takeR, hasViewL, hasView, freshR, freshC, snapAll, snap, snapL, flatL, pureL, pureA, fillC, arrOK, oneA, partB, AV.laid, ren1, CR.gr, applyW, useL, AS.mute, isGen, startG, ev5, tbUq1, agg?_at, vw?_is, glob, Nat.reduceMod, Bx.own.injEq, and_false, false_and, and_true, true_and, s52, s51, s14, s13, b13, s25', s24', s10', s9', s11', b9', b11', b19', lP, lD, encB_len]
                    refine ⟨b.length - (i + 1), by omega, i + 1, by omega, rfl, ?_⟩
                    rw [hC, hD]
                    exact ⟨rfl, rfl, rfl, hbx', hux'⟩
            · have e1 : ((i : Int) % 16 == 0) = false := beq_eq_false_iff_ne.2 (by omega)
              rw [if_neg (fun h => m0 h.1)] at hC
              rw [if_neg m0] at hD
              simp (maxSteps := 1000000) (disch := first | omega | (simp only [updB, updI, dsB, reduceCtorEq, Nat.reduceEqDiff, Abs.Id.mk.injEq, and_false, false_and, and_true, true_and, if_false, ↓reduceIte, Option.isSome_some, *]; done) | (simp only [gxorB_len, encB_len, nextB_len, pcK_len, lnB] <;> omega) | fail) only [ev0, ev1, ev2, ev3, ↓reduceIte, reduceCtorEq, Nat.reduceAdd, Nat.reduceSub, Nat.reduceMul, Nat.reduceLT, Nat.reduceLeDiff, Nat.reduceEqDiff, Nat.reduceBEq, BitVec.reduceOfInt, Int.reduceLE, Int.reduceLT, Int.reduceGT, Int.reduceGE, Int.reduceNeg, Int.reduceAdd, Int.reduceSub, Int.reduceMul, Int.reduceToNat, ↓bind_go, ↓map_go, wantedV, isWrite, grow, write, ofV, AV.cells, Abs.start, Abs.strip, endQ, resV, rawsRes, rawRes, exports, export1, AS.grown, AS.put, Env.know, Env.boxed, isSelf, convSelf, convV, loadV, storeV, fieldAddrV, fieldV, indexAddrV, indexV, partV, isAggK, isStr, place, lenV, min2V, makeV, freshSl, sliceV, boundOr, bound, bounds, cutFl, copyV, slCells, srcV, appendV, room, zerosOf, eqNeg, kd, takeR, hasViewL, hasView, freshR, freshC, snapAll, snap, snapL, flatL, pureL, pureA, fillC, arrOK, oneA, partB, AV.laid, ren1, CR.gr, applyW, useL, AS.mute, isGen, startG, ev5, tbUq1, agg?_at, vw?_is, glob, Nat.reduceMod, Bx.own.injEq, and_false, false_and, and_true, true_and, s25, s24, s10, s9, s11, b9, b11, b19, lC, lD, lX, e1]
              refine ⟨b.length - (i + 1), by omega, i + 1, by omega, rfl, ?_⟩
              rw [hC, hD]
              exact ⟨rfl, rfl, rfl, hbx, hux⟩
          · have hi : i = b.length := by omega
            subst hi
            simp (maxSteps := 1000000) (disch := first | omega | (simp only [updB, updI, dsB, reduceCtorEq, Nat.reduceEqDiff, Abs.Id.mk.injEq, and_false, false_and, and_true, true_and, if_false, ↓reduceIte, Option.isSome_some, *]; done) | (simp only [gxorB_len, encB_len, nextB_len, pcK_len, lnB] <;> omega) | fail) only [ev0, ev1, ev2, ev3, ↓reduceIte, reduceCtorEq, Nat.reduceAdd, Nat.reduceSub, Nat.reduceMul, Nat.reduceLT, Nat.reduceLeDiff, Nat.reduceEqDiff, Nat.reduceBEq, BitVec.reduceOfInt, Int.reduceLE, Int.reduceLT, Int.reduceGT, Int.reduceGE, Int.reduceNeg, Int.reduceAdd, Int.reduceSub, Int.reduceMul, Int.reduceToNat, ↓bind_go, ↓map_go, wantedV, isWrite, grow, write, ofV, AV.cells, Abs.start, Abs.strip, endQ, resV, rawsRes, rawRes, exports, export1, AS.grown, AS.put, Env.know, Env.boxed, isSelf, convSelf, convV, loadV, storeV, fieldAddrV, fieldV, indexAddrV, indexV, partV, isAggK, isStr, place, lenV, min2V, makeV, freshSl, sliceV, boundOr, bound, bounds, cutFl, copyV, slCells, srcV, appendV, room, zerosOf, eqNeg, kd, takeR, hasViewL, hasView, freshR, freshC, snapAll, snap, snapL, flatL, pureL, pureA, fillC, arrOK, oneA, partB, AV.laid, ren1, CR.gr, applyW, useL, AS.mute, isGen, startG, ev5, tbUq1, agg?_at, vw?_is, glob, Nat.reduceMod, Bx.own.injEq, and_false, false_and, and_true, true_and, s25, s24, s10, s9, s11, b9, b11, b19, lC, lD, lX]
            change EndG _ _ _ _ _ _ _
            rw [hF, hd, lD]
            exact EndG.new (b := .own L 19 1) [_] [_] rfl (.one (.newv _ _ _ _ _ rfl)) rfl rfl hbx b19 (ExpL.same ⟨lowL_pure _ (nums_pure _), nums_cells _⟩) hux
    · cases hr
  · cases hr
end Go.Proofs.Ytjnmdphoaafjaaa
