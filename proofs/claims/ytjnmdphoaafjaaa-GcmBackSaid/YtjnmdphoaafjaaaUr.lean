/- Open of bytes that stand in a box. -/
import Derived.Test.YtjnmdphoaafjaaaUq
namespace Go.Proofs.Ytjnmdphoaafjaaa
set_option linter.unusedSimpArgs false
set_option linter.unusedVariables false
set_option linter.defProp false
open Go Go.Abs
set_option maxHeartbeats 16000000

noncomputable def gv53 (args : List AV) (bx : Boxes) (us : Abs.Id → Bool) : Option CR := match args with
  | [v, u, x, w] => (agg? .u8 8 32 v).bind fun k => (agg? .u8 8 12 u).bind fun n => (row? .u8 8 x).bind fun a => (vw? bx w).bind fun t => if a.length ≤ 400000 ∧ t.length ≤ 400000 ∧ 16 ≤ t.length then
      if openE k n a t = 0 then
        if t.length = 16 then some { v := .ret (.tup [.sl 0 [] .bor, .raw (.int .i64 0)]) } else some { v := .ret (.tup [.view (.own 0 0 0) 0 (openT k n a t).length (openT k n a t).length 1, .raw (.int .i64 0)]), cont := some (nums .u8 (openT k n a t)) }
      else some { v := .ret (.tup [.sl 0 [] .bor, .raw (.int .i64 40)]) }
    else none
  | _ => none
noncomputable def EO : Env := (E0.know 50 (fun xs => pf50 (xs.map norm))).knowG 48 gv48
theorem okO : EnvOK Try.prog EO := (ok0.know sound50.norm).knowG soundW48
theorem EO_te : EO.te = te := rfl
theorem EO_glob : EO.glob = glob := rfl
theorem EO_gs : EO.gs = [48] := rfl
theorem EO_dyn : EO.dyn = false := rfl
theorem EO_mu (d : Nat) : EO.mu d = false := rfl
theorem EO_t : EO.tbl 50 = some (.val (fun xs => pf50 (xs.map norm))) := rfl
theorem EO_x : EO.tbl 48 = some (.gen gv48) := rfl
theorem xorv_go {v u w : AV} {bx : Boxes} {us : Abs.Id → Bool} : gv48 [v, u, .raw (.int .u32 2), w] bx us = (agg? .u8 8 32 v).bind fun k => (agg? .u8 8 12 u).bind fun n => (vw? bx w).bind fun b => if b.length ≤ 1000000 then
      if b.length = 0 then some { v := .ret (.sl 0 [] .bor) } else some { v := .ret (.view (.own 0 0 0) 0 (gxorB k n 2#32 b).length (gxorB k n 2#32 b).length 1), cont := some (nums .u8 (gxorB k n 2#32 b)) } else none := rfl
theorem dfK_take {g b : List (BitVec 8)} {z m : Nat} : ∀ {i : Nat}, z + i ≤ m → dfK g (b.take m) z i = dfK g b z i
  | 0, _ => rfl
  | i + 1, h => by rw [dfK, dfK, dfK_take (by omega), getD_takeD (by omega)]
theorem openT_if {k n a t : List (BitVec 8)} (h : 16 ≤ t.length) : openT k n a t = if openE k n a t = 0 then gxorB k n 2#32 (t.take (t.length - 16)) else [] := by
  have h16 : ¬ t.length < 16 := by omega
  rw [openT, openE, if_neg h16, if_neg h16]
  split <;> rfl
def tbUr0 := (And.intro (And.intro (And.intro (And.intro @teE @EO_te) (And.intro @EO_glob @EO_gs)) (And.intro (And.intro @EO_dyn @EO_mu) (And.intro @EO_x (And.intro @EO_t @xorv_go)))) (And.intro (And.intro (And.intro @row_bor @gtag_at) (And.intro @nums_strip (And.intro @nums_set8 @nums_ren))) (And.intro (And.intro @splice0 @tagB_len) (And.intro @gxorB_len (And.intro @own_ne @own_ne')))))
theorem soundW53 : SoundG Try.prog glob 53 gv53 := by
  refine SoundG.walk EO okO mixed Try.func53 rfl Try.call53 (by kernel_rfl) ?_
  intro args bx us cr hr
  unfold gv53 at hr
  split at hr
  · rename_i v u x w
    simp only [Option.bind_eq_some_iff] at hr
    obtain ⟨k, h1, n, h2, a, h3, t, h4, hr⟩ := hr
    split at hr
    · rename_i hc
      obtain ⟨ha, ht, h16⟩ := hc
      obtain ⟨rfl, hk⟩ := agg?_of h1
      obtain ⟨rfl, hn⟩ := agg?_of h2
      obtain ⟨fl, rfl⟩ := row?_of h3
      obtain ⟨r, cp, bb, rfl, hb, hbt, hle, hlc⟩ := vw?_of h4
      have hbs : (bx r).isSome := by rw [hb]; rfl
      rw [Try.ntmps53, Try.results53]
      refine ⟨by simp, fun L hlow hus hbf => ?_⟩
      have hbL := (hlow r hbs).1
      obtain ⟨z, hz⟩ : ∃ z, t.length = z + 16 := ⟨t.length - 16, by omega⟩
      have e1 : decide ((t.length : Int) - 16 < 0) = false := decide_eq_false (by omega)
      have hz2 : t.length - 16 = z := by omega
      have lT : (t.take z).length = z := by rw [List.length_take]; omega
      have hbz : bb.take z = t.take z := by rw [← hbt, List.take_take, Nat.min_eq_left (by omega)]
      have hE : openE k n a t = if dfK (tagB k n a (t.take z)) t z 16 = 0#8 then 0 else 40 := by
        rw [openE, if_neg (by omega), hz2]
      have hT := openT_if (k := k) (n := n) (a := a) h16
      rw [hz2] at hT
      obtain ⟨g, hg⟩ : ∃ g, tagB k n a (t.take z) = g := ⟨_, rfl⟩
      have lG : g.length = 16 := by rw [← hg]; exact tagB_len _ _ _ _
      rw [hg] at hE
      have e0 : (cp = 0) = False := eq_false (by omega)
      have hE : openE k n a t = if dfK g bb z 16 = 0#8 then 0 else 40 := by
        rw [hE]
        have := dfK_take (g := g) (b := bb) (z := z) (m := t.length) (i := 16) (by omega)
        rw [hbt] at this
        rw [this]
      simp (maxSteps := 1000000) (disch := first | omega | (simp only [updB, updI, dsB, reduceCtorEq, Nat.reduceEqDiff, Abs.Id.mk.injEq, and_false, false_and, and_true, true_and, if_false, ↓reduceIte, Option.isSome_some, *]; done) | (simp only [gxorB_len, tagB_len, sealB_len, lnB] <;> omega) | fail) only [ev0, ev1, ev2, ev3, ↓reduceIte, reduceCtorEq, Nat.reduceAdd, Nat.reduceSub, Nat.reduceMul, Nat.reduceLT, Nat.reduceLeDiff, Nat.reduceEqDiff, Nat.reduceBEq, BitVec.reduceOfInt, Int.reduceLE, Int.reduceLT, Int.reduceGT, Int.reduceGE, Int.reduceNeg, Int.reduceAdd, Int.reduceSub, Int.reduceMul, Int.reduceToNat, ↓bind_go, ↓map_go, wantedV, isWrite, grow, write, ofV, AV.cells, Abs.start, Abs.strip, endQ, resV, rawsRes, rawRes, exports, export1, AS.grown, AS.put, Env.know, Env.boxed, isSelf, convSelf, convV, loadV, storeV, fieldAddrV, fieldV, indexAddrV, indexV, partV, isAggK, isStr, place, lenV, min2V, makeV, freshSl, sliceV, boundOr, bound, bounds, cutFl, copyV, slCells, srcV, appendV, room, zerosOf, eqNeg, kd, takeR, hasViewL, hasView, freshR, freshC, snapAll, snap, snapL, flatL, pureL, pureA, fillC, arrOK, oneA, partB, AV.laid, ren1, CR.gr, applyW, useL, AS.mute, isGen, startG, ev5, tbUr0, agg?_at, vw?_is, glob, Nat.reduceMod, Bx.own.injEq, and_false, false_and, and_true, true_and, hk, hn, e1, lT, hz2, hg, lG, hb, hbz, e0]
      refine loopQ_of (fun n' σ => ∃ i, i ≤ 16 ∧ n' = 16 - i ∧ σ.slots 26 = .raw (.int .i64 (i : Int)) ∧ σ.slots 12 = .raw (.int .u8 ((dfK g bb z i).toNat : Int)) ∧ σ.slots 11 = .ptr (.own L 11 1) 0 ∧ σ.slots 10 = .raw (.int .i64 (z : Int)) ∧ σ.slots 3 = .view r 0 t.length cp 1 ∧ σ.slots 4 = .ptr (.own L 4 1) 0 ∧ σ.slots 5 = .ptr (.own L 5 1) 0 ∧ σ.box (.own L 11 1) = some (nums .u8 g) ∧ σ.box (.own L 4 1) = some (nums .u8 k) ∧ σ.box (.own L 5 1) = some (nums .u8 n) ∧ σ.box r = some (nums .u8 bb) ∧ (∀ b, b.lvl < L → σ.box b = bx b) ∧ (∀ i, i.lvl < L → σ.used i = us i)) 16 ?_ ?_
      · refine ⟨0, by omega, by omega, ?_⟩
        simp (maxSteps := 1000000) (disch := first | omega | (simp only [updB, updI, dsB, reduceCtorEq, Nat.reduceEqDiff, Abs.Id.mk.injEq, and_false, false_and, and_true, true_and, if_false, ↓reduceIte, Option.isSome_some, *]; done) | (simp only [gxorB_len, tagB_len, sealB_len, lnB] <;> omega) | fail) only [ev0, ev1, ev2, ev3, ↓reduceIte, reduceCtorEq, Nat.reduceAdd, Nat.reduceSub, Nat.reduceMul, Nat.reduceLT, Nat.reduceLeDiff, Nat.reduceEqDiff, Nat.reduceBEq, BitVec.reduceOfInt, Int.reduceLE, Int.reduceLT, Int.reduceGT, Int.reduceGE, Int.reduceNeg, Int.reduceAdd, Int.reduceSub, Int.reduceMul, Int.reduceToNat, ↓bind_go, ↓map_go, wantedV, isWrite, grow, write, ofV, AV.cells, Abs.start, Abs.strip, endQ, resV, rawsRes, rawRes, exports, export1, AS.grown, AS.put, Env.know, Env.boxed, isSelf, convSelf, convV, loadV, storeV, fieldAddrV, fieldV, indexAddrV, indexV, partV, isAggK, isStr, place, lenV, min2V, makeV, freshSl, sliceV, boundOr, bound, bounds, cutFl, copyV, slCells, srcV, appendV, room, zerosOf, eqNeg, kd, takeR, hasViewL, hasView, freshR, freshC, snapAll, snap, snapL, flatL, pureL, pureA, fillC, arrOK, oneA, partB, AV.laid, ren1, CR.gr, applyW, useL, AS.mute, isGen, startG, ev5, tbUr0, agg?_at, vw?_is, glob, Nat.reduceMod, Bx.own.injEq, and_false, false_and, and_true, true_and, hk, hn, e1, lT, hz2, hg, lG, hb]
        exact ⟨rfl, rfl, i64_eq (by omega), fun b hb' => by simp only [own_ne hb', if_false], fun _ _ => trivial⟩
      · rintro n' ⟨sl, gn, bx1, us1⟩ ⟨i, hi, rfl, s26, s12, s11, s10, s3, s4, s5, b11, b4, b5, br, hbx, hux⟩
        dsimp only at s26 s12 s11 s10 s3 s4 s5 b11 b4 b5 br hbx hux
        have hD : dfK g bb z (i + 1) = dfK g bb z i ||| (g.getD i 0#8 ^^^ bb.getD (z + i) 0#8) := rfl
        by_cases h16' : i = 16
        · subst h16'
          have s26 : sl 26 = .raw (.int .i64 16) := s26
          by_cases hd : dfK g bb z 16 = 0#8
          · rw [if_pos hd] at hE
            rw [if_pos hE] at hr hT
            rw [hd] at s12
            have e2 : (((0#8).toNat : Int) != 0) = false := rfl
            split at hr
            · rename_i hl
              cases hr
              have hz0 : z = 0 := by omega
              subst hz0
              simp (maxSteps := 1000000) (disch := first | omega | (simp only [updB, updI, dsB, reduceCtorEq, Nat.reduceEqDiff, Abs.Id.mk.injEq, and_false, false_and, and_true, true_and, if_false, ↓reduceIte, Option.isSome_some, *]; done) | (simp only [gxorB_len, tagB_len, sealB_len, lnB] <;> omega) | fail) only [ev0, ev1, ev2, ev3, ↓reduceIte, reduceCtorEq, Nat.reduceAdd, Nat.reduceSub, Nat.reduceMul, Nat.reduceLT, Nat.reduceLeDiff, Nat.reduceEqDiff, Nat.reduceBEq, BitVec.reduceOfInt, Int.reduceLE, Int.reduceLT, Int.reduceGT, Int.reduceGE, Int.reduceNeg, Int.reduceAdd, Int.reduceSub, Int.reduceMul, Int.reduceToNat, ↓bind_go, ↓map_go, wantedV, isWrite, grow, write, ofV, AV.cells, Abs.start, Abs.strip, endQ, resV, rawsRes, rawRes, exports, export1, AS.grown, AS.put, Env.know, Env.boxed, isSelf, convSelf, convV, loadV, storeV, fieldAddrV, fieldV, indexAddrV, indexV, partV, isAggK, isStr, place, lenV, min2V, makeV, freshSl, sliceV, boundOr, bound, bounds, cutFl, copyV, slCells, srcV, appendV, room, zerosOf, eqNeg, kd, takeR, hasViewL, hasView, freshR, freshC, snapAll, snap, snapL, flatL, pureL, pureA, fillC, arrOK, oneA, partB, AV.laid, ren1, CR.gr, applyW, useL, AS.mute, isGen, startG, ev5, tbUr0, agg?_at, vw?_is, glob, Nat.reduceMod, Bx.own.injEq, and_false, false_and, and_true, true_and, s26, s12, s11, s10, s3, s4, s5, b11, b4, b5, br, lG, hk, hn, lT, e2, e0]
              change EndG _ _ _ _ _ _ _
              exact EndG.r0 [.sl 0 [] .bor, .raw (.int .i64 0)] [_, _] rfl (.cons (.bor _ _ _ trivial) (.cons (.raw _) .nil)) rfl hbx hux
            · rename_i hl
              cases hr
              have ez : (z = 0) = False := eq_false (by omega)
              rw [hT]
              simp (maxSteps := 1000000) (disch := first | omega | (simp only [updB, updI, dsB, reduceCtorEq, Nat.reduceEqDiff, Abs.Id.mk.injEq, and_false, false_and, and_true, true_and, if_false, ↓reduceIte, Option.isSome_some, *]; done) | (simp only [gxorB_len, tagB_len, sealB_len, lnB] <;> omega) | fail) only [ev0, ev1, ev2, ev3, ↓reduceIte, reduceCtorEq, Nat.reduceAdd, Nat.reduceSub, Nat.reduceMul, Nat.reduceLT, Nat.reduceLeDiff, Nat.reduceEqDiff, Nat.reduceBEq, BitVec.reduceOfInt, Int.reduceLE, Int.reduceLT, Int.reduceGT, Int.reduceGE, Int.reduceNeg, Int.reduceAdd, Int.reduceSub, Int.reduceMul, Int.reduceToNat, ↓bind_go, ↓map_go, wantedV, isWrite, grow, write, ofV, AV.cells, Abs.start, Abs.strip, endQ, resV, rawsRes, rawRes, exports, export1, AS.grown, AS.put, Env.know, Env.boxed, isSelf, convSelf, convV, loadV, storeV, fieldAddrV, fieldV, indexAddrV, indexV, partV, isAggK, isStr, place, lenV, min2V, makeV, freshSl, sliceV, boundOr, bound, bounds, cutFl, copyV, slCells, srcV, appendV, room, zerosOf, eqNeg, kd, takeR, hasViewL, hasView, freshR, freshC, snapAll, snap, snapL, flatL, pureL, pureA, fillC, arrOK, oneA, partB, AV.laid, ren1, CR.gr, applyW, useL, AS.mute, isGen, startG, ev5, tbUr0, agg?_at, vw?_is, glob, Nat.reduceMod, Bx.own.injEq, and_false, false_and, and_true, true_and, s26, s12, s11, s10, s3, s4, s5, b11, b4, b5, br, lG, hk, hn, lT, e2, e0, hbz, ez]
              change EndG _ _ _ _ _ _ _
              exact EndG.new (b := .own L 49 (gn 49 + 1)) [.view (.own L 49 (gn 49 + 1)) 0 z z 1, .raw (.int .i64 0)] [_, _] rfl (.cons (.newv _ _ _ _ _ rfl) (.cons (.raw _) .nil)) rfl rfl (fun b' hb' => by simp only [updB, own_ne hb', if_false, hbx b' hb']) updB_self (ExpL.same ⟨lowL_pure _ (nums_pure _), nums_cells _⟩) hux
          · rw [if_neg hd] at hE
            rw [if_neg (by omega)] at hr
            cases hr
            have e2 : (((dfK g bb z 16).toNat : Int) != 0) = true := by
              rw [bne_iff_ne]
              intro h
              exact hd (BitVec.eq_of_toNat_eq (by simpa using h))
            simp (maxSteps := 1000000) (disch := first | omega | (simp only [updB, updI, dsB, reduceCtorEq, Nat.reduceEqDiff, Abs.Id.mk.injEq, and_false, false_and, and_true, true_and, if_false, ↓reduceIte, Option.isSome_some, *]; done) | (simp only [gxorB_len, tagB_len, sealB_len, lnB] <;> omega) | fail) only [ev0, ev1, ev2, ev3, ↓reduceIte, reduceCtorEq, Nat.reduceAdd, Nat.reduceSub, Nat.reduceMul, Nat.reduceLT, Nat.reduceLeDiff, Nat.reduceEqDiff, Nat.reduceBEq, BitVec.reduceOfInt, Int.reduceLE, Int.reduceLT, Int.reduceGT, Int.reduceGE, Int.reduceNeg, Int.reduceAdd, Int.reduceSub, Int.reduceMul, Int.reduceToNat, ↓bind_go, ↓map_go, wantedV, isWrite, grow, write, ofV, AV.cells, Abs.start, Abs.strip, endQ, resV, rawsRes, rawRes, exports, export1, AS.grown, AS.put, Env.know, Env.boxed, isSelf, convSelf, convV, loadV, storeV, fieldAddrV, fieldV, indexAddrV, indexV, partV, isAggK, isStr, place, lenV, min2V, makeV, freshSl, sliceV, boundOr, bound, bounds, cutFl, copyV, slCells, srcV, appendV, room, zerosOf, eqNeg, kd, takeR, hasViewL, hasView, freshR, freshC, snapAll, snap, snapL, flatL, pureL, pureA, fillC, arrOK, oneA, partB, AV.laid, ren1, CR.gr, applyW, useL, AS.mute, isGen, startG, ev5, tbUr0, agg?_at, vw?_is, glob, Nat.reduceMod, Bx.own.injEq, and_false, false_and, and_true, true_and, s26, s12, s11, s10, s3, s4, s5, b11, b4, b5, br, lG, hk, hn, lT, e2, e0]
            change EndG _ _ _ _ _ _ _
            exact EndG.r0 [.raw (.slice none 0 0), .raw (.int .i64 40)] [_, _] rfl (.cons .nilb (.cons (.raw _) .nil)) rfl hbx hux
        · have hlt : decide ((i : Int) < 16) = true := decide_eq_true (by omega)
          simp (maxSteps := 1000000) (disch := first | omega | (simp only [updB, updI, dsB, reduceCtorEq, Nat.reduceEqDiff, Abs.Id.mk.injEq, and_false, false_and, and_true, true_and, if_false, ↓reduceIte, Option.isSome_some, *]; done) | (simp only [gxorB_len, tagB_len, sealB_len, lnB] <;> omega) | fail) only [ev0, ev1, ev2, ev3, ↓reduceIte, reduceCtorEq, Nat.reduceAdd, Nat.reduceSub, Nat.reduceMul, Nat.reduceLT, Nat.reduceLeDiff, Nat.reduceEqDiff, Nat.reduceBEq, BitVec.reduceOfInt, Int.reduceLE, Int.reduceLT, Int.reduceGT, Int.reduceGE, Int.reduceNeg, Int.reduceAdd, Int.reduceSub, Int.reduceMul, Int.reduceToNat, ↓bind_go, ↓map_go, wantedV, isWrite, grow, write, ofV, AV.cells, Abs.start, Abs.strip, endQ, resV, rawsRes, rawRes, exports, export1, AS.grown, AS.put, Env.know, Env.boxed, isSelf, convSelf, convV, loadV, storeV, fieldAddrV, fieldV, indexAddrV, indexV, partV, isAggK, isStr, place, lenV, min2V, makeV, freshSl, sliceV, boundOr, bound, bounds, cutFl, copyV, slCells, srcV, appendV, room, zerosOf, eqNeg, kd, takeR, hasViewL, hasView, freshR, freshC, snapAll, snap, snapL, flatL, pureL, pureA, fillC, arrOK, oneA, partB, AV.laid, ren1, CR.gr, applyW, useL, AS.mute, isGen, startG, ev5, tbUr0, agg?_at, vw?_is, glob, Nat.reduceMod, Bx.own.injEq, and_false, false_and, and_true, true_and, s26, s12, s11, s10, s3, s4, s5, b11, b4, b5, br, lG, hk, hn, lT, hlt, e0]
          refine ⟨16 - (i + 1), by omega, i + 1, by omega, rfl, rfl, ?_, hbx, hux⟩
          rw [hD]
    · cases hr
  · cases hr
end Go.Proofs.Ytjnmdphoaafjaaa

