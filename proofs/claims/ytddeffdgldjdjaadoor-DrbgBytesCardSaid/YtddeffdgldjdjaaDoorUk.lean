/- A tag: what the walk comes to (one region in each order). -/
import Derived.Test.YtddeffdgldjdjaaDoorUj
namespace Go.Proofs.YtddeffdgldjdjaaDoor
set_option linter.unusedSimpArgs false
set_option linter.unusedVariables false
set_option linter.defProp false
open Go Go.Abs
set_option maxHeartbeats 16000000
def byteI (n k : Nat) : BitVec 8 := BitVec.ofInt 8 ((8 * (n : Int)).fdiv (2 ^ (56 - 8 * k)))
def lenK (y : List (BitVec 8)) (n : Nat) : Nat → List (BitVec 8)
  | 0 => y
  | k + 1 => lenK y n k ++ [byteI n k]
theorem lenK_len (y : List (BitVec 8)) (n k : Nat) : (lenK y n k).length = y.length + k := by
  induction k with
  | zero => rfl
  | succ k ih => simp [lenK, ih]; omega
def taggedB (a t : List (BitVec 8)) : List (BitVec 8) := lenK (lenK (padB (padB a ++ t)) a.length 8) t.length 8
def tagB (k n a t : List (BitVec 8)) : List (BitVec 8) := xorB (hashB (encB (expF k) (List.replicate 16 0#8)) (taggedB a t)) (encB (expF k) (ctrB n 1#32))
theorem padB_len (b : List (BitVec 8)) : (padB b).length = b.length + padN b.length := by simp [padB]
theorem padN_lt (n : Nat) : padN n < 16 := Nat.mod_lt _ (by omega)
theorem hashB_len (h b : List (BitVec 8)) : (hashB h b).length = 16 := hashK_len _ _ _
def pf71 : List AV → Option AV
  | [v, u, x, w] => (agg? .u8 8 32 v).bind fun k => (agg? .u8 8 12 u).bind fun n => (row? .u8 8 x).bind fun a => (row? .u8 8 w).bind fun t => if a.length ≤ 400000 ∧ t.length ≤ 400000 then some (.agg (nums .u8 (tagB k n a t))) else none
  | _ => none
noncomputable def E7 : Env := ((((((E0.know 97 pf97).know 98 pf98).know 103 pf103).know 102 pf102).know 90 (fun xs => pf90 (xs.map norm))).knowG 100 gf100).knowG 101 gf101
theorem ok7 : EnvOK Tryd.prog E7 := ((((((ok0.know sound97).know sound98).know sound103).know sound102).know sound90.norm).knowG sound100).knowG sound101
theorem E7_te : E7.te = te := rfl
theorem E7_glob : E7.glob = glob := rfl
theorem E7_gs : E7.gs = [101, 100] := rfl
theorem E7_dyn : E7.dyn = false := rfl
theorem E7_mu (d : Nat) : E7.mu d = false := rfl
theorem E7_e : E7.tbl 97 = some (.val pf97) := rfl
theorem E7_c : E7.tbl 98 = some (.val pf98) := rfl
theorem E7_h : E7.tbl 103 = some (.val pf103) := rfl
theorem E7_x : E7.tbl 102 = some (.val pf102) := rfl
theorem E7_k : E7.tbl 90 = some (.val (fun xs => pf90 (xs.map norm))) := rfl
theorem E7_y : E7.tbl 100 = some (.gen gf100) := rfl
theorem E7_p : E7.tbl 101 = some (.gen gf101) := rfl
theorem bhash_at {h b : List (BitVec 8)} {n : Nat} {fl : Fl} (hh : h.length = 16) (hn : n = b.length) (hb : b.length ≤ 1000000) : pf103 [.agg (nums .u8 h), .sl n (nums .u8 b) fl] = some (.agg (nums .u8 (hashB h b))) := by
  simp only [pf103, agg?_at hh, row?_at hn, Option.bind_some, if_pos hb]
theorem pad_go {n : Nat} {m : List (BitVec 8)} {i : Abs.Id} {bx : Boxes} {us : Abs.Id → Bool} (h : n = m.length) (h2 : m.length ≤ 1000000) (hu : us i = false) (hb : (bx (.own 0 9 1)).isSome = true) (hi : i.lvl = 0) : gf101 [.sl n (nums .u8 m) (.own i 1)] bx us = some { v := .ret (.sl (padB m).length (nums .u8 (padB m)) (.own ⟨0, 0, 0, 0⟩ 1)), use := [i] } := by
  have hc : m.length ≤ 1000000 ∧ us i = false ∧ ∃ b, (bx b).isSome = true ∧ i.lvl ≤ b.lvl := ⟨h2, hu, _, hb, by rw [hi]; exact Nat.zero_le _⟩
  simp only [gf101, row?_at h, Option.bind_some, if_pos hc]
theorem rep2 (x : AV) : rep 2 [x] = [x, x] := rfl
theorem rep1 (x : AV) : rep 1 [x] = [x] := rfl
theorem ctr_one {n : List (BitVec 8)} (h : n.length = 12) : pf98 [.agg (nums .u8 n), .raw (.int .u32 1)] = some (.agg (nums .u8 (ctrB n 1#32))) := ctr_at (c := 1#32) h
def o13 : List (List Nat) := [[0, 1, 2, 3, 4, 5, 6, 7, 8], [0, 1, 2, 4, 3, 5, 6, 7, 8], [0, 1, 4, 2, 3, 5, 6, 7, 8], [0, 2, 1, 3, 4, 5, 6, 7, 8], [0, 2, 1, 4, 3, 5, 6, 7, 8], [0, 2, 4, 1, 3, 5, 6, 7, 8], [0, 4, 1, 2, 3, 5, 6, 7, 8], [0, 4, 2, 1, 3, 5, 6, 7, 8], [2, 0, 1, 3, 4, 5, 6, 7, 8], [2, 0, 1, 4, 3, 5, 6, 7, 8], [2, 0, 4, 1, 3, 5, 6, 7, 8], [2, 4, 0, 1, 3, 5, 6, 7, 8], [4, 0, 1, 2, 3, 5, 6, 7, 8], [4, 0, 2, 1, 3, 5, 6, 7, 8], [4, 2, 0, 1, 3, 5, 6, 7, 8]]
def dsT : List (Nat × List (List Nat)) := [(13, o13)]
section
variable {E : Env} {lvl n : Nat} {Q : AX → AS → Prop} {σ : AS} {ops : Array Oper} {d : Bool}
theorem tx0 : awpXO E dsT lvl n (.region 0 ops d) Q σ = bindQ (regsO E lvl n ops.toList ops.toList σ) (Q .nrm) := awpX_text rfl
theorem tx1 : awpXO E dsT lvl n (.region 1 ops d) Q σ = bindQ (regsO E lvl n ops.toList ops.toList σ) (Q .nrm) := awpX_text rfl
theorem tx2 : awpXO E dsT lvl n (.region 2 ops d) Q σ = bindQ (regsO E lvl n ops.toList ops.toList σ) (Q .nrm) := awpX_text rfl
theorem tx3 : awpXO E dsT lvl n (.region 3 ops d) Q σ = bindQ (regsO E lvl n ops.toList ops.toList σ) (Q .nrm) := awpX_text rfl
theorem tx4 : awpXO E dsT lvl n (.region 4 ops d) Q σ = bindQ (regsO E lvl n ops.toList ops.toList σ) (Q .nrm) := awpX_text rfl
theorem tx5 : awpXO E dsT lvl n (.region 5 ops d) Q σ = bindQ (regsO E lvl n ops.toList ops.toList σ) (Q .nrm) := awpX_text rfl
theorem tx6 : awpXO E dsT lvl n (.region 6 ops d) Q σ = bindQ (regsO E lvl n ops.toList ops.toList σ) (Q .nrm) := awpX_text rfl
theorem tx7 : awpXO E dsT lvl n (.region 7 ops d) Q σ = bindQ (regsO E lvl n ops.toList ops.toList σ) (Q .nrm) := awpX_text rfl
theorem tx8 : awpXO E dsT lvl n (.region 8 ops d) Q σ = bindQ (regsO E lvl n ops.toList ops.toList σ) (Q .nrm) := awpX_text rfl
theorem tx9 : awpXO E dsT lvl n (.region 9 ops d) Q σ = bindQ (regsO E lvl n ops.toList ops.toList σ) (Q .nrm) := awpX_text rfl
theorem tx10 : awpXO E dsT lvl n (.region 10 ops d) Q σ = bindQ (regsO E lvl n ops.toList ops.toList σ) (Q .nrm) := awpX_text rfl
theorem tx11 : awpXO E dsT lvl n (.region 11 ops d) Q σ = bindQ (regsO E lvl n ops.toList ops.toList σ) (Q .nrm) := awpX_text rfl
theorem tx12 : awpXO E dsT lvl n (.region 12 ops d) Q σ = bindQ (regsO E lvl n ops.toList ops.toList σ) (Q .nrm) := awpX_text rfl
theorem ex13 : awpXO E dsT lvl n (.region 13 ops d) Q σ = ∀ l ∈ o13, bindQ (runO E lvl n ops.toList l σ) (Q .nrm) := awpX_each rfl
end
def yK (a t : List (BitVec 8)) : Nat → List (BitVec 8)
  | 0 => padB (padB a ++ t)
  | 1 => lenK (padB (padB a ++ t)) a.length 8
  | _ => taggedB a t
def tbUk0 := (And.intro (And.intro (And.intro (And.intro (And.intro @teE @evX) (And.intro @E7_te (And.intro @E7_glob @E7_gs))) (And.intro (And.intro @E7_dyn @E7_mu) (And.intro @E7_e (And.intro @E7_c @E7_h)))) (And.intro (And.intro (And.intro @E7_x @E7_k) (And.intro @E7_y (And.intro @E7_p @expand_at))) (And.intro (And.intro @ctr_one @bhash_at) (And.intro @bxor_at (And.intro @clone_at @pad_go))))) (And.intro (And.intro (And.intro (And.intro @enc_go @nums_strip) (And.intro @nums_set8 (And.intro @nums_ren @splice0))) (And.intro (And.intro @rep2 @rep1) (And.intro @tx0 (And.intro @tx1 @tx2)))) (And.intro (And.intro (And.intro @tx3 @tx4) (And.intro @tx5 (And.intro @tx6 @tx7))) (And.intro (And.intro @tx8 (And.intro @tx9 @tx10)) (And.intro @tx11 (And.intro @tx12 @ex13))))))
theorem sound71 : SoundV Tryd.prog glob 71 pf71 := by
  refine SoundV.walkX E7 dsT ok7 mixed Tryd.func71 rfl Tryd.call71 (by kernel_rfl) ?_
  intro args r hr
  unfold pf71 at hr
  split at hr
  · rename_i v u x w
    simp only [Option.bind_eq_some_iff] at hr
    obtain ⟨k, h1, n, h2, a, h3, t, h4, hr⟩ := hr
    split at hr
    · rename_i hc
      obtain ⟨ha, ht⟩ := hc
      cases hr
      obtain ⟨rfl, hk⟩ := agg?_of h1
      obtain ⟨rfl, hn⟩ := agg?_of h2
      obtain ⟨fl, rfl⟩ := row?_of h3
      obtain ⟨fl', rfl⟩ := row?_of h4
      rw [Tryd.ntmps71, Tryd.results71]
      have lX := expF_len hk
      have pa := padN_lt a.length
      refine ⟨by simp, ?_⟩
      simp (maxSteps := 1000000) (disch := first | omega | (simp only [updB, updI, dsB, reduceCtorEq, Nat.reduceEqDiff, Abs.Id.mk.injEq, and_false, false_and, and_true, true_and, if_false, ↓reduceIte, Option.isSome_some, *]; done) | (simp only [padB_len, lenK_len, encB_len, hashB_len, lnB] <;> omega) | fail) only [ev0, ev1, ev2, ev3, ↓reduceIte, reduceCtorEq, Nat.reduceAdd, Nat.reduceSub, Nat.reduceMul, Nat.reduceLT, Nat.reduceLeDiff, Nat.reduceEqDiff, Nat.reduceBEq, BitVec.reduceOfInt, Int.reduceLE, Int.reduceLT, Int.reduceGT, Int.reduceGE, Int.reduceNeg, Int.reduceAdd, Int.reduceSub, Int.reduceMul, Int.reduceToNat, ↓bind_go, ↓map_go, wantedV, isWrite, grow, write, ofV, AV.cells, Abs.start, Abs.strip, endQ, resV, rawsRes, rawRes, exports, export1, AS.grown, AS.put, Env.know, Env.boxed, isSelf, convSelf, convV, loadV, storeV, fieldAddrV, fieldV, indexAddrV, indexV, partV, isAggK, isStr, place, ipS, lenV, min2V, makeV, freshSl, sliceV, boundOr, bound, bounds, cutFl, copyV, slCells, srcV, appendV, room, zerosOf, eqNeg, kd, takeR, hasViewL, hasView, freshR, freshC, snapAll, snap, snapL, flatL, pureL, pureA, fillC, arrOK, oneA, partB, AV.laid, ren1, CR.gr, applyW, useL, AS.mute, isGen, startG, ev5, tbUk0, agg?_at, List.length_cons, List.length_nil, List.set_cons_zero, List.set_cons_succ, List.drop_zero, List.drop_succ_cons, List.drop_nil, glob, Nat.reduceMod, Bx.own.injEq, and_false, false_and, and_true, true_and, hk, hn, lX]
      have l0 : (padB (padB a ++ t)).length ≤ 800100 := by
        have := padN_lt (padB a ++ t).length
        simp only [padB_len, List.length_append] at *
        omega
      refine loopQ_of (fun n' σ => ∃ j i, j ≤ 2 ∧ n' = 2 - j ∧ σ.slots 29 = .raw (.int .i64 (j : Int)) ∧ σ.slots 28 = .raw (.int .i64 2) ∧ σ.slots 27 = .sl 2 [.raw (.int .i64 (a.length : Int)), .raw (.int .i64 (t.length : Int))] (.own ⟨0, 27, 0, 1⟩ 1) ∧ σ.slots 9 = .ptr (.own 0 9 1) 0 ∧ σ.slots 8 = .ptr (.own 0 8 1) 0 ∧ σ.slots 5 = .ptr (.own 0 5 1) 0 ∧ σ.slots 10 = .sl (yK a t j).length (nums .u8 (yK a t j)) (.own i 1) ∧ σ.box (.own 0 5 1) = some (nums .u8 n) ∧ σ.box (.own 0 8 1) = some (nums .u8 (List.replicate 16 0#8)) ∧ σ.box (.own 0 9 1) = some (nums .u8 (expF k)) ∧ Free σ.used (σ.gen 45) 45 i) 2 ?_ ?_
      · refine ⟨0, ⟨0, 22, 0, 1⟩, by omega, by omega, ?_⟩
        simp (maxSteps := 1000000) (disch := first | omega | (simp only [updB, updI, dsB, reduceCtorEq, Nat.reduceEqDiff, Abs.Id.mk.injEq, and_false, false_and, and_true, true_and, if_false, ↓reduceIte, Option.isSome_some, *]; done) | (simp only [padB_len, lenK_len, encB_len, hashB_len, lnB] <;> omega) | fail) only [ev0, ev1, ev2, ev3, ↓reduceIte, reduceCtorEq, Nat.reduceAdd, Nat.reduceSub, Nat.reduceMul, Nat.reduceLT, Nat.reduceLeDiff, Nat.reduceEqDiff, Nat.reduceBEq, BitVec.reduceOfInt, Int.reduceLE, Int.reduceLT, Int.reduceGT, Int.reduceGE, Int.reduceNeg, Int.reduceAdd, Int.reduceSub, Int.reduceMul, Int.reduceToNat, ↓bind_go, ↓map_go, wantedV, isWrite, grow, write, ofV, AV.cells, Abs.start, Abs.strip, endQ, resV, rawsRes, rawRes, exports, export1, AS.grown, AS.put, Env.know, Env.boxed, isSelf, convSelf, convV, loadV, storeV, fieldAddrV, fieldV, indexAddrV, indexV, partV, isAggK, isStr, place, ipS, lenV, min2V, makeV, freshSl, sliceV, boundOr, bound, bounds, cutFl, copyV, slCells, srcV, appendV, room, zerosOf, eqNeg, kd, takeR, hasViewL, hasView, freshR, freshC, snapAll, snap, snapL, flatL, pureL, pureA, fillC, arrOK, oneA, partB, AV.laid, ren1, CR.gr, applyW, useL, AS.mute, isGen, startG, ev5, tbUk0, agg?_at, List.length_cons, List.length_nil, List.set_cons_zero, List.set_cons_succ, List.drop_zero, List.drop_succ_cons, List.drop_nil, glob, Nat.reduceMod, Bx.own.injEq, and_false, false_and, and_true, true_and, hk, hn, lX]
        exact ⟨rfl, rfl, rfl, by simp [updI], fun g _ => by simp [updI], by simp⟩
      · rintro n' ⟨sl, gn, bx, us⟩ ⟨j, i, hj, rfl, s29, s28, s27, s9, s8, s5, s10, b5, b8, b9, hf⟩
        dsimp only at s29 s28 s27 s9 s8 s5 s10 b5 b8 b9 hf
        have hf0 := hf.now
        rcases (show j = 0 ∨ j = 1 ∨ j = 2 by omega) with rfl | rfl | rfl
        · have hJ : lenK (yK a t 0) a.length 8 = yK a t 1 := rfl
          have lY : (yK a t 0).length ≤ 800100 := l0
          generalize yK a t 0 = y at s10 hJ lY
          have s29 : sl 29 = .raw (.int .i64 0) := s29
          simp (maxSteps := 1000000) (disch := first | omega | (simp only [updB, updI, dsB, reduceCtorEq, Nat.reduceEqDiff, Abs.Id.mk.injEq, and_false, false_and, and_true, true_and, if_false, ↓reduceIte, Option.isSome_some, *]; done) | (simp only [padB_len, lenK_len, encB_len, hashB_len, lnB] <;> omega) | fail) only [ev0, ev1, ev2, ev3, ↓reduceIte, reduceCtorEq, Nat.reduceAdd, Nat.reduceSub, Nat.reduceMul, Nat.reduceLT, Nat.reduceLeDiff, Nat.reduceEqDiff, Nat.reduceBEq, BitVec.reduceOfInt, Int.reduceLE, Int.reduceLT, Int.reduceGT, Int.reduceGE, Int.reduceNeg, Int.reduceAdd, Int.reduceSub, Int.reduceMul, Int.reduceToNat, ↓bind_go, ↓map_go, wantedV, isWrite, grow, write, ofV, AV.cells, Abs.start, Abs.strip, endQ, resV, rawsRes, rawRes, exports, export1, AS.grown, AS.put, Env.know, Env.boxed, isSelf, convSelf, convV, loadV, storeV, fieldAddrV, fieldV, indexAddrV, indexV, partV, isAggK, isStr, place, ipS, lenV, min2V, makeV, freshSl, sliceV, boundOr, bound, bounds, cutFl, copyV, slCells, srcV, appendV, room, zerosOf, eqNeg, kd, takeR, hasViewL, hasView, freshR, freshC, snapAll, snap, snapL, flatL, pureL, pureA, fillC, arrOK, oneA, partB, AV.laid, ren1, CR.gr, applyW, useL, AS.mute, isGen, startG, ev5, tbUk0, agg?_at, List.length_cons, List.length_nil, List.set_cons_zero, List.set_cons_succ, List.drop_zero, List.drop_succ_cons, List.drop_nil, glob, Nat.reduceMod, Bx.own.injEq, and_false, false_and, and_true, true_and, s29, s28, s27, s9, s8, s5, s10, b5, b8, b9, hf0]
          refine loopQ_of (fun n' σ => ∃ e i, e ≤ 8 ∧ n' = 8 - e ∧ σ.slots 33 = .raw (.int .i64 (e : Int)) ∧ σ.slots 12 = .raw (.int .i64 (a.length : Int)) ∧ σ.slots 29 = .raw (.int .i64 0) ∧ σ.slots 28 = .raw (.int .i64 2) ∧ σ.slots 27 = .sl 2 [.raw (.int .i64 (a.length : Int)), .raw (.int .i64 (t.length : Int))] (.own ⟨0, 27, 0, 1⟩ 1) ∧ σ.slots 9 = .ptr (.own 0 9 1) 0 ∧ σ.slots 8 = .ptr (.own 0 8 1) 0 ∧ σ.slots 5 = .ptr (.own 0 5 1) 0 ∧ σ.slots 10 = .sl (lenK y a.length e).length (nums .u8 (lenK y a.length e)) (.own i 1) ∧ σ.box (.own 0 5 1) = some (nums .u8 n) ∧ σ.box (.own 0 8 1) = some (nums .u8 (List.replicate 16 0#8)) ∧ σ.box (.own 0 9 1) = some (nums .u8 (expF k)) ∧ Free σ.used (σ.gen 45) 45 i) 8 ?_ ?_
          · refine ⟨0, i, by omega, by omega, ?_⟩
            simp (maxSteps := 1000000) (disch := first | omega | (simp only [updB, updI, dsB, reduceCtorEq, Nat.reduceEqDiff, Abs.Id.mk.injEq, and_false, false_and, and_true, true_and, if_false, ↓reduceIte, Option.isSome_some, *]; done) | (simp only [padB_len, lenK_len, encB_len, hashB_len, lnB] <;> omega) | fail) only [ev0, ev1, ev2, ev3, ↓reduceIte, reduceCtorEq, Nat.reduceAdd, Nat.reduceSub, Nat.reduceMul, Nat.reduceLT, Nat.reduceLeDiff, Nat.reduceEqDiff, Nat.reduceBEq, BitVec.reduceOfInt, Int.reduceLE, Int.reduceLT, Int.reduceGT, Int.reduceGE, Int.reduceNeg, Int.reduceAdd, Int.reduceSub, Int.reduceMul, Int.reduceToNat, ↓bind_go, ↓map_go, wantedV, isWrite, grow, write, ofV, AV.cells, Abs.start, Abs.strip, endQ, resV, rawsRes, rawRes, exports, export1, AS.grown, AS.put, Env.know, Env.boxed, isSelf, convSelf, convV, loadV, storeV, fieldAddrV, fieldV, indexAddrV, indexV, partV, isAggK, isStr, place, ipS, lenV, min2V, makeV, freshSl, sliceV, boundOr, bound, bounds, cutFl, copyV, slCells, srcV, appendV, room, zerosOf, eqNeg, kd, takeR, hasViewL, hasView, freshR, freshC, snapAll, snap, snapL, flatL, pureL, pureA, fillC, arrOK, oneA, partB, AV.laid, ren1, CR.gr, applyW, useL, AS.mute, isGen, startG, ev5, tbUk0, agg?_at, List.length_cons, List.length_nil, List.set_cons_zero, List.set_cons_succ, List.drop_zero, List.drop_succ_cons, List.drop_nil, glob, Nat.reduceMod, Bx.own.injEq, and_false, false_and, and_true, true_and, s29, s28, s27, s9, s8, s5, s10, b5, b8, b9]
            exact ⟨rfl, rfl, hf⟩
          · rintro n' ⟨sl', gn', bx', us'⟩ ⟨e, i', he, rfl, s33, s12, s29', s28', s27', s9', s8', s5', s10', b5', b8', b9', hf'⟩
            dsimp only at s33 s12 s29' s28' s27' s9' s8' s5' s10' b5' b8' b9' hf'
            have hf0' := hf'.now
            have lQ := lenK_len y a.length e
            have hQ : lenK y a.length (e + 1) = lenK y a.length e ++ [byteI a.length e] := rfl
            have hZ : lenK y a.length 8 = yK a t 1 := hJ
            generalize hq : lenK y a.length e = q at s10' lQ hQ
            simp (maxSteps := 1000000) (disch := first | omega | (simp only [updB, updI, dsB, reduceCtorEq, Nat.reduceEqDiff, Abs.Id.mk.injEq, and_false, false_and, and_true, true_and, if_false, ↓reduceIte, Option.isSome_some, *]; done) | (simp only [padB_len, lenK_len, encB_len, hashB_len, lnB] <;> omega) | fail) only [ev0, ev1, ev2, ev3, ↓reduceIte, reduceCtorEq, Nat.reduceAdd, Nat.reduceSub, Nat.reduceMul, Nat.reduceLT, Nat.reduceLeDiff, Nat.reduceEqDiff, Nat.reduceBEq, BitVec.reduceOfInt, Int.reduceLE, Int.reduceLT, Int.reduceGT, Int.reduceGE, Int.reduceNeg, Int.reduceAdd, Int.reduceSub, Int.reduceMul, Int.reduceToNat, ↓bind_go, ↓map_go, wantedV, isWrite, grow, write, ofV, AV.cells, Abs.start, Abs.strip, endQ, resV, rawsRes, rawRes, exports, export1, AS.grown, AS.put, Env.know, Env.boxed, isSelf, convSelf, convV, loadV, storeV, fieldAddrV, fieldV, indexAddrV, indexV, partV, isAggK, isStr, place, ipS, lenV, min2V, makeV, freshSl, sliceV, boundOr, bound, bounds, cutFl, copyV, slCells, srcV, appendV, room, zerosOf, eqNeg, kd, takeR, hasViewL, hasView, freshR, freshC, snapAll, snap, snapL, flatL, pureL, pureA, fillC, arrOK, oneA, partB, AV.laid, ren1, CR.gr, applyW, useL, AS.mute, isGen, startG, ev5, tbUk0, agg?_at, List.length_cons, List.length_nil, List.set_cons_zero, List.set_cons_succ, List.drop_zero, List.drop_succ_cons, List.drop_nil, glob, Nat.reduceMod, Bx.own.injEq, and_false, false_and, and_true, true_and, s33, s12, s29', s28', s27', s9', s8', s5', s10', b5', b8', b9', hf0']
            refine condQ_dec (fun hlt' => ?_) (fun hge' => ?_)
            · have hlt' : e < 8 := by omega
              simp (maxSteps := 1000000) (disch := first | omega | (simp only [updB, updI, dsB, reduceCtorEq, Nat.reduceEqDiff, Abs.Id.mk.injEq, and_false, false_and, and_true, true_and, if_false, ↓reduceIte, Option.isSome_some, *]; done) | (simp only [padB_len, lenK_len, encB_len, hashB_len, lnB] <;> omega) | fail) only [ev0, ev1, ev2, ev3, ↓reduceIte, reduceCtorEq, Nat.reduceAdd, Nat.reduceSub, Nat.reduceMul, Nat.reduceLT, Nat.reduceLeDiff, Nat.reduceEqDiff, Nat.reduceBEq, BitVec.reduceOfInt, Int.reduceLE, Int.reduceLT, Int.reduceGT, Int.reduceGE, Int.reduceNeg, Int.reduceAdd, Int.reduceSub, Int.reduceMul, Int.reduceToNat, ↓bind_go, ↓map_go, wantedV, isWrite, grow, write, ofV, AV.cells, Abs.start, Abs.strip, endQ, resV, rawsRes, rawRes, exports, export1, AS.grown, AS.put, Env.know, Env.boxed, isSelf, convSelf, convV, loadV, storeV, fieldAddrV, fieldV, indexAddrV, indexV, partV, isAggK, isStr, place, ipS, lenV, min2V, makeV, freshSl, sliceV, boundOr, bound, bounds, cutFl, copyV, slCells, srcV, appendV, room, zerosOf, eqNeg, kd, takeR, hasViewL, hasView, freshR, freshC, snapAll, snap, snapL, flatL, pureL, pureA, fillC, arrOK, oneA, partB, AV.laid, ren1, CR.gr, applyW, useL, AS.mute, isGen, startG, ev5, tbUk0, agg?_at, List.length_cons, List.length_nil, List.set_cons_zero, List.set_cons_succ, List.drop_zero, List.drop_succ_cons, List.drop_nil, glob, Nat.reduceMod, Bx.own.injEq, and_false, false_and, and_true, true_and, s33, s12, s29', s28', s27', s9', s8', s5', s10', b5', b8', b9', hf0']
              refine ⟨8 - (e + 1), by omega, e + 1, ⟨0, 45, 0, gn' 45 + 1⟩, by omega, rfl, rfl, row_eq ?_ ?_, hf'.go⟩
              · rw [hQ]; simp
              · rw [hQ]; rfl
            · have he : e = 8 := by omega
              subst he
              rw [hZ] at hq
              subst hq
              simp (maxSteps := 1000000) (disch := first | omega | (simp only [updB, updI, dsB, reduceCtorEq, Nat.reduceEqDiff, Abs.Id.mk.injEq, and_false, false_and, and_true, true_and, if_false, ↓reduceIte, Option.isSome_some, *]; done) | (simp only [padB_len, lenK_len, encB_len, hashB_len, lnB] <;> omega) | fail) only [ev0, ev1, ev2, ev3, ↓reduceIte, reduceCtorEq, Nat.reduceAdd, Nat.reduceSub, Nat.reduceMul, Nat.reduceLT, Nat.reduceLeDiff, Nat.reduceEqDiff, Nat.reduceBEq, BitVec.reduceOfInt, Int.reduceLE, Int.reduceLT, Int.reduceGT, Int.reduceGE, Int.reduceNeg, Int.reduceAdd, Int.reduceSub, Int.reduceMul, Int.reduceToNat, ↓bind_go, ↓map_go, wantedV, isWrite, grow, write, ofV, AV.cells, Abs.start, Abs.strip, endQ, resV, rawsRes, rawRes, exports, export1, AS.grown, AS.put, Env.know, Env.boxed, isSelf, convSelf, convV, loadV, storeV, fieldAddrV, fieldV, indexAddrV, indexV, partV, isAggK, isStr, place, ipS, lenV, min2V, makeV, freshSl, sliceV, boundOr, bound, bounds, cutFl, copyV, slCells, srcV, appendV, room, zerosOf, eqNeg, kd, takeR, hasViewL, hasView, freshR, freshC, snapAll, snap, snapL, flatL, pureL, pureA, fillC, arrOK, oneA, partB, AV.laid, ren1, CR.gr, applyW, useL, AS.mute, isGen, startG, ev5, tbUk0, agg?_at, List.length_cons, List.length_nil, List.set_cons_zero, List.set_cons_succ, List.drop_zero, List.drop_succ_cons, List.drop_nil, glob, Nat.reduceMod, Bx.own.injEq, and_false, false_and, and_true, true_and, s33, s12, s29', s28', s27', s9', s8', s5', s10', b5', b8', b9', hf0']
              exact ⟨2 - 1, by omega, 1, i', by omega, rfl, rfl, rfl, hf'⟩
        · have hJ : lenK (yK a t 1) t.length 8 = yK a t 2 := rfl
          have lY : (yK a t 1).length ≤ 800108 := by
            show (lenK _ _ 8).length ≤ _
            rw [lenK_len]; omega
          generalize yK a t 1 = y at s10 hJ lY
          have s29 : sl 29 = .raw (.int .i64 1) := s29
          simp (maxSteps := 1000000) (disch := first | omega | (simp only [updB, updI, dsB, reduceCtorEq, Nat.reduceEqDiff, Abs.Id.mk.injEq, and_false, false_and, and_true, true_and, if_false, ↓reduceIte, Option.isSome_some, *]; done) | (simp only [padB_len, lenK_len, encB_len, hashB_len, lnB] <;> omega) | fail) only [ev0, ev1, ev2, ev3, ↓reduceIte, reduceCtorEq, Nat.reduceAdd, Nat.reduceSub, Nat.reduceMul, Nat.reduceLT, Nat.reduceLeDiff, Nat.reduceEqDiff, Nat.reduceBEq, BitVec.reduceOfInt, Int.reduceLE, Int.reduceLT, Int.reduceGT, Int.reduceGE, Int.reduceNeg, Int.reduceAdd, Int.reduceSub, Int.reduceMul, Int.reduceToNat, ↓bind_go, ↓map_go, wantedV, isWrite, grow, write, ofV, AV.cells, Abs.start, Abs.strip, endQ, resV, rawsRes, rawRes, exports, export1, AS.grown, AS.put, Env.know, Env.boxed, isSelf, convSelf, convV, loadV, storeV, fieldAddrV, fieldV, indexAddrV, indexV, partV, isAggK, isStr, place, ipS, lenV, min2V, makeV, freshSl, sliceV, boundOr, bound, bounds, cutFl, copyV, slCells, srcV, appendV, room, zerosOf, eqNeg, kd, takeR, hasViewL, hasView, freshR, freshC, snapAll, snap, snapL, flatL, pureL, pureA, fillC, arrOK, oneA, partB, AV.laid, ren1, CR.gr, applyW, useL, AS.mute, isGen, startG, ev5, tbUk0, agg?_at, List.length_cons, List.length_nil, List.set_cons_zero, List.set_cons_succ, List.drop_zero, List.drop_succ_cons, List.drop_nil, glob, Nat.reduceMod, Bx.own.injEq, and_false, false_and, and_true, true_and, s29, s28, s27, s9, s8, s5, s10, b5, b8, b9, hf0]
          refine loopQ_of (fun n' σ => ∃ e i, e ≤ 8 ∧ n' = 8 - e ∧ σ.slots 33 = .raw (.int .i64 (e : Int)) ∧ σ.slots 12 = .raw (.int .i64 (t.length : Int)) ∧ σ.slots 29 = .raw (.int .i64 1) ∧ σ.slots 28 = .raw (.int .i64 2) ∧ σ.slots 27 = .sl 2 [.raw (.int .i64 (a.length : Int)), .raw (.int .i64 (t.length : Int))] (.own ⟨0, 27, 0, 1⟩ 1) ∧ σ.slots 9 = .ptr (.own 0 9 1) 0 ∧ σ.slots 8 = .ptr (.own 0 8 1) 0 ∧ σ.slots 5 = .ptr (.own 0 5 1) 0 ∧ σ.slots 10 = .sl (lenK y t.length e).length (nums .u8 (lenK y t.length e)) (.own i 1) ∧ σ.box (.own 0 5 1) = some (nums .u8 n) ∧ σ.box (.own 0 8 1) = some (nums .u8 (List.replicate 16 0#8)) ∧ σ.box (.own 0 9 1) = some (nums .u8 (expF k)) ∧ Free σ.used (σ.gen 45) 45 i) 8 ?_ ?_
          · refine ⟨0, i, by omega, by omega, ?_⟩
            simp (maxSteps := 1000000) (disch := first | omega | (simp only [updB, updI, dsB, reduceCtorEq, Nat.reduceEqDiff, Abs.Id.mk.injEq, and_false, false_and, and_true, true_and, if_false, ↓reduceIte, Option.isSome_some, *]; done) | (simp only [padB_len, lenK_len, encB_len, hashB_len, lnB] <;> omega) | fail) only [ev0, ev1, ev2, ev3, ↓reduceIte, reduceCtorEq, Nat.reduceAdd, Nat.reduceSub, Nat.reduceMul, Nat.reduceLT, Nat.reduceLeDiff, Nat.reduceEqDiff, Nat.reduceBEq, BitVec.reduceOfInt, Int.reduceLE, Int.reduceLT, Int.reduceGT, Int.reduceGE, Int.reduceNeg, Int.reduceAdd, Int.reduceSub, Int.reduceMul, Int.reduceToNat, ↓bind_go, ↓map_go, wantedV, isWrite, grow, write, ofV, AV.cells, Abs.start, Abs.strip, endQ, resV, rawsRes, rawRes, exports, export1, AS.grown, AS.put, Env.know, Env.boxed, isSelf, convSelf, convV, loadV, storeV, fieldAddrV, fieldV, indexAddrV, indexV, partV, isAggK, isStr, place, ipS, lenV, min2V, makeV, freshSl, sliceV, boundOr, bound, bounds, cutFl, copyV, slCells, srcV, appendV, room, zerosOf, eqNeg, kd, takeR, hasViewL, hasView, freshR, freshC, snapAll, snap, snapL, flatL, pureL, pureA, fillC, arrOK, oneA, partB, AV.laid, ren1, CR.gr, applyW, useL, AS.mute, isGen, startG, ev5, tbUk0, agg?_at, List.length_cons, List.length_nil, List.set_cons_zero, List.set_cons_succ, List.drop_zero, List.drop_succ_cons, List.drop_nil, glob, Nat.reduceMod, Bx.own.injEq, and_false, false_and, and_true, true_and, s29, s28, s27, s9, s8, s5, s10, b5, b8, b9]
            exact ⟨rfl, rfl, hf⟩
          · rintro n' ⟨sl', gn', bx', us'⟩ ⟨e, i', he, rfl, s33, s12, s29', s28', s27', s9', s8', s5', s10', b5', b8', b9', hf'⟩
            dsimp only at s33 s12 s29' s28' s27' s9' s8' s5' s10' b5' b8' b9' hf'
            have hf0' := hf'.now
            have lQ := lenK_len y t.length e
            have hQ : lenK y t.length (e + 1) = lenK y t.length e ++ [byteI t.length e] := rfl
            have hZ : lenK y t.length 8 = yK a t 2 := hJ
            generalize hq : lenK y t.length e = q at s10' lQ hQ
            simp (maxSteps := 1000000) (disch := first | omega | (simp only [updB, updI, dsB, reduceCtorEq, Nat.reduceEqDiff, Abs.Id.mk.injEq, and_false, false_and, and_true, true_and, if_false, ↓reduceIte, Option.isSome_some, *]; done) | (simp only [padB_len, lenK_len, encB_len, hashB_len, lnB] <;> omega) | fail) only [ev0, ev1, ev2, ev3, ↓reduceIte, reduceCtorEq, Nat.reduceAdd, Nat.reduceSub, Nat.reduceMul, Nat.reduceLT, Nat.reduceLeDiff, Nat.reduceEqDiff, Nat.reduceBEq, BitVec.reduceOfInt, Int.reduceLE, Int.reduceLT, Int.reduceGT, Int.reduceGE, Int.reduceNeg, Int.reduceAdd, Int.reduceSub, Int.reduceMul, Int.reduceToNat, ↓bind_go, ↓map_go, wantedV, isWrite, grow, write, ofV, AV.cells, Abs.start, Abs.strip, endQ, resV, rawsRes, rawRes, exports, export1, AS.grown, AS.put, Env.know, Env.boxed, isSelf, convSelf, convV, loadV, storeV, fieldAddrV, fieldV, indexAddrV, indexV, partV, isAggK, isStr, place, ipS, lenV, min2V, makeV, freshSl, sliceV, boundOr, bound, bounds, cutFl, copyV, slCells, srcV, appendV, room, zerosOf, eqNeg, kd, takeR, hasViewL, hasView, freshR, freshC, snapAll, snap, snapL, flatL, pureL, pureA, fillC, arrOK, oneA, partB, AV.laid, ren1, CR.gr, applyW, useL, AS.mute, isGen, startG, ev5, tbUk0, agg?_at, List.length_cons, List.length_nil, List.set_cons_zero, List.set_cons_succ, List.drop_zero, List.drop_succ_cons, List.drop_nil, glob, Nat.reduceMod, Bx.own.injEq, and_false, false_and, and_true, true_and, s33, s12, s29', s28', s27', s9', s8', s5', s10', b5', b8', b9', hf0']
            refine condQ_dec (fun hlt' => ?_) (fun hge' => ?_)
            · have hlt' : e < 8 := by omega
              simp (maxSteps := 1000000) (disch := first | omega | (simp only [updB, updI, dsB, reduceCtorEq, Nat.reduceEqDiff, Abs.Id.mk.injEq, and_false, false_and, and_true, true_and, if_false, ↓reduceIte, Option.isSome_some, *]; done) | (simp only [padB_len, lenK_len, encB_len, hashB_len, lnB] <;> omega) | fail) only [ev0, ev1, ev2, ev3, ↓reduceIte, reduceCtorEq, Nat.reduceAdd, Nat.reduceSub, Nat.reduceMul, Nat.reduceLT, Nat.reduceLeDiff, Nat.reduceEqDiff, Nat.reduceBEq, BitVec.reduceOfInt, Int.reduceLE, Int.reduceLT, Int.reduceGT, Int.reduceGE, Int.reduceNeg, Int.reduceAdd, Int.reduceSub, Int.reduceMul, Int.reduceToNat, ↓bind_go, ↓map_go, wantedV, isWrite, grow, write, ofV, AV.cells, Abs.start, Abs.strip, endQ, resV, rawsRes, rawRes, exports, export1, AS.grown, AS.put, Env.know, Env.boxed, isSelf, convSelf, convV, loadV, storeV, fieldAddrV, fieldV, indexAddrV, indexV, partV, isAggK, isStr, place, ipS, lenV, min2V, makeV, freshSl, sliceV, boundOr, bound, bounds, cutFl, copyV, slCells, srcV, appendV, room, zerosOf, eqNeg, kd, takeR, hasViewL, hasView, freshR, freshC, snapAll, snap, snapL, flatL, pureL, pureA, fillC, arrOK, oneA, partB, AV.laid, ren1, CR.gr, applyW, useL, AS.mute, isGen, startG, ev5, tbUk0, agg?_at, List.length_cons, List.length_nil, List.set_cons_zero, List.set_cons_succ, List.drop_zero, List.drop_succ_cons, List.drop_nil, glob, Nat.reduceMod, Bx.own.injEq, and_false, false_and, and_true, true_and, s33, s12, s29', s28', s27', s9', s8', s5', s10', b5', b8', b9', hf0']
              refine ⟨8 - (e + 1), by omega, e + 1, ⟨0, 45, 0, gn' 45 + 1⟩, by omega, rfl, rfl, row_eq ?_ ?_, hf'.go⟩
              · rw [hQ]; simp
              · rw [hQ]; rfl
            · have he : e = 8 := by omega
              subst he
              rw [hZ] at hq
              subst hq
              simp (maxSteps := 1000000) (disch := first | omega | (simp only [updB, updI, dsB, reduceCtorEq, Nat.reduceEqDiff, Abs.Id.mk.injEq, and_false, false_and, and_true, true_and, if_false, ↓reduceIte, Option.isSome_some, *]; done) | (simp only [padB_len, lenK_len, encB_len, hashB_len, lnB] <;> omega) | fail) only [ev0, ev1, ev2, ev3, ↓reduceIte, reduceCtorEq, Nat.reduceAdd, Nat.reduceSub, Nat.reduceMul, Nat.reduceLT, Nat.reduceLeDiff, Nat.reduceEqDiff, Nat.reduceBEq, BitVec.reduceOfInt, Int.reduceLE, Int.reduceLT, Int.reduceGT, Int.reduceGE, Int.reduceNeg, Int.reduceAdd, Int.reduceSub, Int.reduceMul, Int.reduceToNat, ↓bind_go, ↓map_go, wantedV, isWrite, grow, write, ofV, AV.cells, Abs.start, Abs.strip, endQ, resV, rawsRes, rawRes, exports, export1, AS.grown, AS.put, Env.know, Env.boxed, isSelf, convSelf, convV, loadV, storeV, fieldAddrV, fieldV, indexAddrV, indexV, partV, isAggK, isStr, place, ipS, lenV, min2V, makeV, freshSl, sliceV, boundOr, bound, bounds, cutFl, copyV, slCells, srcV, appendV, room, zerosOf, eqNeg, kd, takeR, hasViewL, hasView, freshR, freshC, snapAll, snap, snapL, flatL, pureL, pureA, fillC, arrOK, oneA, partB, AV.laid, ren1, CR.gr, applyW, useL, AS.mute, isGen, startG, ev5, tbUk0, agg?_at, List.length_cons, List.length_nil, List.set_cons_zero, List.set_cons_succ, List.drop_zero, List.drop_succ_cons, List.drop_nil, glob, Nat.reduceMod, Bx.own.injEq, and_false, false_and, and_true, true_and, s33, s12, s29', s28', s27', s9', s8', s5', s10', b5', b8', b9', hf0']
              exact ⟨2 - 2, by omega, 2, i', by omega, rfl, rfl, rfl, hf'⟩
        · have s29 : sl 29 = .raw (.int .i64 2) := s29
          have lY : (yK a t 2).length ≤ 800116 := by
            show (lenK (lenK _ _ 8) _ 8).length ≤ _
            rw [lenK_len, lenK_len]; omega
          have hT : tagB k n a t = xorB (hashB (encB (expF k) (List.replicate 16 0#8)) (yK a t 2)) (encB (expF k) (ctrB n 1#32)) := rfl
          have lC := ctrB_len hn 1#32
          generalize yK a t 2 = y at s10 hT lY
          generalize expF k = wk at lX b9 hT
          simp (maxSteps := 1000000) (disch := first | omega | (simp only [updB, updI, dsB, reduceCtorEq, Nat.reduceEqDiff, Abs.Id.mk.injEq, and_false, false_and, and_true, true_and, if_false, ↓reduceIte, Option.isSome_some, *]; done) | (simp only [padB_len, lenK_len, encB_len, hashB_len, lnB] <;> omega) | fail) only [ev0, ev1, ev2, ev3, ↓reduceIte, reduceCtorEq, Nat.reduceAdd, Nat.reduceSub, Nat.reduceMul, Nat.reduceLT, Nat.reduceLeDiff, Nat.reduceEqDiff, Nat.reduceBEq, BitVec.reduceOfInt, Int.reduceLE, Int.reduceLT, Int.reduceGT, Int.reduceGE, Int.reduceNeg, Int.reduceAdd, Int.reduceSub, Int.reduceMul, Int.reduceToNat, ↓bind_go, ↓map_go, wantedV, isWrite, grow, write, ofV, AV.cells, Abs.start, Abs.strip, endQ, resV, rawsRes, rawRes, exports, export1, AS.grown, AS.put, Env.know, Env.boxed, isSelf, convSelf, convV, loadV, storeV, fieldAddrV, fieldV, indexAddrV, indexV, partV, isAggK, isStr, place, ipS, lenV, min2V, makeV, freshSl, sliceV, boundOr, bound, bounds, cutFl, copyV, slCells, srcV, appendV, room, zerosOf, eqNeg, kd, takeR, hasViewL, hasView, freshR, freshC, snapAll, snap, snapL, flatL, pureL, pureA, fillC, arrOK, oneA, partB, AV.laid, ren1, CR.gr, applyW, useL, AS.mute, isGen, startG, ev5, tbUk0, agg?_at, List.length_cons, List.length_nil, List.set_cons_zero, List.set_cons_succ, List.drop_zero, List.drop_succ_cons, List.drop_nil, glob, Nat.reduceMod, Bx.own.injEq, and_false, false_and, and_true, true_and, s29, s28, s27, s9, s8, s5, s10, b5, b8, b9, hf0, lX, hn, lC]
          intro l hl
          simp only [o13, List.mem_cons, List.not_mem_nil, or_false] at hl
          rcases hl with rfl | rfl | rfl | rfl | rfl | rfl | rfl | rfl | rfl | rfl | rfl | rfl | rfl | rfl | rfl
          all_goals simp (maxSteps := 1000000) (disch := first | omega | (simp only [updB, updI, dsB, reduceCtorEq, Nat.reduceEqDiff, Abs.Id.mk.injEq, and_false, false_and, and_true, true_and, if_false, ↓reduceIte, Option.isSome_some, *]; done) | (simp only [padB_len, lenK_len, encB_len, hashB_len, lnB] <;> omega) | fail) only [ev0, ev1, ev2, ev3, ↓reduceIte, reduceCtorEq, Nat.reduceAdd, Nat.reduceSub, Nat.reduceMul, Nat.reduceLT, Nat.reduceLeDiff, Nat.reduceEqDiff, Nat.reduceBEq, BitVec.reduceOfInt, Int.reduceLE, Int.reduceLT, Int.reduceGT, Int.reduceGE, Int.reduceNeg, Int.reduceAdd, Int.reduceSub, Int.reduceMul, Int.reduceToNat, ↓bind_go, ↓map_go, wantedV, isWrite, grow, write, ofV, AV.cells, Abs.start, Abs.strip, endQ, resV, rawsRes, rawRes, exports, export1, AS.grown, AS.put, Env.know, Env.boxed, isSelf, convSelf, convV, loadV, storeV, fieldAddrV, fieldV, indexAddrV, indexV, partV, isAggK, isStr, place, ipS, lenV, min2V, makeV, freshSl, sliceV, boundOr, bound, bounds, cutFl, copyV, slCells, srcV, appendV, room, zerosOf, eqNeg, kd, takeR, hasViewL, hasView, freshR, freshC, snapAll, snap, snapL, flatL, pureL, pureA, fillC, arrOK, oneA, partB, AV.laid, ren1, CR.gr, applyW, useL, AS.mute, isGen, startG, ev5, tbUk0, agg?_at, List.length_cons, List.length_nil, List.set_cons_zero, List.set_cons_succ, List.drop_zero, List.drop_succ_cons, List.drop_nil, glob, Nat.reduceMod, Bx.own.injEq, and_false, false_and, and_true, true_and, s29, s28, s27, s9, s8, s5, s10, b5, b8, b9, hf0, lX, hn, lC, xorB_len', hashB_len]
          all_goals rw [hT, List.take_of_length_le (by rw [xorB_len', hashB_len]; exact Nat.le_refl _)]
          all_goals exact ResQ.same rfl
    · cases hr
  · cases hr
end Go.Proofs.YtddeffdgldjdjaaDoor
