/- The law about sealing and opening: what the walk comes to. -/
import Derived.Test.YtjnmdphoaafjaaaUr
namespace Go.Proofs.Ytjnmdphoaafjaaa
set_option linter.unusedSimpArgs false
set_option linter.unusedVariables false
set_option linter.defProp false
open Go Go.Abs
set_option maxHeartbeats 16000000
noncomputable def EB : Env := (((E8.know 47 (fun xs => pf47 (xs.map norm))).know 46 pf46).knowG 53 gv53).knowG 52 gm52
theorem okEB : EnvOK Try.prog EB := (((ok8.know sound47.norm).know sound46).knowG soundW53).knowG soundM52
theorem EB_te : EB.te = te := rfl
theorem EB_glob : EB.glob = glob := rfl
theorem EB_gs : EB.gs = [52, 53] := rfl
theorem EB_dyn : EB.dyn = false := rfl
theorem EB_mu (d : Nat) : EB.mu d = false := rfl
theorem EB_s : EB.tbl 52 = some (.gen gm52) := rfl
theorem EB_o : EB.tbl 53 = some (.gen gv53) := rfl
theorem EB_f : EB.tbl 47 = some (.val (fun xs => pf47 (xs.map norm))) := rfl
theorem EB_w : EB.tbl 46 = some (.val pf46) := rfl
theorem seal_go {k n : List (BitVec 8)} {m m' : Nat} {a b : List (BitVec 8)} {fl fl' : Fl} {bx : Boxes} {us : Abs.Id → Bool} (hk : k.length = 32) (hn : n.length = 12) (hm : m = a.length) (hm' : m' = b.length) (ha : a.length ≤ 400000) (hb : b.length ≤ 400000) : gm52 [.agg (nums .u8 k), .agg (nums .u8 n), .sl m (nums .u8 a) fl, .sl m' (nums .u8 b) fl'] bx us = some { v := .ret (.view (.own 0 0 0) 0 (sealB k n a b).length (sealB k n a b).length 1), cont := some (nums .u8 (sealB k n a b)) } := by
  have hc : a.length ≤ 400000 ∧ b.length ≤ 400000 := ⟨ha, hb⟩
  simp only [gm52, agg?_at hk, agg?_at hn, row?_at hm, row?_at hm', Option.bind_some, if_pos hc]
theorem openv_go {v u x w : AV} {bx : Boxes} {us : Abs.Id → Bool} : gv53 [v, u, x, w] bx us = (agg? .u8 8 32 v).bind fun k => (agg? .u8 8 12 u).bind fun n => (row? .u8 8 x).bind fun a => (vw? bx w).bind fun t => if a.length ≤ 400000 ∧ t.length ≤ 400000 ∧ 16 ≤ t.length then
      if openE k n a t = 0 then
        if t.length = 16 then some { v := .ret (.tup [.sl 0 [] .bor, .raw (.int .i64 0)]) } else some { v := .ret (.tup [.view (.own 0 0 0) 0 (openT k n a t).length (openT k n a t).length 1, .raw (.int .i64 0)]), cont := some (nums .u8 (openT k n a t)) }
      else some { v := .ret (.tup [.sl 0 [] .bor, .raw (.int .i64 40)]) }
    else none := rfl
noncomputable def pf14 : List AV → Option AV
  | [v, w, .raw (.int .i64 z)] => (bk? v).bind fun c => (row? .u8 8 w).bind fun t => if t.length ≤ 9223372036854775807 ∧ -9223372036854775808 ≤ z ∧ z ≤ 9223372036854775807 then some (.raw (.bool true)) else none
  | _ => none
theorem bit_ne {q : Nat} (h : q < 8) : 1#8 <<< q ≠ 0#8 := by
  have all : ∀ q : Fin 8, 1#8 <<< q.val ≠ 0#8 := by decide
  exact all ⟨q, h⟩
theorem few_nil {fl : Fl} : pf47 [.sl 0 [] fl] = some (.sl 0 [] .bor) := few_at (b := []) rfl (by decide)
theorem seal_nil {k n : List (BitVec 8)} {m : Nat} {a : List (BitVec 8)} {fl fl' : Fl} {bx : Boxes} {us : Abs.Id → Bool} (hk : k.length = 32) (hn : n.length = 12) (hm : m = a.length) (ha : a.length ≤ 400000) : gm52 [.agg (nums .u8 k), .agg (nums .u8 n), .sl m (nums .u8 a) fl, .sl 0 [] fl'] bx us = some { v := .ret (.view (.own 0 0 0) 0 (sealB k n a []).length (sealB k n a []).length 1), cont := some (nums .u8 (sealB k n a [])) } := seal_go (b := []) hk hn hm rfl ha (by decide)
theorem asb_nil : asBytes [] = some [] := rfl
theorem bne_nil : (([] : List UInt8) != []) = false := rfl
theorem beq_nil : (([] : List UInt8) == []) = true := rfl
theorem bq40 : ((40 : Int) == 40) = true := rfl
theorem r40 : ((40 : Int) = 0) = False := eq_false (by decide)
def tbUp0 := (And.intro (And.intro (And.intro (And.intro @teE (And.intro @EB_te @EB_glob)) (And.intro @EB_gs (And.intro @EB_dyn @EB_mu))) (And.intro (And.intro @EB_s (And.intro @EB_o @EB_f)) (And.intro (And.intro @EB_w @shown_at) (And.intro @few_at @few_nil)))) (And.intro (And.intro (And.intro @seal_go (And.intro @seal_nil @openv_go)) (And.intro (And.intro @bkA_strip @bkA_key) (And.intro @bkA_nonce @bkA_a))) (And.intro (And.intro @nums_strip (And.intro @nums_ren @nums_set8)) (And.intro (And.intro @tagB_len @gxorB_len) (And.intro @sealB_len @bq3)))))
theorem sound14 : SoundV Try.prog glob 14 pf14 := by
  refine SoundV.walk EB okEB mixed Try.func14 rfl Try.call14 (by kernel_rfl) ?_
  intro args r hr
  unfold pf14 at hr
  split at hr
  · rename_i v w z
    simp only [Option.bind_eq_some_iff] at hr
    obtain ⟨c, h1, t, h2, hr⟩ := hr
    split at hr
    · rename_i ht
      cases hr
      obtain ⟨rfl, hok⟩ := bk?_of h1
      obtain ⟨fl, rfl⟩ := row?_of h2
      have lB := bkA_len hok
      obtain ⟨hk, hn, ha⟩ := hok
      obtain ⟨ht, hz1, hz2⟩ := ht
      rw [Try.ntmps14, Try.results14]
      refine ⟨by simp, ?_⟩
      have e3 : ((0 : Int) != 0) = false := rfl
      by_cases q0 : t.length = 0
      · have := List.eq_nil_of_length_eq_zero q0
        subst this
        have e2 : (((16 : Nat) : Int) != ((0 : Nat) : Int) + 16) = false := rfl
        obtain ⟨ho1, ho2⟩ := open_seal (k := c.k) (a := c.a.take 1000) (t := []) hn
        have hf : ∀ m : Nat, openT c.k c.n (c.a.take 1000) ((sealB c.k c.n (c.a.take 1000) []).set (m / 8 % 16) ((sealB c.k c.n (c.a.take 1000) []).getD (m / 8 % 16) 0#8 ^^^ 1#8 <<< (m % 8))) = [] ∧ openE c.k c.n (c.a.take 1000) ((sealB c.k c.n (c.a.take 1000) []).set (m / 8 % 16) ((sealB c.k c.n (c.a.take 1000) []).getD (m / 8 % 16) 0#8 ^^^ 1#8 <<< (m % 8))) = 40 := fun m => by
          have := open_flip (k := c.k) (n := c.n) (a := c.a.take 1000) (t := []) (p := m / 8 % 16) (x := 1#8 <<< (m % 8)) (by omega) (bit_ne (by omega))
          simpa only [List.length_nil, Nat.zero_add] using this
        by_cases hz : z < 0
        · have e1 : decide (z < 0) = true := decide_eq_true hz
          obtain ⟨m, rfl⟩ : ∃ m : Nat, z = -((m : Int) + 1) := ⟨(-(z + 1)).toNat, by omega⟩
          have e4 : 0 - (-((m : Int) + 1) + 1) = (m : Int) := by omega
          obtain ⟨ho3, ho4⟩ := hf m
          simp (maxSteps := 1000000) (disch := first | omega | (simp only [gxorB_len, tagB_len, sealB_len, lnB] <;> omega) | fail) only [ev0, ev1, ev2, ev3, ↓reduceIte, reduceCtorEq, Nat.reduceAdd, Nat.reduceSub, Nat.reduceMul, Nat.reduceLT, Nat.reduceLeDiff, Nat.reduceEqDiff, Nat.reduceBEq, BitVec.reduceOfInt, Int.reduceLE, Int.reduceLT, Int.reduceGT, Int.reduceGE, Int.reduceNeg, Int.reduceAdd, Int.reduceSub, Int.reduceMul, Int.reduceToNat, ↓bind_go, ↓map_go, wantedV, isWrite, grow, write, ofV, AV.cells, Abs.start, Abs.strip, endQ, resV, rawsRes, rawRes, exports, export1, AS.grown, AS.put, Env.know, Env.boxed, isSelf, convSelf, convV, loadV, storeV, fieldAddrV, fieldV, indexAddrV, indexV, partV, isAggK, isStr, place, lenV, min2V, makeV, freshSl, sliceV, boundOr, bound, bounds, cutFl, copyV, slCells, srcV, appendV, room, zerosOf, eqNeg, kd, takeR, hasViewL, hasView, freshR, freshC, snapAll, snap, snapL, flatL, pureL, pureA, fillC, arrOK, oneA, partB, AV.laid, ren1, CR.gr, applyW, useL, AS.mute, isGen, startG, ev5, tbUp0, glob, agg?_at, row?_at, vw?_is, hk, hn, lB, ho1, ho2, ho3, ho4, e1, e2, e3, e4, q0, bq40, r40, asb_nil, bne_nil, beq_nil]
          exact ResQ.same rfl
        · have e1 : decide (z < 0) = false := decide_eq_false hz
          obtain ⟨m, rfl⟩ := Int.eq_ofNat_of_zero_le (show 0 ≤ z by omega)
          have e4 : 0 = 0 := rfl
          obtain ⟨ho3, ho4⟩ := hf m
          simp (maxSteps := 1000000) (disch := first | omega | (simp only [gxorB_len, tagB_len, sealB_len, lnB] <;> omega) | fail) only [ev0, ev1, ev2, ev3, ↓reduceIte, reduceCtorEq, Nat.reduceAdd, Nat.reduceSub, Nat.reduceMul, Nat.reduceLT, Nat.reduceLeDiff, Nat.reduceEqDiff, Nat.reduceBEq, BitVec.reduceOfInt, Int.reduceLE, Int.reduceLT, Int.reduceGT, Int.reduceGE, Int.reduceNeg, Int.reduceAdd, Int.reduceSub, Int.reduceMul, Int.reduceToNat, ↓bind_go, ↓map_go, wantedV, isWrite, grow, write, ofV, AV.cells, Abs.start, Abs.strip, endQ, resV, rawsRes, rawRes, exports, export1, AS.grown, AS.put, Env.know, Env.boxed, isSelf, convSelf, convV, loadV, storeV, fieldAddrV, fieldV, indexAddrV, indexV, partV, isAggK, isStr, place, lenV, min2V, makeV, freshSl, sliceV, boundOr, bound, bounds, cutFl, copyV, slCells, srcV, appendV, room, zerosOf, eqNeg, kd, takeR, hasViewL, hasView, freshR, freshC, snapAll, snap, snapL, flatL, pureL, pureA, fillC, arrOK, oneA, partB, AV.laid, ren1, CR.gr, applyW, useL, AS.mute, isGen, startG, ev5, tbUp0, glob, agg?_at, row?_at, vw?_is, hk, hn, lB, ho1, ho2, ho3, ho4, e1, e2, e3, e4, q0, bq40, r40, asb_nil, bne_nil, beq_nil]
          exact ResQ.same rfl
      · have q0 : (min 1000 t.length = 0) = False := eq_false (by omega)
        have e2 : (((min 1000 t.length + 16 : Nat) : Int) != ((min 1000 t.length : Nat) : Int) + 16) = false := bne_eq_false_iff_eq.2 (by omega)
        obtain ⟨ho1, ho2⟩ := open_seal (k := c.k) (a := c.a.take 1000) (t := t.take 1000) hn
        have hf : ∀ m : Nat, openT c.k c.n (c.a.take 1000) ((sealB c.k c.n (c.a.take 1000) (t.take 1000)).set (min 1000 t.length + 16 - 16 + m / 8 % 16) ((sealB c.k c.n (c.a.take 1000) (t.take 1000)).getD (min 1000 t.length + 16 - 16 + m / 8 % 16) 0#8 ^^^ 1#8 <<< (m % 8))) = [] ∧ openE c.k c.n (c.a.take 1000) ((sealB c.k c.n (c.a.take 1000) (t.take 1000)).set (min 1000 t.length + 16 - 16 + m / 8 % 16) ((sealB c.k c.n (c.a.take 1000) (t.take 1000)).getD (min 1000 t.length + 16 - 16 + m / 8 % 16) 0#8 ^^^ 1#8 <<< (m % 8))) = 40 := fun m => by
          have := open_flip (k := c.k) (n := c.n) (a := c.a.take 1000) (t := t.take 1000) (p := m / 8 % 16) (x := 1#8 <<< (m % 8)) (by omega) (bit_ne (by omega))
          rw [show (t.take 1000).length = min 1000 t.length + 16 - 16 by rw [List.length_take]; omega] at this
          exact this
        by_cases hz : z < 0
        · have e1 : decide (z < 0) = true := decide_eq_true hz
          obtain ⟨m, rfl⟩ : ∃ m : Nat, z = -((m : Int) + 1) := ⟨(-(z + 1)).toNat, by omega⟩
          have e4 : 0 - (-((m : Int) + 1) + 1) = (m : Int) := by omega
          obtain ⟨ho3, ho4⟩ := hf m
          simp (maxSteps := 1000000) (disch := first | omega | (simp only [gxorB_len, tagB_len, sealB_len, lnB] <;> omega) | fail) only [ev0, ev1, ev2, ev3, ↓reduceIte, reduceCtorEq, Nat.reduceAdd, Nat.reduceSub, Nat.reduceMul, Nat.reduceLT, Nat.reduceLeDiff, Nat.reduceEqDiff, Nat.reduceBEq, BitVec.reduceOfInt, Int.reduceLE, Int.reduceLT, Int.reduceGT, Int.reduceGE, Int.reduceNeg, Int.reduceAdd, Int.reduceSub, Int.reduceMul, Int.reduceToNat, ↓bind_go, ↓map_go, wantedV, isWrite, grow, write, ofV, AV.cells, Abs.start, Abs.strip, endQ, resV, rawsRes, rawRes, exports, export1, AS.grown, AS.put, Env.know, Env.boxed, isSelf, convSelf, convV, loadV, storeV, fieldAddrV, fieldV, indexAddrV, indexV, partV, isAggK, isStr, place, lenV, min2V, makeV, freshSl, sliceV, boundOr, bound, bounds, cutFl, copyV, slCells, srcV, appendV, room, zerosOf, eqNeg, kd, takeR, hasViewL, hasView, freshR, freshC, snapAll, snap, snapL, flatL, pureL, pureA, fillC, arrOK, oneA, partB, AV.laid, ren1, CR.gr, applyW, useL, AS.mute, isGen, startG, ev5, tbUp0, glob, agg?_at, row?_at, vw?_is, hk, hn, lB, ho1, ho2, ho3, ho4, e1, e2, e3, e4, q0, bq40, r40, asb_nil, bne_nil, beq_nil]
          exact ResQ.same rfl
        · have e1 : decide (z < 0) = false := decide_eq_false hz
          obtain ⟨m, rfl⟩ := Int.eq_ofNat_of_zero_le (show 0 ≤ z by omega)
          have e4 : 0 = 0 := rfl
          obtain ⟨ho3, ho4⟩ := hf m
          simp (maxSteps := 1000000) (disch := first | omega | (simp only [gxorB_len, tagB_len, sealB_len, lnB] <;> omega) | fail) only [ev0, ev1, ev2, ev3, ↓reduceIte, reduceCtorEq, Nat.reduceAdd, Nat.reduceSub, Nat.reduceMul, Nat.reduceLT, Nat.reduceLeDiff, Nat.reduceEqDiff, Nat.reduceBEq, BitVec.reduceOfInt, Int.reduceLE, Int.reduceLT, Int.reduceGT, Int.reduceGE, Int.reduceNeg, Int.reduceAdd, Int.reduceSub, Int.reduceMul, Int.reduceToNat, ↓bind_go, ↓map_go, wantedV, isWrite, grow, write, ofV, AV.cells, Abs.start, Abs.strip, endQ, resV, rawsRes, rawRes, exports, export1, AS.grown, AS.put, Env.know, Env.boxed, isSelf, convSelf, convV, loadV, storeV, fieldAddrV, fieldV, indexAddrV, indexV, partV, isAggK, isStr, place, lenV, min2V, makeV, freshSl, sliceV, boundOr, bound, bounds, cutFl, copyV, slCells, srcV, appendV, room, zerosOf, eqNeg, kd, takeR, hasViewL, hasView, freshR, freshC, snapAll, snap, snapL, flatL, pureL, pureA, fillC, arrOK, oneA, partB, AV.laid, ren1, CR.gr, applyW, useL, AS.mute, isGen, startG, ev5, tbUp0, glob, agg?_at, row?_at, vw?_is, hk, hn, lB, ho1, ho2, ho3, ho4, e1, e2, e3, e4, q0, bq40, r40, asb_nil, bne_nil, beq_nil]
          exact ResQ.same rfl
    · cases hr
  · cases hr
end Go.Proofs.Ytjnmdphoaafjaaa
