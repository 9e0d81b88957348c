/- The document's tags, what it seals and opens: what the walks come to. -/
import Derived.Test.YtjnmdphoaafjaaaVi
import Derived.Test.YtjnmdphoaafjaaaUl
import Derived.Test.YtjnmdphoaafjaaaUn
namespace Go.Proofs.Ytjnmdphoaafjaaa
set_option linter.unusedSimpArgs false
set_option linter.unusedVariables false
set_option linter.defProp false
open Go Go.Abs
set_option maxHeartbeats 4000000
theorem lenK_app (y : List (BitVec 8)) (n : Nat) : ∀ k, lenK y n k = y ++ lenK [] n k
  | 0 => (List.append_nil y).symm
  | k + 1 => by rw [lenK, lenK, lenK_app y n k, List.append_assoc]
theorem padB_app (a t : List (BitVec 8)) : padB (padB a ++ t) = padB a ++ padB t := by
  have h : padN (padB a ++ t).length = padN t.length := by
    rw [List.length_append, padB_len, padN, padN, padN]; omega
  rw [padB, h, padB, padB, List.append_assoc]
theorem tagged_is (a t : List (BitVec 8)) : taggedB a t = padB a ++ padB t ++ lenK [] a.length 8 ++ lenK [] t.length 8 := by
  rw [taggedB, lenK_app, lenK_app (padB (padB a ++ t)), padB_app]
noncomputable def EY : Env := ((EZ.know 115 (fun xs => pf115 (xs.map norm))).know 116 pf116)
theorem okY : EnvOK Try.prog EY := ((okZ.know sound115.norm).know sound116)
theorem EY_te : EY.te = te := rfl
theorem EY_glob : EY.glob = glob := rfl
theorem EY_gs : EY.gs = [] := rfl
theorem EY_dyn : EY.dyn = false := rfl
theorem EY_mu (d : Nat) : EY.mu d = false := rfl
theorem EY_e : EY.tbl 107 = some (.val pf107) := rfl
theorem EY_b : EY.tbl 108 = some (.val pf108) := rfl
theorem EY_c : EY.tbl 109 = some (.val pf109) := rfl
theorem EY_s : EY.tbl 110 = some (.val pf110) := rfl
theorem EY_h : EY.tbl 118 = some (.val pf118) := rfl
theorem EY_x : EY.tbl 117 = some (.val pf117) := rfl
theorem EY_w : EY.tbl 115 = some (.val (fun xs => pf115 (xs.map norm))) := rfl
theorem EY_i : EY.tbl 116 = some (.val pf116) := rfl
theorem whole4_at {n : Nat} {b : List (BitVec 8)} {fl : Fl} (hn : n = b.length) (hb : b.length ≤ 400000) : pf115 [.sl n (nums .u8 b) fl] = some (.sl (padB b).length (nums .u8 (padB b)) (.own ⟨0, 0, 0, 0⟩ 1)) := by
  simp only [pf115, row?_at hn, Option.bind_some, if_pos hb]
theorem bits4_at {m : Nat} (h : m ≤ 400000) : pf116 [.raw (.int .i64 (m : Int))] = some (.sl 8 (nums .u8 (lenK [] m 8)) (.own ⟨0, 0, 0, 0⟩ 1)) := by
  have hz : (0 : Int) ≤ (m : Int) ∧ (m : Int) ≤ 400000 := by omega
  simp only [pf116, if_pos hz, Int.toNat_natCast]
def pf51 : List AV → Option AV
  | [v, u, x, w] => (agg? .u8 8 32 v).bind fun k => (agg? .u8 8 12 u).bind fun n => (row? .u8 8 x).bind fun a => (row? .u8 8 w).bind fun t => if a.length ≤ 400000 ∧ t.length ≤ 400000 then some (.agg (nums .u8 (tagB k n a t))) else none
  | _ => none
theorem z8 (n : Nat) : (lenK [] n 8).length = 8 := lenK_len [] n 8
set_option maxRecDepth 20000 in
theorem sound51 : SoundV Try.prog glob 51 pf51 := by
  refine SoundV.walk EY okY mixed Try.func51 rfl Try.call51 (by kernel_rfl) ?_
  intro args r hr
  unfold pf51 at hr
  split at hr
  · rename_i v u x w
    simp only [Option.bind_eq_some_iff] at hr
    obtain ⟨k, h1, n, h2, a, h3, t, h4, hr⟩ := hr
    split at hr
    · rename_i hc
      obtain ⟨ha, ht⟩ := hc
      cases hr
      obtain ⟨rfl, hk⟩ := agg?_of h1
      obtain ⟨rfl, hn⟩ := agg?_of h2
      obtain ⟨fl, rfl⟩ := row?_of h3
      obtain ⟨fl', rfl⟩ := row?_of h4
      rw [Try.ntmps51, Try.results51]
      have lX := expF_len hk
      have lC := ctrB_len hn 1#32
      have pa := padN_lt a.length
      have pt := padN_lt t.length
      have hT : tagB k n a t = xorB (hashB (encB (expF k) (List.replicate 16 0#8)) (padB a ++ padB t ++ lenK [] a.length 8 ++ lenK [] t.length 8)) (encB (expF k) (ctrB n 1#32)) := by rw [tagB, tagged_is]
      have lP : (padB a ++ padB t ++ lenK [] a.length 8 ++ lenK [] t.length 8).length ≤ 1000000 := by
        simp only [List.length_append, padB_len, z8]; omega
      rw [hT]
      have lF : (xorB (hashB (encB (expF k) (List.replicate 16 0#8)) (padB a ++ padB t ++ lenK [] a.length 8 ++ lenK [] t.length 8)) (encB (expF k) (ctrB n 1#32))).length = 16 := xorB_len (hashB_len _ _)
      refine ⟨by simp, ?_⟩
      simp (maxSteps := 1000000) (disch := first | omega | (simp only [updB, updI, dsB, reduceCtorEq, Nat.reduceEqDiff, Abs.Id.mk.injEq, and_false, false_and, and_true, true_and, if_false, ↓reduceIte, Option.isSome_some, *]; done) | (simp only [z8, boxL_len, encB_len, hashB_len, padB_len, lnB] <;> omega) | fail) only [ev0, ev1, ev2, ev3, ↓reduceIte, reduceCtorEq, Nat.reduceAdd, Nat.reduceSub, Nat.reduceMul, Nat.reduceLT, Nat.reduceLeDiff, Nat.reduceEqDiff, Nat.reduceBEq, BitVec.reduceOfInt, Int.reduceLE, Int.reduceLT, Int.reduceGT, Int.reduceGE, Int.reduceNeg, Int.reduceAdd, Int.reduceSub, Int.reduceMul, Int.reduceToNat, ↓bind_go, ↓map_go, wantedV, isWrite, grow, write, ofV, AV.cells, Abs.start, Abs.strip, endQ, resV, rawsRes, rawRes, exports, export1, AS.grown, AS.put, Env.know, Env.boxed, isSelf, convSelf, convV, loadV, storeV, fieldAddrV, fieldV, indexAddrV, indexV, partV, isAggK, isStr, place, lenV, min2V, makeV, freshSl, sliceV, boundOr, bound, bounds, cutFl, copyV, slCells, srcV, appendV, room, zerosOf, eqNeg, kd, takeR, hasViewL, hasView, freshR, freshC, snapAll, snap, snapL, flatL, pureL, pureA, fillC, arrOK, oneA, partB, AV.laid, ren1, CR.gr, applyW, useL, AS.mute, isGen, startG, ev5, teE, EY_te, EY_glob, EY_gs, EY_dyn, EY_mu, EY_e, EY_b, EY_c, EY_s, EY_h, EY_x, EY_w, EY_i, exp2_at, box2_at, ctr4_one, enc2_at, hash3_at, xor3_go, whole4_at, bits4_at, nums_strip, nums_set8, nums_ren, boxL_len, encB_len, hashB_len, z8, glob, Nat.reduceMod, splice0, hk, hn, lX, lC, lP, lF]
      exact ResQ.same rfl
    · cases hr
  · cases hr
noncomputable def EQ : Env := (E0.know 49 pf49).know 51 pf51
theorem okQ : EnvOK Try.prog EQ := (ok0.know sound49).know sound51
theorem EQ_te : EQ.te = te := rfl
theorem EQ_glob : EQ.glob = glob := rfl
theorem EQ_gs : EQ.gs = [] := rfl
theorem EQ_dyn : EQ.dyn = false := rfl
theorem EQ_mu (d : Nat) : EQ.mu d = false := rfl
theorem EQ_x : EQ.tbl 49 = some (.val pf49) := rfl
theorem EQ_t : EQ.tbl 51 = some (.val pf51) := rfl
theorem xor4_at {k n : List (BitVec 8)} {c : BitVec 32} {m : Nat} {b : List (BitVec 8)} {fl : Fl} (hk : k.length = 32) (hn : n.length = 12) (hm : m = b.length) (hb : b.length ≤ 1000000) : pf49 [.agg (nums .u8 k), .agg (nums .u8 n), .raw (.int .u32 (c.toNat : Int)), .sl m (nums .u8 b) fl] = some (.sl (gxorB k n c b).length (nums .u8 (gxorB k n c b)) (.own ⟨0, 0, 0, 0⟩ 1)) := by
  simp only [pf49, agg?_at hk, agg?_at hn, num?_num, row?_at hm, Option.bind_some, if_pos hb]
theorem xor4_two {k n : List (BitVec 8)} {m : Nat} {b : List (BitVec 8)} {fl : Fl} (hk : k.length = 32) (hn : n.length = 12) (hm : m = b.length) (hb : b.length ≤ 1000000) : pf49 [.agg (nums .u8 k), .agg (nums .u8 n), .raw (.int .u32 2), .sl m (nums .u8 b) fl] = some (.sl (gxorB k n 2#32 b).length (nums .u8 (gxorB k n 2#32 b)) (.own ⟨0, 0, 0, 0⟩ 1)) := xor4_at (c := 2#32) hk hn hm hb
theorem tag4_at {k n : List (BitVec 8)} {m m' : Nat} {a b : List (BitVec 8)} {fl fl' : Fl} (hk : k.length = 32) (hn : n.length = 12) (hm : m = a.length) (hm' : m' = b.length) (ha : a.length ≤ 400000) (hb : b.length ≤ 400000) : pf51 [.agg (nums .u8 k), .agg (nums .u8 n), .sl m (nums .u8 a) fl, .sl m' (nums .u8 b) fl'] = some (.agg (nums .u8 (tagB k n a b))) := by
  have hc : a.length ≤ 400000 ∧ b.length ≤ 400000 := ⟨ha, hb⟩
  simp only [pf51, agg?_at hk, agg?_at hn, row?_at hm, row?_at hm', Option.bind_some, if_pos hc]
def pf55 : List AV → Option AV
  | [v, u, x, w] => (agg? .u8 8 32 v).bind fun k => (agg? .u8 8 12 u).bind fun n => (row? .u8 8 x).bind fun a => (row? .u8 8 w).bind fun t => if a.length ≤ 400000 ∧ t.length ≤ 400000 then some (.sl (sealB k n a t).length (nums .u8 (sealB k n a t)) (.own ⟨0, 0, 0, 0⟩ 1)) else none
  | _ => none
def tbVj1 := (And.intro (And.intro (And.intro @teE (And.intro @EQ_te @EQ_glob)) (And.intro (And.intro @EQ_gs @EQ_dyn) (And.intro @EQ_mu @EQ_x))) (And.intro (And.intro (And.intro @EQ_t @xor4_two) (And.intro @tag4_at @nums_strip)) (And.intro (And.intro @nums_set8 @splice0) (And.intro @tagB_len @gxorB_len))))
theorem sound55 : SoundV Try.prog glob 55 pf55 := by
  refine SoundV.walk EQ okQ mixed Try.func55 rfl Try.call55 (by kernel_rfl) ?_
  intro args r hr
  unfold pf55 at hr
  split at hr
  · rename_i v u x w
    simp only [Option.bind_eq_some_iff] at hr
    obtain ⟨k, h1, n, h2, a, h3, t, h4, hr⟩ := hr
    split at hr
    · rename_i hc
      obtain ⟨ha, ht⟩ := hc
      cases hr
      obtain ⟨rfl, hk⟩ := agg?_of h1
      obtain ⟨rfl, hn⟩ := agg?_of h2
      obtain ⟨fl, rfl⟩ := row?_of h3
      obtain ⟨fl', rfl⟩ := row?_of h4
      rw [Try.ntmps55, Try.results55]
      refine ⟨by simp, ?_⟩
      simp (maxSteps := 1000000) (disch := first | omega | (simp only [updB, updI, dsB, reduceCtorEq, Nat.reduceEqDiff, Abs.Id.mk.injEq, and_false, false_and, and_true, true_and, if_false, ↓reduceIte, Option.isSome_some, *]; done) | (simp only [gxorB_len, tagB_len, sealB_len, lnB] <;> omega) | fail) only [ev0, ev1, ev2, ev3, ↓reduceIte, reduceCtorEq, Nat.reduceAdd, Nat.reduceSub, Nat.reduceMul, Nat.reduceLT, Nat.reduceLeDiff, Nat.reduceEqDiff, Nat.reduceBEq, BitVec.reduceOfInt, Int.reduceLE, Int.reduceLT, Int.reduceGT, Int.reduceGE, Int.reduceNeg, Int.reduceAdd, Int.reduceSub, Int.reduceMul, Int.reduceToNat, ↓bind_go, ↓map_go, wantedV, isWrite, grow, write, ofV, AV.cells, Abs.start, Abs.strip, endQ, resV, rawsRes, rawRes, exports, export1, AS.grown, AS.put, Env.know, Env.boxed, isSelf, convSelf, convV, loadV, storeV, fieldAddrV, fieldV, indexAddrV, indexV, partV, isAggK, isStr, place, lenV, min2V, makeV, freshSl, sliceV, boundOr, bound, bounds, cutFl, copyV, slCells, srcV, appendV, room, zerosOf, eqNeg, kd, takeR, hasViewL, hasView, freshR, freshC, snapAll, snap, snapL, flatL, pureL, pureA, fillC, arrOK, oneA, partB, AV.laid, ren1, CR.gr, applyW, useL, AS.mute, isGen, startG, ev5, tbVj1, glob, Nat.reduceMod, hk, hn]
      exact ResQ.same (row_eq (sealB_len k n a t).symm rfl)
    · cases hr
  · cases hr
def pf54 : List AV → Option AV
  | [v, u, x, w] => (agg? .u8 8 32 v).bind fun k => (agg? .u8 8 12 u).bind fun n => (row? .u8 8 x).bind fun a => (row? .u8 8 w).bind fun t => if a.length ≤ 400000 ∧ t.length ≤ 400000 then some (.tup [.sl (openT k n a t).length (nums .u8 (openT k n a t)) .bor, .raw (.int .i64 (openE k n a t))]) else none
  | _ => none
theorem map_u8_inj {l m : List (BitVec 8)} (h : l.map UInt8.ofBitVec = m.map UInt8.ofBitVec) : l = m := by
  have := congrArg (List.map UInt8.toBitVec) h
  simpa [List.map_map, Function.comp_def] using this
theorem sound54 : SoundV Try.prog glob 54 pf54 := by
  refine SoundV.walk EQ okQ mixed Try.func54 rfl Try.call54 (by kernel_rfl) ?_
  intro args r hr
  unfold pf54 at hr
  split at hr
  · rename_i v u x w
    simp only [Option.bind_eq_some_iff] at hr
    obtain ⟨k, h1, n, h2, a, h3, t, h4, hr⟩ := hr
    split at hr
    · rename_i hc
      obtain ⟨ha, ht⟩ := hc
      cases hr
      obtain ⟨rfl, hk⟩ := agg?_of h1
      obtain ⟨rfl, hn⟩ := agg?_of h2
      obtain ⟨fl, rfl⟩ := row?_of h3
      obtain ⟨fl', rfl⟩ := row?_of h4
      rw [Try.ntmps54, Try.results54]
      refine ⟨by simp, ?_⟩
      by_cases h16 : t.length < 16
      · rw [show openT k n a t = [] by rw [openT, if_pos h16], show openE k n a t = 3 by rw [openE, if_pos h16]]
        have e1 : decide ((t.length : Int) - 16 < 0) = true := decide_eq_true (by omega)
        simp (maxSteps := 1000000) (disch := first | omega | (simp only [updB, updI, dsB, reduceCtorEq, Nat.reduceEqDiff, Abs.Id.mk.injEq, and_false, false_and, and_true, true_and, if_false, ↓reduceIte, Option.isSome_some, *]; done) | (simp only [gxorB_len, tagB_len, sealB_len, lnB] <;> omega) | fail) only [ev0, ev1, ev2, ev3, ↓reduceIte, reduceCtorEq, Nat.reduceAdd, Nat.reduceSub, Nat.reduceMul, Nat.reduceLT, Nat.reduceLeDiff, Nat.reduceEqDiff, Nat.reduceBEq, BitVec.reduceOfInt, Int.reduceLE, Int.reduceLT, Int.reduceGT, Int.reduceGE, Int.reduceNeg, Int.reduceAdd, Int.reduceSub, Int.reduceMul, Int.reduceToNat, ↓bind_go, ↓map_go, wantedV, isWrite, grow, write, ofV, AV.cells, Abs.start, Abs.strip, endQ, resV, rawsRes, rawRes, exports, export1, AS.grown, AS.put, Env.know, Env.boxed, isSelf, convSelf, convV, loadV, storeV, fieldAddrV, fieldV, indexAddrV, indexV, partV, isAggK, isStr, place, lenV, min2V, makeV, freshSl, sliceV, boundOr, bound, bounds, cutFl, copyV, slCells, srcV, appendV, room, zerosOf, eqNeg, kd, takeR, hasViewL, hasView, freshR, freshC, snapAll, snap, snapL, flatL, pureL, pureA, fillC, arrOK, oneA, partB, AV.laid, ren1, CR.gr, applyW, useL, AS.mute, isGen, startG, ev5, tbVj1, glob, Nat.reduceMod, hk, hn, e1]
        exact resQ_2nil
      · obtain ⟨z, hz⟩ : ∃ z, t.length = z + 16 := ⟨t.length - 16, by omega⟩
        have e1 : decide ((t.length : Int) - 16 < 0) = false := decide_eq_false (by omega)
        have lT : (t.take z).length = z := by rw [List.length_take]; omega
        have hT : openT k n a t = if dfK (tagB k n a (t.take z)) t z 16 = 0#8 then gxorB k n 2#32 (t.take z) else [] := by
          rw [openT, if_neg h16, show t.length - 16 = z by omega]
        have hE : openE k n a t = if dfK (tagB k n a (t.take z)) t z 16 = 0#8 then 0 else 40 := by
          rw [openE, if_neg h16, show t.length - 16 = z by omega]
        obtain ⟨g, hg⟩ : ∃ g, tagB k n a (t.take z) = g := ⟨_, rfl⟩
        have lG : g.length = 16 := by rw [← hg]; exact tagB_len _ _ _ _
        have hz2 : t.length - 16 = z := by omega
        rw [hg] at hT hE
        have hD : dfK g t z 16 = 0#8 ↔ g = t.drop z := by
          rw [dfK_zero]
          constructor
          · intro h
            refine ext_getD (by rw [lG, List.length_drop]; omega) fun i hi => ?_
            rw [getD_dropD]
            exact h i (by omega)
          · intro h i hi
            rw [h, getD_dropD]
        by_cases hd : dfK g t z 16 = 0#8
        · rw [if_pos hd] at hT hE
          rw [hT, hE]
          have e2 : (g.map UInt8.ofBitVec == (t.drop z).map UInt8.ofBitVec) = true := by rw [← hD.1 hd]; exact beq_self_eq_true _
          have e3 : t.length - z = 16 := by omega
          simp (maxSteps := 1000000) (disch := first | omega | (simp only [updB, updI, dsB, reduceCtorEq, Nat.reduceEqDiff, Abs.Id.mk.injEq, and_false, false_and, and_true, true_and, if_false, ↓reduceIte, Option.isSome_some, *]; done) | (simp only [gxorB_len, tagB_len, sealB_len, lnB] <;> omega) | fail) only [ev0, ev1, ev2, ev3, ↓reduceIte, reduceCtorEq, Nat.reduceAdd, Nat.reduceSub, Nat.reduceMul, Nat.reduceLT, Nat.reduceLeDiff, Nat.reduceEqDiff, Nat.reduceBEq, BitVec.reduceOfInt, Int.reduceLE, Int.reduceLT, Int.reduceGT, Int.reduceGE, Int.reduceNeg, Int.reduceAdd, Int.reduceSub, Int.reduceMul, Int.reduceToNat, ↓bind_go, ↓map_go, wantedV, isWrite, grow, write, ofV, AV.cells, Abs.start, Abs.strip, endQ, resV, rawsRes, rawRes, exports, export1, AS.grown, AS.put, Env.know, Env.boxed, isSelf, convSelf, convV, loadV, storeV, fieldAddrV, fieldV, indexAddrV, indexV, partV, isAggK, isStr, place, lenV, min2V, makeV, freshSl, sliceV, boundOr, bound, bounds, cutFl, copyV, slCells, srcV, appendV, room, zerosOf, eqNeg, kd, takeR, hasViewL, hasView, freshR, freshC, snapAll, snap, snapL, flatL, pureL, pureA, fillC, arrOK, oneA, partB, AV.laid, ren1, CR.gr, applyW, useL, AS.mute, isGen, startG, ev5, tbVj1, glob, Nat.reduceMod, hk, hn, e1, lT, hz2, hg, lG, e2, e3]
          exact resQ_2
        · rw [if_neg hd] at hT hE
          rw [hT, hE]
          have e2 : (g.map UInt8.ofBitVec == (t.drop z).map UInt8.ofBitVec) = false := by
            rw [beq_eq_false_iff_ne]
            exact fun h => hd (hD.2 (map_u8_inj h))
          have e3 : t.length - z = 16 := by omega
          simp (maxSteps := 1000000) (disch := first | omega | (simp only [updB, updI, dsB, reduceCtorEq, Nat.reduceEqDiff, Abs.Id.mk.injEq, and_false, false_and, and_true, true_and, if_false, ↓reduceIte, Option.isSome_some, *]; done) | (simp only [gxorB_len, tagB_len, sealB_len, lnB] <;> omega) | fail) only [ev0, ev1, ev2, ev3, ↓reduceIte, reduceCtorEq, Nat.reduceAdd, Nat.reduceSub, Nat.reduceMul, Nat.reduceLT, Nat.reduceLeDiff, Nat.reduceEqDiff, Nat.reduceBEq, BitVec.reduceOfInt, Int.reduceLE, Int.reduceLT, Int.reduceGT, Int.reduceGE, Int.reduceNeg, Int.reduceAdd, Int.reduceSub, Int.reduceMul, Int.reduceToNat, ↓bind_go, ↓map_go, wantedV, isWrite, grow, write, ofV, AV.cells, Abs.start, Abs.strip, endQ, resV, rawsRes, rawRes, exports, export1, AS.grown, AS.put, Env.know, Env.boxed, isSelf, convSelf, convV, loadV, storeV, fieldAddrV, fieldV, indexAddrV, indexV, partV, isAggK, isStr, place, lenV, min2V, makeV, freshSl, sliceV, boundOr, bound, bounds, cutFl, copyV, slCells, srcV, appendV, room, zerosOf, eqNeg, kd, takeR, hasViewL, hasView, freshR, freshC, snapAll, snap, snapL, flatL, pureL, pureA, fillC, arrOK, oneA, partB, AV.laid, ren1, CR.gr, applyW, useL, AS.mute, isGen, startG, ev5, tbVj1, glob, Nat.reduceMod, hk, hn, e1, lT, hz2, hg, lG, e2, e3]
          exact resQ_2nil
    · cases hr
  · cases hr
end Go.Proofs.Ytjnmdphoaafjaaa
