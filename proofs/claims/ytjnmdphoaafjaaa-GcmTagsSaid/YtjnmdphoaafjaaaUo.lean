/- The laws about lengths: what the walk comes to. -/
import Derived.Test.YtjnmdphoaafjaaaUm
import Derived.Test.YtjnmdphoaafjaaaUn
namespace Go.Proofs.Ytjnmdphoaafjaaa
set_option linter.unusedSimpArgs false
set_option linter.unusedVariables false
set_option linter.defProp false
open Go Go.Abs
set_option maxHeartbeats 16000000
/-- a box: key, nonce, what stands beside -/
structure Bk where
  k : List (BitVec 8)
  n : List (BitVec 8)
  a : List (BitVec 8)
def bkA (c : Bk) : List AV := nums .u8 c.k ++ (nums .u8 c.n ++ [.sl c.a.length (nums .u8 c.a) .bor])
def okB (c : Bk) : Prop := c.k.length = 32 ∧ c.n.length = 12 ∧ c.a.length ≤ 9223372036854775807
noncomputable def bk? (v : AV) : Option Bk := open Classical in if h : ∃ c, v = .agg (bkA c) ∧ okB c then some h.choose else none
theorem bk?_of {v : AV} {c : Bk} (h : bk? v = some c) : v = .agg (bkA c) ∧ okB c := by
  unfold bk? at h
  split at h
  · rename_i h0; cases h; exact h0.choose_spec
  · cases h
theorem bk?_at {c : Bk} (h : okB c) : ∃ e, bk? (.agg (bkA c)) = some e := by
  have h0 : ∃ e, (.agg (bkA c) : AV) = .agg (bkA e) ∧ okB e := ⟨c, rfl, h⟩
  unfold bk?
  rw [dif_pos h0]
  exact ⟨_, rfl⟩
theorem bkA_len {c : Bk} (h : okB c) : (bkA c).length = 45 := by
  obtain ⟨h1, h2, _⟩ := h
  simp only [bkA, List.length_append, nums_len, h1, h2, List.length_cons, List.length_nil]
theorem bkA_strip (c : Bk) : List.map strip (bkA c) = bkA c := by
  simp only [bkA, List.map_append, nums_strip]
  rfl
theorem bkA_key {c : Bk} (h : c.k.length = 32) : (bkA c).take 32 = nums .u8 c.k := by
  rw [bkA, List.take_left' (by rw [nums_len, h])]
theorem bkA_nonce {c : Bk} (h : c.k.length = 32) (h2 : c.n.length = 12) : ((bkA c).drop 32).take 12 = nums .u8 c.n := by
  rw [bkA, List.drop_left' (by rw [nums_len, h]), List.take_left' (by rw [nums_len, h2])]
theorem bkA_a {c : Bk} (h : c.k.length = 32) (h2 : c.n.length = 12) : (bkA c)[44]? = some (.sl c.a.length (nums .u8 c.a) .bor) := by
  rw [bkA, List.getElem?_append_right (by rw [nums_len, h]; omega), List.getElem?_append_right (by rw [nums_len, nums_len, h, h2]; omega), nums_len, nums_len, h, h2]
  rfl
noncomputable def EA : Env := E9.know 46 pf46
theorem okA : EnvOK Try.prog EA := ok9.know sound46
theorem EA_te : EA.te = te := rfl
theorem EA_glob : EA.glob = glob := rfl
theorem EA_gs : EA.gs = [] := rfl
theorem EA_dyn : EA.dyn = false := rfl
theorem EA_mu (d : Nat) : EA.mu d = false := rfl
theorem EA_x : EA.tbl 48 = some (.val (fun xs => pf48 (xs.map norm))) := rfl
theorem EA_t : EA.tbl 50 = some (.val (fun xs => pf50 (xs.map norm))) := rfl
theorem EA_s : EA.tbl 52 = some (.val (fun xs => pf52 (xs.map norm))) := rfl
theorem EA_o : EA.tbl 53 = some (.val (fun xs => pf53 (xs.map norm))) := rfl
theorem EA_f : EA.tbl 47 = some (.val (fun xs => pf47 (xs.map norm))) := rfl
theorem EA_w : EA.tbl 46 = some (.val pf46) := rfl
theorem shown_at : pf46 [] = some (.raw (.bool true)) := rfl
noncomputable def pf17 : List AV → Option AV
  | [v, w] => (bk? v).bind fun c => (row? .u8 8 w).bind fun t => if t.length ≤ 9223372036854775807 then some (.raw (.bool true)) else none
  | _ => none
def tbUo0 := (And.intro (And.intro (And.intro (And.intro @teE (And.intro @EA_te @EA_glob)) (And.intro (And.intro @EA_gs @EA_dyn) (And.intro @EA_mu @EA_x))) (And.intro (And.intro @EA_t (And.intro @EA_s @EA_o)) (And.intro (And.intro @EA_f @EA_w) (And.intro @shown_at @few_at)))) (And.intro (And.intro (And.intro @gseal_at (And.intro @gopen_at @gtag_at)) (And.intro (And.intro @gxor_at @gxor_two) (And.intro @bkA_strip @bkA_key))) (And.intro (And.intro @bkA_nonce (And.intro @bkA_a @nums_strip)) (And.intro (And.intro @tagB_len @gxorB_len) (And.intro @sealB_len @bq3)))))
theorem sound17 : SoundV Try.prog glob 17 pf17 := by
  refine SoundV.walk EA okA mixed Try.func17 rfl Try.call17 (by kernel_rfl) ?_
  intro args r hr
  unfold pf17 at hr
  split at hr
  · rename_i v w
    simp only [Option.bind_eq_some_iff] at hr
    obtain ⟨c, h1, t, h2, hr⟩ := hr
    split at hr
    · rename_i ht
      cases hr
      obtain ⟨rfl, hok⟩ := bk?_of h1
      obtain ⟨fl, rfl⟩ := row?_of h2
      have lB := bkA_len hok
      obtain ⟨hk, hn, ha⟩ := hok
      rw [Try.ntmps17, Try.results17]
      refine ⟨by simp, ?_⟩
      have e1 : (((min 1000 t.length + 16 : Nat) : Int) == ((min 1000 t.length : Nat) : Int) + 16) = true := beq_iff_eq.2 (by omega)
      simp (maxSteps := 1000000) (disch := first | omega | (simp only [gxorB_len, tagB_len, sealB_len, lnB] <;> omega) | fail) only [ev0, ev1, ev2, ev3, ↓reduceIte, reduceCtorEq, Nat.reduceAdd, Nat.reduceSub, Nat.reduceMul, Nat.reduceLT, Nat.reduceLeDiff, Nat.reduceEqDiff, Nat.reduceBEq, BitVec.reduceOfInt, Int.reduceLE, Int.reduceLT, Int.reduceGT, Int.reduceGE, Int.reduceNeg, Int.reduceAdd, Int.reduceSub, Int.reduceMul, Int.reduceToNat, ↓bind_go, ↓map_go, wantedV, isWrite, grow, write, ofV, AV.cells, Abs.start, Abs.strip, endQ, resV, rawsRes, rawRes, exports, export1, AS.grown, AS.put, Env.know, Env.boxed, isSelf, convSelf, convV, loadV, storeV, fieldAddrV, fieldV, indexAddrV, indexV, partV, isAggK, isStr, place, lenV, min2V, makeV, freshSl, sliceV, boundOr, bound, bounds, cutFl, copyV, slCells, srcV, appendV, room, zerosOf, eqNeg, kd, takeR, hasViewL, hasView, freshR, freshC, snapAll, snap, snapL, flatL, pureL, pureA, fillC, arrOK, oneA, partB, AV.laid, ren1, CR.gr, applyW, useL, AS.mute, isGen, startG, ev5, tbUo0, glob, hk, hn, lB, e1]
      rw [(open_short (by simp only [List.length_take]; omega)).2]
      exact ResQ.same rfl
    · cases hr
  · cases hr
/-- a text and where it is cut -/
def cutA (t : List (BitVec 8)) (z : Int) : List AV := [.sl t.length (nums .u8 t) .bor, .raw (.int .i64 z)]
noncomputable def pf16 : List AV → Option AV
  | [v, u, .agg [w, .raw (.int .i64 z)]] => (bk? v).bind fun c => (num? .u32 32 u).bind fun f => (row? .u8 8 w).bind fun t => if t.length ≤ 9223372036854775807 ∧ -9223372036854775808 ≤ z ∧ z ≤ 9223372036854775807 then some (.raw (.bool true)) else none
  | _ => none
theorem sound16 : SoundV Try.prog glob 16 pf16 := by
  refine SoundV.walk EA okA mixed Try.func16 rfl Try.call16 (by kernel_rfl) ?_
  intro args r hr
  unfold pf16 at hr
  split at hr
  · rename_i v u w z
    simp only [Option.bind_eq_some_iff] at hr
    obtain ⟨c, h1, f, h3, t, h2, hr⟩ := hr
    split at hr
    · rename_i ht
      cases hr
      obtain ⟨rfl, hok⟩ := bk?_of h1
      obtain ⟨fl, rfl⟩ := row?_of h2
      have lB := bkA_len hok
      obtain ⟨hk, hn, ha⟩ := hok
      obtain ⟨ht, hz1, hz2⟩ := ht
      rw [num?_of h3, Try.ntmps16, Try.results16]
      refine ⟨by simp, ?_⟩
      by_cases hz : z < 0
      · have e1 : decide (z < 0) = true := decide_eq_true hz
        simp (maxSteps := 1000000) (disch := first | omega | (simp only [gxorB_len, tagB_len, sealB_len, lnB] <;> omega) | fail) only [ev0, ev1, ev2, ev3, ↓reduceIte, reduceCtorEq, Nat.reduceAdd, Nat.reduceSub, Nat.reduceMul, Nat.reduceLT, Nat.reduceLeDiff, Nat.reduceEqDiff, Nat.reduceBEq, BitVec.reduceOfInt, Int.reduceLE, Int.reduceLT, Int.reduceGT, Int.reduceGE, Int.reduceNeg, Int.reduceAdd, Int.reduceSub, Int.reduceMul, Int.reduceToNat, ↓bind_go, ↓map_go, wantedV, isWrite, grow, write, ofV, AV.cells, Abs.start, Abs.strip, endQ, resV, rawsRes, rawRes, exports, export1, AS.grown, AS.put, Env.know, Env.boxed, isSelf, convSelf, convV, loadV, storeV, fieldAddrV, fieldV, indexAddrV, indexV, partV, isAggK, isStr, place, lenV, min2V, makeV, freshSl, sliceV, boundOr, bound, bounds, cutFl, copyV, slCells, srcV, appendV, room, zerosOf, eqNeg, kd, takeR, hasViewL, hasView, freshR, freshC, snapAll, snap, snapL, flatL, pureL, pureA, fillC, arrOK, oneA, partB, AV.laid, ren1, CR.gr, applyW, useL, AS.mute, isGen, startG, ev5, tbUo0, glob, hk, hn, lB, e1]
        exact ResQ.same rfl
      · have e1 : decide (z < 0) = false := decide_eq_false hz
        obtain ⟨m, rfl⟩ := Int.eq_ofNat_of_zero_le (show 0 ≤ z by omega)
        simp (maxSteps := 1000000) (disch := first | omega | (simp only [gxorB_len, tagB_len, sealB_len, lnB] <;> omega) | fail) only [ev0, ev1, ev2, ev3, ↓reduceIte, reduceCtorEq, Nat.reduceAdd, Nat.reduceSub, Nat.reduceMul, Nat.reduceLT, Nat.reduceLeDiff, Nat.reduceEqDiff, Nat.reduceBEq, BitVec.reduceOfInt, Int.reduceLE, Int.reduceLT, Int.reduceGT, Int.reduceGE, Int.reduceNeg, Int.reduceAdd, Int.reduceSub, Int.reduceMul, Int.reduceToNat, ↓bind_go, ↓map_go, wantedV, isWrite, grow, write, ofV, AV.cells, Abs.start, Abs.strip, endQ, resV, rawsRes, rawRes, exports, export1, AS.grown, AS.put, Env.know, Env.boxed, isSelf, convSelf, convV, loadV, storeV, fieldAddrV, fieldV, indexAddrV, indexV, partV, isAggK, isStr, place, lenV, min2V, makeV, freshSl, sliceV, boundOr, bound, bounds, cutFl, copyV, slCells, srcV, appendV, room, zerosOf, eqNeg, kd, takeR, hasViewL, hasView, freshR, freshC, snapAll, snap, snapL, flatL, pureL, pureA, fillC, arrOK, oneA, partB, AV.laid, ren1, CR.gr, applyW, useL, AS.mute, isGen, startG, ev5, tbUo0, glob, hk, hn, lB, e1]
        have hl : (t.take 1000).length = min 1000 t.length := List.length_take
        have e2 : (if 16 * ((m : Int) % 64) < ((min 1000 t.length : Nat) : Int) then 16 * ((m : Int) % 64) else ((min 1000 t.length : Nat) : Int)).toNat = min (t.take 1000).length (16 * (m % 64)) := by
          rw [hl]
          split <;> omega
        have e3 : BitVec.ofInt 32 ((m : Int) % 64) = BitVec.ofNat 32 (m % 64) := by
          rw [show (m : Int) % 64 = ((m % 64 : Nat) : Int) by omega, BitVec.ofInt_natCast]
        rw [e2, e3, ← List.map_append, gxor_cut hn, beq_self_eq_true]
        exact ResQ.same rfl
    · cases hr
  · cases hr
noncomputable def pf15 : List AV → Option AV
  | [v, u, w] => (bk? v).bind fun c => (row? .u8 8 u).bind fun x => (row? .u8 8 w).bind fun t => if t.length ≤ 9223372036854775807 ∧ x.length ≤ 9223372036854775807 then some (.raw (.bool true)) else none
  | _ => none
theorem sound15 : SoundV Try.prog glob 15 pf15 := by
  refine SoundV.walk EA okA mixed Try.func15 rfl Try.call15 (by kernel_rfl) ?_
  intro args r hr
  unfold pf15 at hr
  split at hr
  · rename_i v u w
    simp only [Option.bind_eq_some_iff] at hr
    obtain ⟨c, h1, x, h3, t, h2, hr⟩ := hr
    split at hr
    · rename_i ht
      cases hr
      obtain ⟨rfl, hok⟩ := bk?_of h1
      obtain ⟨fl, rfl⟩ := row?_of h2
      obtain ⟨fl', rfl⟩ := row?_of h3
      have lB := bkA_len hok
      obtain ⟨hk, hn, ha⟩ := hok
      obtain ⟨ht, hx⟩ := ht
      rw [Try.ntmps15, Try.results15]
      refine ⟨by simp, ?_⟩
      have e1 : (((min 1000 t.length + 16 : Nat) : Int) != ((min 1000 t.length : Nat) : Int) + 16) = false := bne_eq_false_iff_eq.2 (by omega)
      have e2 : ∀ a, (sealB c.k c.n a (t.take 1000)).take (min 1000 t.length) = gxorB c.k c.n 2#32 (t.take 1000) := fun a => by
        rw [← List.length_take, seal_take]
      have e3 : ∀ a, (sealB c.k c.n a (t.take 1000)).drop (min 1000 t.length) = tagB c.k c.n a (gxorB c.k c.n 2#32 (t.take 1000)) := fun a => by
        rw [← List.length_take, seal_drop]
      simp (maxSteps := 1000000) (disch := first | omega | (simp only [gxorB_len, tagB_len, sealB_len, lnB] <;> omega) | fail) only [ev0, ev1, ev2, ev3, ↓reduceIte, reduceCtorEq, Nat.reduceAdd, Nat.reduceSub, Nat.reduceMul, Nat.reduceLT, Nat.reduceLeDiff, Nat.reduceEqDiff, Nat.reduceBEq, BitVec.reduceOfInt, Int.reduceLE, Int.reduceLT, Int.reduceGT, Int.reduceGE, Int.reduceNeg, Int.reduceAdd, Int.reduceSub, Int.reduceMul, Int.reduceToNat, ↓bind_go, ↓map_go, wantedV, isWrite, grow, write, ofV, AV.cells, Abs.start, Abs.strip, endQ, resV, rawsRes, rawRes, exports, export1, AS.grown, AS.put, Env.know, Env.boxed, isSelf, convSelf, convV, loadV, storeV, fieldAddrV, fieldV, indexAddrV, indexV, partV, isAggK, isStr, place, lenV, min2V, makeV, freshSl, sliceV, boundOr, bound, bounds, cutFl, copyV, slCells, srcV, appendV, room, zerosOf, eqNeg, kd, takeR, hasViewL, hasView, freshR, freshC, snapAll, snap, snapL, flatL, pureL, pureA, fillC, arrOK, oneA, partB, AV.laid, ren1, CR.gr, applyW, useL, AS.mute, isGen, startG, ev5, tbUo0, glob, hk, hn, lB, e1, e2, e3]
      exact ResQ.same rfl
    · cases hr
  · cases hr
end Go.Proofs.Ytjnmdphoaafjaaa
