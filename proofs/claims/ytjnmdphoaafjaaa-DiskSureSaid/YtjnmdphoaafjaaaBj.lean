/- DiskCuts is true. -/
import Derived.Test.YtjnmdphoaafjaaaBi
namespace Go.Proofs.Ytjnmdphoaafjaaa
set_option linter.unusedSimpArgs false
set_option linter.unusedVariables false
set_option linter.defProp false
open Go Go.Abs
set_option maxHeartbeats 4000000
noncomputable def E7 : Env := E6.know 22 pf22
theorem ok7 : EnvOK Try.prog E7 := ok6.know sound22
theorem E7_te : E7.te = te := rfl
theorem E7_glob : E7.glob = glob := rfl
theorem E7_mu (d : Nat) : E7.mu d = false := rfl
theorem E7_gs : E7.gs = [30, 32, 33, 28, 29, 27, 31, 24, 23] := rfl
theorem E7_dyn : E7.dyn = false := rfl
theorem E7_few : E7.tbl 25 = some (.val pf25) := rfl
theorem E7_kind : E7.tbl 26 = some (.val pf26) := rfl
theorem E7_new : E7.tbl 23 = some (.gen gf23) := rfl
theorem E7_ap : E7.tbl 24 = some (.gen gf24) := rfl
theorem E7_cut : E7.tbl 31 = some (.gen gf31) := rfl
theorem E7_sync : E7.tbl 27 = some (.gen gf27) := rfl
theorem E7_read : E7.tbl 29 = some (.gen gf29) := rfl
theorem E7_boot : E7.tbl 28 = some (.gen gf28) := rfl
theorem E7_on : E7.tbl 33 = some (.gen gf33) := rfl
theorem E7_steps : E7.tbl 32 = some (.gen gf32) := rfl
theorem E7_fuse : E7.tbl 30 = some (.gen gf30) := rfl
theorem E7_shown : E7.tbl 22 = some (.val pf22) := rfl
theorem shown_at : pf22 [] = some (.raw (.bool true)) := rfl
def cD1 (t : List (BitVec 8)) : Dk := apD newD 3 t ⟨0, 26, 0, 1⟩
def cD2 (t : List (BitVec 8)) (n : Int) : Dk := cutD (cD1 t) 3 n ⟨0, 29, 0, 1⟩
def cD3 (t c : List (BitVec 8)) : Dk := apD (cD1 t) 3 c ⟨0, 32, 0, 1⟩
def cD4 (t c : List (BitVec 8)) (n : Int) : Dk := apD (cD2 t n) 3 c ⟨0, 32, 0, 1⟩
theorem c1_ok (t : List (BitVec 8)) : okD 1 (cD1 t) := apD_okD (newD_okD 1) (Nat.zero_lt_one) (by decide)
theorem c2_ok (t : List (BitVec 8)) (n : Int) : okD 1 (cD2 t n) := cutD_okD (c1_ok t) (Nat.zero_lt_one) (by decide)
theorem c3_ok (t c : List (BitVec 8)) : okD 1 (cD3 t c) := apD_okD (c1_ok t) (Nat.zero_lt_one) (by decide)
theorem c4_ok (t c : List (BitVec 8)) (n : Int) : okD 1 (cD4 t c n) := apD_okD (c2_ok t n) (Nat.zero_lt_one) (by decide)
theorem c1_ren {t : List (BitVec 8)} : (apD newD 3 t ⟨0, 0, 0, 0⟩).ren 0 26 1 = cD1 t := apD_ren (newD_okD 1) 3 t 0 26 1
theorem c2_ren {t : List (BitVec 8)} {n : Int} : (cutD (cD1 t) 3 n ⟨0, 0, 0, 0⟩).ren 0 29 1 = cD2 t n := cutD_ren (c1_ok t) 3 n 0 29 1
theorem c3_ren {t c : List (BitVec 8)} : (apD (cD1 t) 3 c ⟨0, 0, 0, 0⟩).ren 0 32 1 = cD3 t c := apD_ren (c1_ok t) 3 c 0 32 1
theorem c4_ren {t c : List (BitVec 8)} {n : Int} : (apD (cD2 t n) 3 c ⟨0, 0, 0, 0⟩).ren 0 32 1 = cD4 t c n := apD_ren (c2_ok t n) 3 c 0 32 1
theorem c1_now (t : List (BitVec 8)) : ((cD1 t).f 3).now = t := rfl
theorem c2_now (t : List (BitVec 8)) (n : Int) : ((cD2 t n).f 3).now = t.take n.toNat := rfl
theorem c3_now (t c : List (BitVec 8)) : ((cD3 t c).f 3).now = t ++ c := rfl
theorem c4_now (t c : List (BitVec 8)) (n : Int) : ((cD4 t c n).f 3).now = t.take n.toNat ++ c := rfl
section
variable {b : Bx} {bx : Boxes} {us : Abs.Id → Bool} {n : Nat} {fl : Fl} {t c : List (BitVec 8)} {m : Int}
theorem c1_go (hl : t.length ≤ 100) (hb : bx b = some (enc newD)) (ht : n = t.length) : gf24 [.ptr b 0, .raw (.int .i64 3), .sl n (nums .u8 t) fl] bx us = some { v := .ret (.raw (.int .i64 0)), wr := [(b, enc (apD newD 3 t ⟨0, 0, 0, 0⟩))], use := [] } :=
  append_go (k := 3) rfl rfl (by omega) (by refine ⟨?_, ?_, ?_, ?_⟩ <;> first | exact of_decide_eq_true rfl | (unfold i64ok; exact of_decide_eq_true rfl) | (rw [c1_now]; omega) | (rw [c2_now, List.length_take]; omega)) rfl (by show t.length + 0 ≤ _; omega) hb ht rfl
theorem c2_go (hl : t.length ≤ 100) (hm : 0 ≤ m ∧ m ≤ t.length) (hb : bx b = some (enc (cD1 t))) (hu : us ⟨0, 26, 0, 1⟩ = false) : gf31 [.ptr b 0, .raw (.int .i64 3), .raw (.int .i64 m)] bx us = some { v := .ret (.raw (.int .i64 0)), wr := [(b, enc (cutD (cD1 t) 3 m ⟨0, 0, 0, 0⟩))], use := [⟨0, 26, 0, 1⟩] } :=
  cut_go (k := 3) rfl rfl (by omega) (by refine ⟨?_, ?_, ?_, ?_⟩ <;> first | exact of_decide_eq_true rfl | (unfold i64ok; exact of_decide_eq_true rfl) | (rw [c1_now]; omega) | (rw [c2_now, List.length_take]; omega)) rfl (by rw [c1_now]; exact hm) hb (sinceI_at hu)
theorem c2_no (hl : t.length ≤ 100) (hm : ¬ (0 ≤ m ∧ m ≤ t.length)) (hb : bx b = some (enc (cD1 t))) : gf31 [.ptr b 0, .raw (.int .i64 3), .raw (.int .i64 m)] bx us = some { v := .ret (.raw (.int .i64 1)) } :=
  cut_arg (k := 3) rfl rfl (by omega) (by refine ⟨?_, ?_, ?_, ?_⟩ <;> first | exact of_decide_eq_true rfl | (unfold i64ok; exact of_decide_eq_true rfl) | (rw [c1_now]; omega) | (rw [c2_now, List.length_take]; omega)) (by rw [c1_now]; exact hm) hb
theorem c3_go (hl : t.length ≤ 100) (hl2 : c.length ≤ 100) (hb : bx b = some (enc (cD1 t))) (ht : n = c.length) (hu : us ⟨0, 26, 0, 1⟩ = false) : gf24 [.ptr b 0, .raw (.int .i64 3), .sl n (nums .u8 c) fl] bx us = some { v := .ret (.raw (.int .i64 0)), wr := [(b, enc (apD (cD1 t) 3 c ⟨0, 0, 0, 0⟩))], use := [⟨0, 26, 0, 1⟩] } :=
  append_go (k := 3) rfl rfl (by omega) (by refine ⟨?_, ?_, ?_, ?_⟩ <;> first | exact of_decide_eq_true rfl | (unfold i64ok; exact of_decide_eq_true rfl) | (rw [c1_now]; omega) | (rw [c2_now, List.length_take]; omega)) rfl (by rw [c1_now]; omega) hb ht (sinceI_at hu)
theorem c4_go (hl : t.length ≤ 100) (hl2 : c.length ≤ 100) (hb : bx b = some (enc (cD2 t m))) (ht : n = c.length) (hu : us ⟨0, 29, 0, 1⟩ = false) : gf24 [.ptr b 0, .raw (.int .i64 3), .sl n (nums .u8 c) fl] bx us = some { v := .ret (.raw (.int .i64 0)), wr := [(b, enc (apD (cD2 t m) 3 c ⟨0, 0, 0, 0⟩))], use := [⟨0, 29, 0, 1⟩] } :=
  append_go (k := 3) rfl rfl (by omega) (by refine ⟨?_, ?_, ?_, ?_⟩ <;> first | exact of_decide_eq_true rfl | (unfold i64ok; exact of_decide_eq_true rfl) | (rw [c1_now]; omega) | (rw [c2_now, List.length_take]; omega)) rfl (by rw [c2_now, List.length_take]; omega) hb ht (sinceI_at hu)
theorem c3r_go (hl : t.length ≤ 100) (hl2 : c.length ≤ 100) (hb : bx b = some (enc (cD3 t c))) : gf29 [.ptr b 0, .raw (.int .i64 3)] bx us = some { v := .ret (.tup [.sl (t ++ c).length (nums .u8 (t ++ c)) (.own ⟨0, 0, 0, 0⟩ 1), .raw (.int .i64 0)]) } :=
  read_go (k := 3) rfl rfl (by omega) rfl (by rw [c3_now, List.length_append]; omega) hb
theorem c4r_go (hl : t.length ≤ 100) (hl2 : c.length ≤ 100) (hb : bx b = some (enc (cD4 t c m))) : gf29 [.ptr b 0, .raw (.int .i64 3)] bx us = some { v := .ret (.tup [.sl (t.take m.toNat ++ c).length (nums .u8 (t.take m.toNat ++ c)) (.own ⟨0, 0, 0, 0⟩ 1), .raw (.int .i64 0)]) } :=
  read_go (k := 3) rfl rfl (by omega) rfl (by rw [c4_now, List.length_append, List.length_take]; omega) hb
end
def pf6 : List AV → Option AV
  | [u, v, w] => (row? .u8 8 u).bind fun _ => (int? v).bind fun m => (row? .u8 8 w).bind fun _ => if i64ok m then some (.raw (.bool true)) else none
  | _ => none
def tbBj0 := (And.intro (And.intro (And.intro (And.intro @teE (And.intro @E7_te @E7_glob)) (And.intro (And.intro @E7_gs @E7_dyn) (And.intro @E7_mu @E7_few))) (And.intro (And.intro @E7_kind (And.intro @E7_new @E7_ap)) (And.intro (And.intro @E7_cut @E7_sync) (And.intro @E7_read @E7_boot)))) (And.intro (And.intro (And.intro @E7_on (And.intro @E7_steps @E7_fuse)) (And.intro (And.intro @E7_shown @shown_at) (And.intro @kind_at @new_go))) (And.intro (And.intro @enc_ren (And.intro @newD_ren @c1_ren)) (And.intro (And.intro @c2_ren @c3_ren) (And.intro @c4_ren @c1_go)))))
set_option maxRecDepth 20000 in
theorem sound6 : SoundV Try.prog glob 6 pf6 := by
  refine SoundV.walk E7 ok7 mixed Try.func6 rfl Try.call6 (by kernel_rfl) ?_
  intro args r h
  unfold pf6 at h
  split at h
  · simp only [Option.bind_eq_some_iff] at h
    obtain ⟨x, hx, m, hm, y, hy, h⟩ := h
    split at h
    · rename_i ho
      cases h
      obtain ⟨fx, rfl⟩ := row?_of hx
      obtain ⟨fy, rfl⟩ := row?_of hy
      rw [int?_of hm]
      unfold i64ok at ho
      have hx1 : (x.take 100).length ≤ 100 := by rw [List.length_take]; omega
      have hy1 : (y.take 100).length ≤ 100 := by rw [List.length_take]; omega
      rw [Try.ntmps6, Try.results6]
      refine ⟨by simp, ?_⟩
      obtain ⟨t, ht⟩ : ∃ t, t = x.take 100 := ⟨_, rfl⟩
      obtain ⟨c, hc⟩ : ∃ c, c = y.take 100 := ⟨_, rfl⟩
      have few1 : ∀ {n : Nat} {fl : Fl}, n = x.length → pf25 [.sl n (nums .u8 x) fl] = some (.sl t.length (nums .u8 t) .bor) := fun h => by rw [ht]; exact few_at h
      have few2 : ∀ {n : Nat} {fl : Fl}, n = y.length → pf25 [.sl n (nums .u8 y) fl] = some (.sl c.length (nums .u8 c) .bor) := fun h => by rw [hc]; exact few_at h
      rw [← ht] at hx1
      rw [← hc] at hy1
      by_cases hm : 0 ≤ m ∧ m ≤ t.length
      · have e1 : decide (m < 0) = false := decide_eq_false (by omega)
        have e2 : decide (m > (t.length : Int)) = false := decide_eq_false (by omega)
        have k2 := fun {b : Bx} {bx : Boxes} {us : Abs.Id → Bool} => c2_go (b := b) (bx := bx) (us := us) (t := t) (m := m) hx1 hm
        have k4 := fun {b : Bx} {bx : Boxes} {us : Abs.Id → Bool} {n : Nat} {fl : Fl} => c4_go (b := b) (bx := bx) (us := us) (n := n) (fl := fl) (t := t) (c := c) (m := m) hx1 hy1
        have k5 := fun {b : Bx} {bx : Boxes} {us : Abs.Id → Bool} => c4r_go (b := b) (bx := bx) (us := us) (t := t) (c := c) (m := m) hx1 hy1
        simp (maxSteps := 1000000) (disch := first | omega | (simp only [updB, updI, useL, Abs.Id.mk.injEq, Bx.own.injEq, reduceCtorEq, Nat.reduceEqDiff, and_true, true_and, and_false, false_and, if_true, if_false, *]; done) | (simp only [nums_len, nums_len, ints_len, List.length_cons, List.length_nil, List.length_append, List.length_take, List.length_drop, List.length_replicate, List.length_set, List.length_map] <;> omega) | fail) only [ev0, ev1, ev2, ev3, ↓reduceIte, reduceCtorEq, Nat.reduceAdd, Nat.reduceSub, Nat.reduceMul, Nat.reduceLT, Nat.reduceLeDiff, Nat.reduceEqDiff, Nat.reduceBEq, BitVec.reduceOfInt, Int.reduceLE, Int.reduceLT, Int.reduceGT, Int.reduceGE, Int.reduceNeg, Int.reduceAdd, Int.reduceSub, Int.reduceMul, Int.reduceToNat, ↓bind_go, ↓map_go, wantedV, isWrite, grow, write, ofV, AV.cells, Abs.start, Abs.strip, endQ, resV, rawsRes, rawRes, exports, export1, AS.grown, AS.put, Env.know, Env.boxed, isSelf, convSelf, convV, loadV, storeV, fieldAddrV, fieldV, indexAddrV, indexV, partV, isAggK, isStr, place, lenV, min2V, makeV, freshSl, sliceV, boundOr, bound, bounds, cutFl, copyV, slCells, srcV, appendV, room, zerosOf, eqNeg, kd, takeR, hasViewL, hasView, freshR, freshC, snapAll, snap, snapL, flatL, pureL, pureA, fillC, arrOK, oneA, partB, AV.laid, ren1, CR.gr, applyW, useL, AS.mute, isGen, startG, ev5, tbBj0, glob, Bx.own.injEq, and_false, false_and, and_true, true_and, List.drop_succ_cons, List.drop_zero, List.drop_nil, hx1, hy1, few1, few2, k2, k4, k5, e1, e2]
        exact ResQ.same (by rw [List.map_append, beq_self_eq_true])
      · have k2 := fun {b : Bx} {bx : Boxes} {us : Abs.Id → Bool} => c2_no (b := b) (bx := bx) (us := us) (t := t) (m := m) hx1 hm
        have k3 := fun {b : Bx} {bx : Boxes} {us : Abs.Id → Bool} {n : Nat} {fl : Fl} => c3_go (b := b) (bx := bx) (us := us) (n := n) (fl := fl) (t := t) (c := c) hx1 hy1
        have k5 := fun {b : Bx} {bx : Boxes} {us : Abs.Id → Bool} => c3r_go (b := b) (bx := bx) (us := us) (t := t) (c := c) hx1 hy1
        by_cases hm0 : m < 0
        · have e1 : decide (m < 0) = true := decide_eq_true hm0
          simp (maxSteps := 1000000) (disch := first | omega | (simp only [updB, updI, useL, Abs.Id.mk.injEq, Bx.own.injEq, reduceCtorEq, Nat.reduceEqDiff, and_true, true_and, and_false, false_and, if_true, if_false, *]; done) | (simp only [nums_len, nums_len, ints_len, List.length_cons, List.length_nil, List.length_append, List.length_take, List.length_drop, List.length_replicate, List.length_set, List.length_map] <;> omega) | fail) only [ev0, ev1, ev2, ev3, ↓reduceIte, reduceCtorEq, Nat.reduceAdd, Nat.reduceSub, Nat.reduceMul, Nat.reduceLT, Nat.reduceLeDiff, Nat.reduceEqDiff, Nat.reduceBEq, BitVec.reduceOfInt, Int.reduceLE, Int.reduceLT, Int.reduceGT, Int.reduceGE, Int.reduceNeg, Int.reduceAdd, Int.reduceSub, Int.reduceMul, Int.reduceToNat, ↓bind_go, ↓map_go, wantedV, isWrite, grow, write, ofV, AV.cells, Abs.start, Abs.strip, endQ, resV, rawsRes, rawRes, exports, export1, AS.grown, AS.put, Env.know, Env.boxed, isSelf, convSelf, convV, loadV, storeV, fieldAddrV, fieldV, indexAddrV, indexV, partV, isAggK, isStr, place, lenV, min2V, makeV, freshSl, sliceV, boundOr, bound, bounds, cutFl, copyV, slCells, srcV, appendV, room, zerosOf, eqNeg, kd, takeR, hasViewL, hasView, freshR, freshC, snapAll, snap, snapL, flatL, pureL, pureA, fillC, arrOK, oneA, partB, AV.laid, ren1, CR.gr, applyW, useL, AS.mute, isGen, startG, ev5, tbBj0, glob, Bx.own.injEq, and_false, false_and, and_true, true_and, List.drop_succ_cons, List.drop_zero, List.drop_nil, hx1, hy1, few1, few2, k2, k3, k5, e1]
          exact ResQ.same (by rw [List.map_append, beq_self_eq_true])
        · have e1 : decide (m < 0) = false := decide_eq_false hm0
          have e2 : decide (m > (t.length : Int)) = true := decide_eq_true (by omega)
          simp (maxSteps := 1000000) (disch := first | omega | (simp only [updB, updI, useL, Abs.Id.mk.injEq, Bx.own.injEq, reduceCtorEq, Nat.reduceEqDiff, and_true, true_and, and_false, false_and, if_true, if_false, *]; done) | (simp only [nums_len, nums_len, ints_len, List.length_cons, List.length_nil, List.length_append, List.length_take, List.length_drop, List.length_replicate, List.length_set, List.length_map] <;> omega) | fail) only [ev0, ev1, ev2, ev3, ↓reduceIte, reduceCtorEq, Nat.reduceAdd, Nat.reduceSub, Nat.reduceMul, Nat.reduceLT, Nat.reduceLeDiff, Nat.reduceEqDiff, Nat.reduceBEq, BitVec.reduceOfInt, Int.reduceLE, Int.reduceLT, Int.reduceGT, Int.reduceGE, Int.reduceNeg, Int.reduceAdd, Int.reduceSub, Int.reduceMul, Int.reduceToNat, ↓bind_go, ↓map_go, wantedV, isWrite, grow, write, ofV, AV.cells, Abs.start, Abs.strip, endQ, resV, rawsRes, rawRes, exports, export1, AS.grown, AS.put, Env.know, Env.boxed, isSelf, convSelf, convV, loadV, storeV, fieldAddrV, fieldV, indexAddrV, indexV, partV, isAggK, isStr, place, lenV, min2V, makeV, freshSl, sliceV, boundOr, bound, bounds, cutFl, copyV, slCells, srcV, appendV, room, zerosOf, eqNeg, kd, takeR, hasViewL, hasView, freshR, freshC, snapAll, snap, snapL, flatL, pureL, pureA, fillC, arrOK, oneA, partB, AV.laid, ren1, CR.gr, applyW, useL, AS.mute, isGen, startG, ev5, tbBj0, glob, Bx.own.injEq, and_false, false_and, and_true, true_and, List.drop_succ_cons, List.drop_zero, List.drop_nil, hx1, hy1, few1, few2, k2, k3, k5, e1, e2]
          exact ResQ.same (by rw [List.map_append, beq_self_eq_true])
    · cases h
  · cases h
end Go.Proofs.Ytjnmdphoaafjaaa
