/- VaultSizes: what its walk comes to. -/
import Derived.Test.YtddeffdgldjdjaaDoorGj
namespace Go.Proofs.YtddeffdgldjdjaaDoor
set_option linter.unusedSimpArgs false
set_option linter.unusedVariables false
set_option linter.defProp false
open Go Go.Abs
set_option maxHeartbeats 16000000
noncomputable def ELZ : Env := (((ES0.know 41 (fun xs => pr41 (xs.map norm))).know 38 (fun xs => pf38 (xs.map norm))).know 33 pf33).knowG 39 gw39
theorem okLZ : EnvOK Tryd.prog ELZ := (((okS0.know soundr41.norm).know (toS sound38).norm).know (toS sound33)).knowG soundw39
theorem ELZ_te : ELZ.te = te := rfl
theorem ELZ_glob : ELZ.glob = globS := rfl
theorem ELZ_gs : ELZ.gs = [39] := rfl
theorem ELZ_dyn : ELZ.dyn = false := rfl
theorem ELZ_mu (d : Nat) : ELZ.mu d = false := rfl
theorem ELZ_s : ELZ.tbl 39 = some (.gen gw39) := rfl
theorem ELZ_o : ELZ.tbl 41 = some (.val (fun xs => pr41 (xs.map norm))) := rfl
theorem ELZ_f : ELZ.tbl 38 = some (.val (fun xs => pf38 (xs.map norm))) := rfl
theorem ELZ_h : ELZ.tbl 33 = some (.val pf33) := rfl
theorem wseal_y {m b : List (BitVec 8)} {d t i : Int} {n : Nat} {fl : Fl} {bx : Boxes} {us : Abs.Id → Bool} (hm : m.length = 32) (hn : n = b.length) (hl : b.length ≤ 400000) (hb : argOK d t i) :
    gw39 [.agg (nums .u8 m), .raw (.int .i64 d), .raw (.int .i64 t), .raw (.int .i64 i), .sl n (nums .u8 b) fl] bx us = some { v := .ret (.tup [.view (.own 0 0 0) 0 (vsB m d t i b).length (vsB m d t i b).length 1, .raw (.int .i64 0)]), cont := some (nums .u8 (vsB m d t i b)) } := by
  simp only [gw39, agg?_at hm, int?_at, row?_at hn, Option.bind_some, if_pos hl, if_pos hb]
theorem wseal_n {m b : List (BitVec 8)} {d t i : Int} {n : Nat} {fl : Fl} {bx : Boxes} {us : Abs.Id → Bool} (hm : m.length = 32) (hn : n = b.length) (hl : b.length ≤ 400000) (hb : ¬ argOK d t i) :
    gw39 [.agg (nums .u8 m), .raw (.int .i64 d), .raw (.int .i64 t), .raw (.int .i64 i), .sl n (nums .u8 b) fl] bx us = some { v := .ret (.tup [.sl 0 [] .bor, .raw (.int .i64 1)]) } := by
  simp only [gw39, agg?_at hm, int?_at, row?_at hn, Option.bind_some, if_pos hl, if_neg hb]
theorem vopenr_at {m : List (BitVec 8)} {d t i : Int} {n : Nat} {b : List (BitVec 8)} {fl : Fl} (hm : m.length = 32) (hn : n = b.length) (hb : b.length ≤ 400000) (h16 : 16 ≤ b.length) (ha : argOK d t i) (hz : voE m d t i b ≠ 0) : pr41 [.agg (nums .u8 m), .raw (.int .i64 d), .raw (.int .i64 t), .raw (.int .i64 i), .sl n (nums .u8 b) fl] = some (.tup [.raw (.slice none 0 0), .raw (.int .i64 40)]) := by
  simp only [pr41, agg?_at hm, int?_at, row?_at hn, Option.bind_some]
  rw [if_pos ⟨hb, h16, ha, hz⟩]
theorem few5_at {n : Nat} {b : List (BitVec 8)} {fl : Fl} (h : n = b.length) (h2 : b.length ≤ 9223372036854775807) : pf38 [.sl n (nums .u8 b) fl] = some (.sl (b.take 500).length (nums .u8 (b.take 500)) .bor) := by
  simp only [pf38, row?_at h, Option.bind_some, if_pos h2]
/-- the last byte's third bit is turned -/
def flipB (l : List (BitVec 8)) (n : Nat) : List (BitVec 8) := l.set (n + 15) (l.getD (n + 15) 0#8 ^^^ 4#8)
theorem flipB_len (l : List (BitVec 8)) (n : Nat) : (flipB l n).length = l.length := List.length_set
def pf12 : List AV → Option AV
  | [k, .agg [x, y, z], w] => (agg? .u8 8 32 k).bind fun _ => (int? x).bind fun _ => (int? y).bind fun _ => (int? z).bind fun _ => (row? .u8 8 w).bind fun b => if b.length ≤ 9223372036854775807 then some (.raw (.bool true)) else none
  | _ => none
def tbGk0 := (And.intro (And.intro (And.intro (And.intro @teE (And.intro @ELZ_te @ELZ_glob)) (And.intro @ELZ_gs (And.intro @ELZ_dyn @ELZ_mu))) (And.intro (And.intro @ELZ_s (And.intro @ELZ_o @ELZ_f)) (And.intro @ELZ_h (And.intro @few5_at @shown_at)))) (And.intro (And.intro (And.intro @nums_ren (And.intro @ns_strip @ns_set)) (And.intro @sp12 (And.intro @tk12 @le12))) (And.intro (And.intro @sp32 (And.intro @tk32 @nonce_len)) (And.intro (And.intro @nonceV_len @keyV_len) (And.intro @own_ne @own_ne')))))
theorem sound12 : SoundV Tryd.prog globS 12 pf12 := by
  refine SoundV.walk ELZ okLZ mixed Tryd.func12 rfl Tryd.call12 (by kernel_rfl) ?_
  intro args r hr
  unfold pf12 at hr
  split at hr
  · rename_i k x y z w
    simp only [Option.bind_eq_some_iff] at hr
    obtain ⟨m, h0, d, h1, t, h2, i, h3, b, h4, hr⟩ := hr
    split at hr
    · rename_i hl
      cases hr
      obtain ⟨rfl, hm⟩ := agg?_of h0
      obtain ⟨fl, rfl⟩ := row?_of h4
      rw [int?_of h1, int?_of h2, int?_of h3, Tryd.ntmps12, Tryd.results12]
      refine ⟨by simp, ?_⟩
      have hb5 : (b.take 500).length ≤ 500 := by rw [List.length_take]; exact Nat.min_le_left _ _
      obtain ⟨c, hc⟩ : ∃ c, b.take 500 = c := ⟨_, rfl⟩
      rw [hc] at hb5
      have hb6 : c.length ≤ 400000 := by omega
      by_cases hb : argOK d t i
      · have lv : (vsB m d t i c).length = c.length + 16 := sealB_len _ _ _ _
        have hz : voE m d t i (flipB (vsB m d t i c) c.length) ≠ 0 := by
          have := (open_flip (k := keyV m d) (n := nonce d t i) (a := nonce d t i) (t := c) (p := 15) (x := 4#8) (by decide) (by decide)).2
          have h2 : voE m d t i (flipB (vsB m d t i c) c.length) = 40 := this
          rw [h2]; decide
        have lf : (flipB (vsB m d t i c) c.length).length = c.length + 16 := by rw [flipB_len, lv]
        obtain ⟨s, hs⟩ : ∃ s, vsB m d t i c = s := ⟨_, rfl⟩
        have w1 : ∀ {n : Nat} {fl : Fl} {bx : Boxes} {us : Abs.Id → Bool}, n = c.length → _ := fun {n fl bx us} hn => wseal_y (n := n) (fl := fl) (bx := bx) (us := us) hm hn hb6 hb
        rw [hs] at lv hz lf w1
        have w2 : ∀ {n : Nat} {fl : Fl}, n = (flipB s c.length).length → _ := fun {n fl} hn => vopenr_at (n := n) (fl := fl) hm hn (by omega) (by omega) hb hz
        have e3 : ((c.length + 16 : Nat) : Int) - 1 = ((c.length + 15 : Nat) : Int) := by omega
        have e4 : (nums .u8 s).set (c.length + 15) (.raw (.int .u8 ((s.getD (c.length + 15) 0#8 ^^^ 4#8).toNat : Int))) = nums .u8 (flipB s c.length) := by rw [flipB]; exact nums_set8 _ _ _
        have e2 : (((c.length + 16 : Nat) : Int) != (c.length : Int) + 16) = false := by simp
        simp (maxSteps := 1000000) (disch := first | omega | (simp only [updB, updI, dsB, reduceCtorEq, Nat.reduceEqDiff, Abs.Id.mk.injEq, and_false, false_and, and_true, true_and, if_false, ↓reduceIte, Option.isSome_some, *]; done) | (simp only [nums_len, keyV_len, nonce_len, nonceV_len, sealB_len, flipB_len, lnB] <;> omega) | fail) only [ev0, ev1, ev2, ev3, ↓reduceIte, reduceCtorEq, Nat.reduceAdd, Nat.reduceSub, Nat.reduceMul, Nat.reduceLT, Nat.reduceLeDiff, Nat.reduceEqDiff, Nat.reduceBEq, BitVec.reduceOfInt, Int.reduceLE, Int.reduceLT, Int.reduceGT, Int.reduceGE, Int.reduceNeg, Int.reduceAdd, Int.reduceSub, Int.reduceMul, Int.reduceToNat, ↓bind_go, ↓map_go, wantedV, isWrite, grow, write, ofV, AV.cells, Abs.start, Abs.strip, endQ, resV, rawsRes, rawRes, exports, export1, AS.grown, AS.put, Env.know, Env.boxed, isSelf, convSelf, convV, loadV, storeV, fieldAddrV, fieldV, indexAddrV, indexV, partV, isAggK, isStr, place, lenV, min2V, makeV, freshSl, sliceV, boundOr, bound, bounds, cutFl, copyV, slCells, srcV, appendV, room, zerosOf, eqNeg, kd, takeR, hasViewL, hasView, freshR, freshC, snapAll, snap, snapL, flatL, pureL, pureA, fillC, arrOK, oneA, partB, AV.laid, ren1, CR.gr, applyW, useL, AS.mute, isGen, startG, ev5, tbGk0, Nat.le_refl, globS, if_true, Int.reduceBEq, Int.reduceBNe, Bx.own.injEq, and_false, false_and, and_true, true_and, beq_self_eq_true, bne_self_eq_false, hm, hc, w1, w2, lv, e2, e3, e4]
        exact ResQ.same rfl
      · simp (maxSteps := 1000000) (disch := first | omega | (simp only [updB, updI, dsB, reduceCtorEq, Nat.reduceEqDiff, Abs.Id.mk.injEq, and_false, false_and, and_true, true_and, if_false, ↓reduceIte, Option.isSome_some, *]; done) | (simp only [nums_len, keyV_len, nonce_len, nonceV_len, sealB_len, flipB_len, lnB] <;> omega) | fail) only [ev0, ev1, ev2, ev3, ↓reduceIte, reduceCtorEq, Nat.reduceAdd, Nat.reduceSub, Nat.reduceMul, Nat.reduceLT, Nat.reduceLeDiff, Nat.reduceEqDiff, Nat.reduceBEq, BitVec.reduceOfInt, Int.reduceLE, Int.reduceLT, Int.reduceGT, Int.reduceGE, Int.reduceNeg, Int.reduceAdd, Int.reduceSub, Int.reduceMul, Int.reduceToNat, ↓bind_go, ↓map_go, wantedV, isWrite, grow, write, ofV, AV.cells, Abs.start, Abs.strip, endQ, resV, rawsRes, rawRes, exports, export1, AS.grown, AS.put, Env.know, Env.boxed, isSelf, convSelf, convV, loadV, storeV, fieldAddrV, fieldV, indexAddrV, indexV, partV, isAggK, isStr, place, lenV, min2V, makeV, freshSl, sliceV, boundOr, bound, bounds, cutFl, copyV, slCells, srcV, appendV, room, zerosOf, eqNeg, kd, takeR, hasViewL, hasView, freshR, freshC, snapAll, snap, snapL, flatL, pureL, pureA, fillC, arrOK, oneA, partB, AV.laid, ren1, CR.gr, applyW, useL, AS.mute, isGen, startG, ev5, tbGk0, Nat.le_refl, globS, if_true, Int.reduceBEq, Int.reduceBNe, Bx.own.injEq, and_false, false_and, and_true, true_and, beq_self_eq_true, bne_self_eq_false, hm, hc, wseal_n hm rfl hb6 hb]
        exact ResQ.same rfl
    · cases hr
  · cases hr
end Go.Proofs.YtddeffdgldjdjaaDoor
