/- Draw: what its walk comes to. -/
import Derived.Test.YtddeffdgldjdjaaDoorJc
namespace Go.Proofs.YtddeffdgldjdjaaDoor
set_option linter.unusedSimpArgs false
set_option linter.unusedVariables false
set_option linter.defProp false
open Go Go.Abs
set_option maxHeartbeats 16000000
/-- one sum more; some -/
noncomputable def stp (s : Src) : Src := { s with v := hmF s.k s.v }
noncomputable def stpN (s : Src) : Nat → Src
  | 0 => s
  | n + 1 => stp (stpN s n)
noncomputable def outN (s : Src) : Nat → List (BitVec 8)
  | 0 => []
  | n + 1 => outN s n ++ (stpN s (n + 1)).v
theorem stp_wf {s : Src} (h : wfS s) : wfS (stp s) := ⟨h.k, by simp only [stp]; exact hm_len _ _, h.lo, h.hi⟩
theorem stpN_wf {s : Src} (h : wfS s) : ∀ n, wfS (stpN s n)
  | 0 => h
  | n + 1 => stp_wf (stpN_wf h n)
theorem stpN_c (s : Src) : ∀ n, (stpN s n).c = s.c
  | 0 => rfl
  | n + 1 => by simp only [stpN, stp]; exact stpN_c s n
theorem outN_len {s : Src} (h : wfS s) (n : Nat) : (outN s n).length = 32 * n := by
  induction n with
  | zero => rfl
  | succ n ih => rw [outN, List.length_append, ih, (stpN_wf h (n + 1)).v]; omega
/-- what is mixed in ahead -/
noncomputable def preS (s : Src) (m : List (BitVec 8)) : Src := if m.length = 0 then s else updS s m
theorem preS_wf {s : Src} (h : wfS s) (m : List (BitVec 8)) : wfS (preS s m) := by
  unfold preS; split
  · exact h
  · exact updS_wf h m
theorem preS_c (s : Src) (m : List (BitVec 8)) : (preS s m).c = s.c := by
  unfold preS; split
  · rfl
  · exact updS_c _ _
noncomputable def drawS (s : Src) (n : Nat) (m : List (BitVec 8)) : Src := { updS (stpN (preS s m) ((n + 31) / 32)) m with c := s.c + 1 }
noncomputable def drawB (s : Src) (n : Nat) (m : List (BitVec 8)) : List (BitVec 8) := (outN (preS s m) ((n + 31) / 32)).take n
theorem drawB_len {s : Src} (h : wfS s) (n : Nat) (m : List (BitVec 8)) : (drawB s n m).length = n := by
  rw [drawB, List.length_take, outN_len (preS_wf h m)]; omega
theorem drawS_wf {s : Src} (h : wfS s) (n : Nat) (m : List (BitVec 8)) (hc : s.c ≤ 1048576) : wfS (drawS s n m) := by
  have h1 := updS_wf (stpN_wf (preS_wf h m) ((n + 31) / 32)) m
  have h2 := h.lo
  exact ⟨h1.k, h1.v, by simp only [drawS]; omega, by simp only [drawS]; omega⟩
noncomputable def gd22 (args : List AV) (bx : Boxes) (us : Abs.Id → Bool) : Option CR := match args with
  | [.ptr b 0, x, w] => (bx b).bind fun cs => (src? cs).bind fun s => (int? x).bind fun n => (row? .u8 8 w).bind fun m => if m.length ≤ 100000 then
      (if n < 0 ∨ n > 256 then some { v := .ret (.tup [.sl 0 [] .bor, .raw (.int .i64 1)]) }
       else if s.c > 1048576 then some { v := .ret (.tup [.sl 0 [] .bor, .raw (.int .i64 70)]) }
       else some { v := .ret (.tup [.sl n.toNat (nums .u8 (drawB s n.toNat m)) .bor, .raw (.int .i64 0)]), wr := [(b, srA (drawS s n.toNat m))] }) else none
  | _ => none
theorem tk32a {v : List (BitVec 8)} {x : AV} (h : v.length = 32) : List.take 32 (nums .u8 v ++ [x]) = nums .u8 v := by
  rw [List.take_append_of_le_length (by rw [nums_len]; omega), List.take_of_length_le (by rw [nums_len]; omega)]
theorem nil_low {L : Nat} {σ : AS} {xp : List (Nat × Abs.Id)} {bn : Option Bx} {e : Int} : ExpL σ L xp bn [.raw (.slice none 0 0), .raw (.int .i64 e)] [.sl 0 [] .bor, .raw (.int .i64 e)] := .cons .nilb (.cons (.raw _) .nil)
def tbJd0 := (And.intro (And.intro (And.intro (And.intro @teE (And.intro @EV_te @EV_glob)) (And.intro (And.intro @EV_gs @EV_dyn) (And.intro @EV_mu @EV_s))) (And.intro (And.intro (And.intro @EV_u @ksum1_go) (And.intro @upd_go @rep3n)) (And.intro (And.intro @rep1n @sr_len) (And.intro @sr_tk @sr_v)))) (And.intro (And.intro (And.intro (And.intro @sr_v' @tk32a) (And.intro @sr_dk @sr_c)) (And.intro (And.intro @spl_k @spl_v) (And.intro @spl_c @set_c))) (And.intro (And.intro (And.intro @sr_ren @sr_strip) (And.intro @ns_strip @ns_set)) (And.intro (And.intro @nums_ren @hm_len) (And.intro @own_ne @own_ne')))))
theorem sound22 : SoundG Tryd.prog globS 22 gd22 := by
  refine SoundG.walk EV okV mixed Tryd.func22 rfl Tryd.call22 (by kernel_rfl) ?_
  intro args bx us cr hr
  unfold gd22 at hr
  split at hr
  · rename_i b x w
    simp only [Option.bind_eq_some_iff] at hr
    obtain ⟨cs, hb, s, hs, n, hn, m, hm, hr⟩ := hr
    split at hr
    · rename_i hl
      obtain ⟨rfl, hw⟩ := src?_of hs
      obtain ⟨fl, rfl⟩ := row?_of hm
      have hbs : (bx b).isSome := by rw [hb]; rfl
      have hk := hw.k
      have hv := hw.v
      rw [int?_of hn, Tryd.ntmps22, Tryd.results22]
      refine ⟨by simp, fun L hlow hus hbf => ?_⟩
      have hbL := (hlow b hbs).1
      by_cases c1 : n < 0
      · rw [if_pos (.inl c1)] at hr
        cases hr
        simp (maxSteps := 1000000) (disch := first | omega | (simp only [updB, updI, dsB, reduceCtorEq, Nat.reduceEqDiff, Abs.Id.mk.injEq, and_false, false_and, and_true, true_and, if_false, ↓reduceIte, Option.isSome_some, *]; done) | (simp only [nums_len, sr_len, hm_len, lnB] <;> omega) | fail) only [ev0, ev1, ev2, ev3, ↓reduceIte, reduceCtorEq, Nat.reduceAdd, Nat.reduceSub, Nat.reduceMul, Nat.reduceLT, Nat.reduceLeDiff, Nat.reduceEqDiff, Nat.reduceBEq, BitVec.reduceOfInt, Int.reduceLE, Int.reduceLT, Int.reduceGT, Int.reduceGE, Int.reduceNeg, Int.reduceAdd, Int.reduceSub, Int.reduceMul, Int.reduceToNat, ↓bind_go, ↓map_go, wantedV, isWrite, grow, write, ofV, AV.cells, Abs.start, Abs.strip, endQ, resV, rawsRes, rawRes, exports, export1, AS.grown, AS.put, Env.know, Env.boxed, isSelf, convSelf, convV, loadV, storeV, fieldAddrV, fieldV, indexAddrV, indexV, partV, isAggK, isStr, place, ipS, lenV, min2V, makeV, freshSl, sliceV, boundOr, bound, bounds, cutFl, copyV, slCells, srcV, appendV, room, zerosOf, eqNeg, kd, takeR, hasViewL, hasView, freshR, freshC, snapAll, snap, snapL, flatL, pureL, pureA, fillC, arrOK, oneA, partB, AV.laid, ren1, CR.gr, applyW, useL, AS.mute, isGen, startG, ev5, tbJd0, globS, Bx.own.injEq, and_false, false_and, and_true, true_and, c1, decide_true]
        change EndG _ _ _ _ _ _ _
        exact EndG.r0 [_, _] [_, _] rfl nil_low rfl (fun b hb' => rfl) (fun _ _ => rfl)
      have c1 := eq_false c1
      by_cases c2 : n > 256
      · rw [if_pos (.inr c2)] at hr
        cases hr
        simp (maxSteps := 1000000) (disch := first | omega | (simp only [updB, updI, dsB, reduceCtorEq, Nat.reduceEqDiff, Abs.Id.mk.injEq, and_false, false_and, and_true, true_and, if_false, ↓reduceIte, Option.isSome_some, *]; done) | (simp only [nums_len, sr_len, hm_len, lnB] <;> omega) | fail) only [ev0, ev1, ev2, ev3, ↓reduceIte, reduceCtorEq, Nat.reduceAdd, Nat.reduceSub, Nat.reduceMul, Nat.reduceLT, Nat.reduceLeDiff, Nat.reduceEqDiff, Nat.reduceBEq, BitVec.reduceOfInt, Int.reduceLE, Int.reduceLT, Int.reduceGT, Int.reduceGE, Int.reduceNeg, Int.reduceAdd, Int.reduceSub, Int.reduceMul, Int.reduceToNat, ↓bind_go, ↓map_go, wantedV, isWrite, grow, write, ofV, AV.cells, Abs.start, Abs.strip, endQ, resV, rawsRes, rawRes, exports, export1, AS.grown, AS.put, Env.know, Env.boxed, isSelf, convSelf, convV, loadV, storeV, fieldAddrV, fieldV, indexAddrV, indexV, partV, isAggK, isStr, place, ipS, lenV, min2V, makeV, freshSl, sliceV, boundOr, bound, bounds, cutFl, copyV, slCells, srcV, appendV, room, zerosOf, eqNeg, kd, takeR, hasViewL, hasView, freshR, freshC, snapAll, snap, snapL, flatL, pureL, pureA, fillC, arrOK, oneA, partB, AV.laid, ren1, CR.gr, applyW, useL, AS.mute, isGen, startG, ev5, tbJd0, globS, Bx.own.injEq, and_false, false_and, and_true, true_and, c1, c2, decide_true, decide_false]
        change EndG _ _ _ _ _ _ _
        exact EndG.r0 [_, _] [_, _] rfl nil_low rfl (fun b hb' => rfl) (fun _ _ => rfl)
      rw [if_neg (fun h => h.elim (fun h => by simp only [c1] at h) c2)] at hr
      have c2' := eq_false c2
      by_cases c3 : s.c > 1048576
      · rw [if_pos c3] at hr
        cases hr
        simp (maxSteps := 1000000) (disch := first | omega | (simp only [updB, updI, dsB, reduceCtorEq, Nat.reduceEqDiff, Abs.Id.mk.injEq, and_false, false_and, and_true, true_and, if_false, ↓reduceIte, Option.isSome_some, *]; done) | (simp only [nums_len, sr_len, hm_len, lnB] <;> omega) | fail) only [ev0, ev1, ev2, ev3, ↓reduceIte, reduceCtorEq, Nat.reduceAdd, Nat.reduceSub, Nat.reduceMul, Nat.reduceLT, Nat.reduceLeDiff, Nat.reduceEqDiff, Nat.reduceBEq, BitVec.reduceOfInt, Int.reduceLE, Int.reduceLT, Int.reduceGT, Int.reduceGE, Int.reduceNeg, Int.reduceAdd, Int.reduceSub, Int.reduceMul, Int.reduceToNat, ↓bind_go, ↓map_go, wantedV, isWrite, grow, write, ofV, AV.cells, Abs.start, Abs.strip, endQ, resV, rawsRes, rawRes, exports, export1, AS.grown, AS.put, Env.know, Env.boxed, isSelf, convSelf, convV, loadV, storeV, fieldAddrV, fieldV, indexAddrV, indexV, partV, isAggK, isStr, place, ipS, lenV, min2V, makeV, freshSl, sliceV, boundOr, bound, bounds, cutFl, copyV, slCells, srcV, appendV, room, zerosOf, eqNeg, kd, takeR, hasViewL, hasView, freshR, freshC, snapAll, snap, snapL, flatL, pureL, pureA, fillC, arrOK, oneA, partB, AV.laid, ren1, CR.gr, applyW, useL, AS.mute, isGen, startG, ev5, tbJd0, globS, Bx.own.injEq, and_false, false_and, and_true, true_and, c1, c2', hb, c3, decide_true, decide_false]
        change EndG _ _ _ _ _ _ _
        exact EndG.r0 [_, _] [_, _] rfl nil_low rfl (fun b hb' => rfl) (fun _ _ => rfl)
      rw [if_neg c3] at hr
      have c3' := eq_false c3
      cases hr
      obtain ⟨nn, rfl⟩ := Int.eq_ofNat_of_zero_le (show 0 ≤ n by simp only [eq_iff_iff, iff_false] at c1; omega)
      have hnn : nn ≤ 256 := by omega
      rw [Int.toNat_natCast]
      obtain ⟨c, hcd⟩ : ∃ c, c = (nn + 31) / 32 := ⟨_, rfl⟩
      have usF : ∀ i : Abs.Id, i.lvl = L → us i = false := fun i h1 => by
        cases h : us i with
        | false => rfl
        | true => exact absurd (hus i h) (by omega)
      have wp := preS_wf hw m
      obtain ⟨p, hp⟩ : ∃ p, preS s m = p := ⟨_, rfl⟩
      have hpc : p.c = s.c := by rw [← hp]; exact preS_c s m
      rw [hp] at wp
      by_cases h0 : m.length = 0
      · have e1 : decide ((m.length : Int) > 0) = false := decide_eq_false (by omega)
        have hps : p = s := by rw [← hp, preS, if_pos h0]
        simp (maxSteps := 1000000) (disch := first | omega | (simp only [updB, updI, dsB, reduceCtorEq, Nat.reduceEqDiff, Abs.Id.mk.injEq, and_false, false_and, and_true, true_and, if_false, ↓reduceIte, Option.isSome_some, *]; done) | (simp only [nums_len, sr_len, hm_len, lnB] <;> omega) | fail) only [ev0, ev1, ev2, ev3, ↓reduceIte, reduceCtorEq, Nat.reduceAdd, Nat.reduceSub, Nat.reduceMul, Nat.reduceLT, Nat.reduceLeDiff, Nat.reduceEqDiff, Nat.reduceBEq, BitVec.reduceOfInt, Int.reduceLE, Int.reduceLT, Int.reduceGT, Int.reduceGE, Int.reduceNeg, Int.reduceAdd, Int.reduceSub, Int.reduceMul, Int.reduceToNat, ↓bind_go, ↓map_go, wantedV, isWrite, grow, write, ofV, AV.cells, Abs.start, Abs.strip, endQ, resV, rawsRes, rawRes, exports, export1, AS.grown, AS.put, Env.know, Env.boxed, isSelf, convSelf, convV, loadV, storeV, fieldAddrV, fieldV, indexAddrV, indexV, partV, isAggK, isStr, place, ipS, lenV, min2V, makeV, freshSl, sliceV, boundOr, bound, bounds, cutFl, copyV, slCells, srcV, appendV, room, zerosOf, eqNeg, kd, takeR, hasViewL, hasView, freshR, freshC, snapAll, snap, snapL, flatL, pureL, pureA, fillC, arrOK, oneA, partB, AV.laid, ren1, CR.gr, applyW, useL, AS.mute, isGen, startG, ev5, tbJd0, globS, Bx.own.injEq, and_false, false_and, and_true, true_and, c1, c2', c3', hb, e1, decide_false]
        refine loopQ_wk _ (Wk.at (d := 8) (v := .sl 0 [] (.own ⟨L, 8, 0, 0⟩ 1)) (by simp (maxSteps := 1000000) (disch := first | omega | (simp only [updB, updI, dsB, reduceCtorEq, Nat.reduceEqDiff, Abs.Id.mk.injEq, and_false, false_and, and_true, true_and, if_false, ↓reduceIte, Option.isSome_some, *]; done) | (simp only [nums_len, sr_len, hm_len, lnB] <;> omega) | fail) only [ev0, ev1, ev2, ev3, ↓reduceIte, reduceCtorEq, Nat.reduceAdd, Nat.reduceSub, Nat.reduceMul, Nat.reduceLT, Nat.reduceLeDiff, Nat.reduceEqDiff, Nat.reduceBEq, BitVec.reduceOfInt, Int.reduceLE, Int.reduceLT, Int.reduceGT, Int.reduceGE, Int.reduceNeg, Int.reduceAdd, Int.reduceSub, Int.reduceMul, Int.reduceToNat, ↓bind_go, ↓map_go, wantedV, isWrite, grow, write, ofV, AV.cells, Abs.start, Abs.strip, endQ, resV, rawsRes, rawRes, exports, export1, AS.grown, AS.put, Env.know, Env.boxed, isSelf, convSelf, convV, loadV, storeV, fieldAddrV, fieldV, indexAddrV, indexV, partV, isAggK, isStr, place, ipS, lenV, min2V, makeV, freshSl, sliceV, boundOr, bound, bounds, cutFl, copyV, slCells, srcV, appendV, room, zerosOf, eqNeg, kd, takeR, hasViewL, hasView, freshR, freshC, snapAll, snap, snapL, flatL, pureL, pureA, fillC, arrOK, oneA, partB, AV.laid, ren1, CR.gr, applyW, useL, AS.mute, isGen, startG, ev5, tbJd0, globS, Bx.own.injEq, and_false, false_and, and_true, true_and]; exact .nil 8 1)) (fun n' σ => ∃ k i, k ≤ c ∧ n' = c - k ∧ σ.slots 0 = .ptr b 0 ∧ σ.slots 1 = .raw (.int .i64 (nn : Int)) ∧ σ.slots 2 = .sl m.length (nums .u8 m) fl ∧ σ.slots 8 = .sl (32 * k) (nums .u8 (outN p k)) (.own i 1) ∧ FreeL L σ.used (σ.gen 45) 45 i ∧ i.lvl = L ∧ σ.box b = some (srA (stpN p k)) ∧ (∀ b', b'.lvl < L → b' ≠ b → σ.box b' = bx b') ∧ (∀ i, i.lvl < L → σ.used i = us i)) c ?_ ?_
        · refine ⟨0, ⟨L, 8, 0, 0⟩, by omega, by omega, ?_⟩
          simp (maxSteps := 1000000) (disch := first | omega | (simp only [updB, updI, dsB, reduceCtorEq, Nat.reduceEqDiff, Abs.Id.mk.injEq, and_false, false_and, and_true, true_and, if_false, ↓reduceIte, Option.isSome_some, *]; done) | (simp only [nums_len, sr_len, hm_len, lnB] <;> omega) | fail) only [ev0, ev1, ev2, ev3, ↓reduceIte, reduceCtorEq, Nat.reduceAdd, Nat.reduceSub, Nat.reduceMul, Nat.reduceLT, Nat.reduceLeDiff, Nat.reduceEqDiff, Nat.reduceBEq, BitVec.reduceOfInt, Int.reduceLE, Int.reduceLT, Int.reduceGT, Int.reduceGE, Int.reduceNeg, Int.reduceAdd, Int.reduceSub, Int.reduceMul, Int.reduceToNat, ↓bind_go, ↓map_go, wantedV, isWrite, grow, write, ofV, AV.cells, Abs.start, Abs.strip, endQ, resV, rawsRes, rawRes, exports, export1, AS.grown, AS.put, Env.know, Env.boxed, isSelf, convSelf, convV, loadV, storeV, fieldAddrV, fieldV, indexAddrV, indexV, partV, isAggK, isStr, place, ipS, lenV, min2V, makeV, freshSl, sliceV, boundOr, bound, bounds, cutFl, copyV, slCells, srcV, appendV, room, zerosOf, eqNeg, kd, takeR, hasViewL, hasView, freshR, freshC, snapAll, snap, snapL, flatL, pureL, pureA, fillC, arrOK, oneA, partB, AV.laid, ren1, CR.gr, applyW, useL, AS.mute, isGen, startG, ev5, tbJd0, globS, Bx.own.injEq, and_false, false_and, and_true, true_and, hb, hps]
          exact ⟨rfl, ⟨usF _ rfl, fun g _ => usF _ rfl, by simp⟩, rfl, fun _ _ _ => trivial, fun _ _ => trivial⟩
        · rintro n' ⟨sl, gn, bx1, us1⟩ ⟨k, i, hk0, rfl, s0, s1, s2, s8, hf, hil, bb, hbx, hux⟩
          dsimp only at s0 s1 s2 s8 hf hil bb hbx hux
          have hf0 := hf.now
          have wk := stpN_wf wp k
          have hkk := wk.k
          have hvk := wk.v
          have hsr := src?_at wk
          have lo := outN_len wp k
          simp (maxSteps := 1000000) (disch := first | omega | (simp only [updB, updI, dsB, reduceCtorEq, Nat.reduceEqDiff, Abs.Id.mk.injEq, and_false, false_and, and_true, true_and, if_false, ↓reduceIte, Option.isSome_some, *]; done) | (simp only [nums_len, sr_len, hm_len, lnB] <;> omega) | fail) only [ev0, ev1, ev2, ev3, ↓reduceIte, reduceCtorEq, Nat.reduceAdd, Nat.reduceSub, Nat.reduceMul, Nat.reduceLT, Nat.reduceLeDiff, Nat.reduceEqDiff, Nat.reduceBEq, BitVec.reduceOfInt, Int.reduceLE, Int.reduceLT, Int.reduceGT, Int.reduceGE, Int.reduceNeg, Int.reduceAdd, Int.reduceSub, Int.reduceMul, Int.reduceToNat, ↓bind_go, ↓map_go, wantedV, isWrite, grow, write, ofV, AV.cells, Abs.start, Abs.strip, endQ, resV, rawsRes, rawRes, exports, export1, AS.grown, AS.put, Env.know, Env.boxed, isSelf, convSelf, convV, loadV, storeV, fieldAddrV, fieldV, indexAddrV, indexV, partV, isAggK, isStr, place, ipS, lenV, min2V, makeV, freshSl, sliceV, boundOr, bound, bounds, cutFl, copyV, slCells, srcV, appendV, room, zerosOf, eqNeg, kd, takeR, hasViewL, hasView, freshR, freshC, snapAll, snap, snapL, flatL, pureL, pureA, fillC, arrOK, oneA, partB, AV.laid, ren1, CR.gr, applyW, useL, AS.mute, isGen, startG, ev5, tbJd0, globS, Bx.own.injEq, and_false, false_and, and_true, true_and, s0, s1, s2, s8, hf0, bb]
          refine condQ_dec (fun hlt => ?_) (fun hge => ?_)
          · have hlt : k < c := by omega
            simp (maxSteps := 1000000) (disch := first | omega | (simp only [updB, updI, dsB, reduceCtorEq, Nat.reduceEqDiff, Abs.Id.mk.injEq, and_false, false_and, and_true, true_and, if_false, ↓reduceIte, Option.isSome_some, *]; done) | (simp only [nums_len, sr_len, hm_len, lnB] <;> omega) | fail) only [ev0, ev1, ev2, ev3, ↓reduceIte, reduceCtorEq, Nat.reduceAdd, Nat.reduceSub, Nat.reduceMul, Nat.reduceLT, Nat.reduceLeDiff, Nat.reduceEqDiff, Nat.reduceBEq, BitVec.reduceOfInt, Int.reduceLE, Int.reduceLT, Int.reduceGT, Int.reduceGE, Int.reduceNeg, Int.reduceAdd, Int.reduceSub, Int.reduceMul, Int.reduceToNat, ↓bind_go, ↓map_go, wantedV, isWrite, grow, write, ofV, AV.cells, Abs.start, Abs.strip, endQ, resV, rawsRes, rawRes, exports, export1, AS.grown, AS.put, Env.know, Env.boxed, isSelf, convSelf, convV, loadV, storeV, fieldAddrV, fieldV, indexAddrV, indexV, partV, isAggK, isStr, place, ipS, lenV, min2V, makeV, freshSl, sliceV, boundOr, bound, bounds, cutFl, copyV, slCells, srcV, appendV, room, zerosOf, eqNeg, kd, takeR, hasViewL, hasView, freshR, freshC, snapAll, snap, snapL, flatL, pureL, pureA, fillC, arrOK, oneA, partB, AV.laid, ren1, CR.gr, applyW, useL, AS.mute, isGen, startG, ev5, tbJd0, globS, Bx.own.injEq, and_false, false_and, and_true, true_and, s0, s1, s2, s8, hf0, bb, hsr, lo]
            refine ⟨c - (k + 1), by omega, k + 1, ⟨L, 45, 0, gn 45 + 1⟩, by omega, rfl, row_eq (by omega) rfl, hf.go, rfl, rfl, fun b' h1 h2 => by rw [if_neg h2]; exact hbx b' h1 h2, fun i2 h1 => ?_⟩
            rw [if_neg (by rintro rfl; omega)]
            exact hux i2 h1
          · have hkc : k = c := by omega
            subst hkc
            obtain ⟨q, hq⟩ : ∃ q, updS (stpN p k) m = q := ⟨_, rfl⟩
            have wq := updS_wf wk m
            rw [hq] at wq
            have hqk := wq.k
            have hqv := wq.v
            have hqc : q.c = s.c := by rw [← hq, updS_c, stpN_c, hpc]
            have hlo := hw.lo
            have hD : drawS s nn m = { q with c := q.c + 1 } := by rw [drawS, hp, ← hcd, hq, hqc]
            have hB : drawB s nn m = (outN p k).take nn := by rw [drawB, hp, ← hcd]
            rw [hD, hB]
            clear hD hB hp hcd
            by_cases hmc : nn = 32 * k
            · have hme := eq_true hmc
              clear hmc
              simp (maxSteps := 1000000) (disch := first | omega | (simp only [updB, updI, dsB, reduceCtorEq, Nat.reduceEqDiff, Abs.Id.mk.injEq, and_false, false_and, and_true, true_and, if_false, ↓reduceIte, Option.isSome_some, *]; done) | (simp only [nums_len, sr_len, hm_len, lnB] <;> omega) | fail) only [ev0, ev1, ev2, ev3, ↓reduceIte, reduceCtorEq, Nat.reduceAdd, Nat.reduceSub, Nat.reduceMul, Nat.reduceLT, Nat.reduceLeDiff, Nat.reduceEqDiff, Nat.reduceBEq, BitVec.reduceOfInt, Int.reduceLE, Int.reduceLT, Int.reduceGT, Int.reduceGE, Int.reduceNeg, Int.reduceAdd, Int.reduceSub, Int.reduceMul, Int.reduceToNat, ↓bind_go, ↓map_go, wantedV, isWrite, grow, write, ofV, AV.cells, Abs.start, Abs.strip, endQ, resV, rawsRes, rawRes, exports, export1, AS.grown, AS.put, Env.know, Env.boxed, isSelf, convSelf, convV, loadV, storeV, fieldAddrV, fieldV, indexAddrV, indexV, partV, isAggK, isStr, place, ipS, lenV, min2V, makeV, freshSl, sliceV, boundOr, bound, bounds, cutFl, copyV, slCells, srcV, appendV, room, zerosOf, eqNeg, kd, takeR, hasViewL, hasView, freshR, freshC, snapAll, snap, snapL, flatL, pureL, pureA, fillC, arrOK, oneA, partB, AV.laid, ren1, CR.gr, applyW, useL, AS.mute, isGen, startG, ev5, tbJd0, globS, Bx.own.injEq, and_false, false_and, and_true, true_and, s0, s1, s2, s8, hf0, bb, hsr, hl, hq, lo, hme]
              change EndG _ _ _ _ _ _ _
              exact EndG.w1 [_, .raw (.int .i64 0)] [_, _] rfl (.cons (.bor _ _ _ (lowL_pure _ (nums_pure _))) (.cons (.raw _) .nil)) rfl hbL hbs (fun b' h1 h2 => by simp only [updB, if_neg h2]; exact hbx b' h1 h2) updB_self (ExpL.same (sr_low _)) hux
            · have hme := eq_false hmc
              simp (maxSteps := 1000000) (disch := first | omega | (simp only [updB, updI, dsB, reduceCtorEq, Nat.reduceEqDiff, Abs.Id.mk.injEq, and_false, false_and, and_true, true_and, if_false, ↓reduceIte, Option.isSome_some, *]; done) | (simp only [nums_len, sr_len, hm_len, lnB] <;> omega) | fail) only [ev0, ev1, ev2, ev3, ↓reduceIte, reduceCtorEq, Nat.reduceAdd, Nat.reduceSub, Nat.reduceMul, Nat.reduceLT, Nat.reduceLeDiff, Nat.reduceEqDiff, Nat.reduceBEq, BitVec.reduceOfInt, Int.reduceLE, Int.reduceLT, Int.reduceGT, Int.reduceGE, Int.reduceNeg, Int.reduceAdd, Int.reduceSub, Int.reduceMul, Int.reduceToNat, ↓bind_go, ↓map_go, wantedV, isWrite, grow, write, ofV, AV.cells, Abs.start, Abs.strip, endQ, resV, rawsRes, rawRes, exports, export1, AS.grown, AS.put, Env.know, Env.boxed, isSelf, convSelf, convV, loadV, storeV, fieldAddrV, fieldV, indexAddrV, indexV, partV, isAggK, isStr, place, ipS, lenV, min2V, makeV, freshSl, sliceV, boundOr, bound, bounds, cutFl, copyV, slCells, srcV, appendV, room, zerosOf, eqNeg, kd, takeR, hasViewL, hasView, freshR, freshC, snapAll, snap, snapL, flatL, pureL, pureA, fillC, arrOK, oneA, partB, AV.laid, ren1, CR.gr, applyW, useL, AS.mute, isGen, startG, ev5, tbJd0, globS, Bx.own.injEq, and_false, false_and, and_true, true_and, s0, s1, s2, s8, hf0, bb, hsr, hl, hq, lo, hme]
              change EndG _ _ _ _ _ _ _
              exact EndG.w1 [_, .raw (.int .i64 0)] [_, _] rfl (.cons (.bor _ _ _ (lowL_pure _ (nums_pure _))) (.cons (.raw _) .nil)) rfl hbL hbs (fun b' h1 h2 => by simp only [updB, if_neg h2]; exact hbx b' h1 h2) updB_self (ExpL.same (sr_low _)) hux
      · have e1 : decide ((m.length : Int) > 0) = true := decide_eq_true (by omega)
        have hps : updS s m = p := by rw [← hp, preS, if_neg h0]
        simp (maxSteps := 1000000) (disch := first | omega | (simp only [updB, updI, dsB, reduceCtorEq, Nat.reduceEqDiff, Abs.Id.mk.injEq, and_false, false_and, and_true, true_and, if_false, ↓reduceIte, Option.isSome_some, *]; done) | (simp only [nums_len, sr_len, hm_len, lnB] <;> omega) | fail) only [ev0, ev1, ev2, ev3, ↓reduceIte, reduceCtorEq, Nat.reduceAdd, Nat.reduceSub, Nat.reduceMul, Nat.reduceLT, Nat.reduceLeDiff, Nat.reduceEqDiff, Nat.reduceBEq, BitVec.reduceOfInt, Int.reduceLE, Int.reduceLT, Int.reduceGT, Int.reduceGE, Int.reduceNeg, Int.reduceAdd, Int.reduceSub, Int.reduceMul, Int.reduceToNat, ↓bind_go, ↓map_go, wantedV, isWrite, grow, write, ofV, AV.cells, Abs.start, Abs.strip, endQ, resV, rawsRes, rawRes, exports, export1, AS.grown, AS.put, Env.know, Env.boxed, isSelf, convSelf, convV, loadV, storeV, fieldAddrV, fieldV, indexAddrV, indexV, partV, isAggK, isStr, place, ipS, lenV, min2V, makeV, freshSl, sliceV, boundOr, bound, bounds, cutFl, copyV, slCells, srcV, appendV, room, zerosOf, eqNeg, kd, takeR, hasViewL, hasView, freshR, freshC, snapAll, snap, snapL, flatL, pureL, pureA, fillC, arrOK, oneA, partB, AV.laid, ren1, CR.gr, applyW, useL, AS.mute, isGen, startG, ev5, tbJd0, globS, Bx.own.injEq, and_false, false_and, and_true, true_and, c1, c2', c3', hb, hs, hl, e1, decide_false, hps]
        refine loopQ_wk _ (Wk.at (d := 8) (v := .sl 0 [] (.own ⟨L, 8, 0, 0⟩ 1)) (by simp (maxSteps := 1000000) (disch := first | omega | (simp only [updB, updI, dsB, reduceCtorEq, Nat.reduceEqDiff, Abs.Id.mk.injEq, and_false, false_and, and_true, true_and, if_false, ↓reduceIte, Option.isSome_some, *]; done) | (simp only [nums_len, sr_len, hm_len, lnB] <;> omega) | fail) only [ev0, ev1, ev2, ev3, ↓reduceIte, reduceCtorEq, Nat.reduceAdd, Nat.reduceSub, Nat.reduceMul, Nat.reduceLT, Nat.reduceLeDiff, Nat.reduceEqDiff, Nat.reduceBEq, BitVec.reduceOfInt, Int.reduceLE, Int.reduceLT, Int.reduceGT, Int.reduceGE, Int.reduceNeg, Int.reduceAdd, Int.reduceSub, Int.reduceMul, Int.reduceToNat, ↓bind_go, ↓map_go, wantedV, isWrite, grow, write, ofV, AV.cells, Abs.start, Abs.strip, endQ, resV, rawsRes, rawRes, exports, export1, AS.grown, AS.put, Env.know, Env.boxed, isSelf, convSelf, convV, loadV, storeV, fieldAddrV, fieldV, indexAddrV, indexV, partV, isAggK, isStr, place, ipS, lenV, min2V, makeV, freshSl, sliceV, boundOr, bound, bounds, cutFl, copyV, slCells, srcV, appendV, room, zerosOf, eqNeg, kd, takeR, hasViewL, hasView, freshR, freshC, snapAll, snap, snapL, flatL, pureL, pureA, fillC, arrOK, oneA, partB, AV.laid, ren1, CR.gr, applyW, useL, AS.mute, isGen, startG, ev5, tbJd0, globS, Bx.own.injEq, and_false, false_and, and_true, true_and]; exact .nil 8 1)) (fun n' σ => ∃ k i, k ≤ c ∧ n' = c - k ∧ σ.slots 0 = .ptr b 0 ∧ σ.slots 1 = .raw (.int .i64 (nn : Int)) ∧ σ.slots 2 = .sl m.length (nums .u8 m) fl ∧ σ.slots 8 = .sl (32 * k) (nums .u8 (outN p k)) (.own i 1) ∧ FreeL L σ.used (σ.gen 45) 45 i ∧ i.lvl = L ∧ σ.box b = some (srA (stpN p k)) ∧ (∀ b', b'.lvl < L → b' ≠ b → σ.box b' = bx b') ∧ (∀ i, i.lvl < L → σ.used i = us i)) c ?_ ?_
        · refine ⟨0, ⟨L, 8, 0, 0⟩, by omega, by omega, ?_⟩
          simp (maxSteps := 1000000) (disch := first | omega | (simp only [updB, updI, dsB, reduceCtorEq, Nat.reduceEqDiff, Abs.Id.mk.injEq, and_false, false_and, and_true, true_and, if_false, ↓reduceIte, Option.isSome_some, *]; done) | (simp only [nums_len, sr_len, hm_len, lnB] <;> omega) | fail) only [ev0, ev1, ev2, ev3, ↓reduceIte, reduceCtorEq, Nat.reduceAdd, Nat.reduceSub, Nat.reduceMul, Nat.reduceLT, Nat.reduceLeDiff, Nat.reduceEqDiff, Nat.reduceBEq, BitVec.reduceOfInt, Int.reduceLE, Int.reduceLT, Int.reduceGT, Int.reduceGE, Int.reduceNeg, Int.reduceAdd, Int.reduceSub, Int.reduceMul, Int.reduceToNat, ↓bind_go, ↓map_go, wantedV, isWrite, grow, write, ofV, AV.cells, Abs.start, Abs.strip, endQ, resV, rawsRes, rawRes, exports, export1, AS.grown, AS.put, Env.know, Env.boxed, isSelf, convSelf, convV, loadV, storeV, fieldAddrV, fieldV, indexAddrV, indexV, partV, isAggK, isStr, place, ipS, lenV, min2V, makeV, freshSl, sliceV, boundOr, bound, bounds, cutFl, copyV, slCells, srcV, appendV, room, zerosOf, eqNeg, kd, takeR, hasViewL, hasView, freshR, freshC, snapAll, snap, snapL, flatL, pureL, pureA, fillC, arrOK, oneA, partB, AV.laid, ren1, CR.gr, applyW, useL, AS.mute, isGen, startG, ev5, tbJd0, globS, Bx.own.injEq, and_false, false_and, and_true, true_and, hb, hs, hl, hps]
          exact ⟨rfl, ⟨usF _ rfl, fun g _ => usF _ rfl, by simp⟩, rfl, fun b' h1 h2 => by simp only [updB, if_neg h2], fun _ _ => trivial⟩
        · rintro n' ⟨sl, gn, bx1, us1⟩ ⟨k, i, hk0, rfl, s0, s1, s2, s8, hf, hil, bb, hbx, hux⟩
          dsimp only at s0 s1 s2 s8 hf hil bb hbx hux
          have hf0 := hf.now
          have wk := stpN_wf wp k
          have hkk := wk.k
          have hvk := wk.v
          have hsr := src?_at wk
          have lo := outN_len wp k
          simp (maxSteps := 1000000) (disch := first | omega | (simp only [updB, updI, dsB, reduceCtorEq, Nat.reduceEqDiff, Abs.Id.mk.injEq, and_false, false_and, and_true, true_and, if_false, ↓reduceIte, Option.isSome_some, *]; done) | (simp only [nums_len, sr_len, hm_len, lnB] <;> omega) | fail) only [ev0, ev1, ev2, ev3, ↓reduceIte, reduceCtorEq, Nat.reduceAdd, Nat.reduceSub, Nat.reduceMul, Nat.reduceLT, Nat.reduceLeDiff, Nat.reduceEqDiff, Nat.reduceBEq, BitVec.reduceOfInt, Int.reduceLE, Int.reduceLT, Int.reduceGT, Int.reduceGE, Int.reduceNeg, Int.reduceAdd, Int.reduceSub, Int.reduceMul, Int.reduceToNat, ↓bind_go, ↓map_go, wantedV, isWrite, grow, write, ofV, AV.cells, Abs.start, Abs.strip, endQ, resV, rawsRes, rawRes, exports, export1, AS.grown, AS.put, Env.know, Env.boxed, isSelf, convSelf, convV, loadV, storeV, fieldAddrV, fieldV, indexAddrV, indexV, partV, isAggK, isStr, place, ipS, lenV, min2V, makeV, freshSl, sliceV, boundOr, bound, bounds, cutFl, copyV, slCells, srcV, appendV, room, zerosOf, eqNeg, kd, takeR, hasViewL, hasView, freshR, freshC, snapAll, snap, snapL, flatL, pureL, pureA, fillC, arrOK, oneA, partB, AV.laid, ren1, CR.gr, applyW, useL, AS.mute, isGen, startG, ev5, tbJd0, globS, Bx.own.injEq, and_false, false_and, and_true, true_and, s0, s1, s2, s8, hf0, bb]
          refine condQ_dec (fun hlt => ?_) (fun hge => ?_)
          · have hlt : k < c := by omega
            simp (maxSteps := 1000000) (disch := first | omega | (simp only [updB, updI, dsB, reduceCtorEq, Nat.reduceEqDiff, Abs.Id.mk.injEq, and_false, false_and, and_true, true_and, if_false, ↓reduceIte, Option.isSome_some, *]; done) | (simp only [nums_len, sr_len, hm_len, lnB] <;> omega) | fail) only [ev0, ev1, ev2, ev3, ↓reduceIte, reduceCtorEq, Nat.reduceAdd, Nat.reduceSub, Nat.reduceMul, Nat.reduceLT, Nat.reduceLeDiff, Nat.reduceEqDiff, Nat.reduceBEq, BitVec.reduceOfInt, Int.reduceLE, Int.reduceLT, Int.reduceGT, Int.reduceGE, Int.reduceNeg, Int.reduceAdd, Int.reduceSub, Int.reduceMul, Int.reduceToNat, ↓bind_go, ↓map_go, wantedV, isWrite, grow, write, ofV, AV.cells, Abs.start, Abs.strip, endQ, resV, rawsRes, rawRes, exports, export1, AS.grown, AS.put, Env.know, Env.boxed, isSelf, convSelf, convV, loadV, storeV, fieldAddrV, fieldV, indexAddrV, indexV, partV, isAggK, isStr, place, ipS, lenV, min2V, makeV, freshSl, sliceV, boundOr, bound, bounds, cutFl, copyV, slCells, srcV, appendV, room, zerosOf, eqNeg, kd, takeR, hasViewL, hasView, freshR, freshC, snapAll, snap, snapL, flatL, pureL, pureA, fillC, arrOK, oneA, partB, AV.laid, ren1, CR.gr, applyW, useL, AS.mute, isGen, startG, ev5, tbJd0, globS, Bx.own.injEq, and_false, false_and, and_true, true_and, s0, s1, s2, s8, hf0, bb, hsr, lo]
            refine ⟨c - (k + 1), by omega, k + 1, ⟨L, 45, 0, gn 45 + 1⟩, by omega, rfl, row_eq (by omega) rfl, hf.go, rfl, rfl, fun b' h1 h2 => by rw [if_neg h2]; exact hbx b' h1 h2, fun i2 h1 => ?_⟩
            rw [if_neg (by rintro rfl; omega)]
            exact hux i2 h1
          · have hkc : k = c := by omega
            subst hkc
            obtain ⟨q, hq⟩ : ∃ q, updS (stpN p k) m = q := ⟨_, rfl⟩
            have wq := updS_wf wk m
            rw [hq] at wq
            have hqk := wq.k
            have hqv := wq.v
            have hqc : q.c = s.c := by rw [← hq, updS_c, stpN_c, hpc]
            have hlo := hw.lo
            have hD : drawS s nn m = { q with c := q.c + 1 } := by rw [drawS, hp, ← hcd, hq, hqc]
            have hB : drawB s nn m = (outN p k).take nn := by rw [drawB, hp, ← hcd]
            rw [hD, hB]
            clear hD hB hp hcd
            by_cases hmc : nn = 32 * k
            · have hme := eq_true hmc
              clear hmc
              simp (maxSteps := 1000000) (disch := first | omega | (simp only [updB, updI, dsB, reduceCtorEq, Nat.reduceEqDiff, Abs.Id.mk.injEq, and_false, false_and, and_true, true_and, if_false, ↓reduceIte, Option.isSome_some, *]; done) | (simp only [nums_len, sr_len, hm_len, lnB] <;> omega) | fail) only [ev0, ev1, ev2, ev3, ↓reduceIte, reduceCtorEq, Nat.reduceAdd, Nat.reduceSub, Nat.reduceMul, Nat.reduceLT, Nat.reduceLeDiff, Nat.reduceEqDiff, Nat.reduceBEq, BitVec.reduceOfInt, Int.reduceLE, Int.reduceLT, Int.reduceGT, Int.reduceGE, Int.reduceNeg, Int.reduceAdd, Int.reduceSub, Int.reduceMul, Int.reduceToNat, ↓bind_go, ↓map_go, wantedV, isWrite, grow, write, ofV, AV.cells, Abs.start, Abs.strip, endQ, resV, rawsRes, rawRes, exports, export1, AS.grown, AS.put, Env.know, Env.boxed, isSelf, convSelf, convV, loadV, storeV, fieldAddrV, fieldV, indexAddrV, indexV, partV, isAggK, isStr, place, ipS, lenV, min2V, makeV, freshSl, sliceV, boundOr, bound, bounds, cutFl, copyV, slCells, srcV, appendV, room, zerosOf, eqNeg, kd, takeR, hasViewL, hasView, freshR, freshC, snapAll, snap, snapL, flatL, pureL, pureA, fillC, arrOK, oneA, partB, AV.laid, ren1, CR.gr, applyW, useL, AS.mute, isGen, startG, ev5, tbJd0, globS, Bx.own.injEq, and_false, false_and, and_true, true_and, s0, s1, s2, s8, hf0, bb, hsr, hl, hq, lo, hme]
              change EndG _ _ _ _ _ _ _
              exact EndG.w1 [_, .raw (.int .i64 0)] [_, _] rfl (.cons (.bor _ _ _ (lowL_pure _ (nums_pure _))) (.cons (.raw _) .nil)) rfl hbL hbs (fun b' h1 h2 => by simp only [updB, if_neg h2]; exact hbx b' h1 h2) updB_self (ExpL.same (sr_low _)) hux
            · have hme := eq_false hmc
              simp (maxSteps := 1000000) (disch := first | omega | (simp only [updB, updI, dsB, reduceCtorEq, Nat.reduceEqDiff, Abs.Id.mk.injEq, and_false, false_and, and_true, true_and, if_false, ↓reduceIte, Option.isSome_some, *]; done) | (simp only [nums_len, sr_len, hm_len, lnB] <;> omega) | fail) only [ev0, ev1, ev2, ev3, ↓reduceIte, reduceCtorEq, Nat.reduceAdd, Nat.reduceSub, Nat.reduceMul, Nat.reduceLT, Nat.reduceLeDiff, Nat.reduceEqDiff, Nat.reduceBEq, BitVec.reduceOfInt, Int.reduceLE, Int.reduceLT, Int.reduceGT, Int.reduceGE, Int.reduceNeg, Int.reduceAdd, Int.reduceSub, Int.reduceMul, Int.reduceToNat, ↓bind_go, ↓map_go, wantedV, isWrite, grow, write, ofV, AV.cells, Abs.start, Abs.strip, endQ, resV, rawsRes, rawRes, exports, export1, AS.grown, AS.put, Env.know, Env.boxed, isSelf, convSelf, convV, loadV, storeV, fieldAddrV, fieldV, indexAddrV, indexV, partV, isAggK, isStr, place, ipS, lenV, min2V, makeV, freshSl, sliceV, boundOr, bound, bounds, cutFl, copyV, slCells, srcV, appendV, room, zerosOf, eqNeg, kd, takeR, hasViewL, hasView, freshR, freshC, snapAll, snap, snapL, flatL, pureL, pureA, fillC, arrOK, oneA, partB, AV.laid, ren1, CR.gr, applyW, useL, AS.mute, isGen, startG, ev5, tbJd0, globS, Bx.own.injEq, and_false, false_and, and_true, true_and, s0, s1, s2, s8, hf0, bb, hsr, hl, hq, lo, hme]
              change EndG _ _ _ _ _ _ _
              exact EndG.w1 [_, .raw (.int .i64 0)] [_, _] rfl (.cons (.bor _ _ _ (lowL_pure _ (nums_pure _))) (.cons (.raw _) .nil)) rfl hbL hbs (fun b' h1 h2 => by simp only [updB, if_neg h2]; exact hbx b' h1 h2) updB_self (ExpL.same (sr_low _)) hux
    · cases hr
  · cases hr
end Go.Proofs.YtddeffdgldjdjaaDoor
