/- The small functions of the statements about a source, and the document's examples: what their walks come to. -/
import Derived.Test.YtddeffdgldjdjaaDoorJd
namespace Go.Proofs.YtddeffdgldjdjaaDoor
set_option linter.unusedSimpArgs false
set_option linter.unusedVariables false
set_option linter.defProp false
open Go Go.Abs
set_option maxHeartbeats 16000000
/-- which of n kinds -/
def kindF (c n : Int) : Int := (if c < 0 then -(c + 1) else c) % n
theorem kindF_lo {c n : Int} (h : 0 < n) (hc : -9223372036854775808 ≤ c) : 0 ≤ kindF c n := by
  unfold kindF; exact Int.emod_nonneg _ (by omega)
theorem kindF_hi {c n : Int} (h : 0 < n) (hc : -9223372036854775808 ≤ c) : kindF c n < n := by
  unfold kindF; exact Int.emod_lt_of_pos _ h
def pf21 : List AV → Option AV
  | [x, y] => (int? x).bind fun c => (int? y).bind fun n => if (-9223372036854775808 ≤ c ∧ c ≤ 9223372036854775807) ∧ 0 < n then some (.raw (.int .i64 (kindF c n))) else none
  | _ => none
theorem xkind_at {c n : Int} (h1 : -9223372036854775808 ≤ c) (h2 : c ≤ 9223372036854775807) (h3 : 0 < n) : pf21 [.raw (.int .i64 c), .raw (.int .i64 n)] = some (.raw (.int .i64 (kindF c n))) := by
  simp only [pf21, int?_at, Option.bind_some, if_pos (And.intro (And.intro h1 h2) h3)]
def tbJe0 := (And.intro (And.intro @teE (And.intro @E0_te @E0_glob)) (And.intro @E0_gs (And.intro @E0_dyn @E0_mu)))
theorem sound21 : SoundV Tryd.prog glob 21 pf21 := by
  refine SoundV.walk E0 ok0 mixed Tryd.func21 rfl Tryd.call21 (by kernel_rfl) ?_
  intro args r hr
  unfold pf21 at hr
  split at hr
  · simp only [Option.bind_eq_some_iff] at hr
    obtain ⟨c, h1, n, h2, hr⟩ := hr
    split at hr
    · rename_i hc
      obtain ⟨⟨c1, c2⟩, c3⟩ := hc
      cases hr
      rw [int?_of h1, int?_of h2, Tryd.ntmps21, Tryd.results21]
      refine ⟨by simp, ?_⟩
      have hn : (n = 0) = False := eq_false (by omega)
      by_cases h : c < 0
      · have e1 := eq_true h
        rw [kindF, if_pos h]
        simp (maxSteps := 1000000) (disch := first | omega | (simp only [nums_len, lnB] <;> omega) | fail) only [ev0, ev1, ev2, ev3, ↓reduceIte, reduceCtorEq, Nat.reduceAdd, Nat.reduceSub, Nat.reduceMul, Nat.reduceLT, Nat.reduceLeDiff, Nat.reduceEqDiff, Nat.reduceBEq, BitVec.reduceOfInt, Int.reduceLE, Int.reduceLT, Int.reduceGT, Int.reduceGE, Int.reduceNeg, Int.reduceAdd, Int.reduceSub, Int.reduceMul, Int.reduceToNat, ↓bind_go, ↓map_go, wantedV, isWrite, grow, write, ofV, AV.cells, Abs.start, Abs.strip, endQ, resV, rawsRes, rawRes, exports, export1, AS.grown, AS.put, Env.know, Env.boxed, isSelf, convSelf, convV, loadV, storeV, fieldAddrV, fieldV, indexAddrV, indexV, partV, isAggK, isStr, place, ipS, lenV, min2V, makeV, freshSl, sliceV, boundOr, bound, bounds, cutFl, copyV, slCells, srcV, appendV, room, zerosOf, eqNeg, kd, takeR, hasViewL, hasView, freshR, freshC, snapAll, snap, snapL, flatL, pureL, pureA, fillC, arrOK, oneA, partB, AV.laid, ren1, CR.gr, applyW, useL, AS.mute, isGen, startG, ev5, tbJe0, glob, Int.zero_sub, e1, hn, decide_true]
        exact ResQ.same rfl
      · have e1 := eq_false h
        rw [kindF, if_neg h]
        simp (maxSteps := 1000000) (disch := first | omega | (simp only [nums_len, lnB] <;> omega) | fail) only [ev0, ev1, ev2, ev3, ↓reduceIte, reduceCtorEq, Nat.reduceAdd, Nat.reduceSub, Nat.reduceMul, Nat.reduceLT, Nat.reduceLeDiff, Nat.reduceEqDiff, Nat.reduceBEq, BitVec.reduceOfInt, Int.reduceLE, Int.reduceLT, Int.reduceGT, Int.reduceGE, Int.reduceNeg, Int.reduceAdd, Int.reduceSub, Int.reduceMul, Int.reduceToNat, ↓bind_go, ↓map_go, wantedV, isWrite, grow, write, ofV, AV.cells, Abs.start, Abs.strip, endQ, resV, rawsRes, rawRes, exports, export1, AS.grown, AS.put, Env.know, Env.boxed, isSelf, convSelf, convV, loadV, storeV, fieldAddrV, fieldV, indexAddrV, indexV, partV, isAggK, isStr, place, ipS, lenV, min2V, makeV, freshSl, sliceV, boundOr, bound, bounds, cutFl, copyV, slCells, srcV, appendV, room, zerosOf, eqNeg, kd, takeR, hasViewL, hasView, freshR, freshC, snapAll, snap, snapL, flatL, pureL, pureA, fillC, arrOK, oneA, partB, AV.laid, ren1, CR.gr, applyW, useL, AS.mute, isGen, startG, ev5, tbJe0, glob, Int.zero_sub, e1, hn, decide_false]
        exact ResQ.same rfl
    · cases hr
  · cases hr
def pf23 : List AV → Option AV
  | [v] => (row? .u8 8 v).bind fun b => if b.length ≤ 9223372036854775807 then some (.sl (b.take 300).length (nums .u8 (b.take 300)) .bor) else none
  | _ => none
theorem xfew_at {n : Nat} {b : List (BitVec 8)} {fl : Fl} (h : n = b.length) (h2 : b.length ≤ 9223372036854775807) : pf23 [.sl n (nums .u8 b) fl] = some (.sl (b.take 300).length (nums .u8 (b.take 300)) .bor) := by
  simp only [pf23, row?_at h, Option.bind_some, if_pos h2]
theorem sound23 : SoundV Tryd.prog glob 23 pf23 := by
  refine SoundV.walk E0 ok0 mixed Tryd.func23 rfl Tryd.call23 (by kernel_rfl) ?_
  intro args r hr
  unfold pf23 at hr
  split at hr
  · simp only [Option.bind_eq_some_iff] at hr
    obtain ⟨b, h1, hr⟩ := hr
    split at hr
    · rename_i hc
      cases hr
      obtain ⟨fl, rfl⟩ := row?_of h1
      rw [Tryd.ntmps23, Tryd.results23, List.length_take]
      refine ⟨by simp, ?_⟩
      by_cases h : b.length > 300
      · have e1 : decide ((b.length : Int) > 300) = true := decide_eq_true (by omega)
        simp (maxSteps := 1000000) (disch := first | omega | (simp only [nums_len, lnB] <;> omega) | fail) only [ev0, ev1, ev2, ev3, ↓reduceIte, reduceCtorEq, Nat.reduceAdd, Nat.reduceSub, Nat.reduceMul, Nat.reduceLT, Nat.reduceLeDiff, Nat.reduceEqDiff, Nat.reduceBEq, BitVec.reduceOfInt, Int.reduceLE, Int.reduceLT, Int.reduceGT, Int.reduceGE, Int.reduceNeg, Int.reduceAdd, Int.reduceSub, Int.reduceMul, Int.reduceToNat, ↓bind_go, ↓map_go, wantedV, isWrite, grow, write, ofV, AV.cells, Abs.start, Abs.strip, endQ, resV, rawsRes, rawRes, exports, export1, AS.grown, AS.put, Env.know, Env.boxed, isSelf, convSelf, convV, loadV, storeV, fieldAddrV, fieldV, indexAddrV, indexV, partV, isAggK, isStr, place, ipS, lenV, min2V, makeV, freshSl, sliceV, boundOr, bound, bounds, cutFl, copyV, slCells, srcV, appendV, room, zerosOf, eqNeg, kd, takeR, hasViewL, hasView, freshR, freshC, snapAll, snap, snapL, flatL, pureL, pureA, fillC, arrOK, oneA, partB, AV.laid, ren1, CR.gr, applyW, useL, AS.mute, isGen, startG, ev5, tbJe0, glob, Int.zero_sub, e1]
        rw [Nat.min_eq_left (by omega)]
        exact ResQ.same rfl
      · have e1 : decide ((b.length : Int) > 300) = false := decide_eq_false (by omega)
        simp (maxSteps := 1000000) (disch := first | omega | (simp only [nums_len, lnB] <;> omega) | fail) only [ev0, ev1, ev2, ev3, ↓reduceIte, reduceCtorEq, Nat.reduceAdd, Nat.reduceSub, Nat.reduceMul, Nat.reduceLT, Nat.reduceLeDiff, Nat.reduceEqDiff, Nat.reduceBEq, BitVec.reduceOfInt, Int.reduceLE, Int.reduceLT, Int.reduceGT, Int.reduceGE, Int.reduceNeg, Int.reduceAdd, Int.reduceSub, Int.reduceMul, Int.reduceToNat, ↓bind_go, ↓map_go, wantedV, isWrite, grow, write, ofV, AV.cells, Abs.start, Abs.strip, endQ, resV, rawsRes, rawRes, exports, export1, AS.grown, AS.put, Env.know, Env.boxed, isSelf, convSelf, convV, loadV, storeV, fieldAddrV, fieldV, indexAddrV, indexV, partV, isAggK, isStr, place, ipS, lenV, min2V, makeV, freshSl, sliceV, boundOr, bound, bounds, cutFl, copyV, slCells, srcV, appendV, room, zerosOf, eqNeg, kd, takeR, hasViewL, hasView, freshR, freshC, snapAll, snap, snapL, flatL, pureL, pureA, fillC, arrOK, oneA, partB, AV.laid, ren1, CR.gr, applyW, useL, AS.mute, isGen, startG, ev5, tbJe0, glob, Int.zero_sub, e1]
        rw [Nat.min_eq_right (by omega)]
        exact ResQ.same rfl
    · cases hr
  · cases hr
noncomputable def EL0 : Env := ((((ES0.know 24 pf24).knowG 20 go20).knowG 27 (fun a b u => gn27 (a.map norm) b u)).knowG 22 (fun a b u => gd22 (a.map norm) b u)).knowG 26 (fun a b u => gr26 (a.map norm) b u)
theorem okL0 : EnvOK Tryd.prog EL0 := ((((okS0.know sound24).knowG sound20).knowG sound27.norm).knowG sound22.norm).knowG sound26.norm
theorem EL0_te : EL0.te = te := rfl
theorem EL0_glob : EL0.glob = globS := rfl
theorem EL0_gs : EL0.gs = [26, 22, 27, 20] := rfl
theorem EL0_dyn : EL0.dyn = false := rfl
theorem EL0_mu (d : Nat) : EL0.mu d = false := rfl
theorem EL0_st : EL0.tbl 24 = some (.val pf24) := rfl
theorem EL0_of : EL0.tbl 20 = some (.gen go20) := rfl
theorem EL0_n : EL0.tbl 27 = some (.gen (fun a b u => gn27 (a.map norm) b u)) := rfl
theorem EL0_d : EL0.tbl 22 = some (.gen (fun a b u => gd22 (a.map norm) b u)) := rfl
theorem EL0_r : EL0.tbl 26 = some (.gen (fun a b u => gr26 (a.map norm) b u)) := rfl
theorem norm_ptr {b : Bx} {o : Nat} : norm (.ptr b o) = .ptr b o := rfl
theorem state_at {s : Src} (h : wfS s) : pf24 [.iptr (srA s)] = some (.tup [.agg (nums .u8 s.k), .agg (nums .u8 s.v), .raw (.int .i64 s.c)]) := by
  simp only [pf24, src?_at h, Option.bind_some]
theorem new_a {f : Fl} {bx : Boxes} {us : Abs.Id → Bool} : gn27 [.sl 1 [.raw (.int .u8 97)] f] bx us = some { v := .ret (.ptr (.own 0 0 0) 0), cont := some (srA (newS [97#8])) } := by
  have h : row? .u8 8 (.sl 1 [.raw (.int .u8 97)] f) = some [97#8] := row?_at (m := [97#8]) rfl
  simp only [gn27, h, Option.bind_some]
  exact if_pos (by decide)
theorem draw_no {b : Bx} {x : Int} {f : Fl} {m : List (BitVec 8)} {l : Nat} {bx : Boxes} {us : Abs.Id → Bool} (hx : x < 0 ∨ x > 256) (hn : l = m.length) (hl : m.length ≤ 100000) :
    gd22 [.ptr b 0, .raw (.int .i64 x), .sl l (nums .u8 m) f] bx us = (bx b).bind fun cs => (src? cs).bind fun s => some { v := .ret (.tup [.sl 0 [] .bor, .raw (.int .i64 1)]) } := by
  simp only [gd22, int?_at, row?_at hn, Option.bind_some, if_pos hl, if_pos hx]
theorem draw_go {b : Bx} {x : Int} {f : Fl} {m : List (BitVec 8)} {l : Nat} {bx : Boxes} {us : Abs.Id → Bool} (h1 : 0 ≤ x) (h2 : x ≤ 256) (hn : l = m.length) (hl : m.length ≤ 100000) :
    gd22 [.ptr b 0, .raw (.int .i64 x), .sl l (nums .u8 m) f] bx us = (bx b).bind fun cs => (src? cs).bind fun s => if s.c > 1048576 then some { v := .ret (.tup [.sl 0 [] .bor, .raw (.int .i64 70)]) } else some { v := .ret (.tup [.sl x.toNat (nums .u8 (drawB s x.toNat m)) .bor, .raw (.int .i64 0)]), wr := [(b, srA (drawS s x.toNat m))] } := by
  simp only [gd22, int?_at, row?_at hn, Option.bind_some, if_pos hl, if_neg (show ¬ (x < 0 ∨ x > 256) by omega)]
theorem draw0_no {b : Bx} {x : Int} {f : Fl} {bx : Boxes} {us : Abs.Id → Bool} (hx : x < 0 ∨ x > 256) :
    gd22 [.ptr b 0, .raw (.int .i64 x), .sl 0 [] f] bx us = (bx b).bind fun cs => (src? cs).bind fun s => some { v := .ret (.tup [.sl 0 [] .bor, .raw (.int .i64 1)]) } := draw_no (m := []) hx rfl (by decide)
theorem draw0_go {b : Bx} {x : Int} {f : Fl} {bx : Boxes} {us : Abs.Id → Bool} (h1 : 0 ≤ x) (h2 : x ≤ 256) :
    gd22 [.ptr b 0, .raw (.int .i64 x), .sl 0 [] f] bx us = (bx b).bind fun cs => (src? cs).bind fun s => if s.c > 1048576 then some { v := .ret (.tup [.sl 0 [] .bor, .raw (.int .i64 70)]) } else some { v := .ret (.tup [.sl x.toNat (nums .u8 (drawB s x.toNat [])) .bor, .raw (.int .i64 0)]), wr := [(b, srA (drawS s x.toNat []))] } := draw_go (m := []) h1 h2 rfl (by decide)
theorem sr_flat (s : Src) : pureL (srA s) = true := sr_pure s
def pf19 : List AV → Option AV
  | [] => some (.raw (.bool true))
  | _ => none
theorem newS_c (m : List (BitVec 8)) : (newS m).c = 1 := rfl
theorem drawS_c (s : Src) (n : Nat) (m : List (BitVec 8)) : (drawS s n m).c = s.c + 1 := rfl
theorem sound19 : SoundV Tryd.prog globS 19 pf19 := by
  refine SoundV.walk EL0 okL0 mixed Tryd.func19 rfl Tryd.call19 (by kernel_rfl) ?_
  intro args r hr
  unfold pf19 at hr
  split at hr
  · cases hr
    rw [Tryd.ntmps19, Tryd.results19]
    refine ⟨by simp, ?_⟩
    have wA := newS_wf [97#8]
    have cA : (newS [97#8]).c = 1 := newS_c _
    obtain ⟨A, hA⟩ : ∃ A, newS [97#8] = A := ⟨_, rfl⟩
    rw [hA] at wA cA
    have sA := src?_at wA
    have w1 := drawS_wf wA 8 [] (by omega)
    have l1 := drawB_len wA 8 []
    have c1 : (drawS A 8 []).c = 2 := by rw [drawS_c, cA]; rfl
    have s1 := src?_at w1
    have w2 := drawS_wf w1 0 [] (by omega)
    have l2 := drawB_len w1 0 []
    have c2 : (drawS (drawS A 8 []) 0 []).c = 3 := by rw [drawS_c, c1]; rfl
    have st := state_at w2
    rw [c2] at st
    have k2 := w2.k
    have v2 := w2.v
    have i1 : ¬ A.c > 1048576 := by omega
    have i2 : ¬ (drawS A 8 []).c > 1048576 := by omega
    obtain ⟨B1, hB1⟩ : ∃ B, drawB A 8 [] = B := ⟨_, rfl⟩
    obtain ⟨B2, hB2⟩ : ∃ B, drawB (drawS A 8 []) 0 [] = B := ⟨_, rfl⟩
    obtain ⟨S1, hS1⟩ : ∃ B, drawS A 8 [] = B := ⟨_, rfl⟩
    rw [hS1] at w1 c1 s1 w2 l2 c2 st k2 v2 i2 hB2
    obtain ⟨S2, hS2⟩ : ∃ B, drawS S1 0 [] = B := ⟨_, rfl⟩
    rw [hS2] at w2 c2 st k2 v2
    rw [hB1] at l1
    rw [hB2] at l2
    have e1 := eq_false i1
    have e2 := eq_false i2
    clear wA w1 w2 i1 i2 cA c1 c2
    have e8 : (((8 : Nat) : Int) == 8) = true := rfl
    have e9 : (((0 : Nat) : Int) == 0) = true := rfl
    simp (maxSteps := 1000000) (disch := first | omega | (simp only [updB, updI, dsB, reduceCtorEq, Nat.reduceEqDiff, Abs.Id.mk.injEq, and_false, false_and, and_true, true_and, if_false, ↓reduceIte, Option.isSome_some, *]; done) | (simp only [nums_len, sr_len, lnB] <;> omega) | fail) only [ev0, ev1, ev2, ev3, ↓reduceIte, reduceCtorEq, Nat.reduceAdd, Nat.reduceSub, Nat.reduceMul, Nat.reduceLT, Nat.reduceLeDiff, Nat.reduceEqDiff, Nat.reduceBEq, BitVec.reduceOfInt, Int.reduceLE, Int.reduceLT, Int.reduceGT, Int.reduceGE, Int.reduceNeg, Int.reduceAdd, Int.reduceSub, Int.reduceMul, Int.reduceToNat, ↓bind_go, ↓map_go, wantedV, isWrite, grow, write, ofV, AV.cells, Abs.start, Abs.strip, endQ, resV, rawsRes, rawRes, exports, export1, AS.grown, AS.put, Env.know, Env.boxed, isSelf, convSelf, convV, loadV, storeV, fieldAddrV, fieldV, indexAddrV, indexV, partV, isAggK, isStr, place, ipS, lenV, min2V, makeV, freshSl, sliceV, boundOr, bound, bounds, cutFl, copyV, slCells, srcV, appendV, room, zerosOf, eqNeg, kd, takeR, hasViewL, hasView, freshR, freshC, snapAll, snap, snapL, flatL, pureL, pureA, fillC, arrOK, oneA, partB, AV.laid, ren1, CR.gr, applyW, useL, AS.mute, isGen, startG, ev5, teE, EL0_te, EL0_glob, EL0_gs, EL0_dyn, EL0_mu, EL0_st, EL0_of, EL0_n, EL0_d, EL0_r, norm_ptr, norm_nil, norm_sl, norm_int, sr_pure, sr_strip, sr_ren, ns_strip, ns_set, nums_ren, globS, sp32, tk32, Bx.own.injEq, and_false, false_and, and_true, true_and, Int.reduceBEq, Int.reduceBNe, beq_self_eq_true, new_a, draw0_no, draw0_go, hA, sA, s1, st, hB1, hB2, hS1, hS2, e1, e2, e8, e9]
    exact ResQ.same rfl
  · cases hr
end Go.Proofs.YtddeffdgldjdjaaDoor
