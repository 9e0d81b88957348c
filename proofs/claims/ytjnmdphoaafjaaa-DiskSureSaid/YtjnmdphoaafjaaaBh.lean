/- What each call comes to, where it is known what the disk is; few, kind and shown. -/
import Derived.Test.YtjnmdphoaafjaaaBg
namespace Go.Proofs.Ytjnmdphoaafjaaa
set_option linter.unusedSimpArgs false
set_option linter.unusedVariables false
set_option linter.defProp false
open Go Go.Abs
set_option maxHeartbeats 4000000
def pf25 : List AV → Option AV
  | [v] => (row? .u8 8 v).map fun m => .sl (m.take 100).length (nums .u8 (m.take 100)) .bor
  | _ => none
theorem few_at {n : Nat} {m : List (BitVec 8)} {fl : Fl} (h : n = m.length) : pf25 [.sl n (nums .u8 m) fl] = some (.sl (m.take 100).length (nums .u8 (m.take 100)) .bor) := by
  simp only [pf25, row?_at h, Option.map_some]
def tbBh0 := (And.intro (And.intro @teE (And.intro @E0_te @E0_glob)) (And.intro @E0_gs (And.intro @E0_dyn @E0_mu)))
theorem sound25 : SoundV Try.prog glob 25 pf25 := by
  refine SoundV.walk E0 ok0 mixed Try.func25 rfl Try.call25 (by kernel_rfl) ?_
  intro args r h
  unfold pf25 at h
  split at h
  · simp only [Option.map_eq_some_iff] at h
    obtain ⟨m, h1, rfl⟩ := h
    obtain ⟨fl, rfl⟩ := row?_of h1
    rw [Try.ntmps25, Try.results25]
    refine ⟨by simp, ?_⟩
    by_cases h0 : m.length > 100
    · have e0 : decide ((m.length : Int) > 100) = true := decide_eq_true (by omega)
      have e1 : (m.take 100).length = 100 := by rw [List.length_take]; omega
      simp (maxSteps := 1000000) (disch := first | omega | (simp only [nums_len, lnB] <;> omega) | fail) only [ev0, ev1, ev2, ev3, ↓reduceIte, reduceCtorEq, Nat.reduceAdd, Nat.reduceSub, Nat.reduceMul, Nat.reduceLT, Nat.reduceLeDiff, Nat.reduceEqDiff, Nat.reduceBEq, BitVec.reduceOfInt, Int.reduceLE, Int.reduceLT, Int.reduceGT, Int.reduceGE, Int.reduceNeg, Int.reduceAdd, Int.reduceSub, Int.reduceMul, Int.reduceToNat, ↓bind_go, ↓map_go, wantedV, isWrite, grow, write, ofV, AV.cells, Abs.start, Abs.strip, endQ, resV, rawsRes, rawRes, exports, export1, AS.grown, AS.put, Env.know, Env.boxed, isSelf, convSelf, convV, loadV, storeV, fieldAddrV, fieldV, indexAddrV, indexV, partV, isAggK, isStr, place, lenV, min2V, makeV, freshSl, sliceV, boundOr, bound, bounds, cutFl, copyV, slCells, srcV, appendV, room, zerosOf, eqNeg, kd, takeR, hasViewL, hasView, freshR, freshC, snapAll, snap, snapL, flatL, pureL, pureA, fillC, arrOK, oneA, partB, AV.laid, ren1, CR.gr, applyW, useL, AS.mute, isGen, startG, ev5, tbBh0, glob, e0, e1]
      exact ResQ.same rfl
    · have e0 : decide ((m.length : Int) > 100) = false := decide_eq_false (by omega)
      have e1 : m.take 100 = m := List.take_of_length_le (by omega)
      simp (maxSteps := 1000000) (disch := first | omega | (simp only [nums_len, lnB] <;> omega) | fail) only [ev0, ev1, ev2, ev3, ↓reduceIte, reduceCtorEq, Nat.reduceAdd, Nat.reduceSub, Nat.reduceMul, Nat.reduceLT, Nat.reduceLeDiff, Nat.reduceEqDiff, Nat.reduceBEq, BitVec.reduceOfInt, Int.reduceLE, Int.reduceLT, Int.reduceGT, Int.reduceGE, Int.reduceNeg, Int.reduceAdd, Int.reduceSub, Int.reduceMul, Int.reduceToNat, ↓bind_go, ↓map_go, wantedV, isWrite, grow, write, ofV, AV.cells, Abs.start, Abs.strip, endQ, resV, rawsRes, rawRes, exports, export1, AS.grown, AS.put, Env.know, Env.boxed, isSelf, convSelf, convV, loadV, storeV, fieldAddrV, fieldV, indexAddrV, indexV, partV, isAggK, isStr, place, lenV, min2V, makeV, freshSl, sliceV, boundOr, bound, bounds, cutFl, copyV, slCells, srcV, appendV, room, zerosOf, eqNeg, kd, takeR, hasViewL, hasView, freshR, freshC, snapAll, snap, snapL, flatL, pureL, pureA, fillC, arrOK, oneA, partB, AV.laid, ren1, CR.gr, applyW, useL, AS.mute, isGen, startG, ev5, tbBh0, glob, e0, e1]
      exact ResQ.same rfl
  · cases h
def kindF (c n : Int) : Int := (if c < 0 then -(c + 1) else c).tmod n
def pf26 : List AV → Option AV
  | [.raw (.int .i64 c), .raw (.int .i64 n)] => if i64ok c ∧ 0 < n ∧ n ≤ 1000 then some (.raw (.int .i64 (kindF c n))) else none
  | _ => none
theorem kind_at {c n : Int} (h : i64ok c) (h1 : 0 < n) (h2 : n ≤ 1000) : pf26 [.raw (.int .i64 c), .raw (.int .i64 n)] = some (.raw (.int .i64 (kindF c n))) := by
  simp only [pf26, if_pos (⟨h, h1, h2⟩ : i64ok c ∧ 0 < n ∧ n ≤ 1000)]
theorem sound26 : SoundV Try.prog glob 26 pf26 := by
  refine SoundV.walk E0 ok0 mixed Try.func26 rfl Try.call26 (by kernel_rfl) ?_
  intro args r h
  unfold pf26 at h
  split at h
  · rename_i c n
    split at h
    · rename_i hc
      cases h
      obtain ⟨h1, h2, h3⟩ := hc
      unfold i64ok at h1
      have e1 : (n = 0) = False := by simp only [eq_iff_iff, iff_false]; omega
      rw [Try.ntmps26, Try.results26]
      refine ⟨by simp, ?_⟩
      by_cases h0 : c < 0
      · simp (maxSteps := 1000000) (disch := first | omega | (simp only [nums_len, lnB] <;> omega) | fail) only [ev0, ev1, ev2, ev3, ↓reduceIte, reduceCtorEq, Nat.reduceAdd, Nat.reduceSub, Nat.reduceMul, Nat.reduceLT, Nat.reduceLeDiff, Nat.reduceEqDiff, Nat.reduceBEq, BitVec.reduceOfInt, Int.reduceLE, Int.reduceLT, Int.reduceGT, Int.reduceGE, Int.reduceNeg, Int.reduceAdd, Int.reduceSub, Int.reduceMul, Int.reduceToNat, ↓bind_go, ↓map_go, wantedV, isWrite, grow, write, ofV, AV.cells, Abs.start, Abs.strip, endQ, resV, rawsRes, rawRes, exports, export1, AS.grown, AS.put, Env.know, Env.boxed, isSelf, convSelf, convV, loadV, storeV, fieldAddrV, fieldV, indexAddrV, indexV, partV, isAggK, isStr, place, lenV, min2V, makeV, freshSl, sliceV, boundOr, bound, bounds, cutFl, copyV, slCells, srcV, appendV, room, zerosOf, eqNeg, kd, takeR, hasViewL, hasView, freshR, freshC, snapAll, snap, snapL, flatL, pureL, pureA, fillC, arrOK, oneA, partB, AV.laid, ren1, CR.gr, applyW, useL, AS.mute, isGen, startG, ev5, tbBh0, glob, decide_eq_true h0, intV, e1]
        exact ResQ.same (by simp only [kindF, if_pos h0, Int.zero_sub])
      · simp (maxSteps := 1000000) (disch := first | omega | (simp only [nums_len, lnB] <;> omega) | fail) only [ev0, ev1, ev2, ev3, ↓reduceIte, reduceCtorEq, Nat.reduceAdd, Nat.reduceSub, Nat.reduceMul, Nat.reduceLT, Nat.reduceLeDiff, Nat.reduceEqDiff, Nat.reduceBEq, BitVec.reduceOfInt, Int.reduceLE, Int.reduceLT, Int.reduceGT, Int.reduceGE, Int.reduceNeg, Int.reduceAdd, Int.reduceSub, Int.reduceMul, Int.reduceToNat, ↓bind_go, ↓map_go, wantedV, isWrite, grow, write, ofV, AV.cells, Abs.start, Abs.strip, endQ, resV, rawsRes, rawRes, exports, export1, AS.grown, AS.put, Env.know, Env.boxed, isSelf, convSelf, convV, loadV, storeV, fieldAddrV, fieldV, indexAddrV, indexV, partV, isAggK, isStr, place, lenV, min2V, makeV, freshSl, sliceV, boundOr, bound, bounds, cutFl, copyV, slCells, srcV, appendV, room, zerosOf, eqNeg, kd, takeR, hasViewL, hasView, freshR, freshC, snapAll, snap, snapL, flatL, pureL, pureA, fillC, arrOK, oneA, partB, AV.laid, ren1, CR.gr, applyW, useL, AS.mute, isGen, startG, ev5, tbBh0, glob, decide_eq_false h0, intV, e1]
        exact ResQ.same (by simp only [kindF, if_neg h0])
    · cases h
  · cases h

/-- calls, where it is known what the disk is -/
theorem append_go {d : Dk} {k : Nat} {f : Int} {t : List (BitVec 8)} {u : List Abs.Id} (h4 : d.fs.length = 4) (hf : f = (k : Int)) (hk : k < 4) (hn : okN d k) (ho : (powerD d).off = false) (hl : t.length + (d.f k).now.length ≤ 1048576) {b : Bx} {bx : Boxes} {us : Abs.Id → Bool} {n : Nat} {fl : Fl} (hb : bx b = some (enc d)) (ht : n = t.length) (hs : sinceI us (d.f k).sc = some u) :
    gf24 [.ptr b 0, .raw (.int .i64 f), .sl n (nums .u8 t) fl] bx us = some { v := .ret (.raw (.int .i64 0)), wr := [(b, enc (apD d k t ⟨0, 0, 0, 0⟩))], use := u } := by
  subst hf
  have e1 : (0 : Int) ≤ (k : Int) ∧ (k : Int) < 4 := by omega
  have e2 : ¬ ((t.length : Int) > 1048576 - ((d.f k).now.length : Int)) := by omega
  simp only [gf24, hb, Option.bind_some, dk?_at h4, row?_at ht, if_pos e1, Int.toNat_natCast, hn, not_true_eq_false, if_false, ho, Bool.false_eq_true, if_neg e2, hs]
theorem append_off {d : Dk} {k : Nat} {f : Int} {t : List (BitVec 8)} (h4 : d.fs.length = 4) (hf : f = (k : Int)) (hk : k < 4) (hn : okN d k) (ho : (powerD d).off = true) {b : Bx} {bx : Boxes} {us : Abs.Id → Bool} {n : Nat} {fl : Fl} (hb : bx b = some (enc d)) (ht : n = t.length) :
    gf24 [.ptr b 0, .raw (.int .i64 f), .sl n (nums .u8 t) fl] bx us = some { v := .ret (.raw (.int .i64 5)), wr := [(b, enc (powerD d))] } := by
  subst hf
  have e1 : (0 : Int) ≤ (k : Int) ∧ (k : Int) < 4 := by omega
  simp only [gf24, hb, Option.bind_some, dk?_at h4, row?_at ht, if_pos e1, Int.toNat_natCast, hn, not_true_eq_false, if_false, ho, if_true]
theorem append_long {d : Dk} {k : Nat} {f : Int} {t : List (BitVec 8)} (h4 : d.fs.length = 4) (hf : f = (k : Int)) (hk : k < 4) (hn : okN d k) (ho : (powerD d).off = false) (hl : ¬ t.length + (d.f k).now.length ≤ 1048576) {b : Bx} {bx : Boxes} {us : Abs.Id → Bool} {n : Nat} {fl : Fl} (hb : bx b = some (enc d)) (ht : n = t.length) :
    gf24 [.ptr b 0, .raw (.int .i64 f), .sl n (nums .u8 t) fl] bx us = some { v := .ret (.raw (.int .i64 2)), wr := [(b, enc (powerD d))] } := by
  subst hf
  have e1 : (0 : Int) ≤ (k : Int) ∧ (k : Int) < 4 := by omega
  have e2 : ((t.length : Int) > 1048576 - ((d.f k).now.length : Int)) := by omega
  simp only [gf24, hb, Option.bind_some, dk?_at h4, row?_at ht, if_pos e1, Int.toNat_natCast, hn, not_true_eq_false, if_false, ho, Bool.false_eq_true, if_pos e2]
theorem append_none {d : Dk} {f : Int} {t : List (BitVec 8)} (h4 : d.fs.length = 4) (hf : ¬ (0 ≤ f ∧ f < 4)) {b : Bx} {bx : Boxes} {us : Abs.Id → Bool} {n : Nat} {fl : Fl} (hb : bx b = some (enc d)) (ht : n = t.length) :
    gf24 [.ptr b 0, .raw (.int .i64 f), .sl n (nums .u8 t) fl] bx us = some { v := .ret (.raw (.int .i64 1)) } := by
  simp only [gf24, hb, Option.bind_some, dk?_at h4, row?_at ht, if_neg hf]
theorem cut_go {d : Dk} {k : Nat} {f m : Int} {u : List Abs.Id} (h4 : d.fs.length = 4) (hf : f = (k : Int)) (hk : k < 4) (hn : okN d k) (ho : (powerD d).off = false) (hm : 0 ≤ m ∧ m ≤ (d.f k).now.length) {b : Bx} {bx : Boxes} {us : Abs.Id → Bool} (hb : bx b = some (enc d)) (hs : sinceI us (d.f k).sc = some u) :
    gf31 [.ptr b 0, .raw (.int .i64 f), .raw (.int .i64 m)] bx us = some { v := .ret (.raw (.int .i64 0)), wr := [(b, enc (cutD d k m ⟨0, 0, 0, 0⟩))], use := u } := by
  subst hf
  have e1 : (0 : Int) ≤ (k : Int) ∧ (k : Int) < 4 := by omega
  have e2 : ¬ (m < 0 ∨ m > ((d.f k).now.length : Int)) := by omega
  simp only [gf31, hb, Option.bind_some, dk?_at h4, if_pos e1, Int.toNat_natCast, hn, not_true_eq_false, if_false, ho, Bool.false_eq_true, if_neg e2, hs]
theorem cut_off {d : Dk} {k : Nat} {f m : Int} (h4 : d.fs.length = 4) (hf : f = (k : Int)) (hk : k < 4) (hn : okN d k) (ho : (powerD d).off = true) (hm : 0 ≤ m ∧ m ≤ (d.f k).now.length) {b : Bx} {bx : Boxes} {us : Abs.Id → Bool} (hb : bx b = some (enc d)) :
    gf31 [.ptr b 0, .raw (.int .i64 f), .raw (.int .i64 m)] bx us = some { v := .ret (.raw (.int .i64 5)), wr := [(b, enc (powerD d))] } := by
  subst hf
  have e1 : (0 : Int) ≤ (k : Int) ∧ (k : Int) < 4 := by omega
  have e2 : ¬ (m < 0 ∨ m > ((d.f k).now.length : Int)) := by omega
  simp only [gf31, hb, Option.bind_some, dk?_at h4, if_pos e1, Int.toNat_natCast, hn, not_true_eq_false, if_false, ho, if_true, if_neg e2]
theorem cut_arg {d : Dk} {k : Nat} {f m : Int} (h4 : d.fs.length = 4) (hf : f = (k : Int)) (hk : k < 4) (hn : okN d k) (hm : ¬ (0 ≤ m ∧ m ≤ (d.f k).now.length)) {b : Bx} {bx : Boxes} {us : Abs.Id → Bool} (hb : bx b = some (enc d)) :
    gf31 [.ptr b 0, .raw (.int .i64 f), .raw (.int .i64 m)] bx us = some { v := .ret (.raw (.int .i64 1)) } := by
  subst hf
  have e1 : (0 : Int) ≤ (k : Int) ∧ (k : Int) < 4 := by omega
  have e2 : (m < 0 ∨ m > ((d.f k).now.length : Int)) := by omega
  simp only [gf31, hb, Option.bind_some, dk?_at h4, if_pos e1, Int.toNat_natCast, hn, not_true_eq_false, if_false, if_pos e2]
theorem cut_none {d : Dk} {f m : Int} (h4 : d.fs.length = 4) (hf : ¬ (0 ≤ f ∧ f < 4)) {b : Bx} {bx : Boxes} {us : Abs.Id → Bool} (hb : bx b = some (enc d)) :
    gf31 [.ptr b 0, .raw (.int .i64 f), .raw (.int .i64 m)] bx us = some { v := .ret (.raw (.int .i64 1)) } := by
  simp only [gf31, hb, Option.bind_some, dk?_at h4, if_neg hf]
theorem sync_go {d : Dk} {k : Nat} {f : Int} (h4 : d.fs.length = 4) (hf : f = (k : Int)) (hk : k < 4) (hn : okN d k) (hb' : (d.f k).nf = .bor) (ho : (powerD d).off = false) {b : Bx} {bx : Boxes} {us : Abs.Id → Bool} (hb : bx b = some (enc d)) :
    gf27 [.ptr b 0, .raw (.int .i64 f)] bx us = some { v := .ret (.raw (.int .i64 0)), wr := [(b, enc (syncD d k))] } := by
  subst hf
  have e1 : (0 : Int) ≤ (k : Int) ∧ (k : Int) < 4 := by omega
  have e2 : okN d k ∧ isBor (d.f k).nf = true := ⟨hn, by rw [hb']; rfl⟩
  simp only [gf27, hb, Option.bind_some, dk?_at h4, if_pos e1, Int.toNat_natCast, e2, and_self, not_true_eq_false, if_false, ho, Bool.false_eq_true]
theorem sync_off {d : Dk} {k : Nat} {f : Int} (h4 : d.fs.length = 4) (hf : f = (k : Int)) (hk : k < 4) (hn : okN d k) (hb' : (d.f k).nf = .bor) (ho : (powerD d).off = true) {b : Bx} {bx : Boxes} {us : Abs.Id → Bool} (hb : bx b = some (enc d)) :
    gf27 [.ptr b 0, .raw (.int .i64 f)] bx us = some { v := .ret (.raw (.int .i64 5)), wr := [(b, enc (powerD d))] } := by
  subst hf
  have e1 : (0 : Int) ≤ (k : Int) ∧ (k : Int) < 4 := by omega
  have e2 : okN d k ∧ isBor (d.f k).nf = true := ⟨hn, by rw [hb']; rfl⟩
  simp only [gf27, hb, Option.bind_some, dk?_at h4, if_pos e1, Int.toNat_natCast, e2, and_self, not_true_eq_false, if_false, ho, if_true]
theorem sync_none {d : Dk} {f : Int} (h4 : d.fs.length = 4) (hf : ¬ (0 ≤ f ∧ f < 4)) {b : Bx} {bx : Boxes} {us : Abs.Id → Bool} (hb : bx b = some (enc d)) :
    gf27 [.ptr b 0, .raw (.int .i64 f)] bx us = some { v := .ret (.raw (.int .i64 1)) } := by
  simp only [gf27, hb, Option.bind_some, dk?_at h4, if_neg hf]
theorem read_go {d : Dk} {k : Nat} {f : Int} (h4 : d.fs.length = 4) (hf : f = (k : Int)) (hk : k < 4) (ho : d.off = false) (hl : (d.f k).now.length ≤ 150000000000000) {b : Bx} {bx : Boxes} {us : Abs.Id → Bool} (hb : bx b = some (enc d)) :
    gf29 [.ptr b 0, .raw (.int .i64 f)] bx us = some { v := .ret (.tup [.sl (d.f k).now.length (nums .u8 (d.f k).now) (.own ⟨0, 0, 0, 0⟩ 1), .raw (.int .i64 0)]) } := by
  subst hf
  have e1 : (0 : Int) ≤ (k : Int) ∧ (k : Int) < 4 := by omega
  simp only [gf29, hb, Option.bind_some, dk?_at h4, if_pos e1, Int.toNat_natCast, ho, Bool.false_eq_true, if_false, if_pos hl]
theorem boot_go {d : Dk} {l : List Int} (h4 : d.fs.length = 4) (hw : bootOK d) (ho : ∀ n ∈ l, i64ok n) {b : Bx} {bx : Boxes} {us : Abs.Id → Bool} {n : Nat} {fl : Fl} (hb : bx b = some (enc d)) (ht : n = l.length) :
    gf28 [.ptr b 0, .sl n (ints .i64 l) fl] bx us = some { v := .ret (.tup []), wr := [(b, enc (bootD d l))] } := by
  simp only [gf28, hb, Option.bind_some, dk?_at h4, irow?_at ht ho, if_pos hw]
theorem on_go {d : Dk} (h4 : d.fs.length = 4) {b : Bx} {bx : Boxes} {us : Abs.Id → Bool} (hb : bx b = some (enc d)) : gf33 [.ptr b 0] bx us = some { v := .ret (.raw (.bool (!d.off))) } := by
  simp only [gf33, hb, Option.bind_some, dk?_at h4]
theorem steps_go {d : Dk} (h4 : d.fs.length = 4) {b : Bx} {bx : Boxes} {us : Abs.Id → Bool} (hb : bx b = some (enc d)) : gf32 [.ptr b 0] bx us = some { v := .ret (.raw (.int .i64 d.steps)) } := by
  simp only [gf32, hb, Option.bind_some, dk?_at h4]
theorem fuse_go {d : Dk} {n : Int} (h4 : d.fs.length = 4) {b : Bx} {bx : Boxes} {us : Abs.Id → Bool} (hb : bx b = some (enc d)) : gf30 [.ptr b 0, .raw (.int .i64 n)] bx us = some { v := .ret (.tup []), wr := [(b, enc (fuseD d n))] } := by
  simp only [gf30, hb, Option.bind_some, dk?_at h4]
theorem new_go {bx : Boxes} {us : Abs.Id → Bool} : gf23 [] bx us = some { v := .ret (.ptr (.own 0 0 0) 0), cont := some (enc newD) } := rfl
/-- names, once given, stay -/
theorem powerD_okD {L : Nat} {d : Dk} (h : okD L d) : okD L (powerD d) := h
theorem stepD_okD {L : Nat} {d : Dk} (h : okD L d) : okD L (stepD d) := h
theorem fuseD_okD {L : Nat} {d : Dk} {n : Int} (h : okD L d) : okD L (fuseD d n) := h
theorem okD_f {L : Nat} {d : Dk} (h : okD L d) (k : Nat) : okFs L (d.f k) := by
  rcases Nat.lt_or_ge k d.fs.length with hk | hk
  · refine h _ ?_
    simp only [Dk.f, List.getD_eq_getElem?_getD, List.getElem?_eq_getElem hk, Option.getD_some, List.getElem_mem]
  · simp only [Dk.f, List.getD_eq_getElem?_getD, List.getElem?_eq_none hk, Option.getD_none]
    exact ⟨okF_bor L, okF_bor L, okS_nil L⟩
theorem okS_own {L : Nat} {l : List Ch} {i : Abs.Id} (h1 : i.lvl < L) (h2 : i.gen ≠ 0) : okS L (.sl l (.own i 3)) := fun _ _ h _ _ e => by cases h; cases e; exact ⟨h1, h2⟩
theorem apD_okD {L : Nat} {d : Dk} {k : Nat} {t : List (BitVec 8)} {i : Abs.Id} (h : okD L d) (h1 : i.lvl < L) (h2 : i.gen ≠ 0) : okD L (apD d k t i) := okD.setF (stepD_okD (powerD_okD h)) k ⟨okF_bor L, (okD_f h k).2.1, okS_own h1 h2⟩
theorem cutD_okD {L : Nat} {d : Dk} {k : Nat} {n : Int} {i : Abs.Id} (h : okD L d) (h1 : i.lvl < L) (h2 : i.gen ≠ 0) : okD L (cutD d k n i) := okD.setF (stepD_okD (powerD_okD h)) k ⟨okF_bor L, (okD_f h k).2.1, okS_own h1 h2⟩
theorem syncD_okD {L : Nat} {d : Dk} {k : Nat} (h : okD L d) : okD L (syncD d k) := okD.setF (stepD_okD (powerD_okD h)) k ⟨(okD_f h k).1, okF_bor L, okS_nil L⟩
theorem bootD_okD {L : Nat} {d : Dk} {l : List Int} (h : okD L d) : okD L (bootD d l) := bootTo_ok h l 4
theorem newD_okD (L : Nat) : okD L newD := fun f hf => by
  have : f = f0 := by simp only [newD, List.mem_cons, List.not_mem_nil, or_false, or_self] at hf; exact hf
  rw [this]; exact ⟨okF_bor L, okF_bor L, okS_nil L⟩
theorem powerD_len {d : Dk} (h : d.fs.length = 4) : (powerD d).fs.length = 4 := h
theorem fuseD_len {d : Dk} {n : Int} (h : d.fs.length = 4) : (fuseD d n).fs.length = 4 := h
theorem apD_len {d : Dk} {k : Nat} {t : List (BitVec 8)} {i : Abs.Id} (h : d.fs.length = 4) : (apD d k t i).fs.length = 4 := setF_len (d := stepD (powerD d)) h _ _
theorem cutD_len {d : Dk} {k : Nat} {n : Int} {i : Abs.Id} (h : d.fs.length = 4) : (cutD d k n i).fs.length = 4 := setF_len (d := stepD (powerD d)) h _ _
theorem syncD_len {d : Dk} {k : Nat} (h : d.fs.length = 4) : (syncD d k).fs.length = 4 := setF_len (d := stepD (powerD d)) h _ _
theorem bootD_len {d : Dk} {l : List Int} (h : d.fs.length = 4) : (bootD d l).fs.length = 4 := bootTo_len h l 4
/-- a name that is handed over is the caller's from now on -/
theorem apD_ren {L : Nat} {d : Dk} (h : okD L d) (k : Nat) (t : List (BitVec 8)) (l s g : Nat) : (apD d k t ⟨0, 0, 0, 0⟩).ren l s g = apD d k t ⟨l, s, 0, g⟩ := by
  have h1 : (stepD (powerD d)).ren l s g = stepD (powerD d) := (stepD_okD (powerD_okD h)).ren l s g
  simp only [apD, setF_ren, h1, Fs.ren, Sc.ren_sl, renF_bor, renF_ok (okD_f h k).2.1]
  rfl
theorem cutD_ren {L : Nat} {d : Dk} (h : okD L d) (k : Nat) (n : Int) (l s g : Nat) : (cutD d k n ⟨0, 0, 0, 0⟩).ren l s g = cutD d k n ⟨l, s, 0, g⟩ := by
  have h1 : (stepD (powerD d)).ren l s g = stepD (powerD d) := (stepD_okD (powerD_okD h)).ren l s g
  simp only [cutD, setF_ren, h1, Fs.ren, Sc.ren_sl, renF_bor, renF_ok (okD_f h k).2.1]
  rfl
end Go.Proofs.Ytjnmdphoaafjaaa
