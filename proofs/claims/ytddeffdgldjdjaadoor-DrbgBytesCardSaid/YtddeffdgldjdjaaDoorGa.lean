/- vault.Key, and few: what their walks come to. -/
import Derived.Test.YtddeffdgldjdjaaDoorBc
import Derived.Test.YtddeffdgldjdjaaDoorHh
import Derived.Test.YtddeffdgldjdjaaDoorUl
namespace Go.Proofs.YtddeffdgldjdjaaDoor
set_option linter.unusedSimpArgs false
set_option linter.unusedVariables false
set_option linter.defProp false
open Go Go.Abs
set_option maxHeartbeats 16000000
theorem toS {f : FuncId} {pf : List AV → Option AV} (h : SoundV Tryd.prog glob f pf) : SoundV Tryd.prog globS f pf :=
  ⟨h.1, fun args r hr G w vals hp => h.2 args r hr G w vals ⟨hp.cell, (fun gi xs hx => by cases hx), hp.args⟩⟩
def EK : Env := (ES0.know 64 (fun xs => pf64 (xs.map norm))).boxed (fun d => d == 65553)
theorem okK : EnvOK Tryd.prog EK := (okS0.know sound64.norm).boxed _
theorem EK_te : EK.te = te := rfl
theorem EK_glob : EK.glob = globS := rfl
theorem EK_gs : EK.gs = [] := rfl
theorem EK_dyn : EK.dyn = false := rfl
theorem EK_mu (d : Nat) : EK.mu d = (d == 65553) := rfl
theorem EK_x : EK.tbl 64 = some (.val (fun xs => pf64 (xs.map norm))) := rfl
def nm : List (BitVec 8) := [115#8, 116#8, 114#8, 111#8, 110#8, 103#8, 114#8, 111#8, 111#8, 109#8, 32#8]
def keyB (m : List (BitVec 8)) (d : Int) : List (BitVec 8) := expandB m (nm ++ [BitVec.ofInt 8 d]) 32
theorem keyB_len (m : List (BitVec 8)) (d : Int) : (keyB m d).length = 32 := expandB_len _ _ _
def keyOK (d : Int) : Prop := ¬ (d < 0 ∨ 256 ≤ d)
instance (d : Int) : Decidable (keyOK d) := inferInstanceAs (Decidable (¬ _))
def keyV (m : List (BitVec 8)) (d : Int) : List (BitVec 8) := if keyOK d then keyB m d else List.replicate 32 0#8
def keyE (d : Int) : Int := if keyOK d then 0 else 1
theorem keyV_len (m : List (BitVec 8)) (d : Int) : (keyV m d).length = 32 := by
  unfold keyV; split
  · exact keyB_len _ _
  · rfl
theorem exp_key {n : Nat} {m : List (BitVec 8)} {d : Int} {fl fl' : Fl} (h : n = m.length) (h2 : m.length = 32) : pf64 [.sl n (nums .u8 m) fl, .sl 12 (nums .u8 (nm ++ [BitVec.ofInt 8 d])) fl', .raw (.int .i64 32)] = some (.tup [.sl 32 (nums .u8 (keyB m d)) (.own ⟨0, 0, 0, 0⟩ 1), .raw (.int .i64 0)]) := by
  simp only [pf64, row?_at h, row?_at (show 12 = (nm ++ [BitVec.ofInt 8 d]).length from rfl), int?_at, Option.bind_some]
  rw [if_pos ⟨by omega, by simp [nm]⟩, if_neg (by decide)]
  rfl
theorem nm_lit {x : BitVec 8} : [AV.raw (.int .u8 115), .raw (.int .u8 116), .raw (.int .u8 114), .raw (.int .u8 111), .raw (.int .u8 110), .raw (.int .u8 103), .raw (.int .u8 114), .raw (.int .u8 111), .raw (.int .u8 111), .raw (.int .u8 109), .raw (.int .u8 32), .raw (.int .u8 (x.toNat : Int))] = nums .u8 (nm ++ [x]) := rfl
theorem tk32 {l : List (BitVec 8)} (h : l.length = 32) : List.take 32 (nums .u8 l) = nums .u8 l := List.take_of_length_le (by rw [nums_len, h]; exact Nat.le_refl _)
theorem sp32 {l : List (BitVec 8)} (h : l.length = 32) : splice (nums .u8 (List.replicate 32 0#8)) 0 (nums .u8 l) = nums .u8 l := by
  rw [nums_splice, List.take_zero, List.nil_append, Nat.zero_add, h, show (List.replicate 32 0#8).drop 32 = [] from rfl, List.append_nil]
def pf34 : List AV → Option AV
  | [k, x] => (agg? .u8 8 32 k).bind fun m => (int? x).bind fun d => some (.tup [.agg (nums .u8 (keyV m d)), .raw (.int .i64 (keyE d))])
  | _ => none
def tbGa0 := (And.intro (And.intro (And.intro @teE (And.intro @EK_te @EK_glob)) (And.intro (And.intro @EK_gs @EK_dyn) (And.intro @EK_mu @EK_x))) (And.intro (And.intro @exp_key (And.intro @nm_lit @ns_strip)) (And.intro (And.intro @ns_set @sp32) (And.intro @tk32 @nums_ren))))
theorem sound34 : SoundV Tryd.prog globS 34 pf34 := by
  refine SoundV.walk EK okK mixed Tryd.func34 rfl Tryd.call34 (by kernel_rfl) ?_
  intro args r hr
  unfold pf34 at hr
  split at hr
  · rename_i k x
    simp only [Option.bind_eq_some_iff] at hr
    obtain ⟨m, h0, d, h1, hr⟩ := hr
    cases hr
    obtain ⟨rfl, hm⟩ := agg?_of h0
    rw [int?_of h1, Tryd.ntmps34, Tryd.results34]
    refine ⟨by simp, ?_⟩
    by_cases hb : keyOK d
    · rw [keyV, keyE, if_pos hb, if_pos hb]
      unfold keyOK at hb
      have e0 : (d < 0) = False := eq_false (by omega)
      have e1 : (d ≥ 256) = False := eq_false (by omega)
      simp (maxSteps := 1000000) (disch := first | omega | (simp only [nums_len, keyB_len, keyV_len, lnB] <;> omega) | fail) only [ev0, ev1, ev2, ev3, ↓reduceIte, reduceCtorEq, Nat.reduceAdd, Nat.reduceSub, Nat.reduceMul, Nat.reduceLT, Nat.reduceLeDiff, Nat.reduceEqDiff, Nat.reduceBEq, BitVec.reduceOfInt, Int.reduceLE, Int.reduceLT, Int.reduceGT, Int.reduceGE, Int.reduceNeg, Int.reduceAdd, Int.reduceSub, Int.reduceMul, Int.reduceToNat, ↓bind_go, ↓map_go, wantedV, isWrite, grow, write, ofV, AV.cells, Abs.start, Abs.strip, endQ, resV, rawsRes, rawRes, exports, export1, AS.grown, AS.put, Env.know, Env.boxed, isSelf, convSelf, convV, loadV, storeV, fieldAddrV, fieldV, indexAddrV, indexV, partV, isAggK, isStr, place, ipS, lenV, min2V, makeV, freshSl, sliceV, boundOr, bound, bounds, cutFl, copyV, slCells, srcV, appendV, room, zerosOf, eqNeg, kd, takeR, hasViewL, hasView, freshR, freshC, snapAll, snap, snapL, flatL, pureL, pureA, fillC, arrOK, oneA, partB, AV.laid, ren1, CR.gr, applyW, useL, AS.mute, isGen, startG, ev5, tbGa0, globS, if_true, e0, e1, decide_true, decide_false, hm]
      exact ResQ.same rfl
    · rw [keyV, keyE, if_neg hb, if_neg hb]
      have hb' := Decidable.of_not_not hb
      by_cases f0 : d < 0
      · have e0 : (d < 0) = True := eq_true f0
        simp (maxSteps := 1000000) (disch := first | omega | (simp only [nums_len, keyB_len, keyV_len, lnB] <;> omega) | fail) only [ev0, ev1, ev2, ev3, ↓reduceIte, reduceCtorEq, Nat.reduceAdd, Nat.reduceSub, Nat.reduceMul, Nat.reduceLT, Nat.reduceLeDiff, Nat.reduceEqDiff, Nat.reduceBEq, BitVec.reduceOfInt, Int.reduceLE, Int.reduceLT, Int.reduceGT, Int.reduceGE, Int.reduceNeg, Int.reduceAdd, Int.reduceSub, Int.reduceMul, Int.reduceToNat, ↓bind_go, ↓map_go, wantedV, isWrite, grow, write, ofV, AV.cells, Abs.start, Abs.strip, endQ, resV, rawsRes, rawRes, exports, export1, AS.grown, AS.put, Env.know, Env.boxed, isSelf, convSelf, convV, loadV, storeV, fieldAddrV, fieldV, indexAddrV, indexV, partV, isAggK, isStr, place, ipS, lenV, min2V, makeV, freshSl, sliceV, boundOr, bound, bounds, cutFl, copyV, slCells, srcV, appendV, room, zerosOf, eqNeg, kd, takeR, hasViewL, hasView, freshR, freshC, snapAll, snap, snapL, flatL, pureL, pureA, fillC, arrOK, oneA, partB, AV.laid, ren1, CR.gr, applyW, useL, AS.mute, isGen, startG, ev5, tbGa0, globS, if_true, e0, decide_true, decide_false, hm]
        exact ResQ.same rfl
      · have e0 : (d < 0) = False := eq_false f0
        have e1 : (d ≥ 256) = True := eq_true (by omega)
        simp (maxSteps := 1000000) (disch := first | omega | (simp only [nums_len, keyB_len, keyV_len, lnB] <;> omega) | fail) only [ev0, ev1, ev2, ev3, ↓reduceIte, reduceCtorEq, Nat.reduceAdd, Nat.reduceSub, Nat.reduceMul, Nat.reduceLT, Nat.reduceLeDiff, Nat.reduceEqDiff, Nat.reduceBEq, BitVec.reduceOfInt, Int.reduceLE, Int.reduceLT, Int.reduceGT, Int.reduceGE, Int.reduceNeg, Int.reduceAdd, Int.reduceSub, Int.reduceMul, Int.reduceToNat, ↓bind_go, ↓map_go, wantedV, isWrite, grow, write, ofV, AV.cells, Abs.start, Abs.strip, endQ, resV, rawsRes, rawRes, exports, export1, AS.grown, AS.put, Env.know, Env.boxed, isSelf, convSelf, convV, loadV, storeV, fieldAddrV, fieldV, indexAddrV, indexV, partV, isAggK, isStr, place, ipS, lenV, min2V, makeV, freshSl, sliceV, boundOr, bound, bounds, cutFl, copyV, slCells, srcV, appendV, room, zerosOf, eqNeg, kd, takeR, hasViewL, hasView, freshR, freshC, snapAll, snap, snapL, flatL, pureL, pureA, fillC, arrOK, oneA, partB, AV.laid, ren1, CR.gr, applyW, useL, AS.mute, isGen, startG, ev5, tbGa0, globS, if_true, e0, e1, decide_true, decide_false, hm]
        exact ResQ.same rfl
  · cases hr
def pf38 : List AV → Option AV
  | [v] => (row? .u8 8 v).bind fun b => if b.length ≤ 9223372036854775807 then some (.sl (b.take 500).length (nums .u8 (b.take 500)) .bor) else none
  | _ => none
theorem few_at {n : Nat} {b : List (BitVec 8)} {fl : Fl} (h : n = b.length) (h2 : b.length ≤ 9223372036854775807) : pf38 [.sl n (nums .u8 b) fl] = some (.sl (b.take 500).length (nums .u8 (b.take 500)) .bor) := by
  simp only [pf38, row?_at h, Option.bind_some, if_pos h2]
def tbGa1 := (And.intro (And.intro @teE (And.intro @E0_te @E0_glob)) (And.intro @E0_gs (And.intro @E0_dyn @E0_mu)))
theorem sound38 : SoundV Tryd.prog glob 38 pf38 := by
  refine SoundV.walk E0 ok0 mixed Tryd.func38 rfl Tryd.call38 (by kernel_rfl) ?_
  intro args r hr
  unfold pf38 at hr
  split at hr
  · simp only [Option.bind_eq_some_iff] at hr
    obtain ⟨b, h1, hr⟩ := hr
    split at hr
    · rename_i hc
      cases hr
      obtain ⟨fl, rfl⟩ := row?_of h1
      rw [Tryd.ntmps38, Tryd.results38, List.length_take]
      refine ⟨by simp, ?_⟩
      by_cases h : b.length > 500
      · have e1 : decide ((b.length : Int) > 500) = true := decide_eq_true (by omega)
        simp (maxSteps := 1000000) (disch := first | omega | (simp only [nums_len, lnB] <;> omega) | fail) only [ev0, ev1, ev2, ev3, ↓reduceIte, reduceCtorEq, Nat.reduceAdd, Nat.reduceSub, Nat.reduceMul, Nat.reduceLT, Nat.reduceLeDiff, Nat.reduceEqDiff, Nat.reduceBEq, BitVec.reduceOfInt, Int.reduceLE, Int.reduceLT, Int.reduceGT, Int.reduceGE, Int.reduceNeg, Int.reduceAdd, Int.reduceSub, Int.reduceMul, Int.reduceToNat, ↓bind_go, ↓map_go, wantedV, isWrite, grow, write, ofV, AV.cells, Abs.start, Abs.strip, endQ, resV, rawsRes, rawRes, exports, export1, AS.grown, AS.put, Env.know, Env.boxed, isSelf, convSelf, convV, loadV, storeV, fieldAddrV, fieldV, indexAddrV, indexV, partV, isAggK, isStr, place, ipS, lenV, min2V, makeV, freshSl, sliceV, boundOr, bound, bounds, cutFl, copyV, slCells, srcV, appendV, room, zerosOf, eqNeg, kd, takeR, hasViewL, hasView, freshR, freshC, snapAll, snap, snapL, flatL, pureL, pureA, fillC, arrOK, oneA, partB, AV.laid, ren1, CR.gr, applyW, useL, AS.mute, isGen, startG, ev5, tbGa1, glob, e1]
        rw [Nat.min_eq_left (by omega)]
        exact ResQ.same rfl
      · have e1 : decide ((b.length : Int) > 500) = false := decide_eq_false (by omega)
        simp (maxSteps := 1000000) (disch := first | omega | (simp only [nums_len, lnB] <;> omega) | fail) only [ev0, ev1, ev2, ev3, ↓reduceIte, reduceCtorEq, Nat.reduceAdd, Nat.reduceSub, Nat.reduceMul, Nat.reduceLT, Nat.reduceLeDiff, Nat.reduceEqDiff, Nat.reduceBEq, BitVec.reduceOfInt, Int.reduceLE, Int.reduceLT, Int.reduceGT, Int.reduceGE, Int.reduceNeg, Int.reduceAdd, Int.reduceSub, Int.reduceMul, Int.reduceToNat, ↓bind_go, ↓map_go, wantedV, isWrite, grow, write, ofV, AV.cells, Abs.start, Abs.strip, endQ, resV, rawsRes, rawRes, exports, export1, AS.grown, AS.put, Env.know, Env.boxed, isSelf, convSelf, convV, loadV, storeV, fieldAddrV, fieldV, indexAddrV, indexV, partV, isAggK, isStr, place, ipS, lenV, min2V, makeV, freshSl, sliceV, boundOr, bound, bounds, cutFl, copyV, slCells, srcV, appendV, room, zerosOf, eqNeg, kd, takeR, hasViewL, hasView, freshR, freshC, snapAll, snap, snapL, flatL, pureL, pureA, fillC, arrOK, oneA, partB, AV.laid, ren1, CR.gr, applyW, useL, AS.mute, isGen, startG, ev5, tbGa1, glob, e1]
        rw [Nat.min_eq_right (by omega)]
        exact ResQ.same rfl
    · cases hr
  · cases hr
end Go.Proofs.YtddeffdgldjdjaaDoor
