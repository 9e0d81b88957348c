/- vault.Key, and few: what their walks come to. -/
import Derived.Test.YtddeffdgldjdjaaDoorBc
import Derived.Test.YtddeffdgldjdjaaDoorHh
import Derived.Test.YtddeffdgldjdjaaDoorUl
import Derived.Test.YtddeffdgldjdjaaDoorUm
import Derived.Test.YtddeffdgldjdjaaDoorUo
import Derived.Test.YtddeffdgldjdjaaDoorUn
namespace Go.Proofs.YtddeffdgldjdjaaDoor
set_option linter.unusedSimpArgs false
set_option linter.unusedVariables false
set_option linter.defProp false
open Go Go.Abs
set_option maxHeartbeats 16000000
theorem toS {f : FuncId} {pf : List AV → Option AV} (h : SoundV Tryd.prog glob f pf) : SoundV Tryd.prog globS f pf :=
  ⟨h.1, fun args r hr G w vals hp => h.2 args r hr G w vals ⟨hp.cell, (fun gi xs hx => by cases hx), hp.args⟩⟩
def EK : Env := (ES0.know 64 (fun xs => pf64 (xs.map norm))).boxed (fun d => d == 65553)
theorem okK : EnvOK Tryd.prog EK := (okS0.know sound64.norm).boxed _
theorem EK_te : EK.te = te := rfl
theorem EK_glob : EK.glob = globS := rfl
theorem EK_gs : EK.gs = [] := rfl
theorem EK_dyn : EK.dyn = false := rfl
theorem EK_mu (d : Nat) : EK.mu d = (d == 65553) := rfl
theorem EK_x : EK.tbl 64 = some (.val (fun xs => pf64 (xs.map norm))) := rfl
def nm : List (BitVec 8) := [115#8, 116#8, 114#8, 111#8, 110#8, 103#8, 114#8, 111#8, 111#8, 109#8, 32#8]
def keyB (m : List (BitVec 8)) (d : Int) : List (BitVec 8) := expandB m (nm ++ [BitVec.ofInt 8 d]) 32
theorem keyB_len (m : List (BitVec 8)) (d : Int) : (keyB m d).length = 32 := expandB_len _ _ _
def keyOK (d : Int) : Prop := ¬ (d < 0 ∨ 256 ≤ d)
instance (d : Int) : Decidable (keyOK d) := inferInstanceAs (Decidable (¬ _))
def keyV (m : List (BitVec 8)) (d : Int) : List (BitVec 8) := if keyOK d then keyB m d else List.replicate 32 0#8
def keyE (d : Int) : Int := if keyOK d then 0 else 1
theorem keyV_len (m : List (BitVec 8)) (d : Int) : (keyV m d).length = 32 := by
  unfold keyV; split
  · exact keyB_len _ _
  · rfl
theorem exp_key {n : Nat} {m : List (BitVec 8)} {d : Int} {fl fl' : Fl} (h : n = m.length) (h2 : m.length = 32) : pf64 [.sl n (nums .u8 m) fl, .sl 12 (nums .u8 (nm ++ [BitVec.ofInt 8 d])) fl', .raw (.int .i64 32)] = some (.tup [.sl 32 (nums .u8 (keyB m d)) (.own ⟨0, 0, 0, 0⟩ 1), .raw (.int .i64 0)]) := by
  simp only [pf64, row?_at h, row?_at (show 12 = (nm ++ [BitVec.ofInt 8 d]).length from rfl), int?_at, Option.bind_some]
  rw [if_pos ⟨by omega, by simp [nm]⟩, if_neg (by decide)]
  rfl
theorem nm_lit {x : BitVec 8} : [AV.raw (.int .u8 115), .raw (.int .u8 116), .raw (.int .u8 114), .raw (.int .u8 111), .raw (.int .u8 110), .raw (.int .u8 103), .raw (.int .u8 114), .raw (.int .u8 111), .raw (.int .u8 111), .raw (.int .u8 109), .raw (.int .u8 32), .raw (.int .u8 (x.toNat : Int))] = nums .u8 (nm ++ [x]) := rfl
theorem tk32 {l : List (BitVec 8)} (h : l.length = 32) : List.take 32 (nums .u8 l) = nums .u8 l := List.take_of_length_le (by rw [nums_len, h]; exact Nat.le_refl _)
theorem sp32 {l : List (BitVec 8)} (h : l.length = 32) : splice (nums .u8 (List.replicate 32 0#8)) 0 (nums .u8 l) = nums .u8 l := by
  rw [nums_splice, List.take_zero, List.nil_append, Nat.zero_add, h, show (List.replicate 32 0#8).drop 32 = [] from rfl, List.append_nil]
def pf34 : List AV → Option AV
  | [k, x] => (agg? .u8 8 32 k).bind fun m => (int? x).bind fun d => some (.tup [.agg (nums .u8 (keyV m d)), .raw (.int .i64 (keyE d))])
  | _ => none
def tbGa0 := (And.intro (And.intro (And.intro @teE (And.intro @EK_te @EK_glob)) (And.intro (And.intro @EK_gs @EK_dyn) (And.intro @EK_mu @EK_x))) (And.intro (And.intro @exp_key (And.intro @nm_lit @ns_strip)) (And.intro (And.intro @ns_set @sp32) (And.intro @tk32 @nums_ren))))
theorem sound34 : SoundV Tryd.prog globS 34 pf34 := by
  refine SoundV.walk EK okK mixed Tryd.func34 rfl Tryd.call34 (by kernel_rfl) ?_
  intro args r hr
  unfold pf34 at hr
  split at hr
  · rename_i k x
    simp only [Option.bind_eq_some_iff] at hr
    obtain ⟨m, h0, d, h1, hr⟩ := hr
    cases hr
    obtain ⟨rfl, hm⟩ := agg?_of h0
    rw [int?_of h1, Tryd.ntmps34, Tryd.results34]
    refine ⟨by simp, ?_⟩
    by_cases hb : keyOK d
    · rw [keyV, keyE, if_pos hb, if_pos hb]
      unfold keyOK at hb
      have e0 : (d < 0) = False := eq_false (by omega)
      have e1 : (d ≥ 256) = False := eq_false (by omega)
      simp (maxSteps := 1000000) (disch := first | omega | (simp only [nums_len, keyB_len, keyV_len, lnB] <;> omega) | fail) only [ev0, ev1, ev2, ev3, ↓reduceIte, reduceCtorEq, Nat.reduceAdd, Nat.reduceSub, Nat.reduceMul, Nat.reduceLT, Nat.reduceLeDiff, Nat.reduceEqDiff, Nat.reduceBEq, BitVec.reduceOfInt, Int.reduceLE, Int.reduceLT, Int.reduceGT, Int.reduceGE, Int.reduceNeg, Int.reduceAdd, Int.reduceSub, Int.reduceMul, Int.reduceToNat, ↓bind_go, ↓map_go, wantedV, isWrite, grow, write, ofV, AV.cells, Abs.start, Abs.strip, endQ, resV, rawsRes, rawRes, exports, export1, AS.grown, AS.put, Env.know, Env.boxed, isSelf, convSelf, convV, loadV, storeV, fieldAddrV, fieldV, indexAddrV, indexV, partV, isAggK, isStr, place, lenV, min2V, makeV, freshSl, sliceV, boundOr, bound, bounds, cutFl, copyV, slCells, srcV, appendV, room, zerosOf, eqNeg, kd, takeR, hasViewL, hasView, freshR, freshC, snapAll, snap, snapL, flatL, pureL, pureA, fillC, arrOK, oneA, partB, AV.laid, ren1, CR.gr, applyW, useL, AS.mute, isGen, startG, ev5, tbGa0, globS, if_true, e0, e1, decide_true, decide_false, hm]
      exact ResQ.same rfl
    · rw [keyV, keyE, if_neg hb, if_neg hb]
      have hb' := Decidable.of_not_not hb
      by_cases f0 : d < 0
      · have e0 : (d < 0) = True := eq_true f0
        simp (maxSteps := 1000000) (disch := first | omega | (simp only [nums_len, keyB_len, keyV_len, lnB] <;> omega) | fail) only [ev0, ev1, ev2, ev3, ↓reduceIte, reduceCtorEq, Nat.reduceAdd, Nat.reduceSub, Nat.reduceMul, Nat.reduceLT, Nat.reduceLeDiff, Nat.reduceEqDiff, Nat.reduceBEq, BitVec.reduceOfInt, Int.reduceLE, Int.reduceLT, Int.reduceGT, Int.reduceGE, Int.reduceNeg, Int.reduceAdd, Int.reduceSub, Int.reduceMul, Int.reduceToNat, ↓bind_go, ↓map_go, wantedV, isWrite, grow, write, ofV, AV.cells, Abs.start, Abs.strip, endQ, resV, rawsRes, rawRes, exports, export1, AS.grown, AS.put, Env.know, Env.boxed, isSelf, convSelf, convV, loadV, storeV, fieldAddrV, fieldV, indexAddrV, indexV, partV, isAggK, isStr, place, lenV, min2V, makeV, freshSl, sliceV, boundOr, bound, bounds, cutFl, copyV, slCells, srcV, appendV, room, zerosOf, eqNeg, kd, takeR, hasViewL, hasView, freshR, freshC, snapAll, snap, snapL, flatL, pureL, pureA, fillC, arrOK, oneA, partB, AV.laid, ren1, CR.gr, applyW, useL, AS.mute, isGen, startG, ev5, tbGa0, globS, if_true, e0, decide_true, decide_false, hm]
        exact ResQ.same rfl
      · have e0 : (d < 0) = False := eq_false f0
        have e1 : (d ≥ 256) = True := eq_true (by omega)
        simp (maxSteps := 1000000) (disch := first | omega | (simp only [nums_len, keyB_len, keyV_len, lnB] <;> omega) | fail) only [ev0, ev1, ev2, ev3, ↓reduceIte, reduceCtorEq, Nat.reduceAdd, Nat.reduceSub, Nat.reduceMul, Nat.reduceLT, Nat.reduceLeDiff, Nat.reduceEqDiff, Nat.reduceBEq, BitVec.reduceOfInt, Int.reduceLE, Int.reduceLT, Int.reduceGT, Int.reduceGE, Int.reduceNeg, Int.reduceAdd, Int.reduceSub, Int.reduceMul, Int.reduceToNat, ↓bind_go, ↓map_go, wantedV, isWrite, grow, write, ofV, AV.cells, Abs.start, Abs.strip, endQ, resV, rawsRes, rawRes, exports, export1, AS.grown, AS.put, Env.know, Env.boxed, isSelf, convSelf, convV, loadV, storeV, fieldAddrV, fieldV, indexAddrV, indexV, partV, isAggK, isStr, place, lenV, min2V, makeV, freshSl, sliceV, boundOr, bound, bounds, cutFl, copyV, slCells, srcV, appendV, room, zerosOf, eqNeg, kd, takeR, hasViewL, hasView, freshR, freshC, snapAll, snap, snapL, flatL, pureL, pureA, fillC, arrOK, oneA, partB, AV.laid, ren1, CR.gr, applyW, useL, AS.mute, isGen, startG, ev5, tbGa0, globS, if_true, e0, e1, decide_true, decide_false, hm]
        exact ResQ.same rfl
  · cases hr
def pf38 : List AV → Option AV
  | [v] => (row? .u8 8 v).bind fun b => if b.length ≤ 9223372036854775807 then some (.sl (b.take 500).length (nums .u8 (b.take 500)) .bor) else none
  | _ => none
theorem few_at {n : Nat} {b : List (BitVec 8)} {fl : Fl} (h : n = b.length) (h2 : b.length ≤ 9223372036854775807) : pf38 [.sl n (nums .u8 b) fl] = some (.sl (b.take 500).length (nums .u8 (b.take 500)) .bor) := by
  simp only [pf38, row?_at h, Option.bind_some, if_pos h2]
def tbGa1 := (And.intro (And.intro @teE (And.intro @E0_te @E0_glob)) (And.intro @E0_gs (And.intro @E0_dyn @E0_mu)))
theorem sound38 : SoundV Tryd.prog glob 38 pf38 := by
  refine SoundV.walk E0 ok0 mixed Tryd.func38 rfl Tryd.call38 (by kernel_rfl) ?_
  intro args r hr
  unfold pf38 at hr
  split at hr
  · simp only [Option.bind_eq_some_iff] at hr
    obtain ⟨b, h1, hr⟩ := hr
    split at hr
    · rename_i hc
      cases hr
      obtain ⟨fl, rfl⟩ := row?_of h1
      rw [Tryd.ntmps38, Tryd.results38, List.length_take]
      refine ⟨by simp, ?_⟩
      by_cases h : b.length > 500
      · have e1 : decide ((b.length : Int) > 500) = true := decide_eq_true (by omega)
        simp (maxSteps := 1000000) (disch := first | omega | (simp only [nums_len, lnB] <;> omega) | fail) only [ev0, ev1, ev2, ev3, ↓reduceIte, reduceCtorEq, Nat.reduceAdd, Nat.reduceSub, Nat.reduceMul, Nat.reduceLT, Nat.reduceLeDiff, Nat.reduceEqDiff, Nat.reduceBEq, BitVec.reduceOfInt, Int.reduceLE, Int.reduceLT, Int.reduceGT, Int.reduceGE, Int.reduceNeg, Int.reduceAdd, Int.reduceSub, Int.reduceMul, Int.reduceToNat, ↓bind_go, ↓map_go, wantedV, isWrite, grow, write, ofV, AV.cells, Abs.start, Abs.strip, endQ, resV, rawsRes, rawRes, exports, export1, AS.grown, AS.put, Env.know, Env.boxed, isSelf, convSelf, convV, loadV, storeV, fieldAddrV, fieldV, indexAddrV, indexV, partV, isAggK, isStr, place, lenV, min2V, makeV, freshSl, sliceV, boundOr, bound, bounds, cutFl, copyV, slCells, srcV, appendV, room, zerosOf, eqNeg, kd, takeR, hasViewL, hasView, freshR, freshC, snapAll, snap, snapL, flatL, pureL, pureA, fillC, arrOK, oneA, partB, AV.laid, ren1, CR.gr, applyW, useL, AS.mute, isGen, startG, ev5, tbGa1, glob, e1]
        rw [Nat.min_eq_left (by omega)]
        exact ResQ.same rfl
      · have e1 : decide ((b.length : Int) > 500) = false := decide_eq_false (by omega)
        simp (maxSteps := 1000000) (disch := first | omega | (simp only [nums_len, lnB] <;> omega) | fail) only [ev0, ev1, ev2, ev3, ↓reduceIte, reduceCtorEq, Nat.reduceAdd, Nat.reduceSub, Nat.reduceMul, Nat.reduceLT, Nat.reduceLeDiff, Nat.reduceEqDiff, Nat.reduceBEq, BitVec.reduceOfInt, Int.reduceLE, Int.reduceLT, Int.reduceGT, Int.reduceGE, Int.reduceNeg, Int.reduceAdd, Int.reduceSub, Int.reduceMul, Int.reduceToNat, ↓bind_go, ↓map_go, wantedV, isWrite, grow, write, ofV, AV.cells, Abs.start, Abs.strip, endQ, resV, rawsRes, rawRes, exports, export1, AS.grown, AS.put, Env.know, Env.boxed, isSelf, convSelf, convV, loadV, storeV, fieldAddrV, fieldV, indexAddrV, indexV, partV, isAggK, isStr, place, lenV, min2V, makeV, freshSl, sliceV, boundOr, bound, bounds, cutFl, copyV, slCells, srcV, appendV, room, zerosOf, eqNeg, kd, takeR, hasViewL, hasView, freshR, freshC, snapAll, snap, snapL, flatL, pureL, pureA, fillC, arrOK, oneA, partB, AV.laid, ren1, CR.gr, applyW, useL, AS.mute, isGen, startG, ev5, tbGa1, glob, e1]
        rw [Nat.min_eq_right (by omega)]
        exact ResQ.same rfl
    · cases hr
  · cases hr
end Go.Proofs.YtddeffdgldjdjaaDoor

/- vault.Seal, vault.Open: what their walks come to. -/
namespace Go.Proofs.YtddeffdgldjdjaaDoor
set_option linter.unusedSimpArgs false
set_option linter.unusedVariables false
set_option linter.defProp false
open Go Go.Abs
set_option maxHeartbeats 16000000
noncomputable def EW : Env := (((ES0.know 36 pf36).know 34 pf34).know 43 (fun xs => po43 (xs.map norm))).know 68 (fun xs => pf68 (xs.map norm))
theorem okW : EnvOK Tryd.prog EW := (((okS0.know (toS sound36)).know sound34).know (toS soundo43).norm).know (toS sound68).norm
theorem EW_te : EW.te = te := rfl
theorem EW_glob : EW.glob = globS := rfl
theorem EW_gs : EW.gs = [] := rfl
theorem EW_dyn : EW.dyn = false := rfl
theorem EW_mu (d : Nat) : EW.mu d = false := rfl
theorem EW_n : EW.tbl 36 = some (.val pf36) := rfl
theorem EW_k : EW.tbl 34 = some (.val pf34) := rfl
theorem EW_s : EW.tbl 43 = some (.val (fun xs => po43 (xs.map norm))) := rfl
theorem EW_o : EW.tbl 68 = some (.val (fun xs => pf68 (xs.map norm))) := rfl
theorem key_at {m : List (BitVec 8)} {d : Int} (h : m.length = 32) : pf34 [.agg (nums .u8 m), .raw (.int .i64 d)] = some (.tup [.agg (nums .u8 (keyV m d)), .raw (.int .i64 (keyE d))]) := by
  simp only [pf34, agg?_at h, int?_at, Option.bind_some]
theorem gseal_at {k n : List (BitVec 8)} {m m' : Nat} {a b : List (BitVec 8)} {fl fl' : Fl} (hk : k.length = 32) (hn : n.length = 12) (hm : m = a.length) (hm' : m' = b.length) (ha : a.length ≤ 400000) (hb : b.length ≤ 400000) : po43 [.agg (nums .u8 k), .agg (nums .u8 n), .sl m (nums .u8 a) fl, .sl m' (nums .u8 b) fl'] = some (.sl (sealB k n a b).length (nums .u8 (sealB k n a b)) (.own ⟨0, 0, 0, 0⟩ 1)) := by
  have hc : a.length ≤ 400000 ∧ b.length ≤ 400000 := ⟨ha, hb⟩
  simp only [po43, agg?_at hk, agg?_at hn, row?_at hm, row?_at hm', Option.bind_some, if_pos hc]
theorem gopen_at {k n : List (BitVec 8)} {m m' : Nat} {a b : List (BitVec 8)} {fl fl' : Fl} (hk : k.length = 32) (hn : n.length = 12) (hm : m = a.length) (hm' : m' = b.length) (ha : a.length ≤ 400000) (hb : b.length ≤ 400000) : pf68 [.agg (nums .u8 k), .agg (nums .u8 n), .sl m (nums .u8 a) fl, .sl m' (nums .u8 b) fl'] = some (.tup [.sl (openT k n a b).length (nums .u8 (openT k n a b)) .bor, .raw (.int .i64 (openE k n a b))]) := by
  have hc : a.length ≤ 400000 ∧ b.length ≤ 400000 := ⟨ha, hb⟩
  simp only [pf68, agg?_at hk, agg?_at hn, row?_at hm, row?_at hm', Option.bind_some, if_pos hc]
/-- what is sealed, what is opened, when it is not refused -/
def vsB (m : List (BitVec 8)) (d t i : Int) (b : List (BitVec 8)) : List (BitVec 8) := sealB (keyV m d) (nonce d t i) (nonce d t i) b
def voB (m : List (BitVec 8)) (d t i : Int) (b : List (BitVec 8)) : List (BitVec 8) := openT (keyV m d) (nonce d t i) (nonce d t i) b
def voE (m : List (BitVec 8)) (d t i : Int) (b : List (BitVec 8)) : Int := openE (keyV m d) (nonce d t i) (nonce d t i) b
def vsT (m : List (BitVec 8)) (d t i : Int) (b : List (BitVec 8)) : List (BitVec 8) := if argOK d t i then vsB m d t i b else []
def voT (m : List (BitVec 8)) (d t i : Int) (b : List (BitVec 8)) : List (BitVec 8) := if argOK d t i then voB m d t i b else []
def voF (m : List (BitVec 8)) (d t i : Int) (b : List (BitVec 8)) : Int := if argOK d t i then voE m d t i b else 1
def pv39 : List AV → Option AV
  | [k, x, y, z, w] => (agg? .u8 8 32 k).bind fun m => (int? x).bind fun d => (int? y).bind fun t => (int? z).bind fun i => (row? .u8 8 w).bind fun b => if b.length ≤ 400000 then some (.tup [.sl (vsT m d t i b).length (nums .u8 (vsT m d t i b)) .bor, .raw (.int .i64 (nonceE d t i))]) else none
  | _ => none
def pv41 : List AV → Option AV
  | [k, x, y, z, w] => (agg? .u8 8 32 k).bind fun m => (int? x).bind fun d => (int? y).bind fun t => (int? z).bind fun i => (row? .u8 8 w).bind fun b => if b.length ≤ 400000 then some (.tup [.sl (voT m d t i b).length (nums .u8 (voT m d t i b)) .bor, .raw (.int .i64 (voF m d t i b))]) else none
  | _ => none
def tbGb0 := (And.intro (And.intro (And.intro (And.intro @teE (And.intro @EW_te @EW_glob)) (And.intro @EW_gs (And.intro @EW_dyn @EW_mu))) (And.intro (And.intro @EW_n (And.intro @EW_k @EW_s)) (And.intro @EW_o (And.intro @nonce_at @key_at)))) (And.intro (And.intro (And.intro @gseal_at (And.intro @gopen_at @ns_strip)) (And.intro @ns_set (And.intro @sp12 @tk12))) (And.intro (And.intro @le12 (And.intro @sp32 @tk32)) (And.intro @nonce_len (And.intro @nonceV_len @keyV_len)))))
theorem soundv39 : SoundV Tryd.prog globS 39 pv39 := by
  refine SoundV.walk EW okW mixed Tryd.func39 rfl Tryd.call39 (by kernel_rfl) ?_
  intro args r hr
  unfold pv39 at hr
  split at hr
  · rename_i k x y z w
    simp only [Option.bind_eq_some_iff] at hr
    obtain ⟨m, h0, d, h1, t, h2, i, h3, b, h4, hr⟩ := hr
    split at hr
    · rename_i hl
      cases hr
      obtain ⟨rfl, hm⟩ := agg?_of h0
      obtain ⟨fl, rfl⟩ := row?_of h4
      rw [int?_of h1, int?_of h2, int?_of h3]
      by_cases hb : argOK d t i
      · have e1 : nonceE d t i = 0 := if_pos hb
        have v1 : nonceV d t i = nonce d t i := if_pos hb
        have w1 : vsT m d t i b = vsB m d t i b := if_pos hb
        have w2 : voT m d t i b = voB m d t i b := if_pos hb
        have w3 : voF m d t i b = voE m d t i b := if_pos hb
        simp only [e1, w1, w2, w3]
        rw [Tryd.ntmps39, Tryd.results39]
        refine ⟨by simp, ?_⟩
        simp (maxSteps := 1000000) (disch := first | omega | (simp only [nums_len, keyV_len, nonce_len, nonceV_len, lnB] <;> omega) | fail) only [ev0, ev1, ev2, ev3, ↓reduceIte, reduceCtorEq, Nat.reduceAdd, Nat.reduceSub, Nat.reduceMul, Nat.reduceLT, Nat.reduceLeDiff, Nat.reduceEqDiff, Nat.reduceBEq, BitVec.reduceOfInt, Int.reduceLE, Int.reduceLT, Int.reduceGT, Int.reduceGE, Int.reduceNeg, Int.reduceAdd, Int.reduceSub, Int.reduceMul, Int.reduceToNat, ↓bind_go, ↓map_go, wantedV, isWrite, grow, write, ofV, AV.cells, Abs.start, Abs.strip, endQ, resV, rawsRes, rawRes, exports, export1, AS.grown, AS.put, Env.know, Env.boxed, isSelf, convSelf, convV, loadV, storeV, fieldAddrV, fieldV, indexAddrV, indexV, partV, isAggK, isStr, place, lenV, min2V, makeV, freshSl, sliceV, boundOr, bound, bounds, cutFl, copyV, slCells, srcV, appendV, room, zerosOf, eqNeg, kd, takeR, hasViewL, hasView, freshR, freshC, snapAll, snap, snapL, flatL, pureL, pureA, fillC, arrOK, oneA, partB, AV.laid, ren1, CR.gr, applyW, useL, AS.mute, isGen, startG, ev5, tbGb0, globS, if_true, Int.reduceBEq, Int.reduceBNe, e1, v1, hm, hl]
        exact resQ_2
      · have e1 : nonceE d t i = 1 := if_neg hb
        have w1 : vsT m d t i b = [] := if_neg hb
        have w2 : voT m d t i b = [] := if_neg hb
        have w3 : voF m d t i b = 1 := if_neg hb
        simp only [e1, w1, w2, w3]
        rw [Tryd.ntmps39, Tryd.results39]
        refine ⟨by simp, ?_⟩
        simp (maxSteps := 1000000) (disch := first | omega | (simp only [nums_len, keyV_len, nonce_len, nonceV_len, lnB] <;> omega) | fail) only [ev0, ev1, ev2, ev3, ↓reduceIte, reduceCtorEq, Nat.reduceAdd, Nat.reduceSub, Nat.reduceMul, Nat.reduceLT, Nat.reduceLeDiff, Nat.reduceEqDiff, Nat.reduceBEq, BitVec.reduceOfInt, Int.reduceLE, Int.reduceLT, Int.reduceGT, Int.reduceGE, Int.reduceNeg, Int.reduceAdd, Int.reduceSub, Int.reduceMul, Int.reduceToNat, ↓bind_go, ↓map_go, wantedV, isWrite, grow, write, ofV, AV.cells, Abs.start, Abs.strip, endQ, resV, rawsRes, rawRes, exports, export1, AS.grown, AS.put, Env.know, Env.boxed, isSelf, convSelf, convV, loadV, storeV, fieldAddrV, fieldV, indexAddrV, indexV, partV, isAggK, isStr, place, lenV, min2V, makeV, freshSl, sliceV, boundOr, bound, bounds, cutFl, copyV, slCells, srcV, appendV, room, zerosOf, eqNeg, kd, takeR, hasViewL, hasView, freshR, freshC, snapAll, snap, snapL, flatL, pureL, pureA, fillC, arrOK, oneA, partB, AV.laid, ren1, CR.gr, applyW, useL, AS.mute, isGen, startG, ev5, tbGb0, globS, if_true, Int.reduceBEq, Int.reduceBNe, e1, hm]
        exact resQ_2nil
    · cases hr
  · cases hr
end Go.Proofs.YtddeffdgldjdjaaDoor

/- vault.Open: what its walk comes to. -/
namespace Go.Proofs.YtddeffdgldjdjaaDoor
set_option linter.unusedSimpArgs false
set_option linter.unusedVariables false
set_option linter.defProp false
open Go Go.Abs
set_option maxHeartbeats 16000000
theorem toSG {f : FuncId} {gf : List AV → Boxes → (Abs.Id → Bool) → Option CR} (h : SoundG Tryd.prog glob f gf) : SoundG Tryd.prog globS f gf :=
  ⟨h.1, fun N g box w hv _ => h.2 N g box w hv (fun gi xs hx => by cases hx)⟩
noncomputable def EO : Env := ((ES0.know 36 pf36).know 34 pf34).knowG 68 gx68
theorem okO : EnvOK Tryd.prog EO := ((okS0.know (toS sound36)).know sound34).knowG (toSG soundX68)
theorem EO_te : EO.te = te := rfl
theorem EO_glob : EO.glob = globS := rfl
theorem EO_gs : EO.gs = [68] := rfl
theorem EO_dyn : EO.dyn = false := rfl
theorem EO_mu (d : Nat) : EO.mu d = false := rfl
theorem EO_n : EO.tbl 36 = some (.val pf36) := rfl
theorem EO_k : EO.tbl 34 = some (.val pf34) := rfl
theorem EO_o : EO.tbl 68 = some (.gen gx68) := rfl
theorem openx_go {k n t : List (BitVec 8)} {r : Bx} {m c m' : Nat} {fl : Fl} {bx : Boxes} {us : Abs.Id → Bool} (hk : k.length = 32) (hn : n.length = 12) (hm : m' = t.length) (ht : t.length ≤ 400000) : gx68 [.agg (nums .u8 k), .agg (nums .u8 n), .view r 0 m c 1, .sl m' (nums .u8 t) fl] bx us = (bx r).bind fun cs => (row? .u8 8 (.sl cs.length cs .bor)).bind fun b => if m ≤ b.length ∧ m ≤ c then if (b.take m).length ≤ 400000 then some { v := .ret (.tup [.sl (openT k n (b.take m) t).length (nums .u8 (openT k n (b.take m) t)) .bor, .raw (.int .i64 (openE k n (b.take m) t))]) } else none else none := by
  simp only [gx68, agg?_at hk, agg?_at hn, row?_at hm, Option.bind_some, vw?_is]
  cases bx r with
  | none => rfl
  | some cs =>
    simp only [Option.bind_some]
    cases row? .u8 8 (.sl cs.length cs .bor) with
    | none => rfl
    | some b =>
      simp only [Option.bind_some]
      by_cases h1 : m ≤ b.length ∧ m ≤ c
      · rw [if_pos h1, if_pos h1, Option.bind_some]
        by_cases h2 : (b.take m).length ≤ 400000
        · rw [if_pos h2, if_pos ⟨h2, ht⟩]
        · rw [if_neg h2, if_neg (fun h => h2 h.1)]
      · rw [if_neg h1, if_neg h1]; rfl
theorem row_n {b : List (BitVec 8)} : row? .u8 8 (.sl (nums .u8 b).length (nums .u8 b) .bor) = some b := row?_at (by rw [nums_len])
theorem row_n' {b : List (BitVec 8)} : row? .u8 8 (.sl b.length (nums .u8 b) .bor) = some b := row?_at rfl
theorem row_12 (d t i : Int) : row? .u8 8 (.sl 12 (nums .u8 (nonce d t i)) .bor) = some (nonce d t i) := row?_at (by rw [nonce_len])
theorem tkn (d t i : Int) : (nonce d t i).take 12 = nonce d t i := List.take_of_length_le (by rw [nonce_len]; exact Nat.le_refl _)
def tbGc0 := (And.intro (And.intro (And.intro (And.intro @teE (And.intro @EO_te @EO_glob)) (And.intro @EO_gs (And.intro @EO_dyn @EO_mu))) (And.intro (And.intro @EO_n (And.intro @EO_k @EO_o)) (And.intro (And.intro @nonce_at @key_at) (And.intro @openx_go @row_n)))) (And.intro (And.intro (And.intro @row_n' (And.intro @row_12 @tkn)) (And.intro (And.intro @nums_ren @ns_strip) (And.intro @ns_set @sp12))) (And.intro (And.intro @tk12 (And.intro @le12 @sp32)) (And.intro (And.intro @tk32 @nonce_len) (And.intro @nonceV_len @keyV_len)))))
theorem soundv41 : SoundV Tryd.prog globS 41 pv41 := by
  refine SoundV.walk EO okO mixed Tryd.func41 rfl Tryd.call41 (by kernel_rfl) ?_
  intro args r hr
  unfold pv41 at hr
  split at hr
  · rename_i k x y z w
    simp only [Option.bind_eq_some_iff] at hr
    obtain ⟨m, h0, d, h1, t, h2, i, h3, b, h4, hr⟩ := hr
    split at hr
    · rename_i hl
      cases hr
      obtain ⟨rfl, hm⟩ := agg?_of h0
      obtain ⟨fl, rfl⟩ := row?_of h4
      rw [int?_of h1, int?_of h2, int?_of h3]
      by_cases hb : argOK d t i
      · have e1 : nonceE d t i = 0 := if_pos hb
        have v1 : nonceV d t i = nonce d t i := if_pos hb
        have w1 : vsT m d t i b = vsB m d t i b := if_pos hb
        have w2 : voT m d t i b = voB m d t i b := if_pos hb
        have w3 : voF m d t i b = voE m d t i b := if_pos hb
        simp only [e1, w1, w2, w3]
        rw [Tryd.ntmps41, Tryd.results41]
        refine ⟨by simp, ?_⟩
        simp (maxSteps := 1000000) (disch := first | omega | (simp only [nums_len, keyV_len, nonce_len, nonceV_len, lnB] <;> omega) | fail) only [ev0, ev1, ev2, ev3, ↓reduceIte, reduceCtorEq, Nat.reduceAdd, Nat.reduceSub, Nat.reduceMul, Nat.reduceLT, Nat.reduceLeDiff, Nat.reduceEqDiff, Nat.reduceBEq, BitVec.reduceOfInt, Int.reduceLE, Int.reduceLT, Int.reduceGT, Int.reduceGE, Int.reduceNeg, Int.reduceAdd, Int.reduceSub, Int.reduceMul, Int.reduceToNat, ↓bind_go, ↓map_go, wantedV, isWrite, grow, write, ofV, AV.cells, Abs.start, Abs.strip, endQ, resV, rawsRes, rawRes, exports, export1, AS.grown, AS.put, Env.know, Env.boxed, isSelf, convSelf, convV, loadV, storeV, fieldAddrV, fieldV, indexAddrV, indexV, partV, isAggK, isStr, place, lenV, min2V, makeV, freshSl, sliceV, boundOr, bound, bounds, cutFl, copyV, slCells, srcV, appendV, room, zerosOf, eqNeg, kd, takeR, hasViewL, hasView, freshR, freshC, snapAll, snap, snapL, flatL, pureL, pureA, fillC, arrOK, oneA, partB, AV.laid, ren1, CR.gr, applyW, useL, AS.mute, isGen, startG, ev5, tbGc0, Nat.le_refl, globS, if_true, Int.reduceBEq, Int.reduceBNe, Bx.own.injEq, and_false, false_and, and_true, true_and, e1, v1, hm, hl]
        exact resQ_2
      · have e1 : nonceE d t i = 1 := if_neg hb
        have w1 : vsT m d t i b = [] := if_neg hb
        have w2 : voT m d t i b = [] := if_neg hb
        have w3 : voF m d t i b = 1 := if_neg hb
        simp only [e1, w1, w2, w3]
        rw [Tryd.ntmps41, Tryd.results41]
        refine ⟨by simp, ?_⟩
        simp (maxSteps := 1000000) (disch := first | omega | (simp only [nums_len, keyV_len, nonce_len, nonceV_len, lnB] <;> omega) | fail) only [ev0, ev1, ev2, ev3, ↓reduceIte, reduceCtorEq, Nat.reduceAdd, Nat.reduceSub, Nat.reduceMul, Nat.reduceLT, Nat.reduceLeDiff, Nat.reduceEqDiff, Nat.reduceBEq, BitVec.reduceOfInt, Int.reduceLE, Int.reduceLT, Int.reduceGT, Int.reduceGE, Int.reduceNeg, Int.reduceAdd, Int.reduceSub, Int.reduceMul, Int.reduceToNat, ↓bind_go, ↓map_go, wantedV, isWrite, grow, write, ofV, AV.cells, Abs.start, Abs.strip, endQ, resV, rawsRes, rawRes, exports, export1, AS.grown, AS.put, Env.know, Env.boxed, isSelf, convSelf, convV, loadV, storeV, fieldAddrV, fieldV, indexAddrV, indexV, partV, isAggK, isStr, place, lenV, min2V, makeV, freshSl, sliceV, boundOr, bound, bounds, cutFl, copyV, slCells, srcV, appendV, room, zerosOf, eqNeg, kd, takeR, hasViewL, hasView, freshR, freshC, snapAll, snap, snapL, flatL, pureL, pureA, fillC, arrOK, oneA, partB, AV.laid, ren1, CR.gr, applyW, useL, AS.mute, isGen, startG, ev5, tbGc0, Nat.le_refl, globS, if_true, Int.reduceBEq, Int.reduceBNe, Bx.own.injEq, and_false, false_and, and_true, true_and, e1, hm]
        exact resQ_2nil
    · cases hr
  · cases hr
end Go.Proofs.YtddeffdgldjdjaaDoor

/- VaultBack: what its walk comes to. -/
namespace Go.Proofs.YtddeffdgldjdjaaDoor
set_option linter.unusedSimpArgs false
set_option linter.unusedVariables false
set_option linter.defProp false
open Go Go.Abs
set_option maxHeartbeats 16000000
noncomputable def EB : Env := ((((((ES0.know 36 pf36).know 34 pf34).know 39 (fun xs => pv39 (xs.map norm))).know 41 (fun xs => pv41 (xs.map norm))).know 43 (fun xs => po43 (xs.map norm))).know 38 (fun xs => pf38 (xs.map norm))).know 33 pf33
theorem okB : EnvOK Tryd.prog EB := ((((((okS0.know (toS sound36)).know sound34).know soundv39.norm).know soundv41.norm).know (toS soundo43).norm).know (toS sound38).norm).know (toS sound33)
theorem EB_te : EB.te = te := rfl
theorem EB_glob : EB.glob = globS := rfl
theorem EB_gs : EB.gs = [] := rfl
theorem EB_dyn : EB.dyn = false := rfl
theorem EB_mu (d : Nat) : EB.mu d = false := rfl
theorem EB_n : EB.tbl 36 = some (.val pf36) := rfl
theorem EB_k : EB.tbl 34 = some (.val pf34) := rfl
theorem EB_s : EB.tbl 39 = some (.val (fun xs => pv39 (xs.map norm))) := rfl
theorem EB_o : EB.tbl 41 = some (.val (fun xs => pv41 (xs.map norm))) := rfl
theorem EB_g : EB.tbl 43 = some (.val (fun xs => po43 (xs.map norm))) := rfl
theorem EB_f : EB.tbl 38 = some (.val (fun xs => pf38 (xs.map norm))) := rfl
theorem EB_h : EB.tbl 33 = some (.val pf33) := rfl
theorem vseal_at {m : List (BitVec 8)} {d t i : Int} {n : Nat} {b : List (BitVec 8)} {fl : Fl} (hm : m.length = 32) (hn : n = b.length) (hb : b.length ≤ 400000) : pv39 [.agg (nums .u8 m), .raw (.int .i64 d), .raw (.int .i64 t), .raw (.int .i64 i), .sl n (nums .u8 b) fl] = some (.tup [.sl (vsT m d t i b).length (nums .u8 (vsT m d t i b)) .bor, .raw (.int .i64 (nonceE d t i))]) := by
  simp only [pv39, agg?_at hm, int?_at, row?_at hn, Option.bind_some, if_pos hb]
theorem vopen_at {m : List (BitVec 8)} {d t i : Int} {n : Nat} {b : List (BitVec 8)} {fl : Fl} (hm : m.length = 32) (hn : n = b.length) (hb : b.length ≤ 400000) : pv41 [.agg (nums .u8 m), .raw (.int .i64 d), .raw (.int .i64 t), .raw (.int .i64 i), .sl n (nums .u8 b) fl] = some (.tup [.sl (voT m d t i b).length (nums .u8 (voT m d t i b)) .bor, .raw (.int .i64 (voF m d t i b))]) := by
  simp only [pv41, agg?_at hm, int?_at, row?_at hn, Option.bind_some, if_pos hb]
def pf11 : List AV → Option AV
  | [k, .agg [x, y, z], w] => (agg? .u8 8 32 k).bind fun _ => (int? x).bind fun _ => (int? y).bind fun _ => (int? z).bind fun _ => (row? .u8 8 w).bind fun b => if b.length ≤ 9223372036854775807 then some (.raw (.bool true)) else none
  | _ => none
theorem vsT_len (m : List (BitVec 8)) (d t i : Int) (b : List (BitVec 8)) : (vsT m d t i b).length ≤ b.length + 16 := by
  unfold vsT vsB; split
  · rw [sealB_len]; exact Nat.le_refl _
  · simp
theorem back_is {m : List (BitVec 8)} {d t i : Int} {b : List (BitVec 8)} (h : argOK d t i) : voT m d t i (vsT m d t i b) = b ∧ voF m d t i (vsT m d t i b) = 0 := by
  have := open_seal (k := keyV m d) (a := nonce d t i) (t := b) (nonce_len d t i)
  rw [voT, voF, vsT, if_pos h, if_pos h, if_pos h]
  exact this
theorem keyOK_of {d t i : Int} (h : argOK d t i) : keyOK d := by
  unfold argOK at h; unfold keyOK; omega
def tbGd0 := (And.intro (And.intro (And.intro (And.intro @teE (And.intro @EB_te @EB_glob)) (And.intro (And.intro @EB_gs @EB_dyn) (And.intro @EB_mu @EB_n))) (And.intro (And.intro (And.intro @EB_k @EB_s) (And.intro @EB_o @EB_g)) (And.intro (And.intro @EB_f @EB_h) (And.intro @nonce_at @key_at)))) (And.intro (And.intro (And.intro @vseal_at (And.intro @vopen_at @gseal_at)) (And.intro (And.intro @few_at @shown_at) (And.intro @ns_strip @ns_set))) (And.intro (And.intro (And.intro @sp12 @tk12) (And.intro @le12 @sp32)) (And.intro (And.intro @tk32 @nonce_len) (And.intro @nonceV_len @keyV_len)))))
theorem sound11 : SoundV Tryd.prog globS 11 pf11 := by
  refine SoundV.walk EB okB mixed Tryd.func11 rfl Tryd.call11 (by kernel_rfl) ?_
  intro args r hr
  unfold pf11 at hr
  split at hr
  · rename_i k x y z w
    simp only [Option.bind_eq_some_iff] at hr
    obtain ⟨m, h0, d, h1, t, h2, i, h3, b, h4, hr⟩ := hr
    split at hr
    · rename_i hl
      cases hr
      obtain ⟨rfl, hm⟩ := agg?_of h0
      obtain ⟨fl, rfl⟩ := row?_of h4
      rw [int?_of h1, int?_of h2, int?_of h3, Tryd.ntmps11, Tryd.results11]
      refine ⟨by simp, ?_⟩
      have hb5 : (b.take 500).length ≤ 500 := by rw [List.length_take]; exact Nat.min_le_left _ _
      have hs := vsT_len m d t i (b.take 500)
      by_cases hb : argOK d t i
      · have e1 : nonceE d t i = 0 := if_pos hb
        have v1 : nonceV d t i = nonce d t i := if_pos hb
        have k1 : keyE d = 0 := if_pos (keyOK_of hb)
        obtain ⟨o1, o2⟩ := back_is (m := m) (b := b.take 500) hb
        have w1 : sealB (keyV m d) (nonce d t i) (nonce d t i) (b.take 500) = vsT m d t i (b.take 500) := (if_pos hb).symm
        have hs5 : (vsT m d t i (b.take 500)).length ≤ 400000 := by omega
        simp (maxSteps := 1000000) (disch := first | omega | (simp only [nums_len, keyV_len, nonce_len, nonceV_len, lnB] <;> omega) | fail) only [ev0, ev1, ev2, ev3, ↓reduceIte, reduceCtorEq, Nat.reduceAdd, Nat.reduceSub, Nat.reduceMul, Nat.reduceLT, Nat.reduceLeDiff, Nat.reduceEqDiff, Nat.reduceBEq, BitVec.reduceOfInt, Int.reduceLE, Int.reduceLT, Int.reduceGT, Int.reduceGE, Int.reduceNeg, Int.reduceAdd, Int.reduceSub, Int.reduceMul, Int.reduceToNat, ↓bind_go, ↓map_go, wantedV, isWrite, grow, write, ofV, AV.cells, Abs.start, Abs.strip, endQ, resV, rawsRes, rawRes, exports, export1, AS.grown, AS.put, Env.know, Env.boxed, isSelf, convSelf, convV, loadV, storeV, fieldAddrV, fieldV, indexAddrV, indexV, partV, isAggK, isStr, place, lenV, min2V, makeV, freshSl, sliceV, boundOr, bound, bounds, cutFl, copyV, slCells, srcV, appendV, room, zerosOf, eqNeg, kd, takeR, hasViewL, hasView, freshR, freshC, snapAll, snap, snapL, flatL, pureL, pureA, fillC, arrOK, oneA, partB, AV.laid, ren1, CR.gr, applyW, useL, AS.mute, isGen, startG, ev5, tbGd0, globS, if_true, Int.reduceBEq, Int.reduceBNe, Nat.le_refl, beq_self_eq_true, e1, v1, k1, hm, o1, o2, w1]
        exact ResQ.same rfl
      · have e1 : nonceE d t i = 1 := if_neg hb
        have o2 : ∀ c, voF m d t i c = 1 := fun c => if_neg hb
        have hs5 : (vsT m d t i (b.take 500)).length ≤ 400000 := by omega
        simp (maxSteps := 1000000) (disch := first | omega | (simp only [nums_len, keyV_len, nonce_len, nonceV_len, lnB] <;> omega) | fail) only [ev0, ev1, ev2, ev3, ↓reduceIte, reduceCtorEq, Nat.reduceAdd, Nat.reduceSub, Nat.reduceMul, Nat.reduceLT, Nat.reduceLeDiff, Nat.reduceEqDiff, Nat.reduceBEq, BitVec.reduceOfInt, Int.reduceLE, Int.reduceLT, Int.reduceGT, Int.reduceGE, Int.reduceNeg, Int.reduceAdd, Int.reduceSub, Int.reduceMul, Int.reduceToNat, ↓bind_go, ↓map_go, wantedV, isWrite, grow, write, ofV, AV.cells, Abs.start, Abs.strip, endQ, resV, rawsRes, rawRes, exports, export1, AS.grown, AS.put, Env.know, Env.boxed, isSelf, convSelf, convV, loadV, storeV, fieldAddrV, fieldV, indexAddrV, indexV, partV, isAggK, isStr, place, lenV, min2V, makeV, freshSl, sliceV, boundOr, bound, bounds, cutFl, copyV, slCells, srcV, appendV, room, zerosOf, eqNeg, kd, takeR, hasViewL, hasView, freshR, freshC, snapAll, snap, snapL, flatL, pureL, pureA, fillC, arrOK, oneA, partB, AV.laid, ren1, CR.gr, applyW, useL, AS.mute, isGen, startG, ev5, tbGd0, globS, if_true, Int.reduceBEq, Int.reduceBNe, Nat.le_refl, beq_self_eq_true, e1, hm, o2]
        exact ResQ.same rfl
    · cases hr
  · cases hr
end Go.Proofs.YtddeffdgldjdjaaDoor
