/- vault.Seal, vault.Open: what their walks come to. -/
import Derived.Test.YtddeffdgldjdjaaDoorGa
import Derived.Test.YtddeffdgldjdjaaDoorUm
namespace Go.Proofs.YtddeffdgldjdjaaDoor
set_option linter.unusedSimpArgs false
set_option linter.unusedVariables false
set_option linter.defProp false
open Go Go.Abs
set_option maxHeartbeats 16000000
noncomputable def EW : Env := (((ES0.know 36 pf36).know 34 pf34).know 43 (fun xs => po43 (xs.map norm))).know 68 (fun xs => pf68 (xs.map norm))
theorem okW : EnvOK Tryd.prog EW := (((okS0.know (toS sound36)).know sound34).know (toS soundo43).norm).know (toS sound68).norm
theorem EW_te : EW.te = te := rfl
theorem EW_glob : EW.glob = globS := rfl
theorem EW_gs : EW.gs = [] := rfl
theorem EW_dyn : EW.dyn = false := rfl
theorem EW_mu (d : Nat) : EW.mu d = false := rfl
theorem EW_n : EW.tbl 36 = some (.val pf36) := rfl
theorem EW_k : EW.tbl 34 = some (.val pf34) := rfl
theorem EW_s : EW.tbl 43 = some (.val (fun xs => po43 (xs.map norm))) := rfl
theorem EW_o : EW.tbl 68 = some (.val (fun xs => pf68 (xs.map norm))) := rfl
theorem key_at {m : List (BitVec 8)} {d : Int} (h : m.length = 32) : pf34 [.agg (nums .u8 m), .raw (.int .i64 d)] = some (.tup [.agg (nums .u8 (keyV m d)), .raw (.int .i64 (keyE d))]) := by
  simp only [pf34, agg?_at h, int?_at, Option.bind_some]
theorem gseal_at {k n : List (BitVec 8)} {m m' : Nat} {a b : List (BitVec 8)} {fl fl' : Fl} (hk : k.length = 32) (hn : n.length = 12) (hm : m = a.length) (hm' : m' = b.length) (ha : a.length ≤ 400000) (hb : b.length ≤ 400000) : po43 [.agg (nums .u8 k), .agg (nums .u8 n), .sl m (nums .u8 a) fl, .sl m' (nums .u8 b) fl'] = some (.sl (sealB k n a b).length (nums .u8 (sealB k n a b)) (.own ⟨0, 0, 0, 0⟩ 1)) := by
  have hc : a.length ≤ 400000 ∧ b.length ≤ 400000 := ⟨ha, hb⟩
  simp only [po43, agg?_at hk, agg?_at hn, row?_at hm, row?_at hm', Option.bind_some, if_pos hc]
theorem gopen_at {k n : List (BitVec 8)} {m m' : Nat} {a b : List (BitVec 8)} {fl fl' : Fl} (hk : k.length = 32) (hn : n.length = 12) (hm : m = a.length) (hm' : m' = b.length) (ha : a.length ≤ 400000) (hb : b.length ≤ 400000) : pf68 [.agg (nums .u8 k), .agg (nums .u8 n), .sl m (nums .u8 a) fl, .sl m' (nums .u8 b) fl'] = some (.tup [.sl (openT k n a b).length (nums .u8 (openT k n a b)) .bor, .raw (.int .i64 (openE k n a b))]) := by
  have hc : a.length ≤ 400000 ∧ b.length ≤ 400000 := ⟨ha, hb⟩
  simp only [pf68, agg?_at hk, agg?_at hn, row?_at hm, row?_at hm', Option.bind_some, if_pos hc]
/-- what is sealed, what is opened, when it is not refused -/
def vsB (m : List (BitVec 8)) (d t i : Int) (b : List (BitVec 8)) : List (BitVec 8) := sealB (keyV m d) (nonce d t i) (nonce d t i) b
def voB (m : List (BitVec 8)) (d t i : Int) (b : List (BitVec 8)) : List (BitVec 8) := openT (keyV m d) (nonce d t i) (nonce d t i) b
def voE (m : List (BitVec 8)) (d t i : Int) (b : List (BitVec 8)) : Int := openE (keyV m d) (nonce d t i) (nonce d t i) b
def vsT (m : List (BitVec 8)) (d t i : Int) (b : List (BitVec 8)) : List (BitVec 8) := if argOK d t i then vsB m d t i b else []
def voT (m : List (BitVec 8)) (d t i : Int) (b : List (BitVec 8)) : List (BitVec 8) := if argOK d t i then voB m d t i b else []
def voF (m : List (BitVec 8)) (d t i : Int) (b : List (BitVec 8)) : Int := if argOK d t i then voE m d t i b else 1
def pv39 : List AV → Option AV
  | [k, x, y, z, w] => (agg? .u8 8 32 k).bind fun m => (int? x).bind fun d => (int? y).bind fun t => (int? z).bind fun i => (row? .u8 8 w).bind fun b => if b.length ≤ 400000 then some (.tup [.sl (vsT m d t i b).length (nums .u8 (vsT m d t i b)) .bor, .raw (.int .i64 (nonceE d t i))]) else none
  | _ => none
def pv41 : List AV → Option AV
  | [k, x, y, z, w] => (agg? .u8 8 32 k).bind fun m => (int? x).bind fun d => (int? y).bind fun t => (int? z).bind fun i => (row? .u8 8 w).bind fun b => if b.length ≤ 400000 then some (.tup [.sl (voT m d t i b).length (nums .u8 (voT m d t i b)) .bor, .raw (.int .i64 (voF m d t i b))]) else none
  | _ => none
def tbGb0 := (And.intro (And.intro (And.intro (And.intro @teE (And.intro @EW_te @EW_glob)) (And.intro @EW_gs (And.intro @EW_dyn @EW_mu))) (And.intro (And.intro @EW_n (And.intro @EW_k @EW_s)) (And.intro @EW_o (And.intro @nonce_at @key_at)))) (And.intro (And.intro (And.intro @gseal_at (And.intro @gopen_at @ns_strip)) (And.intro @ns_set (And.intro @sp12 @tk12))) (And.intro (And.intro @le12 (And.intro @sp32 @tk32)) (And.intro @nonce_len (And.intro @nonceV_len @keyV_len)))))
theorem soundv39 : SoundV Tryd.prog globS 39 pv39 := by
  refine SoundV.walk EW okW mixed Tryd.func39 rfl Tryd.call39 (by kernel_rfl) ?_
  intro args r hr
  unfold pv39 at hr
  split at hr
  · rename_i k x y z w
    simp only [Option.bind_eq_some_iff] at hr
    obtain ⟨m, h0, d, h1, t, h2, i, h3, b, h4, hr⟩ := hr
    split at hr
    · rename_i hl
      cases hr
      obtain ⟨rfl, hm⟩ := agg?_of h0
      obtain ⟨fl, rfl⟩ := row?_of h4
      rw [int?_of h1, int?_of h2, int?_of h3]
      by_cases hb : argOK d t i
      · have e1 : nonceE d t i = 0 := if_pos hb
        have v1 : nonceV d t i = nonce d t i := if_pos hb
        have w1 : vsT m d t i b = vsB m d t i b := if_pos hb
        have w2 : voT m d t i b = voB m d t i b := if_pos hb
        have w3 : voF m d t i b = voE m d t i b := if_pos hb
        simp only [e1, w1, w2, w3]
        rw [Tryd.ntmps39, Tryd.results39]
        refine ⟨by simp, ?_⟩
        simp (maxSteps := 1000000) (disch := first | omega | (simp only [nums_len, keyV_len, nonce_len, nonceV_len, lnB] <;> omega) | fail) only [ev0, ev1, ev2, ev3, ↓reduceIte, reduceCtorEq, Nat.reduceAdd, Nat.reduceSub, Nat.reduceMul, Nat.reduceLT, Nat.reduceLeDiff, Nat.reduceEqDiff, Nat.reduceBEq, BitVec.reduceOfInt, Int.reduceLE, Int.reduceLT, Int.reduceGT, Int.reduceGE, Int.reduceNeg, Int.reduceAdd, Int.reduceSub, Int.reduceMul, Int.reduceToNat, ↓bind_go, ↓map_go, wantedV, isWrite, grow, write, ofV, AV.cells, Abs.start, Abs.strip, endQ, resV, rawsRes, rawRes, exports, export1, AS.grown, AS.put, Env.know, Env.boxed, isSelf, convSelf, convV, loadV, storeV, fieldAddrV, fieldV, indexAddrV, indexV, partV, isAggK, isStr, place, lenV, min2V, makeV, freshSl, sliceV, boundOr, bound, bounds, cutFl, copyV, slCells, srcV, appendV, room, zerosOf, eqNeg, kd, takeR, hasViewL, hasView, freshR, freshC, snapAll, snap, snapL, flatL, pureL, pureA, fillC, arrOK, oneA, partB, AV.laid, ren1, CR.gr, applyW, useL, AS.mute, isGen, startG, ev5, tbGb0, globS, if_true, Int.reduceBEq, Int.reduceBNe, e1, v1, hm, hl]
        exact resQ_2
      · have e1 : nonceE d t i = 1 := if_neg hb
        have w1 : vsT m d t i b = [] := if_neg hb
        have w2 : voT m d t i b = [] := if_neg hb
        have w3 : voF m d t i b = 1 := if_neg hb
        simp only [e1, w1, w2, w3]
        rw [Tryd.ntmps39, Tryd.results39]
        refine ⟨by simp, ?_⟩
        simp (maxSteps := 1000000) (disch := first | omega | (simp only [nums_len, keyV_len, nonce_len, nonceV_len, lnB] <;> omega) | fail) only [ev0, ev1, ev2, ev3, ↓reduceIte, reduceCtorEq, Nat.reduceAdd, Nat.reduceSub, Nat.reduceMul, Nat.reduceLT, Nat.reduceLeDiff, Nat.reduceEqDiff, Nat.reduceBEq, BitVec.reduceOfInt, Int.reduceLE, Int.reduceLT, Int.reduceGT, Int.reduceGE, Int.reduceNeg, Int.reduceAdd, Int.reduceSub, Int.reduceMul, Int.reduceToNat, ↓bind_go, ↓map_go, wantedV, isWrite, grow, write, ofV, AV.cells, Abs.start, Abs.strip, endQ, resV, rawsRes, rawRes, exports, export1, AS.grown, AS.put, Env.know, Env.boxed, isSelf, convSelf, convV, loadV, storeV, fieldAddrV, fieldV, indexAddrV, indexV, partV, isAggK, isStr, place, lenV, min2V, makeV, freshSl, sliceV, boundOr, bound, bounds, cutFl, copyV, slCells, srcV, appendV, room, zerosOf, eqNeg, kd, takeR, hasViewL, hasView, freshR, freshC, snapAll, snap, snapL, flatL, pureL, pureA, fillC, arrOK, oneA, partB, AV.laid, ren1, CR.gr, applyW, useL, AS.mute, isGen, startG, ev5, tbGb0, globS, if_true, Int.reduceBEq, Int.reduceBNe, e1, hm]
        exact resQ_2nil
    · cases hr
  · cases hr
end Go.Proofs.YtddeffdgldjdjaaDoor
