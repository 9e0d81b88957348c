/- VaultBack: what its walk comes to. -/
import Derived.Test.YtddeffdgldjdjaaDoorGc
import Derived.Test.YtddeffdgldjdjaaDoorUn
namespace Go.Proofs.YtddeffdgldjdjaaDoor
set_option linter.unusedSimpArgs false
set_option linter.unusedVariables false
set_option linter.defProp false
open Go Go.Abs
set_option maxHeartbeats 16000000
noncomputable def EB : Env := ((((((ES0.know 36 pf36).know 34 pf34).know 39 (fun xs => pv39 (xs.map norm))).know 41 (fun xs => pv41 (xs.map norm))).know 43 (fun xs => po43 (xs.map norm))).know 38 (fun xs => pf38 (xs.map norm))).know 33 pf33
theorem okB : EnvOK Tryd.prog EB := ((((((okS0.know (toS sound36)).know sound34).know soundv39.norm).know soundv41.norm).know (toS soundo43).norm).know (toS sound38).norm).know (toS sound33)
theorem EB_te : EB.te = te := rfl
theorem EB_glob : EB.glob = globS := rfl
theorem EB_gs : EB.gs = [] := rfl
theorem EB_dyn : EB.dyn = false := rfl
theorem EB_mu (d : Nat) : EB.mu d = false := rfl
theorem EB_n : EB.tbl 36 = some (.val pf36) := rfl
theorem EB_k : EB.tbl 34 = some (.val pf34) := rfl
theorem EB_s : EB.tbl 39 = some (.val (fun xs => pv39 (xs.map norm))) := rfl
theorem EB_o : EB.tbl 41 = some (.val (fun xs => pv41 (xs.map norm))) := rfl
theorem EB_g : EB.tbl 43 = some (.val (fun xs => po43 (xs.map norm))) := rfl
theorem EB_f : EB.tbl 38 = some (.val (fun xs => pf38 (xs.map norm))) := rfl
theorem EB_h : EB.tbl 33 = some (.val pf33) := rfl
theorem vseal_at {m : List (BitVec 8)} {d t i : Int} {n : Nat} {b : List (BitVec 8)} {fl : Fl} (hm : m.length = 32) (hn : n = b.length) (hb : b.length ≤ 400000) : pv39 [.agg (nums .u8 m), .raw (.int .i64 d), .raw (.int .i64 t), .raw (.int .i64 i), .sl n (nums .u8 b) fl] = some (.tup [.sl (vsT m d t i b).length (nums .u8 (vsT m d t i b)) .bor, .raw (.int .i64 (nonceE d t i))]) := by
  simp only [pv39, agg?_at hm, int?_at, row?_at hn, Option.bind_some, if_pos hb]
theorem vopen_at {m : List (BitVec 8)} {d t i : Int} {n : Nat} {b : List (BitVec 8)} {fl : Fl} (hm : m.length = 32) (hn : n = b.length) (hb : b.length ≤ 400000) : pv41 [.agg (nums .u8 m), .raw (.int .i64 d), .raw (.int .i64 t), .raw (.int .i64 i), .sl n (nums .u8 b) fl] = some (.tup [.sl (voT m d t i b).length (nums .u8 (voT m d t i b)) .bor, .raw (.int .i64 (voF m d t i b))]) := by
  simp only [pv41, agg?_at hm, int?_at, row?_at hn, Option.bind_some, if_pos hb]
def pf11 : List AV → Option AV
  | [k, .agg [x, y, z], w] => (agg? .u8 8 32 k).bind fun _ => (int? x).bind fun _ => (int? y).bind fun _ => (int? z).bind fun _ => (row? .u8 8 w).bind fun b => if b.length ≤ 9223372036854775807 then some (.raw (.bool true)) else none
  | _ => none
theorem vsT_len (m : List (BitVec 8)) (d t i : Int) (b : List (BitVec 8)) : (vsT m d t i b).length ≤ b.length + 16 := by
  unfold vsT vsB; split
  · rw [sealB_len]; exact Nat.le_refl _
  · simp
theorem back_is {m : List (BitVec 8)} {d t i : Int} {b : List (BitVec 8)} (h : argOK d t i) : voT m d t i (vsT m d t i b) = b ∧ voF m d t i (vsT m d t i b) = 0 := by
  have := open_seal (k := keyV m d) (a := nonce d t i) (t := b) (nonce_len d t i)
  rw [voT, voF, vsT, if_pos h, if_pos h, if_pos h]
  exact this
theorem keyOK_of {d t i : Int} (h : argOK d t i) : keyOK d := by
  unfold argOK at h; unfold keyOK; omega
def tbGd0 := (And.intro (And.intro (And.intro (And.intro @teE (And.intro @EB_te @EB_glob)) (And.intro (And.intro @EB_gs @EB_dyn) (And.intro @EB_mu @EB_n))) (And.intro (And.intro (And.intro @EB_k @EB_s) (And.intro @EB_o @EB_g)) (And.intro (And.intro @EB_f @EB_h) (And.intro @nonce_at @key_at)))) (And.intro (And.intro (And.intro @vseal_at (And.intro @vopen_at @gseal_at)) (And.intro (And.intro @few_at @shown_at) (And.intro @ns_strip @ns_set))) (And.intro (And.intro (And.intro @sp12 @tk12) (And.intro @le12 @sp32)) (And.intro (And.intro @tk32 @nonce_len) (And.intro @nonceV_len @keyV_len)))))
theorem sound11 : SoundV Tryd.prog globS 11 pf11 := by
  refine SoundV.walk EB okB mixed Tryd.func11 rfl Tryd.call11 (by kernel_rfl) ?_
  intro args r hr
  unfold pf11 at hr
  split at hr
  · rename_i k x y z w
    simp only [Option.bind_eq_some_iff] at hr
    obtain ⟨m, h0, d, h1, t, h2, i, h3, b, h4, hr⟩ := hr
    split at hr
    · rename_i hl
      cases hr
      obtain ⟨rfl, hm⟩ := agg?_of h0
      obtain ⟨fl, rfl⟩ := row?_of h4
      rw [int?_of h1, int?_of h2, int?_of h3, Tryd.ntmps11, Tryd.results11]
      refine ⟨by simp, ?_⟩
      have hb5 : (b.take 500).length ≤ 500 := by rw [List.length_take]; exact Nat.min_le_left _ _
      have hs := vsT_len m d t i (b.take 500)
      by_cases hb : argOK d t i
      · have e1 : nonceE d t i = 0 := if_pos hb
        have v1 : nonceV d t i = nonce d t i := if_pos hb
        have k1 : keyE d = 0 := if_pos (keyOK_of hb)
        obtain ⟨o1, o2⟩ := back_is (m := m) (b := b.take 500) hb
        have w1 : sealB (keyV m d) (nonce d t i) (nonce d t i) (b.take 500) = vsT m d t i (b.take 500) := (if_pos hb).symm
        have hs5 : (vsT m d t i (b.take 500)).length ≤ 400000 := by omega
        simp (maxSteps := 1000000) (disch := first | omega | (simp only [nums_len, keyV_len, nonce_len, nonceV_len, lnB] <;> omega) | fail) only [ev0, ev1, ev2, ev3, ↓reduceIte, reduceCtorEq, Nat.reduceAdd, Nat.reduceSub, Nat.reduceMul, Nat.reduceLT, Nat.reduceLeDiff, Nat.reduceEqDiff, Nat.reduceBEq, BitVec.reduceOfInt, Int.reduceLE, Int.reduceLT, Int.reduceGT, Int.reduceGE, Int.reduceNeg, Int.reduceAdd, Int.reduceSub, Int.reduceMul, Int.reduceToNat, ↓bind_go, ↓map_go, wantedV, isWrite, grow, write, ofV, AV.cells, Abs.start, Abs.strip, endQ, resV, rawsRes, rawRes, exports, export1, AS.grown, AS.put, Env.know, Env.boxed, isSelf, convSelf, convV, loadV, storeV, fieldAddrV, fieldV, indexAddrV, indexV, partV, isAggK, isStr, place, lenV, min2V, makeV, freshSl, sliceV, boundOr, bound, bounds, cutFl, copyV, slCells, srcV, appendV, room, zerosOf, eqNeg, kd, takeR, hasViewL, hasView, freshR, freshC, snapAll, snap, snapL, flatL, pureL, pureA, fillC, arrOK, oneA, partB, AV.laid, ren1, CR.gr, applyW, useL, AS.mute, isGen, startG, ev5, tbGd0, globS, if_true, Int.reduceBEq, Int.reduceBNe, Nat.le_refl, beq_self_eq_true, e1, v1, k1, hm, o1, o2, w1]
        exact ResQ.same rfl
      · have e1 : nonceE d t i = 1 := if_neg hb
        have o2 : ∀ c, voF m d t i c = 1 := fun c => if_neg hb
        have hs5 : (vsT m d t i (b.take 500)).length ≤ 400000 := by omega
        simp (maxSteps := 1000000) (disch := first | omega | (simp only [nums_len, keyV_len, nonce_len, nonceV_len, lnB] <;> omega) | fail) only [ev0, ev1, ev2, ev3, ↓reduceIte, reduceCtorEq, Nat.reduceAdd, Nat.reduceSub, Nat.reduceMul, Nat.reduceLT, Nat.reduceLeDiff, Nat.reduceEqDiff, Nat.reduceBEq, BitVec.reduceOfInt, Int.reduceLE, Int.reduceLT, Int.reduceGT, Int.reduceGE, Int.reduceNeg, Int.reduceAdd, Int.reduceSub, Int.reduceMul, Int.reduceToNat, ↓bind_go, ↓map_go, wantedV, isWrite, grow, write, ofV, AV.cells, Abs.start, Abs.strip, endQ, resV, rawsRes, rawRes, exports, export1, AS.grown, AS.put, Env.know, Env.boxed, isSelf, convSelf, convV, loadV, storeV, fieldAddrV, fieldV, indexAddrV, indexV, partV, isAggK, isStr, place, lenV, min2V, makeV, freshSl, sliceV, boundOr, bound, bounds, cutFl, copyV, slCells, srcV, appendV, room, zerosOf, eqNeg, kd, takeR, hasViewL, hasView, freshR, freshC, snapAll, snap, snapL, flatL, pureL, pureA, fillC, arrOK, oneA, partB, AV.laid, ren1, CR.gr, applyW, useL, AS.mute, isGen, startG, ev5, tbGd0, globS, if_true, Int.reduceBEq, Int.reduceBNe, Nat.le_refl, beq_self_eq_true, e1, hm, o2]
        exact ResQ.same rfl
    · cases hr
  · cases hr
end Go.Proofs.YtddeffdgldjdjaaDoor
