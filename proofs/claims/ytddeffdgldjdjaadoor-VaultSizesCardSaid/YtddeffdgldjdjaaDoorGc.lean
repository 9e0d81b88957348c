/- vault.Open: what its walk comes to. -/
import Derived.Test.YtddeffdgldjdjaaDoorGb
import Derived.Test.YtddeffdgldjdjaaDoorUo
namespace Go.Proofs.YtddeffdgldjdjaaDoor
set_option linter.unusedSimpArgs false
set_option linter.unusedVariables false
set_option linter.defProp false
open Go Go.Abs
set_option maxHeartbeats 16000000
theorem toSG {f : FuncId} {gf : List AV → Boxes → (Abs.Id → Bool) → Option CR} (h : SoundG Tryd.prog glob f gf) : SoundG Tryd.prog globS f gf :=
  ⟨h.1, fun N g box w hv _ => h.2 N g box w hv (fun gi xs hx => by cases hx)⟩
noncomputable def EO : Env := ((ES0.know 36 pf36).know 34 pf34).knowG 68 gx68
theorem okO : EnvOK Tryd.prog EO := ((okS0.know (toS sound36)).know sound34).knowG (toSG soundX68)
theorem EO_te : EO.te = te := rfl
theorem EO_glob : EO.glob = globS := rfl
theorem EO_gs : EO.gs = [68] := rfl
theorem EO_dyn : EO.dyn = false := rfl
theorem EO_mu (d : Nat) : EO.mu d = false := rfl
theorem EO_n : EO.tbl 36 = some (.val pf36) := rfl
theorem EO_k : EO.tbl 34 = some (.val pf34) := rfl
theorem EO_o : EO.tbl 68 = some (.gen gx68) := rfl
theorem openx_go {k n t : List (BitVec 8)} {r : Bx} {m c m' : Nat} {fl : Fl} {bx : Boxes} {us : Abs.Id → Bool} (hk : k.length = 32) (hn : n.length = 12) (hm : m' = t.length) (ht : t.length ≤ 400000) : gx68 [.agg (nums .u8 k), .agg (nums .u8 n), .view r 0 m c 1, .sl m' (nums .u8 t) fl] bx us = (bx r).bind fun cs => (row? .u8 8 (.sl cs.length cs .bor)).bind fun b => if m ≤ b.length ∧ m ≤ c then if (b.take m).length ≤ 400000 then some { v := .ret (.tup [.sl (openT k n (b.take m) t).length (nums .u8 (openT k n (b.take m) t)) .bor, .raw (.int .i64 (openE k n (b.take m) t))]) } else none else none := by
  simp only [gx68, agg?_at hk, agg?_at hn, row?_at hm, Option.bind_some, vw?_is]
  cases bx r with
  | none => rfl
  | some cs =>
    simp only [Option.bind_some]
    cases row? .u8 8 (.sl cs.length cs .bor) with
    | none => rfl
    | some b =>
      simp only [Option.bind_some]
      by_cases h1 : m ≤ b.length ∧ m ≤ c
      · rw [if_pos h1, if_pos h1, Option.bind_some]
        by_cases h2 : (b.take m).length ≤ 400000
        · rw [if_pos h2, if_pos ⟨h2, ht⟩]
        · rw [if_neg h2, if_neg (fun h => h2 h.1)]
      · rw [if_neg h1, if_neg h1]; rfl
theorem row_n {b : List (BitVec 8)} : row? .u8 8 (.sl (nums .u8 b).length (nums .u8 b) .bor) = some b := row?_at (by rw [nums_len])
theorem row_n' {b : List (BitVec 8)} : row? .u8 8 (.sl b.length (nums .u8 b) .bor) = some b := row?_at rfl
theorem row_12 (d t i : Int) : row? .u8 8 (.sl 12 (nums .u8 (nonce d t i)) .bor) = some (nonce d t i) := row?_at (by rw [nonce_len])
theorem tkn (d t i : Int) : (nonce d t i).take 12 = nonce d t i := List.take_of_length_le (by rw [nonce_len]; exact Nat.le_refl _)
def tbGc0 := (And.intro (And.intro (And.intro (And.intro @teE (And.intro @EO_te @EO_glob)) (And.intro @EO_gs (And.intro @EO_dyn @EO_mu))) (And.intro (And.intro @EO_n (And.intro @EO_k @EO_o)) (And.intro (And.intro @nonce_at @key_at) (And.intro @openx_go @row_n)))) (And.intro (And.intro (And.intro @row_n' (And.intro @row_12 @tkn)) (And.intro (And.intro @nums_ren @ns_strip) (And.intro @ns_set @sp12))) (And.intro (And.intro @tk12 (And.intro @le12 @sp32)) (And.intro (And.intro @tk32 @nonce_len) (And.intro @nonceV_len @keyV_len)))))
theorem soundv41 : SoundV Tryd.prog globS 41 pv41 := by
  refine SoundV.walk EO okO mixed Tryd.func41 rfl Tryd.call41 (by kernel_rfl) ?_
  intro args r hr
  unfold pv41 at hr
  split at hr
  · rename_i k x y z w
    simp only [Option.bind_eq_some_iff] at hr
    obtain ⟨m, h0, d, h1, t, h2, i, h3, b, h4, hr⟩ := hr
    split at hr
    · rename_i hl
      cases hr
      obtain ⟨rfl, hm⟩ := agg?_of h0
      obtain ⟨fl, rfl⟩ := row?_of h4
      rw [int?_of h1, int?_of h2, int?_of h3]
      by_cases hb : argOK d t i
      · have e1 : nonceE d t i = 0 := if_pos hb
        have v1 : nonceV d t i = nonce d t i := if_pos hb
        have w1 : vsT m d t i b = vsB m d t i b := if_pos hb
        have w2 : voT m d t i b = voB m d t i b := if_pos hb
        have w3 : voF m d t i b = voE m d t i b := if_pos hb
        simp only [e1, w1, w2, w3]
        rw [Tryd.ntmps41, Tryd.results41]
        refine ⟨by simp, ?_⟩
        simp (maxSteps := 1000000) (disch := first | omega | (simp only [nums_len, keyV_len, nonce_len, nonceV_len, lnB] <;> omega) | fail) only [ev0, ev1, ev2, ev3, ↓reduceIte, reduceCtorEq, Nat.reduceAdd, Nat.reduceSub, Nat.reduceMul, Nat.reduceLT, Nat.reduceLeDiff, Nat.reduceEqDiff, Nat.reduceBEq, BitVec.reduceOfInt, Int.reduceLE, Int.reduceLT, Int.reduceGT, Int.reduceGE, Int.reduceNeg, Int.reduceAdd, Int.reduceSub, Int.reduceMul, Int.reduceToNat, ↓bind_go, ↓map_go, wantedV, isWrite, grow, write, ofV, AV.cells, Abs.start, Abs.strip, endQ, resV, rawsRes, rawRes, exports, export1, AS.grown, AS.put, Env.know, Env.boxed, isSelf, convSelf, convV, loadV, storeV, fieldAddrV, fieldV, indexAddrV, indexV, partV, isAggK, isStr, place, lenV, min2V, makeV, freshSl, sliceV, boundOr, bound, bounds, cutFl, copyV, slCells, srcV, appendV, room, zerosOf, eqNeg, kd, takeR, hasViewL, hasView, freshR, freshC, snapAll, snap, snapL, flatL, pureL, pureA, fillC, arrOK, oneA, partB, AV.laid, ren1, CR.gr, applyW, useL, AS.mute, isGen, startG, ev5, tbGc0, Nat.le_refl, globS, if_true, Int.reduceBEq, Int.reduceBNe, Bx.own.injEq, and_false, false_and, and_true, true_and, e1, v1, hm, hl]
        exact resQ_2
      · have e1 : nonceE d t i = 1 := if_neg hb
        have w1 : vsT m d t i b = [] := if_neg hb
        have w2 : voT m d t i b = [] := if_neg hb
        have w3 : voF m d t i b = 1 := if_neg hb
        simp only [e1, w1, w2, w3]
        rw [Tryd.ntmps41, Tryd.results41]
        refine ⟨by simp, ?_⟩
        simp (maxSteps := 1000000) (disch := first | omega | (simp only [nums_len, keyV_len, nonce_len, nonceV_len, lnB] <;> omega) | fail) only [ev0, ev1, ev2, ev3, ↓reduceIte, reduceCtorEq, Nat.reduceAdd, Nat.reduceSub, Nat.reduceMul, Nat.reduceLT, Nat.reduceLeDiff, Nat.reduceEqDiff, Nat.reduceBEq, BitVec.reduceOfInt, Int.reduceLE, Int.reduceLT, Int.reduceGT, Int.reduceGE, Int.reduceNeg, Int.reduceAdd, Int.reduceSub, Int.reduceMul, Int.reduceToNat, ↓bind_go, ↓map_go, wantedV, isWrite, grow, write, ofV, AV.cells, Abs.start, Abs.strip, endQ, resV, rawsRes, rawRes, exports, export1, AS.grown, AS.put, Env.know, Env.boxed, isSelf, convSelf, convV, loadV, storeV, fieldAddrV, fieldV, indexAddrV, indexV, partV, isAggK, isStr, place, lenV, min2V, makeV, freshSl, sliceV, boundOr, bound, bounds, cutFl, copyV, slCells, srcV, appendV, room, zerosOf, eqNeg, kd, takeR, hasViewL, hasView, freshR, freshC, snapAll, snap, snapL, flatL, pureL, pureA, fillC, arrOK, oneA, partB, AV.laid, ren1, CR.gr, applyW, useL, AS.mute, isGen, startG, ev5, tbGc0, Nat.le_refl, globS, if_true, Int.reduceBEq, Int.reduceBNe, Bx.own.injEq, and_false, false_and, and_true, true_and, e1, hm]
        exact resQ_2nil
    · cases hr
  · cases hr
end Go.Proofs.YtddeffdgldjdjaaDoor
