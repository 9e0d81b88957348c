/- VaultKeys: what its walk comes to. -/
import Derived.Test.YtddeffdgldjdjaaDoorGf
namespace Go.Proofs.YtddeffdgldjdjaaDoor
set_option linter.unusedSimpArgs false
set_option linter.unusedVariables false
set_option linter.defProp false
open Go Go.Abs
set_option maxHeartbeats 16000000
noncomputable def ELK : Env := ((((ES0.know 36 pf36).know 34 pf34).know 37 pf36).know 35 pf34).know 33 pf33
theorem okLK : EnvOK Tryd.prog ELK := ((((okS0.know (toS sound36)).know sound34).know (toS sound37)).know sound35).know (toS sound33)
theorem ELK_te : ELK.te = te := rfl
theorem ELK_glob : ELK.glob = globS := rfl
theorem ELK_gs : ELK.gs = [] := rfl
theorem ELK_dyn : ELK.dyn = false := rfl
theorem ELK_mu (d : Nat) : ELK.mu d = false := rfl
theorem ELK_n : ELK.tbl 36 = some (.val pf36) := rfl
theorem ELK_k : ELK.tbl 34 = some (.val pf34) := rfl
theorem ELK_rn : ELK.tbl 37 = some (.val pf36) := rfl
theorem ELK_rk : ELK.tbl 35 = some (.val pf34) := rfl
theorem ELK_h : ELK.tbl 33 = some (.val pf33) := rfl
theorem eq_k {l m : List (BitVec 8)} (hl : l.length = 32) (hm : m.length = 32) : binV te .eql 48 (.agg (nums .u8 l)) (.agg (nums .u8 m)) = some (.raw (.bool (l == m))) := by
  rw [bin_agg l m rfl rfl hl hm]; rfl
def pf8 : List AV → Option AV
  | [k, .agg [x, y, z]] => (agg? .u8 8 32 k).bind fun _ => (int? x).bind fun _ => (int? y).bind fun _ => (int? z).bind fun _ => some (.raw (.bool true))
  | _ => none
theorem sound8 : SoundV Tryd.prog globS 8 pf8 := by
  refine SoundV.walk ELK okLK mixed Tryd.func8 rfl Tryd.call8 (by kernel_rfl) ?_
  intro args r hr
  unfold pf8 at hr
  split at hr
  · rename_i k x y z
    simp only [Option.bind_eq_some_iff] at hr
    obtain ⟨m, h0, d, h1, t, h2, i, h3, hr⟩ := hr
    cases hr
    obtain ⟨rfl, hm⟩ := agg?_of h0
    rw [int?_of h1, int?_of h2, int?_of h3, Tryd.ntmps8, Tryd.results8]
    refine ⟨by simp, ?_⟩
    simp (maxSteps := 1000000) (disch := first | omega | (simp only [nums_len, keyV_len, nonce_len, nonceV_len, lnB] <;> omega) | fail) only [ev0, ev1, ev2, ev3, ↓reduceIte, reduceCtorEq, Nat.reduceAdd, Nat.reduceSub, Nat.reduceMul, Nat.reduceLT, Nat.reduceLeDiff, Nat.reduceEqDiff, Nat.reduceBEq, BitVec.reduceOfInt, Int.reduceLE, Int.reduceLT, Int.reduceGT, Int.reduceGE, Int.reduceNeg, Int.reduceAdd, Int.reduceSub, Int.reduceMul, Int.reduceToNat, ↓bind_go, ↓map_go, wantedV, isWrite, grow, write, ofV, AV.cells, Abs.start, Abs.strip, endQ, resV, rawsRes, rawRes, exports, export1, AS.grown, AS.put, Env.know, Env.boxed, isSelf, convSelf, convV, loadV, storeV, fieldAddrV, fieldV, indexAddrV, indexV, partV, isAggK, isStr, place, lenV, min2V, makeV, freshSl, sliceV, boundOr, bound, bounds, cutFl, copyV, slCells, srcV, appendV, room, zerosOf, eqNeg, kd, takeR, hasViewL, hasView, freshR, freshC, snapAll, snap, snapL, flatL, pureL, pureA, fillC, arrOK, oneA, partB, AV.laid, ren1, CR.gr, applyW, useL, AS.mute, isGen, startG, ev5, teE, ELK_te, ELK_glob, ELK_gs, ELK_dyn, ELK_mu, ELK_n, ELK_k, ELK_rn, ELK_rk, ELK_h, nonce_at, key_at, shown_at, eq_n, eq_k, ns_strip, ns_set, globS, sp12, tk12, le12, sp32, tk32, nonce_len, nonceV_len, keyV_len, if_true, Int.reduceBEq, Int.reduceBNe, Nat.le_refl, beq_self_eq_true, hm]
    exact ResQ.same rfl
  · cases hr
end Go.Proofs.YtddeffdgldjdjaaDoor
