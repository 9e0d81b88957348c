/- Texts are laid behind bytes, and taken from their front: what the walks come to. -/
import Derived.Test.YtddeffdgldjdjaaDoorPf
import Derived.Test.YtddeffdgldjdjaaDoorM3
namespace Go.Proofs.YtddeffdgldjdjaaDoor.W
set_option linter.unusedSimpArgs false
set_option linter.unusedVariables false
set_option linter.defProp false
open Go Go.Abs

def E4 : Env := ((E3.know 80 (fun xs => pf80 (xs.map norm))).know 104 (fun xs => pf80 (xs.map norm))).know 147 (fun xs => pf165 (xs.map norm))
theorem ok4 : EnvOK Tryd.prog E4 := ((ok3.know sound80.norm).know sound104.norm).know sound147.norm
theorem E4_te : E4.te = te := rfl
theorem E4_gs : E4.gs = [] := rfl
theorem E4_dyn : E4.dyn = false := rfl
theorem E4_glob : E4.glob = glob := rfl
theorem E4_mu (d : Nat) : E4.mu d = false := rfl
theorem E4_90 : E4.tbl 90 = some (.val (fun xs => pf90 (xs.map norm))) := rfl
theorem E4_165 : E4.tbl 165 = some (.val (fun xs => pf165 (xs.map norm))) := rfl
theorem E4_80 : E4.tbl 80 = some (.val (fun xs => pf80 (xs.map norm))) := rfl
theorem E4_104 : E4.tbl 104 = some (.val (fun xs => pf80 (xs.map norm))) := rfl
theorem E4_147 : E4.tbl 147 = some (.val (fun xs => pf165 (xs.map norm))) := rfl
theorem pf80_at {l : Nat} {b : List (BitVec 8)} {fl : Fl} {n : Int} (h : l = b.length) (h2 : b.length ≤ 150000000000000) (h3 : n ≤ 9223372036854775807) (h0 : 0 ≤ n) : pf80 [.sl l (nums .u8 b) fl, .raw (.int .i64 n)] = some (.tup [.sl (putB b n.toNat).length (nums .u8 (putB b n.toNat)) (.own ⟨0, 0, 0, 0⟩ 1), .raw (.int .i64 0)]) := by
  simp only [pf80, row?_at h, int?_at, Option.bind_some, if_pos (And.intro h2 h3), if_neg (show ¬ n < 0 by omega)]
theorem pf80_neg {l : Nat} {b : List (BitVec 8)} {fl : Fl} {n : Int} (h : l = b.length) (h2 : b.length ≤ 150000000000000) (h3 : n ≤ 9223372036854775807) (h0 : n < 0) : pf80 [.sl l (nums .u8 b) fl, .raw (.int .i64 n)] = some (.tup [.sl 0 [] (.own ⟨0, 0, 0, 0⟩ 1), .raw (.int .i64 1)]) := by
  simp only [pf80, row?_at h, int?_at, Option.bind_some, if_pos (And.intro h2 h3), if_pos h0]

def pf72 : List AV → Option AV
  | [v, w] => (row? .u8 8 v).bind fun b => (row? .u8 8 w).bind fun t => if b.length ≤ 150000000000000 then
      (if t.length > 4096 then some (.tup [.sl 0 [] (.own ⟨0, 0, 0, 0⟩ 1), .raw (.int .i64 2)]) else some (.tup [.sl (putB b t.length ++ t).length (nums .u8 (putB b t.length ++ t)) (.own ⟨0, 0, 0, 0⟩ 1), .raw (.int .i64 0)])) else none
  | _ => none
set_option maxHeartbeats 4000000
def tbPg0 := (And.intro (And.intro (And.intro @teE (And.intro @E4_te @E4_gs)) (And.intro (And.intro @E4_dyn @E4_glob) (And.intro @E4_mu @E4_80))) (And.intro (And.intro @E4_104 (And.intro @E4_147 @E4_90)) (And.intro (And.intro @E4_165 @pf90_at) (And.intro @pf80_at @pf165_at))))
theorem sound72 : SoundV Tryd.prog glob 72 pf72 := by
  refine SoundV.walk E4 ok4 mixed Tryd.func72 rfl Tryd.call72 (by kernel_rfl) ?_
  intro args r hr
  unfold pf72 at hr
  split at hr
  · simp only [Option.bind_eq_some_iff] at hr
    obtain ⟨b, h1, t, h2, hr⟩ := hr
    split at hr
    · rename_i hc
      obtain ⟨fl, rfl⟩ := row?_of h1
      obtain ⟨gl, rfl⟩ := row?_of h2
      by_cases ht : t.length > 4096
      · rw [if_pos ht] at hr
        cases hr
        rw [Tryd.ntmps72, Tryd.results72]
        refine ⟨by simp, ?_⟩
        have dt : decide ((t.length : Int) > 4096) = true := decide_eq_true (by omega)
        simp (maxSteps := 1000000) (disch := first | omega | (simp only [digF_len, putK_len, putB_len, lnB] <;> omega) | fail) only [ev0, ev1, ev2, ev3, ↓reduceIte, reduceCtorEq, Nat.reduceAdd, Nat.reduceSub, Nat.reduceMul, Nat.reduceLT, Nat.reduceLeDiff, Nat.reduceEqDiff, Nat.reduceBEq, BitVec.reduceOfInt, Int.reduceLE, Int.reduceLT, Int.reduceGT, Int.reduceGE, Int.reduceNeg, Int.reduceAdd, Int.reduceSub, Int.reduceMul, Int.reduceToNat, ↓bind_go, ↓map_go, wantedV, isWrite, grow, write, ofV, AV.cells, Abs.start, Abs.strip, endQ, resV, rawsRes, rawRes, exports, export1, AS.grown, AS.put, Env.know, Env.boxed, isSelf, convSelf, convV, loadV, storeV, fieldAddrV, fieldV, indexAddrV, indexV, partV, isAggK, isStr, place, ipS, lenV, min2V, makeV, freshSl, sliceV, boundOr, bound, bounds, cutFl, copyV, slCells, srcV, appendV, room, zerosOf, eqNeg, kd, takeR, hasViewL, hasView, freshR, freshC, snapAll, snap, snapL, flatL, pureL, pureA, fillC, arrOK, oneA, partB, AV.laid, ren1, CR.gr, applyW, useL, AS.mute, isGen, startG, ev5, tbPg0, glob, dt]
        exact resQ_tnil
      · rw [if_neg ht] at hr
        cases hr
        rw [Tryd.ntmps72, Tryd.results72]
        refine ⟨by simp, ?_⟩
        have hn8 := need_le t.length (by omega)
        have dt : decide ((t.length : Int) > 4096) = false := decide_eq_false (by omega)
        simp (maxSteps := 1000000) (disch := first | omega | (simp only [digF_len, putK_len, putB_len, lnB] <;> omega) | fail) only [ev0, ev1, ev2, ev3, ↓reduceIte, reduceCtorEq, Nat.reduceAdd, Nat.reduceSub, Nat.reduceMul, Nat.reduceLT, Nat.reduceLeDiff, Nat.reduceEqDiff, Nat.reduceBEq, BitVec.reduceOfInt, Int.reduceLE, Int.reduceLT, Int.reduceGT, Int.reduceGE, Int.reduceNeg, Int.reduceAdd, Int.reduceSub, Int.reduceMul, Int.reduceToNat, ↓bind_go, ↓map_go, wantedV, isWrite, grow, write, ofV, AV.cells, Abs.start, Abs.strip, endQ, resV, rawsRes, rawRes, exports, export1, AS.grown, AS.put, Env.know, Env.boxed, isSelf, convSelf, convV, loadV, storeV, fieldAddrV, fieldV, indexAddrV, indexV, partV, isAggK, isStr, place, ipS, lenV, min2V, makeV, freshSl, sliceV, boundOr, bound, bounds, cutFl, copyV, slCells, srcV, appendV, room, zerosOf, eqNeg, kd, takeR, hasViewL, hasView, freshR, freshC, snapAll, snap, snapL, flatL, pureL, pureA, fillC, arrOK, oneA, partB, AV.laid, ren1, CR.gr, applyW, useL, AS.mute, isGen, startG, ev5, tbPg0, glob, dt]
        exact ResQ.same rfl
    · cases hr
  · cases hr
theorem sound73 : SoundV Tryd.prog glob 73 pf72 := by
  refine SoundV.walk E4 ok4 mixed Tryd.func73 rfl Tryd.call73 (by kernel_rfl) ?_
  intro args r hr
  unfold pf72 at hr
  split at hr
  · simp only [Option.bind_eq_some_iff] at hr
    obtain ⟨b, h1, t, h2, hr⟩ := hr
    split at hr
    · rename_i hc
      obtain ⟨fl, rfl⟩ := row?_of h1
      obtain ⟨gl, rfl⟩ := row?_of h2
      by_cases ht : t.length > 4096
      · rw [if_pos ht] at hr
        cases hr
        rw [Tryd.ntmps73, Tryd.results73]
        refine ⟨by simp, ?_⟩
        have dt : decide ((t.length : Int) > 4096) = true := decide_eq_true (by omega)
        simp (maxSteps := 1000000) (disch := first | omega | (simp only [digF_len, putK_len, putB_len, lnB] <;> omega) | fail) only [ev0, ev1, ev2, ev3, ↓reduceIte, reduceCtorEq, Nat.reduceAdd, Nat.reduceSub, Nat.reduceMul, Nat.reduceLT, Nat.reduceLeDiff, Nat.reduceEqDiff, Nat.reduceBEq, BitVec.reduceOfInt, Int.reduceLE, Int.reduceLT, Int.reduceGT, Int.reduceGE, Int.reduceNeg, Int.reduceAdd, Int.reduceSub, Int.reduceMul, Int.reduceToNat, ↓bind_go, ↓map_go, wantedV, isWrite, grow, write, ofV, AV.cells, Abs.start, Abs.strip, endQ, resV, rawsRes, rawRes, exports, export1, AS.grown, AS.put, Env.know, Env.boxed, isSelf, convSelf, convV, loadV, storeV, fieldAddrV, fieldV, indexAddrV, indexV, partV, isAggK, isStr, place, ipS, lenV, min2V, makeV, freshSl, sliceV, boundOr, bound, bounds, cutFl, copyV, slCells, srcV, appendV, room, zerosOf, eqNeg, kd, takeR, hasViewL, hasView, freshR, freshC, snapAll, snap, snapL, flatL, pureL, pureA, fillC, arrOK, oneA, partB, AV.laid, ren1, CR.gr, applyW, useL, AS.mute, isGen, startG, ev5, tbPg0, glob, dt]
        exact resQ_tnil
      · rw [if_neg ht] at hr
        cases hr
        rw [Tryd.ntmps73, Tryd.results73]
        refine ⟨by simp, ?_⟩
        have hn8 := need_le t.length (by omega)
        have dt : decide ((t.length : Int) > 4096) = false := decide_eq_false (by omega)
        simp (maxSteps := 1000000) (disch := first | omega | (simp only [digF_len, putK_len, putB_len, lnB] <;> omega) | fail) only [ev0, ev1, ev2, ev3, ↓reduceIte, reduceCtorEq, Nat.reduceAdd, Nat.reduceSub, Nat.reduceMul, Nat.reduceLT, Nat.reduceLeDiff, Nat.reduceEqDiff, Nat.reduceBEq, BitVec.reduceOfInt, Int.reduceLE, Int.reduceLT, Int.reduceGT, Int.reduceGE, Int.reduceNeg, Int.reduceAdd, Int.reduceSub, Int.reduceMul, Int.reduceToNat, ↓bind_go, ↓map_go, wantedV, isWrite, grow, write, ofV, AV.cells, Abs.start, Abs.strip, endQ, resV, rawsRes, rawRes, exports, export1, AS.grown, AS.put, Env.know, Env.boxed, isSelf, convSelf, convV, loadV, storeV, fieldAddrV, fieldV, indexAddrV, indexV, partV, isAggK, isStr, place, ipS, lenV, min2V, makeV, freshSl, sliceV, boundOr, bound, bounds, cutFl, copyV, slCells, srcV, appendV, room, zerosOf, eqNeg, kd, takeR, hasViewL, hasView, freshR, freshC, snapAll, snap, snapL, flatL, pureL, pureA, fillC, arrOK, oneA, partB, AV.laid, ren1, CR.gr, applyW, useL, AS.mute, isGen, startG, ev5, tbPg0, glob, dt]
        exact ResQ.same rfl
    · cases hr
  · cases hr
end Go.Proofs.YtddeffdgldjdjaaDoor.W
