/- Texts are laid behind bytes, and taken from their front: what the walks come to. -/
import Derived.Test.YtohemglpjjcohaaBf
import Derived.Test.YtohemglpjjcohaaG9
namespace Go.Proofs.Ytohemglpjjcohaa
set_option linter.unusedSimpArgs false
set_option linter.unusedVariables false
open Go Go.Abs

def E4 : Env := ((E3.know 11 (fun xs => pf11 (xs.map norm))).know 12 (fun xs => pf11 (xs.map norm))).know 14 (fun xs => pf28 (xs.map norm))
theorem ok4 : EnvOK Try.prog E4 := ((ok3.know sound11.norm).know sound12.norm).know sound14.norm
theorem E4_te : E4.te = te := rfl
theorem E4_glob : E4.glob = glob := rfl
theorem E4_mu (d : Nat) : E4.mu d = false := rfl
theorem E4_26 : E4.tbl 26 = some (.val (fun xs => pf26 (xs.map norm))) := rfl
theorem E4_28 : E4.tbl 28 = some (.val (fun xs => pf28 (xs.map norm))) := rfl
theorem E4_11 : E4.tbl 11 = some (.val (fun xs => pf11 (xs.map norm))) := rfl
theorem E4_12 : E4.tbl 12 = some (.val (fun xs => pf11 (xs.map norm))) := rfl
theorem E4_14 : E4.tbl 14 = some (.val (fun xs => pf28 (xs.map norm))) := rfl
theorem pf11_at {l : Nat} {b : List (BitVec 8)} {fl : Fl} {n : Int} (h : l = b.length) (h2 : b.length ≤ 150000000000000) (h3 : n ≤ 9223372036854775807) (h0 : 0 ≤ n) : pf11 [.sl l (nums .u8 b) fl, .raw (.int .i64 n)] = some (.tup [.sl (putB b n.toNat).length (nums .u8 (putB b n.toNat)) (.own ⟨0, 0, 0⟩ 1), .raw (.int .i64 0)]) := by
  simp only [pf11, row?_at h, int?_at, Option.bind_some, if_pos (And.intro h2 h3), if_neg (show ¬ n < 0 by omega)]
theorem pf11_neg {l : Nat} {b : List (BitVec 8)} {fl : Fl} {n : Int} (h : l = b.length) (h2 : b.length ≤ 150000000000000) (h3 : n ≤ 9223372036854775807) (h0 : n < 0) : pf11 [.sl l (nums .u8 b) fl, .raw (.int .i64 n)] = some (.tup [.sl 0 [] (.own ⟨0, 0, 0⟩ 1), .raw (.int .i64 1)]) := by
  simp only [pf11, row?_at h, int?_at, Option.bind_some, if_pos (And.intro h2 h3), if_pos h0]

def pf15 : List AV → Option AV
  | [v, w] => (row? .u8 8 v).bind fun b => (row? .u8 8 w).bind fun t => if b.length ≤ 150000000000000 then
      (if t.length > 4096 then some (.tup [.sl 0 [] (.own ⟨0, 0, 0⟩ 1), .raw (.int .i64 2)]) else some (.tup [.sl (putB b t.length ++ t).length (nums .u8 (putB b t.length ++ t)) (.own ⟨0, 0, 0⟩ 1), .raw (.int .i64 0)])) else none
  | _ => none
set_option maxHeartbeats 4000000
theorem sound15 : SoundV Try.prog glob 15 pf15 := by
  refine SoundV.walk E4 ok4 mixed Try.func15 rfl Try.call15 (by kernel_rfl) ?_
  intro args r hr
  unfold pf15 at hr
  split at hr
  · simp only [Option.bind_eq_some_iff] at hr
    obtain ⟨b, h1, t, h2, hr⟩ := hr
    split at hr
    · rename_i hc
      obtain ⟨fl, rfl⟩ := row?_of h1
      obtain ⟨gl, rfl⟩ := row?_of h2
      by_cases ht : t.length > 4096
      · rw [if_pos ht] at hr
        cases hr
        rw [Try.ntmps15, Try.results15]
        refine ⟨by simp, ?_⟩
        have dt : decide ((t.length : Int) > 4096) = true := decide_eq_true (by omega)
        simp (maxSteps := 1000000) (disch := first | omega | (simp only [digF_len, putK_len, putB_len, nums_len, List.length_cons, List.length_nil, List.length_append, List.length_take, List.length_drop, List.length_replicate, List.length_set, List.length_map] <;> omega) | fail) only [ev0, ev1, ev2, ev3, ↓reduceIte, reduceCtorEq, Nat.reduceAdd, Nat.reduceSub, Nat.reduceMul, Nat.reduceLT, Nat.reduceLeDiff, Nat.reduceEqDiff, Nat.reduceBEq, BitVec.reduceOfInt, Int.reduceLE, Int.reduceLT, Int.reduceGT, Int.reduceGE, Int.reduceNeg, Int.reduceAdd, Int.reduceSub, Int.reduceMul, Int.reduceToNat, ↓bind_go, ↓map_go, wantedV, isWrite, grow, write, ofV, AV.cells, Abs.start, Abs.strip, endQ, resV, rawsRes, rawRes, exports, export1, AS.grown, AS.put, Env.know, Env.boxed, isSelf, convSelf, convV, loadV, storeV, fieldAddrV, fieldV, indexAddrV, indexV, partV, isAggK, isStr, place, lenV, min2V, makeV, freshSl, sliceV, boundOr, bound, bounds, cutFl, copyV, slCells, srcV, appendV, room, zerosOf, eqNeg, kd, takeR, hasViewL, hasView, freshR, freshC, snapAll, snap, snapL, flatL, pureL, pureA, fillC, arrOK, oneA, te2, te3, te4, te5, te9, te22, te24, te46, te52, te54, E4_te, E4_glob, E4_mu, E4_11, E4_12, E4_14, E4_26, E4_28, pf26_at, pf11_at, pf28_at, glob, dt]
        exact resQ_tnil
      · rw [if_neg ht] at hr
        cases hr
        rw [Try.ntmps15, Try.results15]
        refine ⟨by simp, ?_⟩
        have hn8 := need_le t.length (by omega)
        have dt : decide ((t.length : Int) > 4096) = false := decide_eq_false (by omega)
        simp (maxSteps := 1000000) (disch := first | omega | (simp only [digF_len, putK_len, putB_len, nums_len, List.length_cons, List.length_nil, List.length_append, List.length_take, List.length_drop, List.length_replicate, List.length_set, List.length_map] <;> omega) | fail) only [ev0, ev1, ev2, ev3, ↓reduceIte, reduceCtorEq, Nat.reduceAdd, Nat.reduceSub, Nat.reduceMul, Nat.reduceLT, Nat.reduceLeDiff, Nat.reduceEqDiff, Nat.reduceBEq, BitVec.reduceOfInt, Int.reduceLE, Int.reduceLT, Int.reduceGT, Int.reduceGE, Int.reduceNeg, Int.reduceAdd, Int.reduceSub, Int.reduceMul, Int.reduceToNat, ↓bind_go, ↓map_go, wantedV, isWrite, grow, write, ofV, AV.cells, Abs.start, Abs.strip, endQ, resV, rawsRes, rawRes, exports, export1, AS.grown, AS.put, Env.know, Env.boxed, isSelf, convSelf, convV, loadV, storeV, fieldAddrV, fieldV, indexAddrV, indexV, partV, isAggK, isStr, place, lenV, min2V, makeV, freshSl, sliceV, boundOr, bound, bounds, cutFl, copyV, slCells, srcV, appendV, room, zerosOf, eqNeg, kd, takeR, hasViewL, hasView, freshR, freshC, snapAll, snap, snapL, flatL, pureL, pureA, fillC, arrOK, oneA, te2, te3, te4, te5, te9, te22, te24, te46, te52, te54, E4_te, E4_glob, E4_mu, E4_11, E4_12, E4_14, E4_26, E4_28, pf26_at, pf11_at, pf28_at, glob, dt]
        exact ResQ.same rfl
    · cases hr
  · cases hr
theorem sound16 : SoundV Try.prog glob 16 pf15 := by
  refine SoundV.walk E4 ok4 mixed Try.func16 rfl Try.call16 (by kernel_rfl) ?_
  intro args r hr
  unfold pf15 at hr
  split at hr
  · simp only [Option.bind_eq_some_iff] at hr
    obtain ⟨b, h1, t, h2, hr⟩ := hr
    split at hr
    · rename_i hc
      obtain ⟨fl, rfl⟩ := row?_of h1
      obtain ⟨gl, rfl⟩ := row?_of h2
      by_cases ht : t.length > 4096
      · rw [if_pos ht] at hr
        cases hr
        rw [Try.ntmps16, Try.results16]
        refine ⟨by simp, ?_⟩
        have dt : decide ((t.length : Int) > 4096) = true := decide_eq_true (by omega)
        simp (maxSteps := 1000000) (disch := first | omega | (simp only [digF_len, putK_len, putB_len, nums_len, List.length_cons, List.length_nil, List.length_append, List.length_take, List.length_drop, List.length_replicate, List.length_set, List.length_map] <;> omega) | fail) only [ev0, ev1, ev2, ev3, ↓reduceIte, reduceCtorEq, Nat.reduceAdd, Nat.reduceSub, Nat.reduceMul, Nat.reduceLT, Nat.reduceLeDiff, Nat.reduceEqDiff, Nat.reduceBEq, BitVec.reduceOfInt, Int.reduceLE, Int.reduceLT, Int.reduceGT, Int.reduceGE, Int.reduceNeg, Int.reduceAdd, Int.reduceSub, Int.reduceMul, Int.reduceToNat, ↓bind_go, ↓map_go, wantedV, isWrite, grow, write, ofV, AV.cells, Abs.start, Abs.strip, endQ, resV, rawsRes, rawRes, exports, export1, AS.grown, AS.put, Env.know, Env.boxed, isSelf, convSelf, convV, loadV, storeV, fieldAddrV, fieldV, indexAddrV, indexV, partV, isAggK, isStr, place, lenV, min2V, makeV, freshSl, sliceV, boundOr, bound, bounds, cutFl, copyV, slCells, srcV, appendV, room, zerosOf, eqNeg, kd, takeR, hasViewL, hasView, freshR, freshC, snapAll, snap, snapL, flatL, pureL, pureA, fillC, arrOK, oneA, te2, te3, te4, te5, te9, te22, te24, te46, te52, te54, E4_te, E4_glob, E4_mu, E4_11, E4_12, E4_14, E4_26, E4_28, pf26_at, pf11_at, pf28_at, glob, dt]
        exact resQ_tnil
      · rw [if_neg ht] at hr
        cases hr
        rw [Try.ntmps16, Try.results16]
        refine ⟨by simp, ?_⟩
        have hn8 := need_le t.length (by omega)
        have dt : decide ((t.length : Int) > 4096) = false := decide_eq_false (by omega)
        simp (maxSteps := 1000000) (disch := first | omega | (simp only [digF_len, putK_len, putB_len, nums_len, List.length_cons, List.length_nil, List.length_append, List.length_take, List.length_drop, List.length_replicate, List.length_set, List.length_map] <;> omega) | fail) only [ev0, ev1, ev2, ev3, ↓reduceIte, reduceCtorEq, Nat.reduceAdd, Nat.reduceSub, Nat.reduceMul, Nat.reduceLT, Nat.reduceLeDiff, Nat.reduceEqDiff, Nat.reduceBEq, BitVec.reduceOfInt, Int.reduceLE, Int.reduceLT, Int.reduceGT, Int.reduceGE, Int.reduceNeg, Int.reduceAdd, Int.reduceSub, Int.reduceMul, Int.reduceToNat, ↓bind_go, ↓map_go, wantedV, isWrite, grow, write, ofV, AV.cells, Abs.start, Abs.strip, endQ, resV, rawsRes, rawRes, exports, export1, AS.grown, AS.put, Env.know, Env.boxed, isSelf, convSelf, convV, loadV, storeV, fieldAddrV, fieldV, indexAddrV, indexV, partV, isAggK, isStr, place, lenV, min2V, makeV, freshSl, sliceV, boundOr, bound, bounds, cutFl, copyV, slCells, srcV, appendV, room, zerosOf, eqNeg, kd, takeR, hasViewL, hasView, freshR, freshC, snapAll, snap, snapL, flatL, pureL, pureA, fillC, arrOK, oneA, te2, te3, te4, te5, te9, te22, te24, te46, te52, te54, E4_te, E4_glob, E4_mu, E4_11, E4_12, E4_14, E4_26, E4_28, pf26_at, pf11_at, pf28_at, glob, dt]
        exact ResQ.same rfl
    · cases hr
  · cases hr
end Go.Proofs.Ytohemglpjjcohaa
