/- The document's examples of records hold: what the walk comes to. -/
import Derived.Test.YtddeffdgldjdjaaDoorNl
namespace Go.Proofs.YtddeffdgldjdjaaDoor.W
set_option linter.unusedSimpArgs false
set_option linter.unusedVariables false
set_option linter.defProp false
open Go Go.Abs
set_option maxHeartbeats 16000000
noncomputable def ESH : Env := (((ES0.know 48 pf48).know 57 pf57).know 50 (fun xs => pf50 (xs.map norm))).know 54 (fun xs => pf54 (xs.map norm))
theorem okSH : EnvOK Tryd.prog ESH := (((okS0.know sound48).know sound57).know sound50.norm).know sound54.norm
theorem ESH_te : ESH.te = te := rfl
theorem ESH_glob : ESH.glob = globS := rfl
theorem ESH_gs : ESH.gs = [] := rfl
theorem ESH_dyn : ESH.dyn = false := rfl
theorem ESH_mu (d : Nat) : ESH.mu d = false := rfl
theorem ESH_p : ESH.tbl 48 = some (.val pf48) := rfl
theorem ESH_e : ESH.tbl 57 = some (.val pf57) := rfl
theorem ESH_s : ESH.tbl 50 = some (.val (fun xs => pf50 (xs.map norm))) := rfl
theorem ESH_f : ESH.tbl 54 = some (.val (fun xs => pf54 (xs.map norm))) := rfl
def pf44 : List AV → Option AV
  | [] => some (.raw (.bool true))
  | _ => none
theorem small_fold {l : List Rec} (h : l.length ≤ 100) (h2 : l.all (fun r => decide (-100 ≤ r.i ∧ r.i ≤ 100)) = true) : l.length ≤ 1000000 ∧ ∀ r ∈ l, smallI r.i :=
  ⟨by omega, fun r hr => by have := of_decide_eq_true (List.all_eq_true.1 h2 r hr); unfold smallI; omega⟩
theorem rep3_len : (rep 3 ([.raw (.int .i64 0), .raw (.int .i64 0), .raw (.int .i64 0), .raw (.int .i64 0), .raw (.int .i64 0), .raw (.int .i64 0), .raw (.int .i64 0), .raw (.int .i64 0), .raw (.slice none 0 0), .raw (.slice none 0 0)] : List AV)).length = 30 := rfl
theorem rep3_drop : (rep 3 ([.raw (.int .i64 0), .raw (.int .i64 0), .raw (.int .i64 0), .raw (.int .i64 0), .raw (.int .i64 0), .raw (.int .i64 0), .raw (.int .i64 0), .raw (.int .i64 0), .raw (.slice none 0 0), .raw (.slice none 0 0)] : List AV)).drop 30 = [] := rfl
theorem recsA_snap {bx : Boxes} (l : List Rec) : snapL bx (recsA l) = some (recsA l) := by
  induction l with
  | nil => rfl
  | cons e l ih => rw [recsA_cons]; exact snapL_app (recA_snap e) ih
theorem recsA_noview (l : List Rec) : hasViewL (recsA l) = false := by
  induction l with
  | nil => rfl
  | cons e l ih => rw [recsA_cons, hasViewL_app, recA_noview, ih]; rfl
theorem recs3 (a b c : Rec) : recA a ++ (recA b ++ recA c) = recsA [a, b, c] := by simp [recsA]
theorem recs3' (a b : Rec) : recA a ++ (recA b ++ [.raw (.int .i64 3), .raw (.int .i64 1), .raw (.int .i64 1), .raw (.int .i64 0), .raw (.int .i64 0), .raw (.int .i64 0), .raw (.int .i64 0), .raw (.int .i64 0), .raw (.slice none 0 0), .raw (.slice none 0 0)]) = recsA [a, b, ⟨3, 1, 1, 0, 0, 0, noE⟩] := rfl
theorem fold3_at (fl : Fl) : pf54 [.sl 3 (recsA [entR' 1 1, entR' 2 1, entR' 2 2]) fl] = some (.tup [.agg (stA ⟨0, 0, 0, 0, 0, some [⟨1, 0, none, none⟩, ⟨2, 0, none, none⟩]⟩ .bor), .raw (.int .i64 0)]) := by
  have h := small_fold (l := [entR' 1 1, entR' 2 1, entR' 2 2]) (by decide) (by decide)
  have := pf54_at (n := 3) (fl := fl) rfl h.1 h.2
  rw [foldE3] at this; exact this
theorem fold1_at (fl : Fl) : pf54 [.sl 1 (recA (entR' 2 1)) fl] = some (.tup [.agg [.raw (.int .i64 0), .raw (.int .i64 0), .raw (.int .i64 0), .raw (.int .i64 0), .raw (.int .i64 0), .raw (.slice none 0 0)], .raw (.int .i64 110)]) := by
  have h := small_fold (l := [entR' 2 1]) (by decide) (by decide)
  have := pf54_at (n := 1) (fl := fl) rfl h.1 h.2
  rw [foldE1] at this
  rw [show recA (entR' 2 1) = recsA [entR' 2 1] by simp [recsA]]; exact this
theorem foldB_at (fl : Fl) : pf54 [.sl 3 (recsA [entR' 1 1, entR' 2 1, ⟨3, 1, 1, 0, 0, 0, noE⟩]) fl] = some (.tup [.agg (stA ⟨0, 0, 1, 1, 0, some [⟨1, 0, none, none⟩]⟩ .bor), .raw (.int .i64 0)]) := by
  have h := small_fold (l := [entR' 1 1, entR' 2 1, ⟨3, 1, 1, 0, 0, 0, noE⟩]) (by decide) (by decide)
  have := pf54_at (n := 3) (fl := fl) rfl h.1 h.2
  rw [foldEB] at this; exact this
theorem lapp_nil {α : Type} (m : List α) : List.append [] m = m := rfl
theorem lapp_cons {α : Type} (a : α) (l m : List α) : List.append (a :: l) m = a :: List.append l m := rfl
theorem n1 : ((1 : Nat) : Int) = 1 := rfl
theorem n2 : ((2 : Nat) : Int) = 2 := rfl
theorem n3 : ((3 : Nat) : Int) = 3 := rfl
theorem n12 : ((12 : Nat) : Int) = 12 := rfl
theorem n17 : ((17 : Nat) : Int) = 17 := rfl
set_option maxRecDepth 8000 in
theorem sound44 : SoundV Tryd.prog globS 44 pf44 := by
  refine SoundV.walk ESH okSH mixed Tryd.func44 rfl Tryd.call44 (by kernel_rfl) ?_
  intro args r hr
  unfold pf44 at hr
  split at hr
  · cases hr
    rw [Tryd.ntmps44, Tryd.results44]
    refine ⟨by simp, ?_⟩
    obtain ⟨q, hq, hX⟩ := shX_at .bor
    have qh : ((recA q).drop 4)[0]? = some (.raw (.int .i64 3)) := by rw [← hq]; rfl
    have qe : ((entsA [⟨1, 0, none, none⟩, ⟨2, 0, none, none⟩]).drop 4)[0]? = some (.raw (.int .i64 2)) := rfl
    simp (maxSteps := 1000000) (disch := first | omega | (simp only [nums_len, shA_len, shB_len, lnB] <;> omega) | fail) only [ev0, ev1, ev2, ev3, ↓reduceIte, reduceCtorEq, Nat.reduceAdd, Nat.reduceSub, Nat.reduceMul, Nat.reduceLT, Nat.reduceLeDiff, Nat.reduceEqDiff, Nat.reduceBEq, BitVec.reduceOfInt, Int.reduceLE, Int.reduceLT, Int.reduceGT, Int.reduceGE, Int.reduceNeg, Int.reduceAdd, Int.reduceSub, Int.reduceMul, Int.reduceToNat, ↓bind_go, ↓map_go, wantedV, isWrite, grow, write, ofV, AV.cells, Abs.start, Abs.strip, endQ, resV, rawsRes, rawRes, exports, export1, AS.grown, AS.put, Env.know, Env.boxed, isSelf, convSelf, convV, loadV, storeV, fieldAddrV, fieldV, indexAddrV, indexV, partV, isAggK, isStr, place, ipS, lenV, min2V, makeV, freshSl, sliceV, boundOr, bound, bounds, cutFl, copyV, slCells, srcV, appendV, room, zerosOf, eqNeg, kd, takeR, hasViewL, hasView, freshR, freshC, snapAll, snap, snapL, flatL, pureL, pureA, fillC, arrOK, oneA, partB, AV.laid, ren1, CR.gr, applyW, useL, AS.mute, isGen, startG, ev5, teE, recs3, recs3', recsA_snap, recsA_noview, recsA_len, recsA_oneA, recsA_pure, esA_none, esA_some, stA_is, List.length_cons, rep3_len, rep3_drop, fold3_at, foldB_at, n1, n2, n3, n12, n17, rep_one, splice_6, splice_4, ESH_te, ESH_glob, ESH_gs, ESH_dyn, ESH_mu, ESH_p, ESH_e, ESH_s, ESH_f, globS, ev4, zeroRec, zeroSt, shA_at, shB_at, shA_len, shB_len, pf57_at, fold1_at, recA_len, recA_strip, recA_oneA, recA_snap, recA_noview, splice_rec, List.size_toArray, Array.size_empty, List.length_nil, List.map_nil, List.all_nil, Int.reduceBEq, Int.reduceBNe, beq_self_eq_true, hX, lapp_nil, lapp_cons, qh, qe]
    exact ResQ.same rfl
  · cases hr
end Go.Proofs.YtddeffdgldjdjaaDoor.W
