/- A reply and an entry are written: what the walks come to. -/
import Derived.Test.YtjnmdphoaafjaaaPr
namespace Go.Proofs.Ytjnmdphoaafjaaa
set_option linter.unusedSimpArgs false
set_option linter.unusedVariables false
set_option linter.defProp false
open Go Go.Abs
set_option maxHeartbeats 4000000
def okR (r : Rep) : Prop := i64ok r.c ∧ i64ok r.n ∧ i64ok r.m
def badR (r : Rep) : Prop := r.c < 0 ∨ r.n < 0 ∨ r.m < 0
instance (r : Rep) : Decidable (badR r) := by unfold badR; infer_instance
instance (r : Rep) : Decidable (okR r) := by unfold okR; infer_instance
def repR (r : Rep) : List (BitVec 8) × Int := if badR r then ([], 1) else if (dat r.b).length > 4096 then ([], 2) else (txB (nmF [r.c, r.n, r.m]) (dat r.b), 0)
noncomputable def pf56 : List AV → Option AV
  | [.agg cs] => (rep? (cs.map strip)).bind fun c => if okR c then some (.tup [.sl (repR c).1.length (nums .u8 (repR c).1) .bor, .raw (.int .i64 (repR c).2)]) else none
  | _ => none
def tbPs0 := (And.intro (And.intro (And.intro (And.intro (And.intro (And.intro @teE @cmdA_strip) (And.intro @repA_strip @entA_strip)) (And.intro (And.intro @cmdA_snap @repA_snap) (And.intro @entA_snap @cmdA_noview))) (And.intro (And.intro (And.intro @repA_noview @entA_noview) (And.intro @cmdA_take @cmdA_one)) (And.intro (And.intro @repA_take @repA_one) (And.intro @entA_take @entA_one)))) (And.intro (And.intro (And.intro (And.intro @dropC @dropR) (And.intro @dropE @zeroC)) (And.intro (And.intro @zeroR @zeroE) (And.intro @splice_cmd @splice_cmd'))) (And.intro (And.intro (And.intro @splice_rep @splice_rep') (And.intro @splice_ent @splice_ent')) (And.intro (And.intro @cmdA_len @repA_len) (And.intro @entA_len @rep1))))) (And.intro (And.intro (And.intro (And.intro (And.intro @rep2 @rep3) (And.intro @rep5 @one_le)) (And.intro (And.intro @le2 @le3) (And.intro @le5 @dr1))) (And.intro (And.intro (And.intro @dr2 @dr3) (And.intro @dr5 @EX_te)) (And.intro (And.intro @EX_glob @EX_gs) (And.intro @EX_dyn @EX_mu)))) (And.intro (And.intro (And.intro (And.intro @EX_15 @EX_20) (And.intro @EX_29 @EX_chk)) (And.intro (And.intro @EX_w @EX_n) (And.intro @ev4 @nums_at))) (And.intro (And.intro (And.intro @text_at @text_long) (And.intro @text_nil @repA_0)) (And.intro (And.intro @repA_1 @repA_2) (And.intro @repA_3 (And.intro @zz0 @zz1)))))))
theorem sound56 : SoundV Try.prog glob 56 pf56 := by
  refine SoundV.walk EX okX mixed Try.func56 rfl Try.call56 (by kernel_rfl) ?_
  intro args r hr
  unfold pf56 at hr
  split at hr
  · rename_i cs
    simp only [Option.bind_eq_some_iff] at hr
    obtain ⟨c, hc, hr⟩ := hr
    split at hr
    · rename_i hn
      cases hr
      have hcs := rep?_of hc
      rw [Try.ntmps56, Try.results56]
      refine ⟨by simp, ?_⟩
      obtain ⟨k, n, m, b⟩ := c
      obtain ⟨o1, o2, o3⟩ := hn
      unfold i64ok at o1 o2 o3
      dsimp only at o1 o2 o3
      by_cases c1 : k < 0
      · have hR : repR ⟨k, n, m, b⟩ = ([], 1) := by rw [repR, if_pos (.inl c1)]
        rw [hR]
        simp (maxSteps := 1000000) (disch := first | omega | (simp only [digF_len, putK_len, putB_len, lnB] <;> omega) | fail) only [ev0, ev1, ev2, ev3, ↓reduceIte, reduceCtorEq, Nat.reduceAdd, Nat.reduceSub, Nat.reduceMul, Nat.reduceLT, Nat.reduceLeDiff, Nat.reduceEqDiff, Nat.reduceBEq, BitVec.reduceOfInt, Int.reduceLE, Int.reduceLT, Int.reduceGT, Int.reduceGE, Int.reduceNeg, Int.reduceAdd, Int.reduceSub, Int.reduceMul, Int.reduceToNat, ↓bind_go, ↓map_go, wantedV, isWrite, grow, write, ofV, AV.cells, Abs.start, Abs.strip, endQ, resV, rawsRes, rawRes, exports, export1, AS.grown, AS.put, Env.know, Env.boxed, isSelf, convSelf, convV, loadV, storeV, fieldAddrV, fieldV, indexAddrV, indexV, partV, isAggK, isStr, place, lenV, min2V, makeV, freshSl, sliceV, boundOr, bound, bounds, cutFl, copyV, slCells, srcV, appendV, room, zerosOf, eqNeg, kd, takeR, hasViewL, hasView, freshR, freshC, snapAll, snap, snapL, flatL, pureL, pureA, fillC, arrOK, oneA, partB, AV.laid, ren1, CR.gr, applyW, useL, AS.mute, isGen, startG, ev5, tbPs0, List.map_nil, List.all_nil, List.drop_zero, glob, btA, List.size_toArray, Array.size_empty, List.length_nil, hcs, decide_eq_true c1]
        exact resQ_2nil
      by_cases c2 : n < 0
      · have hR : repR ⟨k, n, m, b⟩ = ([], 1) := by rw [repR, if_pos (.inr (.inl c2))]
        rw [hR]
        simp (maxSteps := 1000000) (disch := first | omega | (simp only [digF_len, putK_len, putB_len, lnB] <;> omega) | fail) only [ev0, ev1, ev2, ev3, ↓reduceIte, reduceCtorEq, Nat.reduceAdd, Nat.reduceSub, Nat.reduceMul, Nat.reduceLT, Nat.reduceLeDiff, Nat.reduceEqDiff, Nat.reduceBEq, BitVec.reduceOfInt, Int.reduceLE, Int.reduceLT, Int.reduceGT, Int.reduceGE, Int.reduceNeg, Int.reduceAdd, Int.reduceSub, Int.reduceMul, Int.reduceToNat, ↓bind_go, ↓map_go, wantedV, isWrite, grow, write, ofV, AV.cells, Abs.start, Abs.strip, endQ, resV, rawsRes, rawRes, exports, export1, AS.grown, AS.put, Env.know, Env.boxed, isSelf, convSelf, convV, loadV, storeV, fieldAddrV, fieldV, indexAddrV, indexV, partV, isAggK, isStr, place, lenV, min2V, makeV, freshSl, sliceV, boundOr, bound, bounds, cutFl, copyV, slCells, srcV, appendV, room, zerosOf, eqNeg, kd, takeR, hasViewL, hasView, freshR, freshC, snapAll, snap, snapL, flatL, pureL, pureA, fillC, arrOK, oneA, partB, AV.laid, ren1, CR.gr, applyW, useL, AS.mute, isGen, startG, ev5, tbPs0, List.map_nil, List.all_nil, List.drop_zero, glob, btA, List.size_toArray, Array.size_empty, List.length_nil, hcs, decide_eq_false c1, decide_eq_true c2]
        exact resQ_2nil
      by_cases c3 : m < 0
      · have hR : repR ⟨k, n, m, b⟩ = ([], 1) := by rw [repR, if_pos (.inr (.inr c3))]
        rw [hR]
        simp (maxSteps := 1000000) (disch := first | omega | (simp only [digF_len, putK_len, putB_len, lnB] <;> omega) | fail) only [ev0, ev1, ev2, ev3, ↓reduceIte, reduceCtorEq, Nat.reduceAdd, Nat.reduceSub, Nat.reduceMul, Nat.reduceLT, Nat.reduceLeDiff, Nat.reduceEqDiff, Nat.reduceBEq, BitVec.reduceOfInt, Int.reduceLE, Int.reduceLT, Int.reduceGT, Int.reduceGE, Int.reduceNeg, Int.reduceAdd, Int.reduceSub, Int.reduceMul, Int.reduceToNat, ↓bind_go, ↓map_go, wantedV, isWrite, grow, write, ofV, AV.cells, Abs.start, Abs.strip, endQ, resV, rawsRes, rawRes, exports, export1, AS.grown, AS.put, Env.know, Env.boxed, isSelf, convSelf, convV, loadV, storeV, fieldAddrV, fieldV, indexAddrV, indexV, partV, isAggK, isStr, place, lenV, min2V, makeV, freshSl, sliceV, boundOr, bound, bounds, cutFl, copyV, slCells, srcV, appendV, room, zerosOf, eqNeg, kd, takeR, hasViewL, hasView, freshR, freshC, snapAll, snap, snapL, flatL, pureL, pureA, fillC, arrOK, oneA, partB, AV.laid, ren1, CR.gr, applyW, useL, AS.mute, isGen, startG, ev5, tbPs0, List.map_nil, List.all_nil, List.drop_zero, glob, btA, List.size_toArray, Array.size_empty, List.length_nil, hcs, decide_eq_false c1, decide_eq_false c2, decide_eq_true c3]
        exact resQ_2nil
      have hb : ¬ badR ⟨k, n, m, b⟩ := fun h => by rcases h with h | h | h <;> (dsimp only at h; omega)
      have e3 : ∀ x ∈ [k, n, m], 0 ≤ x ∧ x ≤ 9223372036854775807 := by
        simp only [List.mem_cons, List.not_mem_nil, or_false, forall_eq_or_imp, forall_eq]; omega
      have n3 := fun fl => nums_at (n := 3) (fl := fl) rfl (by simp) e3
      simp only [ints, List.map_cons, List.map_nil] at n3
      have l3 := nmF_len e3
      simp only [List.length_cons, List.length_nil] at l3
      cases b with
      | none =>
        have hR : repR ⟨k, n, m, none⟩ = (txB (nmF [k, n, m]) [], 0) := by rw [repR, if_neg hb]; rfl
        rw [hR]
        simp (maxSteps := 1000000) (disch := first | omega | (simp only [digF_len, putK_len, putB_len, lnB] <;> omega) | fail) only [ev0, ev1, ev2, ev3, ↓reduceIte, reduceCtorEq, Nat.reduceAdd, Nat.reduceSub, Nat.reduceMul, Nat.reduceLT, Nat.reduceLeDiff, Nat.reduceEqDiff, Nat.reduceBEq, BitVec.reduceOfInt, Int.reduceLE, Int.reduceLT, Int.reduceGT, Int.reduceGE, Int.reduceNeg, Int.reduceAdd, Int.reduceSub, Int.reduceMul, Int.reduceToNat, ↓bind_go, ↓map_go, wantedV, isWrite, grow, write, ofV, AV.cells, Abs.start, Abs.strip, endQ, resV, rawsRes, rawRes, exports, export1, AS.grown, AS.put, Env.know, Env.boxed, isSelf, convSelf, convV, loadV, storeV, fieldAddrV, fieldV, indexAddrV, indexV, partV, isAggK, isStr, place, lenV, min2V, makeV, freshSl, sliceV, boundOr, bound, bounds, cutFl, copyV, slCells, srcV, appendV, room, zerosOf, eqNeg, kd, takeR, hasViewL, hasView, freshR, freshC, snapAll, snap, snapL, flatL, pureL, pureA, fillC, arrOK, oneA, partB, AV.laid, ren1, CR.gr, applyW, useL, AS.mute, isGen, startG, ev5, tbPs0, List.map_nil, List.all_nil, List.drop_zero, glob, btA, List.size_toArray, Array.size_empty, List.length_nil, hcs, decide_eq_false c1, decide_eq_false c2, decide_eq_false c3, n3]
        exact resQ_2
      | some b =>
        by_cases c4 : b.length > 4096
        · have hR : repR ⟨k, n, m, some b⟩ = ([], 2) := by rw [repR, if_neg hb]; exact if_pos c4
          rw [hR]
          simp (maxSteps := 1000000) (disch := first | omega | (simp only [digF_len, putK_len, putB_len, lnB] <;> omega) | fail) only [ev0, ev1, ev2, ev3, ↓reduceIte, reduceCtorEq, Nat.reduceAdd, Nat.reduceSub, Nat.reduceMul, Nat.reduceLT, Nat.reduceLeDiff, Nat.reduceEqDiff, Nat.reduceBEq, BitVec.reduceOfInt, Int.reduceLE, Int.reduceLT, Int.reduceGT, Int.reduceGE, Int.reduceNeg, Int.reduceAdd, Int.reduceSub, Int.reduceMul, Int.reduceToNat, ↓bind_go, ↓map_go, wantedV, isWrite, grow, write, ofV, AV.cells, Abs.start, Abs.strip, endQ, resV, rawsRes, rawRes, exports, export1, AS.grown, AS.put, Env.know, Env.boxed, isSelf, convSelf, convV, loadV, storeV, fieldAddrV, fieldV, indexAddrV, indexV, partV, isAggK, isStr, place, lenV, min2V, makeV, freshSl, sliceV, boundOr, bound, bounds, cutFl, copyV, slCells, srcV, appendV, room, zerosOf, eqNeg, kd, takeR, hasViewL, hasView, freshR, freshC, snapAll, snap, snapL, flatL, pureL, pureA, fillC, arrOK, oneA, partB, AV.laid, ren1, CR.gr, applyW, useL, AS.mute, isGen, startG, ev5, tbPs0, List.map_nil, List.all_nil, List.drop_zero, glob, btA, List.size_toArray, Array.size_empty, List.length_nil, hcs, decide_eq_false c1, decide_eq_false c2, decide_eq_false c3, n3]
          exact resQ_2
        · have hR : repR ⟨k, n, m, some b⟩ = (txB (nmF [k, n, m]) b, 0) := by rw [repR, if_neg hb]; exact if_neg c4
          rw [hR]
          simp (maxSteps := 1000000) (disch := first | omega | (simp only [digF_len, putK_len, putB_len, lnB] <;> omega) | fail) only [ev0, ev1, ev2, ev3, ↓reduceIte, reduceCtorEq, Nat.reduceAdd, Nat.reduceSub, Nat.reduceMul, Nat.reduceLT, Nat.reduceLeDiff, Nat.reduceEqDiff, Nat.reduceBEq, BitVec.reduceOfInt, Int.reduceLE, Int.reduceLT, Int.reduceGT, Int.reduceGE, Int.reduceNeg, Int.reduceAdd, Int.reduceSub, Int.reduceMul, Int.reduceToNat, ↓bind_go, ↓map_go, wantedV, isWrite, grow, write, ofV, AV.cells, Abs.start, Abs.strip, endQ, resV, rawsRes, rawRes, exports, export1, AS.grown, AS.put, Env.know, Env.boxed, isSelf, convSelf, convV, loadV, storeV, fieldAddrV, fieldV, indexAddrV, indexV, partV, isAggK, isStr, place, lenV, min2V, makeV, freshSl, sliceV, boundOr, bound, bounds, cutFl, copyV, slCells, srcV, appendV, room, zerosOf, eqNeg, kd, takeR, hasViewL, hasView, freshR, freshC, snapAll, snap, snapL, flatL, pureL, pureA, fillC, arrOK, oneA, partB, AV.laid, ren1, CR.gr, applyW, useL, AS.mute, isGen, startG, ev5, tbPs0, List.map_nil, List.all_nil, List.drop_zero, glob, btA, List.size_toArray, Array.size_empty, List.length_nil, hcs, decide_eq_false c1, decide_eq_false c2, decide_eq_false c3, n3]
          exact resQ_2
    · cases hr
  · cases hr

def okN (r : Eny) : Prop := (dat r.d).length ≤ 9223372036854775807 ∧ (idat r.m).length ≤ 9223372036854775807 ∧ ∀ n ∈ idat r.m, i64ok n
def badE (r : Eny) : Bool := !inW r.t 0 1099511627776 || !inW r.k 0 2 || neg (idat r.m)
def entB (r : Eny) : List (BitVec 8) := putL (txB (nmF [r.t, r.k]) (dat r.d)) (idat r.m)
def entR (r : Eny) : List (BitVec 8) × Int := if badE r = true then ([], 1) else if (dat r.d).length > 4096 ∨ (idat r.m).length > 7 then ([], 2) else (entB r, 0)
noncomputable def pf61 : List AV → Option AV
  | [.agg cs] => (ent? (cs.map strip)).bind fun c => open Classical in if okN c then some (.tup [.sl (entR c).1.length (nums .u8 (entR c).1) .bor, .raw (.int .i64 (entR c).2)]) else none
  | _ => none
theorem any_at {n : Nat} {l : List Int} {fl : Fl} (h : n = l.length) (h2 : ∀ n ∈ l, i64ok n) (h3 : l.length ≤ 9223372036854775807) : pf119 [.sl n (ints .i64 l) fl, .fn 120 []] = some (.raw (.bool (neg l))) :=
  pf119_at h h2 h3 (.inr rfl)
theorem any_nil {fl : Fl} : pf119 [.sl 0 [] fl, .fn 120 []] = some (.raw (.bool false)) := any_at (l := []) rfl (by simp) (by simp)
theorem list_at {l l' : Nat} {b : List (BitVec 8)} {t : List Int} {fl fl' : Fl} (h : l = b.length) (h' : l' = t.length) (ht : ∀ n ∈ t, i64ok n) (h2 : b.length ≤ 1000000000) (h3 : t.length ≤ 4096) (h4 : neg t = false) : pf121 [.sl l (nums .u8 b) fl, .sl l' (ints .i64 t) fl'] = some (.tup [.sl (putL b t).length (nums .u8 (putL b t)) .bor, .raw (.int .i64 0)]) := by
  simp only [pf121, row?_at h, irow?_at h' ht, Option.bind_some, if_pos (And.intro h2 (show t.length ≤ 1000000000 by omega)), if_neg (show ¬ t.length > 4096 by omega), if_neg (show ¬ neg t = true by rw [h4]; decide)]
theorem list_nil {l : Nat} {b : List (BitVec 8)} {fl fl' : Fl} (h : l = b.length) (h2 : b.length ≤ 1000000000) : pf121 [.sl l (nums .u8 b) fl, .sl 0 [] fl'] = some (.tup [.sl (putL b []).length (nums .u8 (putL b [])) .bor, .raw (.int .i64 0)]) :=
  list_at (t := []) h rfl (by simp) h2 (by simp) rfl
theorem norm_fn {f : Nat} {cs : List AV} : norm (.fn f cs) = .fn f cs := rfl
theorem inW_is {n a b : Int} : (decide (n ≥ a) && decide (n ≤ b)) = inW n a b := rfl
def tbPs1 := (And.intro (And.intro (And.intro (And.intro (And.intro (And.intro @teE @cmdA_strip) (And.intro @repA_strip @entA_strip)) (And.intro (And.intro @cmdA_snap @repA_snap) (And.intro @entA_snap @cmdA_noview))) (And.intro (And.intro (And.intro @repA_noview @entA_noview) (And.intro @cmdA_take @cmdA_one)) (And.intro (And.intro @repA_take @repA_one) (And.intro @entA_take (And.intro @entA_one @dropC))))) (And.intro (And.intro (And.intro (And.intro @dropR @dropE) (And.intro @zeroC @zeroR)) (And.intro (And.intro @zeroE @splice_cmd) (And.intro @splice_cmd' (And.intro @splice_rep @splice_rep')))) (And.intro (And.intro (And.intro @splice_ent @splice_ent') (And.intro @cmdA_len @repA_len)) (And.intro (And.intro @entA_len @rep1) (And.intro @rep2 (And.intro @rep3 @rep5)))))) (And.intro (And.intro (And.intro (And.intro (And.intro @one_le @le2) (And.intro @le3 @le5)) (And.intro (And.intro @dr1 @dr2) (And.intro @dr3 (And.intro @dr5 @EX_te)))) (And.intro (And.intro (And.intro @EX_glob @EX_gs) (And.intro @EX_dyn @EX_mu)) (And.intro (And.intro @EX_15 @EX_20) (And.intro @EX_29 (And.intro @EX_chk @EX_w))))) (And.intro (And.intro (And.intro (And.intro @EX_n @ev4) (And.intro @nums_at @text_at)) (And.intro (And.intro @text_long @text_nil) (And.intro @norm_fn (And.intro @any_at @any_nil)))) (And.intro (And.intro (And.intro @list_at @list_nil) (And.intro @within_at @entA_0)) (And.intro (And.intro @entA_1 @entA_2) (And.intro @entA_3 (And.intro @zz0 @zz1)))))))
theorem sound61 : SoundV Try.prog glob 61 pf61 := by
  refine SoundV.walk EX okX mixed Try.func61 rfl Try.call61 (by kernel_rfl) ?_
  intro args r hr
  unfold pf61 at hr
  split at hr
  · rename_i cs
    simp only [Option.bind_eq_some_iff] at hr
    obtain ⟨c, hc, hr⟩ := hr
    split at hr
    · rename_i hn
      cases hr
      have hcs := ent?_of hc
      rw [Try.ntmps61, Try.results61]
      refine ⟨by simp, ?_⟩
      obtain ⟨t, k, d, m⟩ := c
      obtain ⟨o1, o2, o3⟩ := hn
      dsimp only at o1 o2 o3
      cases c1 : inW t 0 1099511627776
      · have hR : entR ⟨t, k, d, m⟩ = ([], 1) := by simp [entR, badE, c1]
        rw [hR]
        simp (maxSteps := 1000000) (disch := first | omega | (simp only [digF_len, putK_len, putB_len, lnB] <;> omega) | fail) only [ev0, ev1, ev2, ev3, ↓reduceIte, reduceCtorEq, Nat.reduceAdd, Nat.reduceSub, Nat.reduceMul, Nat.reduceLT, Nat.reduceLeDiff, Nat.reduceEqDiff, Nat.reduceBEq, BitVec.reduceOfInt, Int.reduceLE, Int.reduceLT, Int.reduceGT, Int.reduceGE, Int.reduceNeg, Int.reduceAdd, Int.reduceSub, Int.reduceMul, Int.reduceToNat, ↓bind_go, ↓map_go, wantedV, isWrite, grow, write, ofV, AV.cells, Abs.start, Abs.strip, endQ, resV, rawsRes, rawRes, exports, export1, AS.grown, AS.put, Env.know, Env.boxed, isSelf, convSelf, convV, loadV, storeV, fieldAddrV, fieldV, indexAddrV, indexV, partV, isAggK, isStr, place, lenV, min2V, makeV, freshSl, sliceV, boundOr, bound, bounds, cutFl, copyV, slCells, srcV, appendV, room, zerosOf, eqNeg, kd, takeR, hasViewL, hasView, freshR, freshC, snapAll, snap, snapL, flatL, pureL, pureA, fillC, arrOK, oneA, partB, AV.laid, ren1, CR.gr, applyW, useL, AS.mute, isGen, startG, ev5, tbPs1, List.map_nil, List.all_nil, List.drop_zero, glob, List.isEmpty_nil, btA, itA, List.size_toArray, Array.size_empty, List.length_nil, Bool.not_true, Bool.not_false, hcs, inW_is, c1]
        exact resQ_2nil
      cases c2 : inW k 0 2
      · have hR : entR ⟨t, k, d, m⟩ = ([], 1) := by simp [entR, badE, c2]
        rw [hR]
        simp (maxSteps := 1000000) (disch := first | omega | (simp only [digF_len, putK_len, putB_len, lnB] <;> omega) | fail) only [ev0, ev1, ev2, ev3, ↓reduceIte, reduceCtorEq, Nat.reduceAdd, Nat.reduceSub, Nat.reduceMul, Nat.reduceLT, Nat.reduceLeDiff, Nat.reduceEqDiff, Nat.reduceBEq, BitVec.reduceOfInt, Int.reduceLE, Int.reduceLT, Int.reduceGT, Int.reduceGE, Int.reduceNeg, Int.reduceAdd, Int.reduceSub, Int.reduceMul, Int.reduceToNat, ↓bind_go, ↓map_go, wantedV, isWrite, grow, write, ofV, AV.cells, Abs.start, Abs.strip, endQ, resV, rawsRes, rawRes, exports, export1, AS.grown, AS.put, Env.know, Env.boxed, isSelf, convSelf, convV, loadV, storeV, fieldAddrV, fieldV, indexAddrV, indexV, partV, isAggK, isStr, place, lenV, min2V, makeV, freshSl, sliceV, boundOr, bound, bounds, cutFl, copyV, slCells, srcV, appendV, room, zerosOf, eqNeg, kd, takeR, hasViewL, hasView, freshR, freshC, snapAll, snap, snapL, flatL, pureL, pureA, fillC, arrOK, oneA, partB, AV.laid, ren1, CR.gr, applyW, useL, AS.mute, isGen, startG, ev5, tbPs1, List.map_nil, List.all_nil, List.drop_zero, glob, List.isEmpty_nil, btA, itA, List.size_toArray, Array.size_empty, List.length_nil, Bool.not_true, Bool.not_false, hcs, inW_is, c1, c2]
        exact resQ_2nil
      have k1 : 0 ≤ t ∧ t ≤ 1099511627776 := by simpa [inW] using c1
      have k2 : 0 ≤ k ∧ k ≤ 2 := by simpa [inW] using c2
      have e2 : ∀ x ∈ [t, k], 0 ≤ x ∧ x ≤ 9223372036854775807 := by
        simp only [List.mem_cons, List.not_mem_nil, or_false, forall_eq_or_imp, forall_eq]; omega
      have n2 := fun fl => nums_at (n := 2) (fl := fl) rfl (by simp) e2
      simp only [ints, List.map_cons, List.map_nil] at n2
      have l2 := nmF_len e2
      simp only [List.length_cons, List.length_nil] at l2
      cases c3 : neg (idat m)
      rotate_left
      · have hR : entR ⟨t, k, d, m⟩ = ([], 1) := by simp [entR, badE, c3]
        rw [hR]
        cases m with
        | none => exact absurd c3 (by decide)
        | some m =>
          have c3' : neg m = true := c3
          simp only [idat] at o2 o3
          simp (maxSteps := 1000000) (disch := first | omega | (simp only [digF_len, putK_len, putB_len, lnB] <;> omega) | fail) only [ev0, ev1, ev2, ev3, ↓reduceIte, reduceCtorEq, Nat.reduceAdd, Nat.reduceSub, Nat.reduceMul, Nat.reduceLT, Nat.reduceLeDiff, Nat.reduceEqDiff, Nat.reduceBEq, BitVec.reduceOfInt, Int.reduceLE, Int.reduceLT, Int.reduceGT, Int.reduceGE, Int.reduceNeg, Int.reduceAdd, Int.reduceSub, Int.reduceMul, Int.reduceToNat, ↓bind_go, ↓map_go, wantedV, isWrite, grow, write, ofV, AV.cells, Abs.start, Abs.strip, endQ, resV, rawsRes, rawRes, exports, export1, AS.grown, AS.put, Env.know, Env.boxed, isSelf, convSelf, convV, loadV, storeV, fieldAddrV, fieldV, indexAddrV, indexV, partV, isAggK, isStr, place, lenV, min2V, makeV, freshSl, sliceV, boundOr, bound, bounds, cutFl, copyV, slCells, srcV, appendV, room, zerosOf, eqNeg, kd, takeR, hasViewL, hasView, freshR, freshC, snapAll, snap, snapL, flatL, pureL, pureA, fillC, arrOK, oneA, partB, AV.laid, ren1, CR.gr, applyW, useL, AS.mute, isGen, startG, ev5, tbPs1, List.map_nil, List.all_nil, List.drop_zero, glob, List.isEmpty_nil, btA, itA, List.size_toArray, Array.size_empty, List.length_nil, Bool.not_true, Bool.not_false, hcs, inW_is, c1, c2, c3']
          exact resQ_2nil
      have hb : ¬ badE ⟨t, k, d, m⟩ = true := by simp [badE, c1, c2, c3]
      have ht := txB_len (nmF [t, k]) (dat d)
      by_cases c4 : (dat d).length > 4096
      · have hR : entR ⟨t, k, d, m⟩ = ([], 2) := by rw [entR, if_neg hb]; exact if_pos (.inl c4)
        rw [hR]
        cases d with
        | none => exact absurd c4 (by simp [dat])
        | some d =>
          have dd : decide ((d.length : Int) > 4096) = true := decide_eq_true (by simp only [dat] at c4; omega)
          cases m with
          | none =>
            simp (maxSteps := 1000000) (disch := first | omega | (simp only [digF_len, putK_len, putB_len, lnB] <;> omega) | fail) only [ev0, ev1, ev2, ev3, ↓reduceIte, reduceCtorEq, Nat.reduceAdd, Nat.reduceSub, Nat.reduceMul, Nat.reduceLT, Nat.reduceLeDiff, Nat.reduceEqDiff, Nat.reduceBEq, BitVec.reduceOfInt, Int.reduceLE, Int.reduceLT, Int.reduceGT, Int.reduceGE, Int.reduceNeg, Int.reduceAdd, Int.reduceSub, Int.reduceMul, Int.reduceToNat, ↓bind_go, ↓map_go, wantedV, isWrite, grow, write, ofV, AV.cells, Abs.start, Abs.strip, endQ, resV, rawsRes, rawRes, exports, export1, AS.grown, AS.put, Env.know, Env.boxed, isSelf, convSelf, convV, loadV, storeV, fieldAddrV, fieldV, indexAddrV, indexV, partV, isAggK, isStr, place, lenV, min2V, makeV, freshSl, sliceV, boundOr, bound, bounds, cutFl, copyV, slCells, srcV, appendV, room, zerosOf, eqNeg, kd, takeR, hasViewL, hasView, freshR, freshC, snapAll, snap, snapL, flatL, pureL, pureA, fillC, arrOK, oneA, partB, AV.laid, ren1, CR.gr, applyW, useL, AS.mute, isGen, startG, ev5, tbPs1, List.map_nil, List.all_nil, List.drop_zero, glob, List.isEmpty_nil, btA, itA, List.size_toArray, Array.size_empty, List.length_nil, Bool.not_true, Bool.not_false, hcs, inW_is, c1, c2, dd]
            exact resQ_2nil
          | some m =>
            have c3' : neg m = false := c3
            simp only [idat] at o2 o3
            simp (maxSteps := 1000000) (disch := first | omega | (simp only [digF_len, putK_len, putB_len, lnB] <;> omega) | fail) only [ev0, ev1, ev2, ev3, ↓reduceIte, reduceCtorEq, Nat.reduceAdd, Nat.reduceSub, Nat.reduceMul, Nat.reduceLT, Nat.reduceLeDiff, Nat.reduceEqDiff, Nat.reduceBEq, BitVec.reduceOfInt, Int.reduceLE, Int.reduceLT, Int.reduceGT, Int.reduceGE, Int.reduceNeg, Int.reduceAdd, Int.reduceSub, Int.reduceMul, Int.reduceToNat, ↓bind_go, ↓map_go, wantedV, isWrite, grow, write, ofV, AV.cells, Abs.start, Abs.strip, endQ, resV, rawsRes, rawRes, exports, export1, AS.grown, AS.put, Env.know, Env.boxed, isSelf, convSelf, convV, loadV, storeV, fieldAddrV, fieldV, indexAddrV, indexV, partV, isAggK, isStr, place, lenV, min2V, makeV, freshSl, sliceV, boundOr, bound, bounds, cutFl, copyV, slCells, srcV, appendV, room, zerosOf, eqNeg, kd, takeR, hasViewL, hasView, freshR, freshC, snapAll, snap, snapL, flatL, pureL, pureA, fillC, arrOK, oneA, partB, AV.laid, ren1, CR.gr, applyW, useL, AS.mute, isGen, startG, ev5, tbPs1, List.map_nil, List.all_nil, List.drop_zero, glob, List.isEmpty_nil, btA, itA, List.size_toArray, Array.size_empty, List.length_nil, Bool.not_true, Bool.not_false, hcs, inW_is, c1, c2, c3', dd]
            exact resQ_2nil
      have ht := ht (by omega)
      by_cases c5 : (idat m).length > 7
      · have hR : entR ⟨t, k, d, m⟩ = ([], 2) := by rw [entR, if_neg hb]; exact if_pos (.inr c5)
        rw [hR]
        cases m with
        | none => exact absurd c5 (by simp [idat])
        | some m =>
          have c3' : neg m = false := c3
          simp only [idat] at o2 o3 c5
          have dm : decide ((m.length : Int) > 7) = true := decide_eq_true (by omega)
          cases d with
          | none =>
            simp (maxSteps := 1000000) (disch := first | omega | (simp only [digF_len, putK_len, putB_len, lnB] <;> omega) | fail) only [ev0, ev1, ev2, ev3, ↓reduceIte, reduceCtorEq, Nat.reduceAdd, Nat.reduceSub, Nat.reduceMul, Nat.reduceLT, Nat.reduceLeDiff, Nat.reduceEqDiff, Nat.reduceBEq, BitVec.reduceOfInt, Int.reduceLE, Int.reduceLT, Int.reduceGT, Int.reduceGE, Int.reduceNeg, Int.reduceAdd, Int.reduceSub, Int.reduceMul, Int.reduceToNat, ↓bind_go, ↓map_go, wantedV, isWrite, grow, write, ofV, AV.cells, Abs.start, Abs.strip, endQ, resV, rawsRes, rawRes, exports, export1, AS.grown, AS.put, Env.know, Env.boxed, isSelf, convSelf, convV, loadV, storeV, fieldAddrV, fieldV, indexAddrV, indexV, partV, isAggK, isStr, place, lenV, min2V, makeV, freshSl, sliceV, boundOr, bound, bounds, cutFl, copyV, slCells, srcV, appendV, room, zerosOf, eqNeg, kd, takeR, hasViewL, hasView, freshR, freshC, snapAll, snap, snapL, flatL, pureL, pureA, fillC, arrOK, oneA, partB, AV.laid, ren1, CR.gr, applyW, useL, AS.mute, isGen, startG, ev5, tbPs1, List.map_nil, List.all_nil, List.drop_zero, glob, List.isEmpty_nil, btA, itA, List.size_toArray, Array.size_empty, List.length_nil, Bool.not_true, Bool.not_false, hcs, inW_is, c1, c2, c3', dm]
            exact resQ_2nil
          | some d =>
            have dd : decide ((d.length : Int) > 4096) = false := decide_eq_false (by simp only [dat] at c4; omega)
            simp (maxSteps := 1000000) (disch := first | omega | (simp only [digF_len, putK_len, putB_len, lnB] <;> omega) | fail) only [ev0, ev1, ev2, ev3, ↓reduceIte, reduceCtorEq, Nat.reduceAdd, Nat.reduceSub, Nat.reduceMul, Nat.reduceLT, Nat.reduceLeDiff, Nat.reduceEqDiff, Nat.reduceBEq, BitVec.reduceOfInt, Int.reduceLE, Int.reduceLT, Int.reduceGT, Int.reduceGE, Int.reduceNeg, Int.reduceAdd, Int.reduceSub, Int.reduceMul, Int.reduceToNat, ↓bind_go, ↓map_go, wantedV, isWrite, grow, write, ofV, AV.cells, Abs.start, Abs.strip, endQ, resV, rawsRes, rawRes, exports, export1, AS.grown, AS.put, Env.know, Env.boxed, isSelf, convSelf, convV, loadV, storeV, fieldAddrV, fieldV, indexAddrV, indexV, partV, isAggK, isStr, place, lenV, min2V, makeV, freshSl, sliceV, boundOr, bound, bounds, cutFl, copyV, slCells, srcV, appendV, room, zerosOf, eqNeg, kd, takeR, hasViewL, hasView, freshR, freshC, snapAll, snap, snapL, flatL, pureL, pureA, fillC, arrOK, oneA, partB, AV.laid, ren1, CR.gr, applyW, useL, AS.mute, isGen, startG, ev5, tbPs1, List.map_nil, List.all_nil, List.drop_zero, glob, List.isEmpty_nil, btA, itA, List.size_toArray, Array.size_empty, List.length_nil, Bool.not_true, Bool.not_false, hcs, inW_is, c1, c2, c3', dd, dm]
            exact resQ_2nil
      have hR : entR ⟨t, k, d, m⟩ = (entB ⟨t, k, d, m⟩, 0) := by rw [entR, if_neg hb]; exact if_neg (by dsimp only; omega)
      rw [hR]
      simp only [entB]
      cases m with
      | none =>
        cases d with
        | none =>
          simp only [dat, idat, List.length_nil] at ht ⊢
          simp (maxSteps := 1000000) (disch := first | omega | (simp only [digF_len, putK_len, putB_len, lnB] <;> omega) | fail) only [ev0, ev1, ev2, ev3, ↓reduceIte, reduceCtorEq, Nat.reduceAdd, Nat.reduceSub, Nat.reduceMul, Nat.reduceLT, Nat.reduceLeDiff, Nat.reduceEqDiff, Nat.reduceBEq, BitVec.reduceOfInt, Int.reduceLE, Int.reduceLT, Int.reduceGT, Int.reduceGE, Int.reduceNeg, Int.reduceAdd, Int.reduceSub, Int.reduceMul, Int.reduceToNat, ↓bind_go, ↓map_go, wantedV, isWrite, grow, write, ofV, AV.cells, Abs.start, Abs.strip, endQ, resV, rawsRes, rawRes, exports, export1, AS.grown, AS.put, Env.know, Env.boxed, isSelf, convSelf, convV, loadV, storeV, fieldAddrV, fieldV, indexAddrV, indexV, partV, isAggK, isStr, place, lenV, min2V, makeV, freshSl, sliceV, boundOr, bound, bounds, cutFl, copyV, slCells, srcV, appendV, room, zerosOf, eqNeg, kd, takeR, hasViewL, hasView, freshR, freshC, snapAll, snap, snapL, flatL, pureL, pureA, fillC, arrOK, oneA, partB, AV.laid, ren1, CR.gr, applyW, useL, AS.mute, isGen, startG, ev5, tbPs1, List.map_nil, List.all_nil, List.drop_zero, glob, List.isEmpty_nil, btA, itA, List.size_toArray, Array.size_empty, List.length_nil, Bool.not_true, Bool.not_false, hcs, inW_is, c1, c2, n2]
          exact resQ_2
        | some d =>
          simp only [dat, idat] at ht c4 ⊢
          have dd : decide ((d.length : Int) > 4096) = false := decide_eq_false (by omega)
          simp (maxSteps := 1000000) (disch := first | omega | (simp only [digF_len, putK_len, putB_len, lnB] <;> omega) | fail) only [ev0, ev1, ev2, ev3, ↓reduceIte, reduceCtorEq, Nat.reduceAdd, Nat.reduceSub, Nat.reduceMul, Nat.reduceLT, Nat.reduceLeDiff, Nat.reduceEqDiff, Nat.reduceBEq, BitVec.reduceOfInt, Int.reduceLE, Int.reduceLT, Int.reduceGT, Int.reduceGE, Int.reduceNeg, Int.reduceAdd, Int.reduceSub, Int.reduceMul, Int.reduceToNat, ↓bind_go, ↓map_go, wantedV, isWrite, grow, write, ofV, AV.cells, Abs.start, Abs.strip, endQ, resV, rawsRes, rawRes, exports, export1, AS.grown, AS.put, Env.know, Env.boxed, isSelf, convSelf, convV, loadV, storeV, fieldAddrV, fieldV, indexAddrV, indexV, partV, isAggK, isStr, place, lenV, min2V, makeV, freshSl, sliceV, boundOr, bound, bounds, cutFl, copyV, slCells, srcV, appendV, room, zerosOf, eqNeg, kd, takeR, hasViewL, hasView, freshR, freshC, snapAll, snap, snapL, flatL, pureL, pureA, fillC, arrOK, oneA, partB, AV.laid, ren1, CR.gr, applyW, useL, AS.mute, isGen, startG, ev5, tbPs1, List.map_nil, List.all_nil, List.drop_zero, glob, List.isEmpty_nil, btA, itA, List.size_toArray, Array.size_empty, List.length_nil, Bool.not_true, Bool.not_false, hcs, inW_is, c1, c2, dd, n2]
          exact resQ_2
      | some m =>
        have c3' : neg m = false := c3
        simp only [idat] at o2 o3 c5
        have dm : decide ((m.length : Int) > 7) = false := decide_eq_false (by omega)
        cases d with
        | none =>
          simp only [dat, idat, List.length_nil] at ht ⊢
          simp (maxSteps := 1000000) (disch := first | omega | (simp only [digF_len, putK_len, putB_len, lnB] <;> omega) | fail) only [ev0, ev1, ev2, ev3, ↓reduceIte, reduceCtorEq, Nat.reduceAdd, Nat.reduceSub, Nat.reduceMul, Nat.reduceLT, Nat.reduceLeDiff, Nat.reduceEqDiff, Nat.reduceBEq, BitVec.reduceOfInt, Int.reduceLE, Int.reduceLT, Int.reduceGT, Int.reduceGE, Int.reduceNeg, Int.reduceAdd, Int.reduceSub, Int.reduceMul, Int.reduceToNat, ↓bind_go, ↓map_go, wantedV, isWrite, grow, write, ofV, AV.cells, Abs.start, Abs.strip, endQ, resV, rawsRes, rawRes, exports, export1, AS.grown, AS.put, Env.know, Env.boxed, isSelf, convSelf, convV, loadV, storeV, fieldAddrV, fieldV, indexAddrV, indexV, partV, isAggK, isStr, place, lenV, min2V, makeV, freshSl, sliceV, boundOr, bound, bounds, cutFl, copyV, slCells, srcV, appendV, room, zerosOf, eqNeg, kd, takeR, hasViewL, hasView, freshR, freshC, snapAll, snap, snapL, flatL, pureL, pureA, fillC, arrOK, oneA, partB, AV.laid, ren1, CR.gr, applyW, useL, AS.mute, isGen, startG, ev5, tbPs1, List.map_nil, List.all_nil, List.drop_zero, glob, List.isEmpty_nil, btA, itA, List.size_toArray, Array.size_empty, List.length_nil, Bool.not_true, Bool.not_false, hcs, inW_is, c1, c2, c3', dm, n2]
          exact resQ_2
        | some d =>
          simp only [dat, idat] at ht c4 ⊢
          have dd : decide ((d.length : Int) > 4096) = false := decide_eq_false (by omega)
          simp (maxSteps := 1000000) (disch := first | omega | (simp only [digF_len, putK_len, putB_len, lnB] <;> omega) | fail) only [ev0, ev1, ev2, ev3, ↓reduceIte, reduceCtorEq, Nat.reduceAdd, Nat.reduceSub, Nat.reduceMul, Nat.reduceLT, Nat.reduceLeDiff, Nat.reduceEqDiff, Nat.reduceBEq, BitVec.reduceOfInt, Int.reduceLE, Int.reduceLT, Int.reduceGT, Int.reduceGE, Int.reduceNeg, Int.reduceAdd, Int.reduceSub, Int.reduceMul, Int.reduceToNat, ↓bind_go, ↓map_go, wantedV, isWrite, grow, write, ofV, AV.cells, Abs.start, Abs.strip, endQ, resV, rawsRes, rawRes, exports, export1, AS.grown, AS.put, Env.know, Env.boxed, isSelf, convSelf, convV, loadV, storeV, fieldAddrV, fieldV, indexAddrV, indexV, partV, isAggK, isStr, place, lenV, min2V, makeV, freshSl, sliceV, boundOr, bound, bounds, cutFl, copyV, slCells, srcV, appendV, room, zerosOf, eqNeg, kd, takeR, hasViewL, hasView, freshR, freshC, snapAll, snap, snapL, flatL, pureL, pureA, fillC, arrOK, oneA, partB, AV.laid, ren1, CR.gr, applyW, useL, AS.mute, isGen, startG, ev5, tbPs1, List.map_nil, List.all_nil, List.drop_zero, glob, List.isEmpty_nil, btA, itA, List.size_toArray, Array.size_empty, List.length_nil, Bool.not_true, Bool.not_false, hcs, inW_is, c1, c2, c3', dd, dm, n2]
          exact resQ_2
    · cases hr
  · cases hr
end Go.Proofs.Ytjnmdphoaafjaaa
