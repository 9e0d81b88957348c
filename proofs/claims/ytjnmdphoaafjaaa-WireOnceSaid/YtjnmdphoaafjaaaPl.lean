/- What a command's check is made of: the closures. -/
import Derived.Test.YtjnmdphoaafjaaaPk
import Derived.Test.YtjnmdphoaafjaaaM3
namespace Go.Proofs.Ytjnmdphoaafjaaa
set_option linter.unusedSimpArgs false
set_option linter.unusedVariables false
set_option linter.defProp false
open Go Go.Abs
theorem E0_te : E0.te = te := rfl
theorem E0_glob : E0.glob = glob := rfl
theorem E0_gs : E0.gs = [] := rfl
theorem E0_dyn : E0.dyn = false := rfl
theorem E0_mu (d : Nat) : E0.mu d = false := rfl
set_option maxHeartbeats 4000000
def pf91 : List AV → Option AV
  | [.raw (.int .i64 n), .raw (.int .i64 a), .raw (.int .i64 b)] => some (.raw (.bool (decide (n ≥ a) && decide (n ≤ b))))
  | _ => none
def tbPl0 := (And.intro (And.intro @teE (And.intro @E0_te @E0_glob)) (And.intro @E0_gs (And.intro @E0_dyn @E0_mu)))
theorem sound91 : SoundV Try.prog glob 91 pf91 := by
  refine SoundV.walk E0 ok0 mixed Try.func91 rfl Try.call91 (by kernel_rfl) ?_
  intro args r hr
  unfold pf91 at hr
  split at hr
  · rename_i n a b
    cases hr
    rw [Try.ntmps91, Try.results91]
    refine ⟨by simp, ?_⟩
    cases h : decide (n ≥ a)
    · simp (maxSteps := 1000000) (disch := first | omega | (simp only [nums_len, lnB] <;> omega) | fail) only [ev0, ev1, ev2, ev3, ↓reduceIte, reduceCtorEq, Nat.reduceAdd, Nat.reduceSub, Nat.reduceMul, Nat.reduceLT, Nat.reduceLeDiff, Nat.reduceEqDiff, Nat.reduceBEq, BitVec.reduceOfInt, Int.reduceLE, Int.reduceLT, Int.reduceGT, Int.reduceGE, Int.reduceNeg, Int.reduceAdd, Int.reduceSub, Int.reduceMul, Int.reduceToNat, ↓bind_go, ↓map_go, wantedV, isWrite, grow, write, ofV, AV.cells, Abs.start, Abs.strip, endQ, resV, rawsRes, rawRes, exports, export1, AS.grown, AS.put, Env.know, Env.boxed, isSelf, convSelf, convV, loadV, storeV, fieldAddrV, fieldV, indexAddrV, indexV, partV, isAggK, isStr, place, lenV, min2V, makeV, freshSl, sliceV, boundOr, bound, bounds, cutFl, copyV, slCells, srcV, appendV, room, zerosOf, eqNeg, kd, takeR, hasViewL, hasView, freshR, freshC, snapAll, snap, snapL, flatL, pureL, pureA, fillC, arrOK, oneA, partB, AV.laid, ren1, CR.gr, applyW, useL, AS.mute, isGen, startG, ev5, tbPl0, glob, h]
      exact ResQ.same rfl
    · simp (maxSteps := 1000000) (disch := first | omega | (simp only [nums_len, lnB] <;> omega) | fail) only [ev0, ev1, ev2, ev3, ↓reduceIte, reduceCtorEq, Nat.reduceAdd, Nat.reduceSub, Nat.reduceMul, Nat.reduceLT, Nat.reduceLeDiff, Nat.reduceEqDiff, Nat.reduceBEq, BitVec.reduceOfInt, Int.reduceLE, Int.reduceLT, Int.reduceGT, Int.reduceGE, Int.reduceNeg, Int.reduceAdd, Int.reduceSub, Int.reduceMul, Int.reduceToNat, ↓bind_go, ↓map_go, wantedV, isWrite, grow, write, ofV, AV.cells, Abs.start, Abs.strip, endQ, resV, rawsRes, rawRes, exports, export1, AS.grown, AS.put, Env.know, Env.boxed, isSelf, convSelf, convV, loadV, storeV, fieldAddrV, fieldV, indexAddrV, indexV, partV, isAggK, isStr, place, lenV, min2V, makeV, freshSl, sliceV, boundOr, bound, bounds, cutFl, copyV, slCells, srcV, appendV, room, zerosOf, eqNeg, kd, takeR, hasViewL, hasView, freshR, freshC, snapAll, snap, snapL, flatL, pureL, pureA, fillC, arrOK, oneA, partB, AV.laid, ren1, CR.gr, applyW, useL, AS.mute, isGen, startG, ev5, tbPl0, glob, h]
      exact ResQ.same rfl
  · cases hr
/-- a part of what is left is taken away -/
def gfC (f : List AV → List AV) (args : List AV) (bx : Boxes) (us : Abs.Id → Bool) : Option CR := match args with
  | [.ptr b 0] => (bx b).bind fun cs => if cs.length = 7 then some { v := .ret (.tup []), wr := [(b, f cs)] } else none
  | _ => none
theorem sound92 : SoundG Try.prog glob 92 (gfC fun cs => cs.set 3 (.raw (.int .i64 0))) := by
  refine SoundG.walk E0 ok0 mixed Try.func92 rfl Try.call92 (by kernel_rfl) ?_
  intro args bx us cr hr
  unfold gfC at hr
  split at hr
  · rename_i b
    simp only [Option.bind_eq_some_iff] at hr
    obtain ⟨cs, hb, hr⟩ := hr
    split at hr
    · rename_i hc
      cases hr
      rw [Try.ntmps92, Try.results92]
      refine ⟨by simp, fun L hlow hus hbf => ?_⟩
      have hbs : (bx b).isSome := by rw [hb]; rfl
      have hbL := (hlow b hbs).1
      have hx := hbf b cs hb
      simp (maxSteps := 1000000) (disch := first | omega | (simp only [List.length_set]; omega) | fail) only [ev0, ev1, ev2, ev3, ↓reduceIte, reduceCtorEq, Nat.reduceAdd, Nat.reduceSub, Nat.reduceMul, Nat.reduceLT, Nat.reduceLeDiff, Nat.reduceEqDiff, Nat.reduceBEq, BitVec.reduceOfInt, Int.reduceLE, Int.reduceLT, Int.reduceGT, Int.reduceGE, Int.reduceNeg, Int.reduceAdd, Int.reduceSub, Int.reduceMul, Int.reduceToNat, ↓bind_go, ↓map_go, wantedV, isWrite, grow, write, ofV, AV.cells, Abs.start, Abs.strip, endQ, resV, rawsRes, rawRes, exports, export1, AS.grown, AS.put, Env.know, Env.boxed, isSelf, convSelf, convV, loadV, storeV, fieldAddrV, fieldV, indexAddrV, indexV, partV, isAggK, isStr, place, lenV, min2V, makeV, freshSl, sliceV, boundOr, bound, bounds, cutFl, copyV, slCells, srcV, appendV, room, zerosOf, eqNeg, kd, takeR, hasViewL, hasView, freshR, freshC, snapAll, snap, snapL, flatL, pureL, pureA, fillC, arrOK, oneA, partB, AV.laid, ren1, CR.gr, applyW, useL, AS.mute, isGen, startG, ev5, tbPl0, glob, hb]
      change EndG _ _ _ _ _ _ _
      refine EndG.w1 [] [] rfl .nil rfl hbL hbs (fun b' h1 h2 => by simp only [updB, if_neg h2]) updB_self ?_ (fun _ _ => rfl)
      exact (ExpL.same hx).set (.raw _)
    · cases hr
  · cases hr
theorem sound94 : SoundG Try.prog glob 94 (gfC fun cs => cs.set 5 (.raw (.slice none 0 0))) := by
  refine SoundG.walk E0 ok0 mixed Try.func94 rfl Try.call94 (by kernel_rfl) ?_
  intro args bx us cr hr
  unfold gfC at hr
  split at hr
  · rename_i b
    simp only [Option.bind_eq_some_iff] at hr
    obtain ⟨cs, hb, hr⟩ := hr
    split at hr
    · rename_i hc
      cases hr
      rw [Try.ntmps94, Try.results94]
      refine ⟨by simp, fun L hlow hus hbf => ?_⟩
      have hbs : (bx b).isSome := by rw [hb]; rfl
      have hbL := (hlow b hbs).1
      have hx := hbf b cs hb
      simp (maxSteps := 1000000) (disch := first | omega | (simp only [List.length_set]; omega) | fail) only [ev0, ev1, ev2, ev3, ↓reduceIte, reduceCtorEq, Nat.reduceAdd, Nat.reduceSub, Nat.reduceMul, Nat.reduceLT, Nat.reduceLeDiff, Nat.reduceEqDiff, Nat.reduceBEq, BitVec.reduceOfInt, Int.reduceLE, Int.reduceLT, Int.reduceGT, Int.reduceGE, Int.reduceNeg, Int.reduceAdd, Int.reduceSub, Int.reduceMul, Int.reduceToNat, ↓bind_go, ↓map_go, wantedV, isWrite, grow, write, ofV, AV.cells, Abs.start, Abs.strip, endQ, resV, rawsRes, rawRes, exports, export1, AS.grown, AS.put, Env.know, Env.boxed, isSelf, convSelf, convV, loadV, storeV, fieldAddrV, fieldV, indexAddrV, indexV, partV, isAggK, isStr, place, lenV, min2V, makeV, freshSl, sliceV, boundOr, bound, bounds, cutFl, copyV, slCells, srcV, appendV, room, zerosOf, eqNeg, kd, takeR, hasViewL, hasView, freshR, freshC, snapAll, snap, snapL, flatL, pureL, pureA, fillC, arrOK, oneA, partB, AV.laid, ren1, CR.gr, applyW, useL, AS.mute, isGen, startG, ev5, tbPl0, glob, hb]
      change EndG _ _ _ _ _ _ _
      refine EndG.w1 [] [] rfl .nil rfl hbL hbs (fun b' h1 h2 => by simp only [updB, if_neg h2]) updB_self ?_ (fun _ _ => rfl)
      exact (ExpL.same hx).set (.raw _)
    · cases hr
  · cases hr
theorem sound95 : SoundG Try.prog glob 95 (gfC fun cs => (cs.set 1 (.raw (.int .i64 0))).set 2 (.raw (.int .i64 0))) := by
  refine SoundG.walk E0 ok0 mixed Try.func95 rfl Try.call95 (by kernel_rfl) ?_
  intro args bx us cr hr
  unfold gfC at hr
  split at hr
  · rename_i b
    simp only [Option.bind_eq_some_iff] at hr
    obtain ⟨cs, hb, hr⟩ := hr
    split at hr
    · rename_i hc
      cases hr
      rw [Try.ntmps95, Try.results95]
      refine ⟨by simp, fun L hlow hus hbf => ?_⟩
      have hbs : (bx b).isSome := by rw [hb]; rfl
      have hbL := (hlow b hbs).1
      have hx := hbf b cs hb
      simp (maxSteps := 1000000) (disch := first | omega | (simp only [List.length_set]; omega) | fail) only [ev0, ev1, ev2, ev3, ↓reduceIte, reduceCtorEq, Nat.reduceAdd, Nat.reduceSub, Nat.reduceMul, Nat.reduceLT, Nat.reduceLeDiff, Nat.reduceEqDiff, Nat.reduceBEq, BitVec.reduceOfInt, Int.reduceLE, Int.reduceLT, Int.reduceGT, Int.reduceGE, Int.reduceNeg, Int.reduceAdd, Int.reduceSub, Int.reduceMul, Int.reduceToNat, ↓bind_go, ↓map_go, wantedV, isWrite, grow, write, ofV, AV.cells, Abs.start, Abs.strip, endQ, resV, rawsRes, rawRes, exports, export1, AS.grown, AS.put, Env.know, Env.boxed, isSelf, convSelf, convV, loadV, storeV, fieldAddrV, fieldV, indexAddrV, indexV, partV, isAggK, isStr, place, lenV, min2V, makeV, freshSl, sliceV, boundOr, bound, bounds, cutFl, copyV, slCells, srcV, appendV, room, zerosOf, eqNeg, kd, takeR, hasViewL, hasView, freshR, freshC, snapAll, snap, snapL, flatL, pureL, pureA, fillC, arrOK, oneA, partB, AV.laid, ren1, CR.gr, applyW, useL, AS.mute, isGen, startG, ev5, tbPl0, glob, hb]
      change EndG _ _ _ _ _ _ _
      refine EndG.w1 [] [] rfl .nil rfl hbL hbs (fun b' h1 h2 => by simp only [updB, if_neg h2]) updB_self ?_ (fun _ _ => rfl)
      exact ((ExpL.same hx).set (.raw _)).set (.raw _)
    · cases hr
  · cases hr
theorem sound96 : SoundG Try.prog glob 96 (gfC fun cs => cs.set 4 (.raw (.int .i64 0))) := by
  refine SoundG.walk E0 ok0 mixed Try.func96 rfl Try.call96 (by kernel_rfl) ?_
  intro args bx us cr hr
  unfold gfC at hr
  split at hr
  · rename_i b
    simp only [Option.bind_eq_some_iff] at hr
    obtain ⟨cs, hb, hr⟩ := hr
    split at hr
    · rename_i hc
      cases hr
      rw [Try.ntmps96, Try.results96]
      refine ⟨by simp, fun L hlow hus hbf => ?_⟩
      have hbs : (bx b).isSome := by rw [hb]; rfl
      have hbL := (hlow b hbs).1
      have hx := hbf b cs hb
      simp (maxSteps := 1000000) (disch := first | omega | (simp only [List.length_set]; omega) | fail) only [ev0, ev1, ev2, ev3, ↓reduceIte, reduceCtorEq, Nat.reduceAdd, Nat.reduceSub, Nat.reduceMul, Nat.reduceLT, Nat.reduceLeDiff, Nat.reduceEqDiff, Nat.reduceBEq, BitVec.reduceOfInt, Int.reduceLE, Int.reduceLT, Int.reduceGT, Int.reduceGE, Int.reduceNeg, Int.reduceAdd, Int.reduceSub, Int.reduceMul, Int.reduceToNat, ↓bind_go, ↓map_go, wantedV, isWrite, grow, write, ofV, AV.cells, Abs.start, Abs.strip, endQ, resV, rawsRes, rawRes, exports, export1, AS.grown, AS.put, Env.know, Env.boxed, isSelf, convSelf, convV, loadV, storeV, fieldAddrV, fieldV, indexAddrV, indexV, partV, isAggK, isStr, place, lenV, min2V, makeV, freshSl, sliceV, boundOr, bound, bounds, cutFl, copyV, slCells, srcV, appendV, room, zerosOf, eqNeg, kd, takeR, hasViewL, hasView, freshR, freshC, snapAll, snap, snapL, flatL, pureL, pureA, fillC, arrOK, oneA, partB, AV.laid, ren1, CR.gr, applyW, useL, AS.mute, isGen, startG, ev5, tbPl0, glob, hb]
      change EndG _ _ _ _ _ _ _
      refine EndG.w1 [] [] rfl .nil rfl hbL hbs (fun b' h1 h2 => by simp only [updB, if_neg h2]) updB_self ?_ (fun _ _ => rfl)
      exact (ExpL.same hx).set (.raw _)
    · cases hr
  · cases hr
theorem sound97 : SoundG Try.prog glob 97 (gfC fun cs => cs.set 4 (.raw (.int .i64 0))) := by
  refine SoundG.walk E0 ok0 mixed Try.func97 rfl Try.call97 (by kernel_rfl) ?_
  intro args bx us cr hr
  unfold gfC at hr
  split at hr
  · rename_i b
    simp only [Option.bind_eq_some_iff] at hr
    obtain ⟨cs, hb, hr⟩ := hr
    split at hr
    · rename_i hc
      cases hr
      rw [Try.ntmps97, Try.results97]
      refine ⟨by simp, fun L hlow hus hbf => ?_⟩
      have hbs : (bx b).isSome := by rw [hb]; rfl
      have hbL := (hlow b hbs).1
      have hx := hbf b cs hb
      simp (maxSteps := 1000000) (disch := first | omega | (simp only [List.length_set]; omega) | fail) only [ev0, ev1, ev2, ev3, ↓reduceIte, reduceCtorEq, Nat.reduceAdd, Nat.reduceSub, Nat.reduceMul, Nat.reduceLT, Nat.reduceLeDiff, Nat.reduceEqDiff, Nat.reduceBEq, BitVec.reduceOfInt, Int.reduceLE, Int.reduceLT, Int.reduceGT, Int.reduceGE, Int.reduceNeg, Int.reduceAdd, Int.reduceSub, Int.reduceMul, Int.reduceToNat, ↓bind_go, ↓map_go, wantedV, isWrite, grow, write, ofV, AV.cells, Abs.start, Abs.strip, endQ, resV, rawsRes, rawRes, exports, export1, AS.grown, AS.put, Env.know, Env.boxed, isSelf, convSelf, convV, loadV, storeV, fieldAddrV, fieldV, indexAddrV, indexV, partV, isAggK, isStr, place, lenV, min2V, makeV, freshSl, sliceV, boundOr, bound, bounds, cutFl, copyV, slCells, srcV, appendV, room, zerosOf, eqNeg, kd, takeR, hasViewL, hasView, freshR, freshC, snapAll, snap, snapL, flatL, pureL, pureA, fillC, arrOK, oneA, partB, AV.laid, ren1, CR.gr, applyW, useL, AS.mute, isGen, startG, ev5, tbPl0, glob, hb]
      change EndG _ _ _ _ _ _ _
      refine EndG.w1 [] [] rfl .nil rfl hbL hbs (fun b' h1 h2 => by simp only [updB, if_neg h2]) updB_self ?_ (fun _ _ => rfl)
      exact (ExpL.same hx).set (.raw _)
    · cases hr
  · cases hr
theorem sound98 : SoundG Try.prog glob 98 (gfC fun cs => cs.set 6 (.raw (.slice none 0 0))) := by
  refine SoundG.walk E0 ok0 mixed Try.func98 rfl Try.call98 (by kernel_rfl) ?_
  intro args bx us cr hr
  unfold gfC at hr
  split at hr
  · rename_i b
    simp only [Option.bind_eq_some_iff] at hr
    obtain ⟨cs, hb, hr⟩ := hr
    split at hr
    · rename_i hc
      cases hr
      rw [Try.ntmps98, Try.results98]
      refine ⟨by simp, fun L hlow hus hbf => ?_⟩
      have hbs : (bx b).isSome := by rw [hb]; rfl
      have hbL := (hlow b hbs).1
      have hx := hbf b cs hb
      simp (maxSteps := 1000000) (disch := first | omega | (simp only [List.length_set]; omega) | fail) only [ev0, ev1, ev2, ev3, ↓reduceIte, reduceCtorEq, Nat.reduceAdd, Nat.reduceSub, Nat.reduceMul, Nat.reduceLT, Nat.reduceLeDiff, Nat.reduceEqDiff, Nat.reduceBEq, BitVec.reduceOfInt, Int.reduceLE, Int.reduceLT, Int.reduceGT, Int.reduceGE, Int.reduceNeg, Int.reduceAdd, Int.reduceSub, Int.reduceMul, Int.reduceToNat, ↓bind_go, ↓map_go, wantedV, isWrite, grow, write, ofV, AV.cells, Abs.start, Abs.strip, endQ, resV, rawsRes, rawRes, exports, export1, AS.grown, AS.put, Env.know, Env.boxed, isSelf, convSelf, convV, loadV, storeV, fieldAddrV, fieldV, indexAddrV, indexV, partV, isAggK, isStr, place, lenV, min2V, makeV, freshSl, sliceV, boundOr, bound, bounds, cutFl, copyV, slCells, srcV, appendV, room, zerosOf, eqNeg, kd, takeR, hasViewL, hasView, freshR, freshC, snapAll, snap, snapL, flatL, pureL, pureA, fillC, arrOK, oneA, partB, AV.laid, ren1, CR.gr, applyW, useL, AS.mute, isGen, startG, ev5, tbPl0, glob, hb]
      change EndG _ _ _ _ _ _ _
      refine EndG.w1 [] [] rfl .nil rfl hbL hbs (fun b' h1 h2 => by simp only [updB, if_neg h2]) updB_self ?_ (fun _ _ => rfl)
      exact (ExpL.same hx).set (.raw _)
    · cases hr
  · cases hr
theorem sound99 : SoundG Try.prog glob 99 (gfC fun cs => cs.set 6 (.raw (.slice none 0 0))) := by
  refine SoundG.walk E0 ok0 mixed Try.func99 rfl Try.call99 (by kernel_rfl) ?_
  intro args bx us cr hr
  unfold gfC at hr
  split at hr
  · rename_i b
    simp only [Option.bind_eq_some_iff] at hr
    obtain ⟨cs, hb, hr⟩ := hr
    split at hr
    · rename_i hc
      cases hr
      rw [Try.ntmps99, Try.results99]
      refine ⟨by simp, fun L hlow hus hbf => ?_⟩
      have hbs : (bx b).isSome := by rw [hb]; rfl
      have hbL := (hlow b hbs).1
      have hx := hbf b cs hb
      simp (maxSteps := 1000000) (disch := first | omega | (simp only [List.length_set]; omega) | fail) only [ev0, ev1, ev2, ev3, ↓reduceIte, reduceCtorEq, Nat.reduceAdd, Nat.reduceSub, Nat.reduceMul, Nat.reduceLT, Nat.reduceLeDiff, Nat.reduceEqDiff, Nat.reduceBEq, BitVec.reduceOfInt, Int.reduceLE, Int.reduceLT, Int.reduceGT, Int.reduceGE, Int.reduceNeg, Int.reduceAdd, Int.reduceSub, Int.reduceMul, Int.reduceToNat, ↓bind_go, ↓map_go, wantedV, isWrite, grow, write, ofV, AV.cells, Abs.start, Abs.strip, endQ, resV, rawsRes, rawRes, exports, export1, AS.grown, AS.put, Env.know, Env.boxed, isSelf, convSelf, convV, loadV, storeV, fieldAddrV, fieldV, indexAddrV, indexV, partV, isAggK, isStr, place, lenV, min2V, makeV, freshSl, sliceV, boundOr, bound, bounds, cutFl, copyV, slCells, srcV, appendV, room, zerosOf, eqNeg, kd, takeR, hasViewL, hasView, freshR, freshC, snapAll, snap, snapL, flatL, pureL, pureA, fillC, arrOK, oneA, partB, AV.laid, ren1, CR.gr, applyW, useL, AS.mute, isGen, startG, ev5, tbPl0, glob, hb]
      change EndG _ _ _ _ _ _ _
      refine EndG.w1 [] [] rfl .nil rfl hbL hbs (fun b' h1 h2 => by simp only [updB, if_neg h2]) updB_self ?_ (fun _ _ => rfl)
      exact (ExpL.same hx).set (.raw _)
    · cases hr
  · cases hr
end Go.Proofs.Ytjnmdphoaafjaaa
