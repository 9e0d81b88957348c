/- The disk's small functions: what their walks come to. -/
import Derived.Test.YtjnmdphoaafjaaaBc
namespace Go.Proofs.Ytjnmdphoaafjaaa
set_option linter.unusedSimpArgs false
set_option linter.unusedVariables false
set_option linter.defProp false
open Go Go.Abs

set_option maxHeartbeats 4000000
/-- a step is counted -/
def stepD (d : Dk) : Dk := { d with steps := d.steps + 1, left := if d.burns then d.left - 1 else d.left }
noncomputable def gf68 (args : List AV) (bx : Boxes) (us : Abs.Id → Bool) : Option CR := match args with
  | [.ptr b 0] => (bx b).bind fun cs => (dk? cs).bind fun d => if i64ok (d.steps + 1) ∧ i64ok (d.left - 1) then some { v := .ret (.tup []), wr := [(b, enc (stepD d))] } else none
  | _ => none
def tbBd0 := (And.intro (And.intro (And.intro (And.intro @teE (And.intro @E0_te @E0_glob)) (And.intro (And.intro @E0_gs @E0_dyn) (And.intro @E0_mu @enc_len))) (And.intro (And.intro @enc_off (And.intro @enc_burns @enc_left)) (And.intro (And.intro @enc_steps @set_off) (And.intro @set_burns @set_left)))) (And.intro (And.intro (And.intro @set_steps (And.intro @enc_now @enc_sure)) (And.intro (And.intro @enc_since @set_now) (And.intro @set_sure @set_since))) (And.intro (And.intro @set_nil (And.intro @scA_nil @scA_sl)) (And.intro (And.intro @setF_off @setF_burns) (And.intro @setF_left @setF_steps)))))
theorem sound68 : SoundG Try.prog glob 68 gf68 := by
  refine SoundG.walk E0 ok0 mixed Try.func68 rfl Try.call68 (by kernel_rfl) ?_
  intro args bx us cr hr
  unfold gf68 at hr
  split at hr
  · rename_i b
    simp only [Option.bind_eq_some_iff] at hr
    obtain ⟨cs, hb, d, hd, hr⟩ := hr
    obtain ⟨hd4, rfl⟩ := dk?_of hd
    have hbl : ∀ {L : Nat}, (∀ b, (bx b).isSome → b.lvl < L ∧ ∀ l s n, renB l s n b = b) → b.lvl < L := fun h => (h b (by rw [hb]; rfl)).1
    have hbs : (bx b).isSome := by rw [hb]; rfl
    split at hr
    · rename_i hc
      unfold i64ok at hc
      cases hr
      rw [Try.ntmps68, Try.results68]
      refine ⟨by simp, fun L hlow hus hbf => ?_⟩
      have hok := okD_of (hbf b _ hb).2
      cases hu : d.burns
      · simp (maxSteps := 1000000) (disch := first | omega | (simp only [Dk.setF, List.length_set, hd4]; done) | (simp only [nums_len, nums_len, List.length_cons, List.length_nil, List.length_append, List.length_take, List.length_drop, List.length_replicate, List.length_set, List.length_map] <;> omega) | fail) only [ev0, ev1, ev2, ev3, ↓reduceIte, reduceCtorEq, Nat.reduceAdd, Nat.reduceSub, Nat.reduceMul, Nat.reduceLT, Nat.reduceLeDiff, Nat.reduceEqDiff, Nat.reduceBEq, BitVec.reduceOfInt, Int.reduceLE, Int.reduceLT, Int.reduceGT, Int.reduceGE, Int.reduceNeg, Int.reduceAdd, Int.reduceSub, Int.reduceMul, Int.reduceToNat, ↓bind_go, ↓map_go, wantedV, isWrite, grow, write, ofV, AV.cells, Abs.start, Abs.strip, endQ, resV, rawsRes, rawRes, exports, export1, AS.grown, AS.put, Env.know, Env.boxed, isSelf, convSelf, convV, loadV, storeV, fieldAddrV, fieldV, indexAddrV, indexV, partV, isAggK, isStr, place, lenV, min2V, makeV, freshSl, sliceV, boundOr, bound, bounds, cutFl, copyV, slCells, srcV, appendV, room, zerosOf, eqNeg, kd, takeR, hasViewL, hasView, freshR, freshC, snapAll, snap, snapL, flatL, pureL, pureA, fillC, arrOK, oneA, partB, AV.laid, ren1, CR.gr, applyW, useL, AS.mute, isGen, startG, ev5, tbBd0, glob, hb, hu]
        change EndG _ _ _ _ _ _ _
        refine EndG.w1 [] [] rfl .nil rfl (hbl hlow) hbs (fun b' h1 h2 => by simp only [updB, if_neg h2]) updB_self ?_ (fun _ _ => rfl)
        exact encExp (.same hok) (by simp [stepD, hu]) (by simp [stepD, hu]) (by simp [stepD, hu]) (by simp [stepD, hu])
      · simp (maxSteps := 1000000) (disch := first | omega | (simp only [Dk.setF, List.length_set, hd4]; done) | (simp only [nums_len, nums_len, List.length_cons, List.length_nil, List.length_append, List.length_take, List.length_drop, List.length_replicate, List.length_set, List.length_map] <;> omega) | fail) only [ev0, ev1, ev2, ev3, ↓reduceIte, reduceCtorEq, Nat.reduceAdd, Nat.reduceSub, Nat.reduceMul, Nat.reduceLT, Nat.reduceLeDiff, Nat.reduceEqDiff, Nat.reduceBEq, BitVec.reduceOfInt, Int.reduceLE, Int.reduceLT, Int.reduceGT, Int.reduceGE, Int.reduceNeg, Int.reduceAdd, Int.reduceSub, Int.reduceMul, Int.reduceToNat, ↓bind_go, ↓map_go, wantedV, isWrite, grow, write, ofV, AV.cells, Abs.start, Abs.strip, endQ, resV, rawsRes, rawRes, exports, export1, AS.grown, AS.put, Env.know, Env.boxed, isSelf, convSelf, convV, loadV, storeV, fieldAddrV, fieldV, indexAddrV, indexV, partV, isAggK, isStr, place, lenV, min2V, makeV, freshSl, sliceV, boundOr, bound, bounds, cutFl, copyV, slCells, srcV, appendV, room, zerosOf, eqNeg, kd, takeR, hasViewL, hasView, freshR, freshC, snapAll, snap, snapL, flatL, pureL, pureA, fillC, arrOK, oneA, partB, AV.laid, ren1, CR.gr, applyW, useL, AS.mute, isGen, startG, ev5, tbBd0, glob, hb, hu]
        change EndG _ _ _ _ _ _ _
        refine EndG.w1 [] [] rfl .nil rfl (hbl hlow) hbs (fun b' h1 h2 => by simp only [updB, if_neg h2]) updB_self ?_ (fun _ _ => rfl)
        exact encExp (.same hok) (by simp [stepD, hu]) (by simp [stepD, hu]) (by simp [stepD, hu]) (by simp [stepD, hu])
    · cases hr
  · cases hr

/-- one more step may be done; or the power is off from now on -/
def powerD (d : Dk) : Dk := { d with off := d.off || (d.burns && d.left == 0) }
noncomputable def gf67 (args : List AV) (bx : Boxes) (us : Abs.Id → Bool) : Option CR := match args with
  | [.ptr b 0] => (bx b).bind fun cs => (dk? cs).bind fun d => some { v := .ret (.raw (.bool (!(powerD d).off))), wr := [(b, enc (powerD d))] }
  | _ => none
theorem sound67 : SoundG Try.prog glob 67 gf67 := by
  refine SoundG.walk E0 ok0 mixed Try.func67 rfl Try.call67 (by kernel_rfl) ?_
  intro args bx us cr hr
  unfold gf67 at hr
  split at hr
  · rename_i b
    simp only [Option.bind_eq_some_iff] at hr
    obtain ⟨cs, hb, d, hd, hr⟩ := hr
    obtain ⟨hd4, rfl⟩ := dk?_of hd
    have hbl : ∀ {L : Nat}, (∀ b, (bx b).isSome → b.lvl < L ∧ ∀ l s n, renB l s n b = b) → b.lvl < L := fun h => (h b (by rw [hb]; rfl)).1
    have hbs : (bx b).isSome := by rw [hb]; rfl
    cases hr
    rw [Try.ntmps67, Try.results67]
    refine ⟨by simp, fun L hlow hus hbf => ?_⟩
    have hok := okD_of (hbf b _ hb).2
    cases hu : d.burns
    · simp (maxSteps := 1000000) (disch := first | omega | (simp only [Dk.setF, List.length_set, hd4]; done) | (simp only [nums_len, nums_len, List.length_cons, List.length_nil, List.length_append, List.length_take, List.length_drop, List.length_replicate, List.length_set, List.length_map] <;> omega) | fail) only [ev0, ev1, ev2, ev3, ↓reduceIte, reduceCtorEq, Nat.reduceAdd, Nat.reduceSub, Nat.reduceMul, Nat.reduceLT, Nat.reduceLeDiff, Nat.reduceEqDiff, Nat.reduceBEq, BitVec.reduceOfInt, Int.reduceLE, Int.reduceLT, Int.reduceGT, Int.reduceGE, Int.reduceNeg, Int.reduceAdd, Int.reduceSub, Int.reduceMul, Int.reduceToNat, ↓bind_go, ↓map_go, wantedV, isWrite, grow, write, ofV, AV.cells, Abs.start, Abs.strip, endQ, resV, rawsRes, rawRes, exports, export1, AS.grown, AS.put, Env.know, Env.boxed, isSelf, convSelf, convV, loadV, storeV, fieldAddrV, fieldV, indexAddrV, indexV, partV, isAggK, isStr, place, lenV, min2V, makeV, freshSl, sliceV, boundOr, bound, bounds, cutFl, copyV, slCells, srcV, appendV, room, zerosOf, eqNeg, kd, takeR, hasViewL, hasView, freshR, freshC, snapAll, snap, snapL, flatL, pureL, pureA, fillC, arrOK, oneA, partB, AV.laid, ren1, CR.gr, applyW, useL, AS.mute, isGen, startG, ev5, tbBd0, glob, hb, hu]
      change EndG _ _ _ _ _ _ _
      refine EndG.w1 [_] [_] rfl (.one (.raw _)) (by simp [tupOf, powerD, *]) (hbl hlow) hbs (fun b' h1 h2 => by first | rfl | simp only [updB, if_neg h2]) (by first | exact updB_self | exact hb) ?_ (fun _ _ => rfl)
      exact encExp (.same hok) (by simp [powerD, hu]) (by simp [powerD, hu]) (by simp [powerD, hu]) (by simp [powerD, hu])
    · cases hl : (d.left == 0)
      · simp (maxSteps := 1000000) (disch := first | omega | (simp only [Dk.setF, List.length_set, hd4]; done) | (simp only [nums_len, nums_len, List.length_cons, List.length_nil, List.length_append, List.length_take, List.length_drop, List.length_replicate, List.length_set, List.length_map] <;> omega) | fail) only [ev0, ev1, ev2, ev3, ↓reduceIte, reduceCtorEq, Nat.reduceAdd, Nat.reduceSub, Nat.reduceMul, Nat.reduceLT, Nat.reduceLeDiff, Nat.reduceEqDiff, Nat.reduceBEq, BitVec.reduceOfInt, Int.reduceLE, Int.reduceLT, Int.reduceGT, Int.reduceGE, Int.reduceNeg, Int.reduceAdd, Int.reduceSub, Int.reduceMul, Int.reduceToNat, ↓bind_go, ↓map_go, wantedV, isWrite, grow, write, ofV, AV.cells, Abs.start, Abs.strip, endQ, resV, rawsRes, rawRes, exports, export1, AS.grown, AS.put, Env.know, Env.boxed, isSelf, convSelf, convV, loadV, storeV, fieldAddrV, fieldV, indexAddrV, indexV, partV, isAggK, isStr, place, lenV, min2V, makeV, freshSl, sliceV, boundOr, bound, bounds, cutFl, copyV, slCells, srcV, appendV, room, zerosOf, eqNeg, kd, takeR, hasViewL, hasView, freshR, freshC, snapAll, snap, snapL, flatL, pureL, pureA, fillC, arrOK, oneA, partB, AV.laid, ren1, CR.gr, applyW, useL, AS.mute, isGen, startG, ev5, tbBd0, glob, hb, hu, hl]
        change EndG _ _ _ _ _ _ _
        refine EndG.w1 [_] [_] rfl (.one (.raw _)) (by simp [tupOf, powerD, *]) (hbl hlow) hbs (fun b' h1 h2 => by first | rfl | simp only [updB, if_neg h2]) (by first | exact updB_self | exact hb) ?_ (fun _ _ => rfl)
        exact encExp (.same hok) (by simp [powerD, hu, hl]) (by simp [powerD, hu]) (by simp [powerD, hu]) (by simp [powerD, hu])
      · simp (maxSteps := 1000000) (disch := first | omega | (simp only [Dk.setF, List.length_set, hd4]; done) | (simp only [nums_len, nums_len, List.length_cons, List.length_nil, List.length_append, List.length_take, List.length_drop, List.length_replicate, List.length_set, List.length_map] <;> omega) | fail) only [ev0, ev1, ev2, ev3, ↓reduceIte, reduceCtorEq, Nat.reduceAdd, Nat.reduceSub, Nat.reduceMul, Nat.reduceLT, Nat.reduceLeDiff, Nat.reduceEqDiff, Nat.reduceBEq, BitVec.reduceOfInt, Int.reduceLE, Int.reduceLT, Int.reduceGT, Int.reduceGE, Int.reduceNeg, Int.reduceAdd, Int.reduceSub, Int.reduceMul, Int.reduceToNat, ↓bind_go, ↓map_go, wantedV, isWrite, grow, write, ofV, AV.cells, Abs.start, Abs.strip, endQ, resV, rawsRes, rawRes, exports, export1, AS.grown, AS.put, Env.know, Env.boxed, isSelf, convSelf, convV, loadV, storeV, fieldAddrV, fieldV, indexAddrV, indexV, partV, isAggK, isStr, place, lenV, min2V, makeV, freshSl, sliceV, boundOr, bound, bounds, cutFl, copyV, slCells, srcV, appendV, room, zerosOf, eqNeg, kd, takeR, hasViewL, hasView, freshR, freshC, snapAll, snap, snapL, flatL, pureL, pureA, fillC, arrOK, oneA, partB, AV.laid, ren1, CR.gr, applyW, useL, AS.mute, isGen, startG, ev5, tbBd0, glob, hb, hu, hl]
        change EndG _ _ _ _ _ _ _
        refine EndG.w1 [_] [_] rfl (.one (.raw _)) (by simp [tupOf, powerD, *]) (hbl hlow) hbs (fun b' h1 h2 => by first | rfl | simp only [updB, if_neg h2]) (by first | exact updB_self | exact hb) ?_ (fun _ _ => rfl)
        exact encExp (.same hok) (by simp [powerD, hu, hl]) (by simp [powerD, hu]) (by simp [powerD, hu]) (by simp [powerD, hu])
  · cases hr

noncomputable def gf33 (args : List AV) (bx : Boxes) (us : Abs.Id → Bool) : Option CR := match args with
  | [.ptr b 0] => (bx b).bind fun cs => (dk? cs).bind fun d => some { v := .ret (.raw (.bool (!d.off))) }
  | _ => none
theorem sound33 : SoundG Try.prog glob 33 gf33 := by
  refine SoundG.walk E0 ok0 mixed Try.func33 rfl Try.call33 (by kernel_rfl) ?_
  intro args bx us cr hr
  unfold gf33 at hr
  split at hr
  · rename_i b
    simp only [Option.bind_eq_some_iff] at hr
    obtain ⟨cs, hb, d, hd, hr⟩ := hr
    obtain ⟨hd4, rfl⟩ := dk?_of hd
    have hbl : ∀ {L : Nat}, (∀ b, (bx b).isSome → b.lvl < L ∧ ∀ l s n, renB l s n b = b) → b.lvl < L := fun h => (h b (by rw [hb]; rfl)).1
    have hbs : (bx b).isSome := by rw [hb]; rfl
    cases hr
    rw [Try.ntmps33, Try.results33]
    refine ⟨by simp, fun L hlow hus hbf => ?_⟩
    simp (maxSteps := 1000000) (disch := first | omega | (simp only [Dk.setF, List.length_set, hd4]; done) | (simp only [nums_len, nums_len, List.length_cons, List.length_nil, List.length_append, List.length_take, List.length_drop, List.length_replicate, List.length_set, List.length_map] <;> omega) | fail) only [ev0, ev1, ev2, ev3, ↓reduceIte, reduceCtorEq, Nat.reduceAdd, Nat.reduceSub, Nat.reduceMul, Nat.reduceLT, Nat.reduceLeDiff, Nat.reduceEqDiff, Nat.reduceBEq, BitVec.reduceOfInt, Int.reduceLE, Int.reduceLT, Int.reduceGT, Int.reduceGE, Int.reduceNeg, Int.reduceAdd, Int.reduceSub, Int.reduceMul, Int.reduceToNat, ↓bind_go, ↓map_go, wantedV, isWrite, grow, write, ofV, AV.cells, Abs.start, Abs.strip, endQ, resV, rawsRes, rawRes, exports, export1, AS.grown, AS.put, Env.know, Env.boxed, isSelf, convSelf, convV, loadV, storeV, fieldAddrV, fieldV, indexAddrV, indexV, partV, isAggK, isStr, place, lenV, min2V, makeV, freshSl, sliceV, boundOr, bound, bounds, cutFl, copyV, slCells, srcV, appendV, room, zerosOf, eqNeg, kd, takeR, hasViewL, hasView, freshR, freshC, snapAll, snap, snapL, flatL, pureL, pureA, fillC, arrOK, oneA, partB, AV.laid, ren1, CR.gr, applyW, useL, AS.mute, isGen, startG, ev5, tbBd0, glob, hb]
    change EndG _ _ _ _ _ _ _
    exact EndG.r0 [_] [_] rfl (.one (.raw _)) rfl (fun _ _ => rfl) (fun _ _ => rfl)
  · cases hr
noncomputable def gf32 (args : List AV) (bx : Boxes) (us : Abs.Id → Bool) : Option CR := match args with
  | [.ptr b 0] => (bx b).bind fun cs => (dk? cs).bind fun d => some { v := .ret (.raw (.int .i64 d.steps)) }
  | _ => none
theorem sound32 : SoundG Try.prog glob 32 gf32 := by
  refine SoundG.walk E0 ok0 mixed Try.func32 rfl Try.call32 (by kernel_rfl) ?_
  intro args bx us cr hr
  unfold gf32 at hr
  split at hr
  · rename_i b
    simp only [Option.bind_eq_some_iff] at hr
    obtain ⟨cs, hb, d, hd, hr⟩ := hr
    obtain ⟨hd4, rfl⟩ := dk?_of hd
    have hbl : ∀ {L : Nat}, (∀ b, (bx b).isSome → b.lvl < L ∧ ∀ l s n, renB l s n b = b) → b.lvl < L := fun h => (h b (by rw [hb]; rfl)).1
    have hbs : (bx b).isSome := by rw [hb]; rfl
    cases hr
    rw [Try.ntmps32, Try.results32]
    refine ⟨by simp, fun L hlow hus hbf => ?_⟩
    simp (maxSteps := 1000000) (disch := first | omega | (simp only [Dk.setF, List.length_set, hd4]; done) | (simp only [nums_len, nums_len, List.length_cons, List.length_nil, List.length_append, List.length_take, List.length_drop, List.length_replicate, List.length_set, List.length_map] <;> omega) | fail) only [ev0, ev1, ev2, ev3, ↓reduceIte, reduceCtorEq, Nat.reduceAdd, Nat.reduceSub, Nat.reduceMul, Nat.reduceLT, Nat.reduceLeDiff, Nat.reduceEqDiff, Nat.reduceBEq, BitVec.reduceOfInt, Int.reduceLE, Int.reduceLT, Int.reduceGT, Int.reduceGE, Int.reduceNeg, Int.reduceAdd, Int.reduceSub, Int.reduceMul, Int.reduceToNat, ↓bind_go, ↓map_go, wantedV, isWrite, grow, write, ofV, AV.cells, Abs.start, Abs.strip, endQ, resV, rawsRes, rawRes, exports, export1, AS.grown, AS.put, Env.know, Env.boxed, isSelf, convSelf, convV, loadV, storeV, fieldAddrV, fieldV, indexAddrV, indexV, partV, isAggK, isStr, place, lenV, min2V, makeV, freshSl, sliceV, boundOr, bound, bounds, cutFl, copyV, slCells, srcV, appendV, room, zerosOf, eqNeg, kd, takeR, hasViewL, hasView, freshR, freshC, snapAll, snap, snapL, flatL, pureL, pureA, fillC, arrOK, oneA, partB, AV.laid, ren1, CR.gr, applyW, useL, AS.mute, isGen, startG, ev5, tbBd0, glob, hb]
    change EndG _ _ _ _ _ _ _
    exact EndG.r0 [_] [_] rfl (.one (.raw _)) rfl (fun _ _ => rfl) (fun _ _ => rfl)
  · cases hr
def fuseD (d : Dk) (n : Int) : Dk := { d with burns := decide (n ≥ 0), left := n }
noncomputable def gf30 (args : List AV) (bx : Boxes) (us : Abs.Id → Bool) : Option CR := match args with
  | [.ptr b 0, .raw (.int .i64 n)] => (bx b).bind fun cs => (dk? cs).bind fun d => some { v := .ret (.tup []), wr := [(b, enc (fuseD d n))] }
  | _ => none
theorem sound30 : SoundG Try.prog glob 30 gf30 := by
  refine SoundG.walk E0 ok0 mixed Try.func30 rfl Try.call30 (by kernel_rfl) ?_
  intro args bx us cr hr
  unfold gf30 at hr
  split at hr
  · rename_i b n
    simp only [Option.bind_eq_some_iff] at hr
    obtain ⟨cs, hb, d, hd, hr⟩ := hr
    obtain ⟨hd4, rfl⟩ := dk?_of hd
    have hbl : ∀ {L : Nat}, (∀ b, (bx b).isSome → b.lvl < L ∧ ∀ l s n, renB l s n b = b) → b.lvl < L := fun h => (h b (by rw [hb]; rfl)).1
    have hbs : (bx b).isSome := by rw [hb]; rfl
    cases hr
    rw [Try.ntmps30, Try.results30]
    refine ⟨by simp, fun L hlow hus hbf => ?_⟩
    have hok := okD_of (hbf b _ hb).2
    simp (maxSteps := 1000000) (disch := first | omega | (simp only [Dk.setF, List.length_set, hd4]; done) | (simp only [nums_len, nums_len, List.length_cons, List.length_nil, List.length_append, List.length_take, List.length_drop, List.length_replicate, List.length_set, List.length_map] <;> omega) | fail) only [ev0, ev1, ev2, ev3, ↓reduceIte, reduceCtorEq, Nat.reduceAdd, Nat.reduceSub, Nat.reduceMul, Nat.reduceLT, Nat.reduceLeDiff, Nat.reduceEqDiff, Nat.reduceBEq, BitVec.reduceOfInt, Int.reduceLE, Int.reduceLT, Int.reduceGT, Int.reduceGE, Int.reduceNeg, Int.reduceAdd, Int.reduceSub, Int.reduceMul, Int.reduceToNat, ↓bind_go, ↓map_go, wantedV, isWrite, grow, write, ofV, AV.cells, Abs.start, Abs.strip, endQ, resV, rawsRes, rawRes, exports, export1, AS.grown, AS.put, Env.know, Env.boxed, isSelf, convSelf, convV, loadV, storeV, fieldAddrV, fieldV, indexAddrV, indexV, partV, isAggK, isStr, place, lenV, min2V, makeV, freshSl, sliceV, boundOr, bound, bounds, cutFl, copyV, slCells, srcV, appendV, room, zerosOf, eqNeg, kd, takeR, hasViewL, hasView, freshR, freshC, snapAll, snap, snapL, flatL, pureL, pureA, fillC, arrOK, oneA, partB, AV.laid, ren1, CR.gr, applyW, useL, AS.mute, isGen, startG, ev5, tbBd0, glob, hb]
    change EndG _ _ _ _ _ _ _
    refine EndG.w1 [] [] rfl .nil rfl (hbl hlow) hbs (fun b' h1 h2 => by simp only [updB, if_neg h2]) updB_self ?_ (fun _ _ => rfl)
    exact encExp (.same hok) rfl rfl rfl rfl
  · cases hr
/-- where a file lies, if there is one -/
noncomputable def gf66 (args : List AV) (bx : Boxes) (us : Abs.Id → Bool) : Option CR := match args with
  | [.ptr b 0, .raw (.int .i64 f)] => (bx b).bind fun cs => (dk? cs).bind fun d => some { v := .ret (if 0 ≤ f ∧ f < 4 then .ptr b (f.toNat * 3) else .raw (.pointer none)) }
  | _ => none
theorem sound66 : SoundG Try.prog glob 66 gf66 := by
  refine SoundG.walk E0 ok0 mixed Try.func66 rfl Try.call66 (by kernel_rfl) ?_
  intro args bx us cr hr
  unfold gf66 at hr
  split at hr
  · rename_i b f
    simp only [Option.bind_eq_some_iff] at hr
    obtain ⟨cs, hb, d, hd, hr⟩ := hr
    obtain ⟨hd4, rfl⟩ := dk?_of hd
    have hbl : ∀ {L : Nat}, (∀ b, (bx b).isSome → b.lvl < L ∧ ∀ l s n, renB l s n b = b) → b.lvl < L := fun h => (h b (by rw [hb]; rfl)).1
    have hbs : (bx b).isSome := by rw [hb]; rfl
    cases hr
    rw [Try.ntmps66, Try.results66]
    refine ⟨by simp, fun L hlow hus hbf => ?_⟩
    by_cases h0 : f < 0
    · have e0 : decide (f < 0) = true := decide_eq_true h0
      have e2 : ¬ (0 ≤ f ∧ f < 4) := by omega
      simp (maxSteps := 1000000) (disch := first | omega | (simp only [Dk.setF, List.length_set, hd4]; done) | (simp only [nums_len, nums_len, List.length_cons, List.length_nil, List.length_append, List.length_take, List.length_drop, List.length_replicate, List.length_set, List.length_map] <;> omega) | fail) only [ev0, ev1, ev2, ev3, ↓reduceIte, reduceCtorEq, Nat.reduceAdd, Nat.reduceSub, Nat.reduceMul, Nat.reduceLT, Nat.reduceLeDiff, Nat.reduceEqDiff, Nat.reduceBEq, BitVec.reduceOfInt, Int.reduceLE, Int.reduceLT, Int.reduceGT, Int.reduceGE, Int.reduceNeg, Int.reduceAdd, Int.reduceSub, Int.reduceMul, Int.reduceToNat, ↓bind_go, ↓map_go, wantedV, isWrite, grow, write, ofV, AV.cells, Abs.start, Abs.strip, endQ, resV, rawsRes, rawRes, exports, export1, AS.grown, AS.put, Env.know, Env.boxed, isSelf, convSelf, convV, loadV, storeV, fieldAddrV, fieldV, indexAddrV, indexV, partV, isAggK, isStr, place, lenV, min2V, makeV, freshSl, sliceV, boundOr, bound, bounds, cutFl, copyV, slCells, srcV, appendV, room, zerosOf, eqNeg, kd, takeR, hasViewL, hasView, freshR, freshC, snapAll, snap, snapL, flatL, pureL, pureA, fillC, arrOK, oneA, partB, AV.laid, ren1, CR.gr, applyW, useL, AS.mute, isGen, startG, ev5, tbBd0, glob, hb, e0]
      rw [if_neg e2]
      change EndG _ _ _ _ _ _ _
      exact EndG.r0 [_] [_] rfl (.one (.raw _)) rfl (fun _ _ => rfl) (fun _ _ => rfl)
    · have e0 : decide (f < 0) = false := decide_eq_false h0
      by_cases h1 : f ≥ 4
      · have e1 : decide (f ≥ 4) = true := decide_eq_true h1
        have e2 : ¬ (0 ≤ f ∧ f < 4) := by omega
        simp (maxSteps := 1000000) (disch := first | omega | (simp only [Dk.setF, List.length_set, hd4]; done) | (simp only [nums_len, nums_len, List.length_cons, List.length_nil, List.length_append, List.length_take, List.length_drop, List.length_replicate, List.length_set, List.length_map] <;> omega) | fail) only [ev0, ev1, ev2, ev3, ↓reduceIte, reduceCtorEq, Nat.reduceAdd, Nat.reduceSub, Nat.reduceMul, Nat.reduceLT, Nat.reduceLeDiff, Nat.reduceEqDiff, Nat.reduceBEq, BitVec.reduceOfInt, Int.reduceLE, Int.reduceLT, Int.reduceGT, Int.reduceGE, Int.reduceNeg, Int.reduceAdd, Int.reduceSub, Int.reduceMul, Int.reduceToNat, ↓bind_go, ↓map_go, wantedV, isWrite, grow, write, ofV, AV.cells, Abs.start, Abs.strip, endQ, resV, rawsRes, rawRes, exports, export1, AS.grown, AS.put, Env.know, Env.boxed, isSelf, convSelf, convV, loadV, storeV, fieldAddrV, fieldV, indexAddrV, indexV, partV, isAggK, isStr, place, lenV, min2V, makeV, freshSl, sliceV, boundOr, bound, bounds, cutFl, copyV, slCells, srcV, appendV, room, zerosOf, eqNeg, kd, takeR, hasViewL, hasView, freshR, freshC, snapAll, snap, snapL, flatL, pureL, pureA, fillC, arrOK, oneA, partB, AV.laid, ren1, CR.gr, applyW, useL, AS.mute, isGen, startG, ev5, tbBd0, glob, hb, e0, e1]
        rw [if_neg e2]
        change EndG _ _ _ _ _ _ _
        exact EndG.r0 [_] [_] rfl (.one (.raw _)) rfl (fun _ _ => rfl) (fun _ _ => rfl)
      · have e1 : decide (f ≥ 4) = false := decide_eq_false h1
        have e2 : 0 ≤ f ∧ f < 4 := by omega
        simp (maxSteps := 1000000) (disch := first | omega | (simp only [Dk.setF, List.length_set, hd4]; done) | (simp only [nums_len, nums_len, List.length_cons, List.length_nil, List.length_append, List.length_take, List.length_drop, List.length_replicate, List.length_set, List.length_map] <;> omega) | fail) only [ev0, ev1, ev2, ev3, ↓reduceIte, reduceCtorEq, Nat.reduceAdd, Nat.reduceSub, Nat.reduceMul, Nat.reduceLT, Nat.reduceLeDiff, Nat.reduceEqDiff, Nat.reduceBEq, BitVec.reduceOfInt, Int.reduceLE, Int.reduceLT, Int.reduceGT, Int.reduceGE, Int.reduceNeg, Int.reduceAdd, Int.reduceSub, Int.reduceMul, Int.reduceToNat, ↓bind_go, ↓map_go, wantedV, isWrite, grow, write, ofV, AV.cells, Abs.start, Abs.strip, endQ, resV, rawsRes, rawRes, exports, export1, AS.grown, AS.put, Env.know, Env.boxed, isSelf, convSelf, convV, loadV, storeV, fieldAddrV, fieldV, indexAddrV, indexV, partV, isAggK, isStr, place, lenV, min2V, makeV, freshSl, sliceV, boundOr, bound, bounds, cutFl, copyV, slCells, srcV, appendV, room, zerosOf, eqNeg, kd, takeR, hasViewL, hasView, freshR, freshC, snapAll, snap, snapL, flatL, pureL, pureA, fillC, arrOK, oneA, partB, AV.laid, ren1, CR.gr, applyW, useL, AS.mute, isGen, startG, ev5, tbBd0, glob, hb, e0, e1, e2]
        change EndG _ _ _ _ _ _ _
        exact EndG.r0 [.ptr b (f.toNat * 3)] [.ptr b (f.toNat * 3)] rfl (.one (.ptr (hbl hlow))) rfl (fun _ _ => rfl) (fun _ _ => rfl)
  · cases hr
def newD : Dk := ⟨[f0, f0, f0, f0], false, false, 0, 0⟩
def gf23 (args : List AV) (bx : Boxes) (us : Abs.Id → Bool) : Option CR := match args with
  | [] => some { v := .ret (.ptr (.own 0 0 0) 0), cont := some (enc newD) }
  | _ => none
theorem sound23 : SoundG Try.prog glob 23 gf23 := by
  refine SoundG.walk E0 ok0 mixed Try.func23 rfl Try.call23 (by kernel_rfl) ?_
  intro args bx us cr hr
  unfold gf23 at hr
  split at hr
  · cases hr
    rw [Try.ntmps23, Try.results23]
    refine ⟨by simp, fun L hlow hus hbf => ?_⟩
    have hb : bx = bx := rfl
    simp (maxSteps := 1000000) (disch := first | omega | (simp only [Dk.setF, List.length_set, hd4]; done) | (simp only [nums_len, nums_len, List.length_cons, List.length_nil, List.length_append, List.length_take, List.length_drop, List.length_replicate, List.length_set, List.length_map] <;> omega) | fail) only [ev0, ev1, ev2, ev3, ↓reduceIte, reduceCtorEq, Nat.reduceAdd, Nat.reduceSub, Nat.reduceMul, Nat.reduceLT, Nat.reduceLeDiff, Nat.reduceEqDiff, Nat.reduceBEq, BitVec.reduceOfInt, Int.reduceLE, Int.reduceLT, Int.reduceGT, Int.reduceGE, Int.reduceNeg, Int.reduceAdd, Int.reduceSub, Int.reduceMul, Int.reduceToNat, ↓bind_go, ↓map_go, wantedV, isWrite, grow, write, ofV, AV.cells, Abs.start, Abs.strip, endQ, resV, rawsRes, rawRes, exports, export1, AS.grown, AS.put, Env.know, Env.boxed, isSelf, convSelf, convV, loadV, storeV, fieldAddrV, fieldV, indexAddrV, indexV, partV, isAggK, isStr, place, lenV, min2V, makeV, freshSl, sliceV, boundOr, bound, bounds, cutFl, copyV, slCells, srcV, appendV, room, zerosOf, eqNeg, kd, takeR, hasViewL, hasView, freshR, freshC, snapAll, snap, snapL, flatL, pureL, pureA, fillC, arrOK, oneA, partB, AV.laid, ren1, CR.gr, applyW, useL, AS.mute, isGen, startG, ev5, tbBd0, glob, hb, List.replicate_succ, List.replicate_zero, List.cons_append, List.nil_append]
    change EndG _ _ _ _ _ _ _
    refine EndG.new (b := .own L 2 1) [_] [_] rfl (.one (.newp _ _ rfl)) rfl rfl (fun b' h1 => ?_) updB_self ?_ (fun _ _ => rfl)
    · simp only [updB, own_ne h1, if_false]
    · exact .cons .nilb (.cons .nilb (.cons (.raw _) (.cons .nilb (.cons .nilb (.cons (.raw _) (.cons .nilb (.cons .nilb (.cons (.raw _) (.cons .nilb (.cons .nilb (.cons (.raw _) (.cons (.raw _) (.cons (.raw _) (.cons (.raw _) (.cons (.raw _) .nil)))))))))))))))
  · cases hr
end Go.Proofs.Ytjnmdphoaafjaaa
