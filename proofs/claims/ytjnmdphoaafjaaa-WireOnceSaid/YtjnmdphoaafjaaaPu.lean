/- What was read is written, and held against the bytes. -/
import Derived.Test.YtjnmdphoaafjaaaPt
namespace Go.Proofs.Ytjnmdphoaafjaaa
set_option linter.unusedSimpArgs false
set_option linter.unusedVariables false
set_option linter.defProp false
open Go Go.Abs
set_option maxHeartbeats 4000000
def pf133 : List AV → Option AV
  | [v, w] => (row? .u8 8 v).bind fun l => (row? .u8 8 w).bind fun m => some (.raw (.bool (decide (l = m))))
  | _ => none
theorem map8_beq (l m : List (BitVec 8)) : (List.map UInt8.ofBitVec l == List.map UInt8.ofBitVec m) = decide (l = m) := by
  by_cases h : l = m
  · subst h; simp
  · have : List.map UInt8.ofBitVec l ≠ List.map UInt8.ofBitVec m := fun e => h (by
      have := congrArg (List.map UInt8.toBitVec) e
      simpa [List.map_map, Function.comp_def] using this)
    simp [h, this]
theorem asB0 : asBytes [] = some [] := rfl
theorem sound133 : SoundV Try.prog glob 133 pf133 := by
  refine SoundV.walk EX okX mixed Try.func133 rfl Try.call133 (by kernel_rfl) ?_
  intro args r hr
  unfold pf133 at hr
  split at hr
  · simp only [Option.bind_eq_some_iff] at hr
    obtain ⟨l, h1, m, h2, hr⟩ := hr
    cases hr
    obtain ⟨fl, rfl⟩ := row?_of h1
    obtain ⟨gl, rfl⟩ := row?_of h2
    rw [Try.ntmps133, Try.results133]
    refine ⟨by simp, ?_⟩
    simp (maxSteps := 1000000) (disch := first | omega | (simp only [nums_len, lnB] <;> omega) | fail) only [ev0, ev1, ev2, ev3, ↓reduceIte, reduceCtorEq, Nat.reduceAdd, Nat.reduceSub, Nat.reduceMul, Nat.reduceLT, Nat.reduceLeDiff, Nat.reduceEqDiff, Nat.reduceBEq, BitVec.reduceOfInt, Int.reduceLE, Int.reduceLT, Int.reduceGT, Int.reduceGE, Int.reduceNeg, Int.reduceAdd, Int.reduceSub, Int.reduceMul, Int.reduceToNat, ↓bind_go, ↓map_go, wantedV, isWrite, grow, write, ofV, AV.cells, Abs.start, Abs.strip, endQ, resV, rawsRes, rawRes, exports, export1, AS.grown, AS.put, Env.know, Env.boxed, isSelf, convSelf, convV, loadV, storeV, fieldAddrV, fieldV, indexAddrV, indexV, partV, isAggK, isStr, place, lenV, min2V, makeV, freshSl, sliceV, boundOr, bound, bounds, cutFl, copyV, slCells, srcV, appendV, room, zerosOf, eqNeg, kd, takeR, hasViewL, hasView, freshR, freshC, snapAll, snap, snapL, flatL, pureL, pureA, fillC, arrOK, oneA, partB, AV.laid, ren1, CR.gr, applyW, useL, AS.mute, isGen, startG, ev5, teE, cmdA_strip, repA_strip, entA_strip, cmdA_snap, repA_snap, entA_snap, cmdA_noview, repA_noview, entA_noview, cmdA_take, cmdA_one, repA_take, repA_one, entA_take, entA_one, dropC, dropR, dropE, List.map_nil, List.all_nil, zeroC, zeroR, zeroE, splice_cmd, splice_cmd', splice_rep, splice_rep', splice_ent, splice_ent', cmdA_len, repA_len, entA_len, List.drop_zero, rep1, rep2, rep3, rep5, one_le, le2, le3, le5, dr1, dr2, dr3, dr5, EX_te, EX_glob, EX_gs, EX_dyn, EX_mu, glob, ev4, map8_beq, asB0]
    exact ResQ.same rfl
  · cases hr
/-- a closure that writes what lies in a box -/
def gfW (F : List AV → Option (List (BitVec 8) × Int)) (args : List AV) (bx : Boxes) (us : Abs.Id → Bool) : Option CR := match args with
  | [.ptr c 0] => (bx c).bind fun cs => (F cs).bind fun w => some { v := .ret (.tup [.sl w.1.length (nums .u8 w.1) .bor, .raw (.int .i64 w.2)]) }
  | _ => none
noncomputable def wrC (cs : List AV) : Option (List (BitVec 8) × Int) := (cmd? cs).bind fun x => if x.n ≤ 9223372036854775807 then some (cmdR x) else none
noncomputable def wrE (cs : List AV) : Option (List (BitVec 8) × Int) := (ent? cs).bind fun x => open Classical in if okN x then some (entR x) else none
noncomputable def EY0 : Env := (EX.know 39 pf39).know 61 pf61
theorem okY0 : EnvOK Try.prog EY0 := (okX.know sound39).know sound61
theorem EY0_te : EY0.te = te := rfl
theorem EY0_glob : EY0.glob = glob := rfl
theorem EY0_gs : EY0.gs = [] := rfl
theorem EY0_dyn : EY0.dyn = false := rfl
theorem EY0_mu (d : Nat) : EY0.mu d = false := rfl
theorem EY0_c : EY0.tbl 39 = some (.val pf39) := rfl
theorem EY0_e : EY0.tbl 61 = some (.val pf61) := rfl
theorem command_at {c : Cmd} (h : c.n ≤ 9223372036854775807) : pf39 [.agg (cmdA c)] = some (.tup [.sl (cmdR c).1.length (nums .u8 (cmdR c).1) .bor, .raw (.int .i64 (cmdR c).2)]) := by
  simp only [pf39, cmdA_strip, cmd?_at, Option.bind_some, if_pos h]
theorem entry_at {c : Eny} (h : okN c) : pf61 [.agg (entA c)] = some (.tup [.sl (entR c).1.length (nums .u8 (entR c).1) .bor, .raw (.int .i64 (entR c).2)]) := by
  simp only [pf61, entA_strip, ent?_at, Option.bind_some, if_pos h]
theorem cmdA_take7 (c : Cmd) : (cmdA c).take 7 = cmdA c := rfl
def tbPu1 := (And.intro (And.intro (And.intro (And.intro (And.intro @teE (And.intro @cmdA_strip @repA_strip)) (And.intro @entA_strip (And.intro @cmdA_snap @repA_snap))) (And.intro (And.intro @entA_snap (And.intro @cmdA_noview @repA_noview)) (And.intro @entA_noview (And.intro @cmdA_take @cmdA_one)))) (And.intro (And.intro (And.intro @repA_take (And.intro @repA_one @entA_take)) (And.intro @entA_one (And.intro @dropC @dropR))) (And.intro (And.intro @dropE (And.intro @zeroC @zeroR)) (And.intro (And.intro @zeroE @splice_cmd) (And.intro @splice_cmd' @splice_rep))))) (And.intro (And.intro (And.intro (And.intro @splice_rep' (And.intro @splice_ent @splice_ent')) (And.intro @cmdA_len (And.intro @repA_len @entA_len))) (And.intro (And.intro @rep1 (And.intro @rep2 @rep3)) (And.intro (And.intro @rep5 @one_le) (And.intro @le2 @le3)))) (And.intro (And.intro (And.intro @le5 (And.intro @dr1 @dr2)) (And.intro @dr3 (And.intro @dr5 @EY0_te))) (And.intro (And.intro @EY0_glob (And.intro @EY0_gs @EY0_dyn)) (And.intro (And.intro @EY0_mu @EY0_c) (And.intro @EY0_e @ev4))))))
theorem sound86 : SoundG Try.prog glob 86 (gfW wrC) := by
  refine SoundG.walk EY0 okY0 mixed Try.func86 rfl Try.call86 (by kernel_rfl) ?_
  intro args bx us cr hr
  unfold gfW at hr
  split at hr
  · rename_i c
    simp only [Option.bind_eq_some_iff] at hr
    obtain ⟨cs, hb, w, hw, hr⟩ := hr
    cases hr
    unfold wrC at hw
    simp only [Option.bind_eq_some_iff] at hw
    obtain ⟨x, hx, hw⟩ := hw
    have := cmd?_of hx
    subst this
    split at hw
    · rename_i hn
      cases hw
      have hc := command_at hn
      rw [Try.ntmps86, Try.results86]
      refine ⟨by simp, fun L hlow hus hbf => ?_⟩
      simp (maxSteps := 1000000) (disch := first | omega | (simp only [nums_len, lnB] <;> omega) | fail) only [ev0, ev1, ev2, ev3, ↓reduceIte, reduceCtorEq, Nat.reduceAdd, Nat.reduceSub, Nat.reduceMul, Nat.reduceLT, Nat.reduceLeDiff, Nat.reduceEqDiff, Nat.reduceBEq, BitVec.reduceOfInt, Int.reduceLE, Int.reduceLT, Int.reduceGT, Int.reduceGE, Int.reduceNeg, Int.reduceAdd, Int.reduceSub, Int.reduceMul, Int.reduceToNat, ↓bind_go, ↓map_go, wantedV, isWrite, grow, write, ofV, AV.cells, Abs.start, Abs.strip, endQ, resV, rawsRes, rawRes, exports, export1, AS.grown, AS.put, Env.know, Env.boxed, isSelf, convSelf, convV, loadV, storeV, fieldAddrV, fieldV, indexAddrV, indexV, partV, isAggK, isStr, place, lenV, min2V, makeV, freshSl, sliceV, boundOr, bound, bounds, cutFl, copyV, slCells, srcV, appendV, room, zerosOf, eqNeg, kd, takeR, hasViewL, hasView, freshR, freshC, snapAll, snap, snapL, flatL, pureL, pureA, fillC, arrOK, oneA, partB, AV.laid, ren1, CR.gr, applyW, useL, AS.mute, isGen, startG, ev5, tbPu1, List.map_nil, List.all_nil, List.drop_zero, glob, hb, hc]
      change EndG _ _ _ _ _ _ _
      exact EndG.r0 [.sl (cmdR x).1.length (nums .u8 (cmdR x).1) .bor, .raw (.int .i64 (cmdR x).2)] [_, _] rfl (.cons (.low _ sl_low (by simp) (by simp) (by simp)) (.cons (.low _ (lowA_pure _ rfl) (by simp) (by simp) (by simp)) .nil)) rfl (fun _ _ => rfl) (fun _ _ => rfl)
    · cases hw
  · cases hr
theorem sound124 : SoundG Try.prog glob 124 (gfW wrE) := by
  refine SoundG.walk EY0 okY0 mixed Try.func124 rfl Try.call124 (by kernel_rfl) ?_
  intro args bx us cr hr
  unfold gfW at hr
  split at hr
  · rename_i c
    simp only [Option.bind_eq_some_iff] at hr
    obtain ⟨cs, hb, w, hw, hr⟩ := hr
    cases hr
    unfold wrE at hw
    simp only [Option.bind_eq_some_iff] at hw
    obtain ⟨x, hx, hw⟩ := hw
    have := ent?_of hx
    subst this
    split at hw
    · rename_i hn
      cases hw
      have hc := entry_at hn
      rw [Try.ntmps124, Try.results124]
      refine ⟨by simp, fun L hlow hus hbf => ?_⟩
      simp (maxSteps := 1000000) (disch := first | omega | (simp only [nums_len, lnB] <;> omega) | fail) only [ev0, ev1, ev2, ev3, ↓reduceIte, reduceCtorEq, Nat.reduceAdd, Nat.reduceSub, Nat.reduceMul, Nat.reduceLT, Nat.reduceLeDiff, Nat.reduceEqDiff, Nat.reduceBEq, BitVec.reduceOfInt, Int.reduceLE, Int.reduceLT, Int.reduceGT, Int.reduceGE, Int.reduceNeg, Int.reduceAdd, Int.reduceSub, Int.reduceMul, Int.reduceToNat, ↓bind_go, ↓map_go, wantedV, isWrite, grow, write, ofV, AV.cells, Abs.start, Abs.strip, endQ, resV, rawsRes, rawRes, exports, export1, AS.grown, AS.put, Env.know, Env.boxed, isSelf, convSelf, convV, loadV, storeV, fieldAddrV, fieldV, indexAddrV, indexV, partV, isAggK, isStr, place, lenV, min2V, makeV, freshSl, sliceV, boundOr, bound, bounds, cutFl, copyV, slCells, srcV, appendV, room, zerosOf, eqNeg, kd, takeR, hasViewL, hasView, freshR, freshC, snapAll, snap, snapL, flatL, pureL, pureA, fillC, arrOK, oneA, partB, AV.laid, ren1, CR.gr, applyW, useL, AS.mute, isGen, startG, ev5, tbPu1, List.map_nil, List.all_nil, List.drop_zero, glob, hb, hc]
      change EndG _ _ _ _ _ _ _
      exact EndG.r0 [.sl (entR x).1.length (nums .u8 (entR x).1) .bor, .raw (.int .i64 (entR x).2)] [_, _] rfl (.cons (.low _ sl_low (by simp) (by simp) (by simp)) (.cons (.low _ (lowA_pure _ rfl) (by simp) (by simp) (by simp)) .nil)) rfl (fun _ _ => rfl) (fun _ _ => rfl)
    · cases hw
  · cases hr
noncomputable def EY : Env := (((EY0.know 133 (fun xs => pf133 (xs.map norm))).knowG 86 (gfW wrC)).knowG 124 (gfW wrE)).dynamic
theorem okY : EnvOK Try.prog EY := (((okY0.know sound133.norm).knowG sound86).knowG sound124).dynamic
theorem EY_te : EY.te = te := rfl
theorem EY_glob : EY.glob = glob := rfl
theorem EY_gs : EY.gs = [124, 86] := rfl
theorem EY_dyn : EY.dyn = true := rfl
theorem EY_mu (d : Nat) : EY.mu d = false := rfl
theorem EY_q : EY.tbl 133 = some (.val (fun xs => pf133 (xs.map norm))) := rfl
noncomputable def wrF (g : Nat) : Option (List AV → Option (List (BitVec 8) × Int)) := if g = 86 then some wrC else if g = 124 then some wrE else none
theorem wrF_tbl {g : Nat} {F : List AV → Option (List (BitVec 8) × Int)} (h : wrF g = some F) : EY.tbl g = some (.gen (gfW F)) := by
  unfold wrF at h
  by_cases h1 : g = 86
  · subst h1; cases h; rfl
  by_cases h2 : g = 124
  · subst h2; cases h; rfl
  simp only [if_neg h1, if_neg h2] at h
  cases h
theorem gfW_at {F : List AV → Option (List (BitVec 8) × Int)} {c : Bx} {bx : Boxes} {us : Abs.Id → Bool} {cs : List AV} {w : List (BitVec 8) × Int} (hb : bx c = some cs) (hw : F cs = some w) : gfW F [.ptr c 0] bx us = some { v := .ret (.tup [.sl w.1.length (nums .u8 w.1) .bor, .raw (.int .i64 w.2)]) } := by
  simp only [gfW, hb, hw, Option.bind_some]
theorem beq_at {n n' : Nat} {l m : List (BitVec 8)} {fl fl' : Fl} (h : n = l.length) (h' : n' = m.length) : pf133 [.sl n (nums .u8 l) fl, .sl n' (nums .u8 m) fl'] = some (.raw (.bool (decide (l = m)))) := by
  simp only [pf133, row?_at h, row?_at h', Option.bind_some]
noncomputable def gf85 (args : List AV) (bx : Boxes) (us : Abs.Id → Bool) : Option CR := match args with
  | [.ptr r 0, v, .fn g [.ptr c 0]] => (row? .u8 8 v).bind fun b => (bx r).bind fun cs => (rd? cs).bind fun p => (wrF g).bind fun F => (bx c).bind fun ds => (F ds).bind fun w =>
    some { v := .ret (.raw (.bool (decide (p.2 = 0) && (decide (w.2 = 0) && decide (w.1 = b))))) }
  | _ => none
def tbPu2 := (And.intro (And.intro (And.intro (And.intro (And.intro @teE (And.intro @cmdA_strip @repA_strip)) (And.intro (And.intro @entA_strip @cmdA_snap) (And.intro @repA_snap @entA_snap))) (And.intro (And.intro @cmdA_noview (And.intro @repA_noview @entA_noview)) (And.intro (And.intro @cmdA_take @cmdA_one) (And.intro @repA_take @repA_one)))) (And.intro (And.intro (And.intro @entA_take (And.intro @entA_one @dropC)) (And.intro (And.intro @dropR @dropE) (And.intro @zeroC @zeroR))) (And.intro (And.intro @zeroE (And.intro @splice_cmd @splice_cmd')) (And.intro (And.intro @splice_rep @splice_rep') (And.intro @splice_ent @splice_ent'))))) (And.intro (And.intro (And.intro (And.intro @cmdA_len (And.intro @repA_len @entA_len)) (And.intro (And.intro @rep1 @rep2) (And.intro @rep3 @rep5))) (And.intro (And.intro @one_le (And.intro @le2 @le3)) (And.intro (And.intro @le5 @dr1) (And.intro @dr2 @dr3)))) (And.intro (And.intro (And.intro @dr5 (And.intro @EY_te @EY_glob)) (And.intro (And.intro @EY_gs @EY_dyn) (And.intro @EY_mu @EY_q))) (And.intro (And.intro (And.intro @ev4 @rdA_len) (And.intro @rdA_0 @rdA_1)) (And.intro (And.intro @rdA_ren @beq_at) (And.intro @zz0 @zz1))))))
theorem sound85 : SoundG Try.prog glob 85 gf85 := by
  refine SoundG.walk EY okY mixed Try.func85 rfl Try.call85 (by kernel_rfl) ?_
  intro args bx us cr hr
  unfold gf85 at hr
  split at hr
  · rename_i r v g c
    simp only [Option.bind_eq_some_iff] at hr
    obtain ⟨b, hv, cs, hb, p, hp, F, hF, ds, hd, w, hw, hr⟩ := hr
    have := rd?_of hp
    subst this
    cases hr
    obtain ⟨fl, rfl⟩ := row?_of hv
    have htb := wrF_tbl hF
    have hg : ∀ {us : Abs.Id → Bool}, gfW F [.ptr c 0] bx us = some { v := .ret (.tup [.sl w.1.length (nums .u8 w.1) .bor, .raw (.int .i64 w.2)]) } := fun {us} => gfW_at hd hw
    rw [Try.ntmps85, Try.results85]
    refine ⟨by simp, fun L hlow hus hbf => ?_⟩
    by_cases h1 : p.2 = 0
    · have d1 : (p.2 != 0) = false := by rw [h1]; rfl
      by_cases h2 : w.2 = 0
      · have d2 : (w.2 == 0) = true := by rw [h2]; rfl
        simp (maxSteps := 1000000) (disch := first | omega | assumption | (simp only [updB, if_true, if_false, *]; done) | (simp only [lnB] <;> omega) | fail) only [ev0, ev1, ev2, ev3, ↓reduceIte, reduceCtorEq, Nat.reduceAdd, Nat.reduceSub, Nat.reduceMul, Nat.reduceLT, Nat.reduceLeDiff, Nat.reduceEqDiff, Nat.reduceBEq, BitVec.reduceOfInt, Int.reduceLE, Int.reduceLT, Int.reduceGT, Int.reduceGE, Int.reduceNeg, Int.reduceAdd, Int.reduceSub, Int.reduceMul, Int.reduceToNat, ↓bind_go, ↓map_go, wantedV, isWrite, grow, write, ofV, AV.cells, Abs.start, Abs.strip, endQ, resV, rawsRes, rawRes, exports, export1, AS.grown, AS.put, Env.know, Env.boxed, isSelf, convSelf, convV, loadV, storeV, fieldAddrV, fieldV, indexAddrV, indexV, partV, isAggK, isStr, place, lenV, min2V, makeV, freshSl, sliceV, boundOr, bound, bounds, cutFl, copyV, slCells, srcV, appendV, room, zerosOf, eqNeg, kd, takeR, hasViewL, hasView, freshR, freshC, snapAll, snap, snapL, flatL, pureL, pureA, fillC, arrOK, oneA, partB, AV.laid, ren1, CR.gr, applyW, useL, AS.mute, isGen, startG, ev5, tbPu2, List.map_nil, List.all_nil, List.drop_zero, glob, List.size_toArray, Array.size_empty, List.length_nil, Int.reduceBEq, Int.reduceBNe, beq_self_eq_true, hb, htb, hg, d1, d2]
        change EndG _ _ _ _ _ _ _
        exact EndG.r0 [.raw (.bool (decide (w.1 = b)))] [_] rfl (.cons (.low _ (lowA_pure _ rfl) (by simp) (by simp) (by simp)) .nil) (by simp [tupOf, h1, h2]) (fun _ _ => rfl) (fun _ _ => rfl)
      · have d2 : (w.2 == 0) = false := beq_eq_false_iff_ne.2 h2
        simp (maxSteps := 1000000) (disch := first | omega | assumption | (simp only [updB, if_true, if_false, *]; done) | (simp only [lnB] <;> omega) | fail) only [ev0, ev1, ev2, ev3, ↓reduceIte, reduceCtorEq, Nat.reduceAdd, Nat.reduceSub, Nat.reduceMul, Nat.reduceLT, Nat.reduceLeDiff, Nat.reduceEqDiff, Nat.reduceBEq, BitVec.reduceOfInt, Int.reduceLE, Int.reduceLT, Int.reduceGT, Int.reduceGE, Int.reduceNeg, Int.reduceAdd, Int.reduceSub, Int.reduceMul, Int.reduceToNat, ↓bind_go, ↓map_go, wantedV, isWrite, grow, write, ofV, AV.cells, Abs.start, Abs.strip, endQ, resV, rawsRes, rawRes, exports, export1, AS.grown, AS.put, Env.know, Env.boxed, isSelf, convSelf, convV, loadV, storeV, fieldAddrV, fieldV, indexAddrV, indexV, partV, isAggK, isStr, place, lenV, min2V, makeV, freshSl, sliceV, boundOr, bound, bounds, cutFl, copyV, slCells, srcV, appendV, room, zerosOf, eqNeg, kd, takeR, hasViewL, hasView, freshR, freshC, snapAll, snap, snapL, flatL, pureL, pureA, fillC, arrOK, oneA, partB, AV.laid, ren1, CR.gr, applyW, useL, AS.mute, isGen, startG, ev5, tbPu2, List.map_nil, List.all_nil, List.drop_zero, glob, List.size_toArray, Array.size_empty, List.length_nil, Int.reduceBEq, Int.reduceBNe, beq_self_eq_true, hb, htb, hg, d1, d2]
        change EndG _ _ _ _ _ _ _
        exact EndG.r0 [.raw (.bool false)] [_] rfl (.cons (.low _ (lowA_pure _ rfl) (by simp) (by simp) (by simp)) .nil) (by simp [tupOf, h1, h2]) (fun _ _ => rfl) (fun _ _ => rfl)
    · have d1 : (p.2 != 0) = true := by rw [bne_iff_ne]; exact h1
      simp (maxSteps := 1000000) (disch := first | omega | assumption | (simp only [updB, if_true, if_false, *]; done) | (simp only [lnB] <;> omega) | fail) only [ev0, ev1, ev2, ev3, ↓reduceIte, reduceCtorEq, Nat.reduceAdd, Nat.reduceSub, Nat.reduceMul, Nat.reduceLT, Nat.reduceLeDiff, Nat.reduceEqDiff, Nat.reduceBEq, BitVec.reduceOfInt, Int.reduceLE, Int.reduceLT, Int.reduceGT, Int.reduceGE, Int.reduceNeg, Int.reduceAdd, Int.reduceSub, Int.reduceMul, Int.reduceToNat, ↓bind_go, ↓map_go, wantedV, isWrite, grow, write, ofV, AV.cells, Abs.start, Abs.strip, endQ, resV, rawsRes, rawRes, exports, export1, AS.grown, AS.put, Env.know, Env.boxed, isSelf, convSelf, convV, loadV, storeV, fieldAddrV, fieldV, indexAddrV, indexV, partV, isAggK, isStr, place, lenV, min2V, makeV, freshSl, sliceV, boundOr, bound, bounds, cutFl, copyV, slCells, srcV, appendV, room, zerosOf, eqNeg, kd, takeR, hasViewL, hasView, freshR, freshC, snapAll, snap, snapL, flatL, pureL, pureA, fillC, arrOK, oneA, partB, AV.laid, ren1, CR.gr, applyW, useL, AS.mute, isGen, startG, ev5, tbPu2, List.map_nil, List.all_nil, List.drop_zero, glob, List.size_toArray, Array.size_empty, List.length_nil, Int.reduceBEq, Int.reduceBNe, beq_self_eq_true, hb, htb, hg, d1]
      change EndG _ _ _ _ _ _ _
      exact EndG.r0 [.raw (.bool false)] [_] rfl (.cons (.low _ (lowA_pure _ rfl) (by simp) (by simp) (by simp)) .nil) (by simp [tupOf, h1]) (fun _ _ => rfl) (fun _ _ => rfl)
  · cases hr
end Go.Proofs.Ytjnmdphoaafjaaa
