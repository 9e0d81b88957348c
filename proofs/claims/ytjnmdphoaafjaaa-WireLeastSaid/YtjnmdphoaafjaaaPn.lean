/- The closures of Check that call others. -/
import Derived.Test.YtjnmdphoaafjaaaPm
namespace Go.Proofs.Ytjnmdphoaafjaaa
set_option linter.unusedSimpArgs false
set_option linter.unusedVariables false
set_option linter.defProp false
open Go Go.Abs
set_option maxHeartbeats 4000000
/-- a part is named: whether it may be so, and it is taken away -/
noncomputable def gf89 (args : List AV) (bx : Boxes) (us : Abs.Id → Bool) : Option CR := match args with
  | [.raw (.bool m), .fn g [.ptr b3 0], .ptr b4 0] => (clrF g).bind fun t => (bx b3).bind fun cs => (cmd? cs).bind fun c => (bx b4).bind fun os => match os with
    | [.raw (.bool o)] => if b4 ≠ b3 then some { v := .ret (.tup []), wr := [(b4, [.raw (.bool (o && m))]), (b3, cmdA (t c))] } else none
    | _ => none
  | _ => none
def tbPn0 := (And.intro (And.intro (And.intro @teE @E8_te) (And.intro @E8_glob @E8_gs)) (And.intro (And.intro @E8_dyn @E8_mu) (And.intro @E8_w @cmdA_ren)))
theorem sound89 : SoundG Try.prog glob 89 gf89 := by
  refine SoundG.walk E8 ok8 mixed Try.func89 rfl Try.call89 (by kernel_rfl) ?_
  intro args bx us cr hr
  unfold gf89 at hr
  split at hr
  · rename_i m g b3 b4
    simp only [Option.bind_eq_some_iff] at hr
    obtain ⟨t, ht, cs, h3, c, hc, os, h4, hr⟩ := hr
    have := cmd?_of hc
    subst this
    split at hr
    · rename_i o
      split at hr
      · rename_i hne
        cases hr
        obtain ⟨f, htb, hf⟩ := clr_tbl ht
        have hne' : ¬ b3 = b4 := fun e => hne e.symm
        have hg : ∀ {bx : Boxes} {us : Abs.Id → Bool}, bx b3 = some (cmdA c) → gfC f [.ptr b3 0] bx us = some { v := .ret (.tup []), wr := [(b3, f (cmdA c))] } := fun h => gfC_at h
        rw [Try.ntmps89, Try.results89]
        refine ⟨by simp, fun L hlow hus hbf => ?_⟩
        have s3 : (bx b3).isSome := by rw [h3]; rfl
        have s4 : (bx b4).isSome := by rw [h4]; rfl
        cases o
        · simp (maxSteps := 1000000) (disch := first | omega | assumption | (simp only [updB, if_true, if_false, *]; done) | (simp only [lnB] <;> omega) | fail) only [ev0, ev1, ev2, ev3, ↓reduceIte, reduceCtorEq, Nat.reduceAdd, Nat.reduceSub, Nat.reduceMul, Nat.reduceLT, Nat.reduceLeDiff, Nat.reduceEqDiff, Nat.reduceBEq, BitVec.reduceOfInt, Int.reduceLE, Int.reduceLT, Int.reduceGT, Int.reduceGE, Int.reduceNeg, Int.reduceAdd, Int.reduceSub, Int.reduceMul, Int.reduceToNat, ↓bind_go, ↓map_go, wantedV, isWrite, grow, write, ofV, AV.cells, Abs.start, Abs.strip, endQ, resV, rawsRes, rawRes, exports, export1, AS.grown, AS.put, Env.know, Env.boxed, isSelf, convSelf, convV, loadV, storeV, fieldAddrV, fieldV, indexAddrV, indexV, partV, isAggK, isStr, place, lenV, min2V, makeV, freshSl, sliceV, boundOr, bound, bounds, cutFl, copyV, slCells, srcV, appendV, room, zerosOf, eqNeg, kd, takeR, hasViewL, hasView, freshR, freshC, snapAll, snap, snapL, flatL, pureL, pureA, fillC, arrOK, oneA, partB, AV.laid, ren1, CR.gr, applyW, useL, AS.mute, isGen, startG, ev5, tbPn0, glob, h3, h4, htb, hf, hg, if_neg hne, if_neg hne']
          change EndG _ _ _ _ _ _ _
          exact EndG.w2 (b1 := b4) (b2 := b3) [] [] rfl .nil rfl hne (hlow b4 s4).1 (hlow b3 s3).1 s4 s3 (fun b' h1 h2 h5 => by simp only [updB, if_neg h2, if_neg h5]) (by simp only [updB, if_neg hne, if_true, Bool.false_and, Bool.true_and]) updB_self (.one (.raw _)) (ExpL.same (cmdA_low _)) (fun _ _ => rfl)
        · simp (maxSteps := 1000000) (disch := first | omega | assumption | (simp only [updB, if_true, if_false, *]; done) | (simp only [lnB] <;> omega) | fail) only [ev0, ev1, ev2, ev3, ↓reduceIte, reduceCtorEq, Nat.reduceAdd, Nat.reduceSub, Nat.reduceMul, Nat.reduceLT, Nat.reduceLeDiff, Nat.reduceEqDiff, Nat.reduceBEq, BitVec.reduceOfInt, Int.reduceLE, Int.reduceLT, Int.reduceGT, Int.reduceGE, Int.reduceNeg, Int.reduceAdd, Int.reduceSub, Int.reduceMul, Int.reduceToNat, ↓bind_go, ↓map_go, wantedV, isWrite, grow, write, ofV, AV.cells, Abs.start, Abs.strip, endQ, resV, rawsRes, rawRes, exports, export1, AS.grown, AS.put, Env.know, Env.boxed, isSelf, convSelf, convV, loadV, storeV, fieldAddrV, fieldV, indexAddrV, indexV, partV, isAggK, isStr, place, lenV, min2V, makeV, freshSl, sliceV, boundOr, bound, bounds, cutFl, copyV, slCells, srcV, appendV, room, zerosOf, eqNeg, kd, takeR, hasViewL, hasView, freshR, freshC, snapAll, snap, snapL, flatL, pureL, pureA, fillC, arrOK, oneA, partB, AV.laid, ren1, CR.gr, applyW, useL, AS.mute, isGen, startG, ev5, tbPn0, glob, h3, h4, htb, hf, hg, if_neg hne, if_neg hne']
          change EndG _ _ _ _ _ _ _
          exact EndG.w2 (b1 := b4) (b2 := b3) [] [] rfl .nil rfl hne (hlow b4 s4).1 (hlow b3 s3).1 s4 s3 (fun b' h1 h2 h5 => by simp only [updB, if_neg h2, if_neg h5]) (by simp only [updB, if_neg hne, if_true, Bool.false_and, Bool.true_and]) updB_self (.one (.raw _)) (ExpL.same (cmdA_low _)) (fun _ _ => rfl)
      · cases hr
    · cases hr
  · cases hr

noncomputable def E9 : Env := E8.knowG 89 gf89
theorem ok9 : EnvOK Try.prog E9 := ok8.knowG sound89
theorem E9_te : E9.te = te := rfl
theorem E9_glob : E9.glob = glob := rfl
theorem E9_mu (d : Nat) : E9.mu d = false := rfl
theorem E9_gs : E9.gs = [89, 99, 98, 97, 96, 95, 94, 92] := rfl
theorem E9_dyn : E9.dyn = true := rfl
theorem E9_w : E9.tbl 91 = some (.val pf91) := rfl
theorem E9_n : E9.tbl 89 = some (.gen gf89) := rfl
theorem within_at {n a b : Int} : pf91 [.raw (.int .i64 n), .raw (.int .i64 a), .raw (.int .i64 b)] = some (.raw (.bool (decide (n ≥ a) && decide (n ≤ b)))) := rfl
theorem name_go {g : Nat} {t : Cmd → Cmd} (ht : clrF g = some t) {c : Cmd} {o m : Bool} {b3 b4 : Bx} (hne : b4 ≠ b3) {bx : Boxes} {us : Abs.Id → Bool} (h3 : bx b3 = some (cmdA c)) (h4 : bx b4 = some [.raw (.bool o)]) :
    gf89 [.raw (.bool m), .fn g [.ptr b3 0], .ptr b4 0] bx us = some { v := .ret (.tup []), wr := [(b4, [.raw (.bool (o && m))]), (b3, cmdA (t c))] } := by
  simp only [gf89, ht, h3, h4, cmd?_at, Option.bind_some, if_pos hne]
def inW (n a b : Int) : Bool := decide (n ≥ a) && decide (n ≤ b)
noncomputable def gf90 (args : List AV) (bx : Boxes) (us : Abs.Id → Bool) : Option CR := match args with
  | [.ptr b5 0, .ptr b1 0, .ptr b3 0] => (bx b5).bind fun fs => match fs with
    | [.fn g [.ptr b4 0]] => if g = 89 then (bx b1).bind fun cs0 => (cmd? cs0).bind fun c0 => (bx b3).bind fun cs => (cmd? cs).bind fun c => (bx b4).bind fun os => match os with
      | [.raw (.bool o)] => if b4 ≠ b3 then some { v := .ret (.tup []), wr := [(b4, [.raw (.bool (o && inW c0.i 1 1099511627776))]), (b3, cmdA { c with i := 0 })] } else none
      | _ => none
      else none
    | _ => none
  | _ => none
theorem cmdA_i (c : Cmd) : (cmdA c)[3]? = some (.raw (.int .i64 c.i)) := rfl
theorem cmdA_d (c : Cmd) : (cmdA c)[5]? = some (btA c.d) := rfl
def tbPn1 := (And.intro (And.intro (And.intro @teE @E9_te) (And.intro @E9_glob (And.intro @E9_gs @E9_dyn))) (And.intro (And.intro @E9_mu @E9_w) (And.intro @E9_n (And.intro @cmdA_ren @within_at))))
theorem sound90 : SoundG Try.prog glob 90 gf90 := by
  refine SoundG.walk E9 ok9 mixed Try.func90 rfl Try.call90 (by kernel_rfl) ?_
  intro args bx us cr hr
  unfold gf90 at hr
  split at hr
  · rename_i b5 b1 b3
    simp only [Option.bind_eq_some_iff] at hr
    obtain ⟨fs, h5, hr⟩ := hr
    split at hr
    · rename_i g b4
      split at hr
      · rename_i hg
        subst hg
        simp only [Option.bind_eq_some_iff] at hr
        obtain ⟨cs0, h1, c0, hc0, cs, h3, c, hc, os, h4, hr⟩ := hr
        have := cmd?_of hc
        subst this
        have := cmd?_of hc0
        subst this
        split at hr
        · rename_i o
          split at hr
          · rename_i hne
            cases hr
            have hn := fun {m : Bool} {bx : Boxes} {us : Abs.Id → Bool} => name_go (m := m) (bx := bx) (us := us) (show clrF 92 = some _ from rfl) (c := c) (o := o) hne
            rw [Try.ntmps90, Try.results90]
            refine ⟨by simp, fun L hlow hus hbf => ?_⟩
            have s3 : (bx b3).isSome := by rw [h3]; rfl
            have s4 : (bx b4).isSome := by rw [h4]; rfl
            simp (maxSteps := 1000000) (disch := first | omega | assumption | (simp only [updB, if_true, if_false, *]; done) | (simp only [lnB] <;> omega) | fail) only [ev0, ev1, ev2, ev3, ↓reduceIte, reduceCtorEq, Nat.reduceAdd, Nat.reduceSub, Nat.reduceMul, Nat.reduceLT, Nat.reduceLeDiff, Nat.reduceEqDiff, Nat.reduceBEq, BitVec.reduceOfInt, Int.reduceLE, Int.reduceLT, Int.reduceGT, Int.reduceGE, Int.reduceNeg, Int.reduceAdd, Int.reduceSub, Int.reduceMul, Int.reduceToNat, ↓bind_go, ↓map_go, wantedV, isWrite, grow, write, ofV, AV.cells, Abs.start, Abs.strip, endQ, resV, rawsRes, rawRes, exports, export1, AS.grown, AS.put, Env.know, Env.boxed, isSelf, convSelf, convV, loadV, storeV, fieldAddrV, fieldV, indexAddrV, indexV, partV, isAggK, isStr, place, lenV, min2V, makeV, freshSl, sliceV, boundOr, bound, bounds, cutFl, copyV, slCells, srcV, appendV, room, zerosOf, eqNeg, kd, takeR, hasViewL, hasView, freshR, freshC, snapAll, snap, snapL, flatL, pureL, pureA, fillC, arrOK, oneA, partB, AV.laid, ren1, CR.gr, applyW, useL, AS.mute, isGen, startG, ev5, tbPn1, glob, List.size_toArray, Array.size_empty, List.length_nil, h5, h1, h3, h4, hn, cmdA_i]
            change EndG _ _ _ _ _ _ _
            exact EndG.w2 (b1 := b4) (b2 := b3) [] [] rfl .nil rfl hne (hlow b4 s4).1 (hlow b3 s3).1 s4 s3 (fun b' h1 h2 h5 => by simp only [updB, if_neg h2, if_neg h5]) (by simp only [updB, if_neg hne, if_true, inW]) updB_self (.one (.raw _)) (ExpL.same (cmdA_low _)) (fun _ _ => rfl)
          · cases hr
        · cases hr
      · cases hr
    · cases hr
  · cases hr

def blen0 : Option (List (BitVec 8)) → Int
  | none => 0
  | some l => l.length
noncomputable def gf93 (args : List AV) (bx : Boxes) (us : Abs.Id → Bool) : Option CR := match args with
  | [.raw (.int .i64 lo), .raw (.int .i64 hi), .ptr b5 0, .ptr b1 0, .ptr b3 0] => (bx b5).bind fun fs => match fs with
    | [.fn g [.ptr b4 0]] => if g = 89 then (bx b1).bind fun cs0 => (cmd? cs0).bind fun c0 => (bx b3).bind fun cs => (cmd? cs).bind fun c => (bx b4).bind fun os => match os with
      | [.raw (.bool o)] => if b4 ≠ b3 then some { v := .ret (.tup []), wr := [(b4, [.raw (.bool (o && inW (blen0 c0.d) lo hi))]), (b3, cmdA { c with d := none })] } else none
      | _ => none
      else none
    | _ => none
  | _ => none
theorem sound93 : SoundG Try.prog glob 93 gf93 := by
  refine SoundG.walk E9 ok9 mixed Try.func93 rfl Try.call93 (by kernel_rfl) ?_
  intro args bx us cr hr
  unfold gf93 at hr
  split at hr
  · rename_i lo hi b5 b1 b3
    simp only [Option.bind_eq_some_iff] at hr
    obtain ⟨fs, h5, hr⟩ := hr
    split at hr
    · rename_i g b4
      split at hr
      · rename_i hg
        subst hg
        simp only [Option.bind_eq_some_iff] at hr
        obtain ⟨cs0, h1, c0, hc0, cs, h3, c, hc, os, h4, hr⟩ := hr
        have := cmd?_of hc
        subst this
        have := cmd?_of hc0
        subst this
        split at hr
        · rename_i o
          split at hr
          · rename_i hne
            cases hr
            have hn := fun {m : Bool} {bx : Boxes} {us : Abs.Id → Bool} => name_go (m := m) (bx := bx) (us := us) (show clrF 94 = some _ from rfl) (c := c) (o := o) hne
            rw [Try.ntmps93, Try.results93]
            refine ⟨by simp, fun L hlow hus hbf => ?_⟩
            have s3 : (bx b3).isSome := by rw [h3]; rfl
            have s4 : (bx b4).isSome := by rw [h4]; rfl
            cases hd : c0.d with
            | none =>
              simp (maxSteps := 1000000) (disch := first | omega | assumption | (simp only [updB, if_true, if_false, *]; done) | (simp only [lnB] <;> omega) | fail) only [ev0, ev1, ev2, ev3, ↓reduceIte, reduceCtorEq, Nat.reduceAdd, Nat.reduceSub, Nat.reduceMul, Nat.reduceLT, Nat.reduceLeDiff, Nat.reduceEqDiff, Nat.reduceBEq, BitVec.reduceOfInt, Int.reduceLE, Int.reduceLT, Int.reduceGT, Int.reduceGE, Int.reduceNeg, Int.reduceAdd, Int.reduceSub, Int.reduceMul, Int.reduceToNat, ↓bind_go, ↓map_go, wantedV, isWrite, grow, write, ofV, AV.cells, Abs.start, Abs.strip, endQ, resV, rawsRes, rawRes, exports, export1, AS.grown, AS.put, Env.know, Env.boxed, isSelf, convSelf, convV, loadV, storeV, fieldAddrV, fieldV, indexAddrV, indexV, partV, isAggK, isStr, place, lenV, min2V, makeV, freshSl, sliceV, boundOr, bound, bounds, cutFl, copyV, slCells, srcV, appendV, room, zerosOf, eqNeg, kd, takeR, hasViewL, hasView, freshR, freshC, snapAll, snap, snapL, flatL, pureL, pureA, fillC, arrOK, oneA, partB, AV.laid, ren1, CR.gr, applyW, useL, AS.mute, isGen, startG, ev5, tbPn1, glob, List.size_toArray, Array.size_empty, List.length_nil, h5, h1, h3, h4, hn, cmdA_d, hd, btA]
              change EndG _ _ _ _ _ _ _
              exact EndG.w2 (b1 := b4) (b2 := b3) [] [] rfl .nil rfl hne (hlow b4 s4).1 (hlow b3 s3).1 s4 s3 (fun b' h1 h2 h5 => by simp only [updB, if_neg h2, if_neg h5]) (by simp only [updB, if_neg hne, if_true, inW, blen0]; rfl) updB_self (.one (.raw _)) (ExpL.same (cmdA_low _)) (fun _ _ => rfl)
            | some t =>
              simp (maxSteps := 1000000) (disch := first | omega | assumption | (simp only [updB, if_true, if_false, *]; done) | (simp only [lnB] <;> omega) | fail) only [ev0, ev1, ev2, ev3, ↓reduceIte, reduceCtorEq, Nat.reduceAdd, Nat.reduceSub, Nat.reduceMul, Nat.reduceLT, Nat.reduceLeDiff, Nat.reduceEqDiff, Nat.reduceBEq, BitVec.reduceOfInt, Int.reduceLE, Int.reduceLT, Int.reduceGT, Int.reduceGE, Int.reduceNeg, Int.reduceAdd, Int.reduceSub, Int.reduceMul, Int.reduceToNat, ↓bind_go, ↓map_go, wantedV, isWrite, grow, write, ofV, AV.cells, Abs.start, Abs.strip, endQ, resV, rawsRes, rawRes, exports, export1, AS.grown, AS.put, Env.know, Env.boxed, isSelf, convSelf, convV, loadV, storeV, fieldAddrV, fieldV, indexAddrV, indexV, partV, isAggK, isStr, place, lenV, min2V, makeV, freshSl, sliceV, boundOr, bound, bounds, cutFl, copyV, slCells, srcV, appendV, room, zerosOf, eqNeg, kd, takeR, hasViewL, hasView, freshR, freshC, snapAll, snap, snapL, flatL, pureL, pureA, fillC, arrOK, oneA, partB, AV.laid, ren1, CR.gr, applyW, useL, AS.mute, isGen, startG, ev5, tbPn1, glob, List.size_toArray, Array.size_empty, List.length_nil, h5, h1, h3, h4, hn, cmdA_d, hd, btA]
              change EndG _ _ _ _ _ _ _
              exact EndG.w2 (b1 := b4) (b2 := b3) [] [] rfl .nil rfl hne (hlow b4 s4).1 (hlow b3 s3).1 s4 s3 (fun b' h1 h2 h5 => by simp only [updB, if_neg h2, if_neg h5]) (by simp only [updB, if_neg hne, if_true, inW, blen0]; rfl) updB_self (.one (.raw _)) (ExpL.same (cmdA_low _)) (fun _ _ => rfl)
          · cases hr
        · cases hr
      · cases hr
    · cases hr
  · cases hr
end Go.Proofs.Ytjnmdphoaafjaaa
