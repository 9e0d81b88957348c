/- VaultSizes: what its walk, and those of what it calls, come to. -/
import Derived.Test.YtddeffdgldjdjaaDoorGd
namespace Go.Proofs.YtddeffdgldjdjaaDoor
set_option linter.unusedSimpArgs false
set_option linter.unusedVariables false
set_option linter.defProp false
open Go Go.Abs
set_option maxHeartbeats 16000000
/-- what is not opened, is refused -/
noncomputable def pr68 : List AV → Option AV
  | [v, u, x, w] => (agg? .u8 8 32 v).bind fun k => (agg? .u8 8 12 u).bind fun n => (row? .u8 8 x).bind fun a => (row? .u8 8 w).bind fun t => if a.length ≤ 400000 ∧ t.length ≤ 400000 ∧ 16 ≤ t.length ∧ openE k n a t ≠ 0 then some (.tup [.raw (.slice none 0 0), .raw (.int .i64 40)]) else none
  | _ => none
def tbGj0 := (And.intro (And.intro (And.intro (And.intro @teE @E8_te) (And.intro @E8_glob @E8_gs)) (And.intro (And.intro @E8_dyn @E8_mu) (And.intro @E8_x @E8_t))) (And.intro (And.intro (And.intro @gxor_two @gtag_at) (And.intro @nums_strip @nums_set8)) (And.intro (And.intro @nums_ren @splice0) (And.intro @tagB_len @gxorB_len))))
theorem soundr68 : SoundV Tryd.prog glob 68 pr68 := by
  refine SoundV.walk E8 ok8 mixed Tryd.func68 rfl Tryd.call68 (by kernel_rfl) ?_
  intro args r hr
  unfold pr68 at hr
  split at hr
  · rename_i v u x w
    simp only [Option.bind_eq_some_iff] at hr
    obtain ⟨k, h1, n, h2, a, h3, t, h4, hr⟩ := hr
    split at hr
    · rename_i hc
      obtain ⟨ha, ht, h16, hne⟩ := hc
      cases hr
      obtain ⟨rfl, hk⟩ := agg?_of h1
      obtain ⟨rfl, hn⟩ := agg?_of h2
      obtain ⟨fl, rfl⟩ := row?_of h3
      obtain ⟨fl', rfl⟩ := row?_of h4
      rw [Tryd.ntmps68, Tryd.results68]
      refine ⟨by simp, ?_⟩
      have h16 : ¬ t.length < 16 := by omega
      obtain ⟨z, hz⟩ : ∃ z, t.length = z + 16 := ⟨t.length - 16, by omega⟩
      have e1 : decide ((t.length : Int) - 16 < 0) = false := decide_eq_false (by omega)
      have lT : (t.take z).length = z := by rw [List.length_take]; omega
      have hE : openE k n a t = if dfK (tagB k n a (t.take z)) t z 16 = 0#8 then 0 else 40 := by
        rw [openE, if_neg h16, show t.length - 16 = z by omega]
      obtain ⟨g, hg⟩ : ∃ g, tagB k n a (t.take z) = g := ⟨_, rfl⟩
      have lG : g.length = 16 := by rw [← hg]; exact tagB_len _ _ _ _
      have hz2 : t.length - 16 = z := by omega
      rw [hg] at hE
      simp (maxSteps := 1000000) (disch := first | omega | (simp only [gxorB_len, tagB_len, sealB_len, lnB] <;> omega) | fail) only [ev0, ev1, ev2, ev3, ↓reduceIte, reduceCtorEq, Nat.reduceAdd, Nat.reduceSub, Nat.reduceMul, Nat.reduceLT, Nat.reduceLeDiff, Nat.reduceEqDiff, Nat.reduceBEq, BitVec.reduceOfInt, Int.reduceLE, Int.reduceLT, Int.reduceGT, Int.reduceGE, Int.reduceNeg, Int.reduceAdd, Int.reduceSub, Int.reduceMul, Int.reduceToNat, ↓bind_go, ↓map_go, wantedV, isWrite, grow, write, ofV, AV.cells, Abs.start, Abs.strip, endQ, resV, rawsRes, rawRes, exports, export1, AS.grown, AS.put, Env.know, Env.boxed, isSelf, convSelf, convV, loadV, storeV, fieldAddrV, fieldV, indexAddrV, indexV, partV, isAggK, isStr, place, lenV, min2V, makeV, freshSl, sliceV, boundOr, bound, bounds, cutFl, copyV, slCells, srcV, appendV, room, zerosOf, eqNeg, kd, takeR, hasViewL, hasView, freshR, freshC, snapAll, snap, snapL, flatL, pureL, pureA, fillC, arrOK, oneA, partB, AV.laid, ren1, CR.gr, applyW, useL, AS.mute, isGen, startG, ev5, tbGj0, glob, Nat.reduceMod, hk, hn, e1, lT, hz2, hg, lG]
      refine loopQ_of (fun n' σ => ∃ i, i ≤ 16 ∧ n' = 16 - i ∧ σ.slots 26 = .raw (.int .i64 (i : Int)) ∧ σ.slots 12 = .raw (.int .u8 ((dfK g t z i).toNat : Int)) ∧ σ.slots 11 = .ptr (.own 0 11 1) 0 ∧ σ.slots 10 = .raw (.int .i64 (z : Int)) ∧ σ.slots 3 = .sl t.length (nums .u8 t) .bor ∧ σ.slots 4 = .ptr (.own 0 4 1) 0 ∧ σ.slots 5 = .ptr (.own 0 5 1) 0 ∧ σ.box (.own 0 11 1) = some (nums .u8 g) ∧ σ.box (.own 0 4 1) = some (nums .u8 k) ∧ σ.box (.own 0 5 1) = some (nums .u8 n)) 16 ?_ ?_
      · refine ⟨0, by omega, by omega, ?_⟩
        simp (maxSteps := 1000000) (disch := first | omega | (simp only [gxorB_len, tagB_len, sealB_len, lnB] <;> omega) | fail) only [ev0, ev1, ev2, ev3, ↓reduceIte, reduceCtorEq, Nat.reduceAdd, Nat.reduceSub, Nat.reduceMul, Nat.reduceLT, Nat.reduceLeDiff, Nat.reduceEqDiff, Nat.reduceBEq, BitVec.reduceOfInt, Int.reduceLE, Int.reduceLT, Int.reduceGT, Int.reduceGE, Int.reduceNeg, Int.reduceAdd, Int.reduceSub, Int.reduceMul, Int.reduceToNat, ↓bind_go, ↓map_go, wantedV, isWrite, grow, write, ofV, AV.cells, Abs.start, Abs.strip, endQ, resV, rawsRes, rawRes, exports, export1, AS.grown, AS.put, Env.know, Env.boxed, isSelf, convSelf, convV, loadV, storeV, fieldAddrV, fieldV, indexAddrV, indexV, partV, isAggK, isStr, place, lenV, min2V, makeV, freshSl, sliceV, boundOr, bound, bounds, cutFl, copyV, slCells, srcV, appendV, room, zerosOf, eqNeg, kd, takeR, hasViewL, hasView, freshR, freshC, snapAll, snap, snapL, flatL, pureL, pureA, fillC, arrOK, oneA, partB, AV.laid, ren1, CR.gr, applyW, useL, AS.mute, isGen, startG, ev5, tbGj0, glob, Nat.reduceMod, hk, hn, e1, lT, hz2, hg, lG]
        exact ⟨rfl, rfl, i64_eq (by omega)⟩
      · rintro n' ⟨sl, gn, bx, us⟩ ⟨i, hi, rfl, s26, s12, s11, s10, s3, s4, s5, b11, b4, b5⟩
        dsimp only at s26 s12 s11 s10 s3 s4 s5 b11 b4 b5
        have hD : dfK g t z (i + 1) = dfK g t z i ||| (g.getD i 0#8 ^^^ t.getD (z + i) 0#8) := rfl
        by_cases h16' : i = 16
        · subst h16'
          have s26 : sl 26 = .raw (.int .i64 16) := s26
          by_cases hd : dfK g t z 16 = 0#8
          · rw [if_pos hd] at hE
            exact absurd hE hne
          · rw [if_neg hd] at hE
            have e2 : (((dfK g t z 16).toNat : Int) != 0) = true := by
              rw [bne_iff_ne]
              intro h
              exact hd (BitVec.eq_of_toNat_eq (by simpa using h))
            simp (maxSteps := 1000000) (disch := first | omega | (simp only [gxorB_len, tagB_len, sealB_len, lnB] <;> omega) | fail) only [ev0, ev1, ev2, ev3, ↓reduceIte, reduceCtorEq, Nat.reduceAdd, Nat.reduceSub, Nat.reduceMul, Nat.reduceLT, Nat.reduceLeDiff, Nat.reduceEqDiff, Nat.reduceBEq, BitVec.reduceOfInt, Int.reduceLE, Int.reduceLT, Int.reduceGT, Int.reduceGE, Int.reduceNeg, Int.reduceAdd, Int.reduceSub, Int.reduceMul, Int.reduceToNat, ↓bind_go, ↓map_go, wantedV, isWrite, grow, write, ofV, AV.cells, Abs.start, Abs.strip, endQ, resV, rawsRes, rawRes, exports, export1, AS.grown, AS.put, Env.know, Env.boxed, isSelf, convSelf, convV, loadV, storeV, fieldAddrV, fieldV, indexAddrV, indexV, partV, isAggK, isStr, place, lenV, min2V, makeV, freshSl, sliceV, boundOr, bound, bounds, cutFl, copyV, slCells, srcV, appendV, room, zerosOf, eqNeg, kd, takeR, hasViewL, hasView, freshR, freshC, snapAll, snap, snapL, flatL, pureL, pureA, fillC, arrOK, oneA, partB, AV.laid, ren1, CR.gr, applyW, useL, AS.mute, isGen, startG, ev5, tbGj0, glob, Nat.reduceMod, s26, s12, s11, s10, s3, s4, s5, b11, b4, b5, lG, hk, hn, lT, e2]
            exact ResQ.same rfl
        · have hlt : decide ((i : Int) < 16) = true := decide_eq_true (by omega)
          simp (maxSteps := 1000000) (disch := first | omega | (simp only [gxorB_len, tagB_len, sealB_len, lnB] <;> omega) | fail) only [ev0, ev1, ev2, ev3, ↓reduceIte, reduceCtorEq, Nat.reduceAdd, Nat.reduceSub, Nat.reduceMul, Nat.reduceLT, Nat.reduceLeDiff, Nat.reduceEqDiff, Nat.reduceBEq, BitVec.reduceOfInt, Int.reduceLE, Int.reduceLT, Int.reduceGT, Int.reduceGE, Int.reduceNeg, Int.reduceAdd, Int.reduceSub, Int.reduceMul, Int.reduceToNat, ↓bind_go, ↓map_go, wantedV, isWrite, grow, write, ofV, AV.cells, Abs.start, Abs.strip, endQ, resV, rawsRes, rawRes, exports, export1, AS.grown, AS.put, Env.know, Env.boxed, isSelf, convSelf, convV, loadV, storeV, fieldAddrV, fieldV, indexAddrV, indexV, partV, isAggK, isStr, place, lenV, min2V, makeV, freshSl, sliceV, boundOr, bound, bounds, cutFl, copyV, slCells, srcV, appendV, room, zerosOf, eqNeg, kd, takeR, hasViewL, hasView, freshR, freshC, snapAll, snap, snapL, flatL, pureL, pureA, fillC, arrOK, oneA, partB, AV.laid, ren1, CR.gr, applyW, useL, AS.mute, isGen, startG, ev5, tbGj0, glob, Nat.reduceMod, s26, s12, s11, s10, s3, s4, s5, b11, b4, b5, lG, hk, hn, lT, hlt]
          refine ⟨16 - (i + 1), by omega, i + 1, by omega, rfl, rfl, ?_⟩
          rw [hD]
    · cases hr
  · cases hr
noncomputable def EQO : Env := ((ES0.know 36 pf36).know 34 pf34).know 68 (fun xs => pr68 (xs.map norm))
theorem okQO : EnvOK Tryd.prog EQO := ((okS0.know (toS sound36)).know sound34).know (toS soundr68).norm
theorem EQO_te : EQO.te = te := rfl
theorem EQO_glob : EQO.glob = globS := rfl
theorem EQO_gs : EQO.gs = [] := rfl
theorem EQO_dyn : EQO.dyn = false := rfl
theorem EQO_mu (d : Nat) : EQO.mu d = false := rfl
theorem EQO_n : EQO.tbl 36 = some (.val pf36) := rfl
theorem EQO_k : EQO.tbl 34 = some (.val pf34) := rfl
theorem EQO_o : EQO.tbl 68 = some (.val (fun xs => pr68 (xs.map norm))) := rfl
theorem gopenr_at {k n : List (BitVec 8)} {m m' : Nat} {a b : List (BitVec 8)} {fl fl' : Fl} (hk : k.length = 32) (hn : n.length = 12) (hm : m = a.length) (hm' : m' = b.length) (ha : a.length ≤ 400000) (hb : b.length ≤ 400000) (h16 : 16 ≤ b.length) (hz : openE k n a b ≠ 0) : pr68 [.agg (nums .u8 k), .agg (nums .u8 n), .sl m (nums .u8 a) fl, .sl m' (nums .u8 b) fl'] = some (.tup [.raw (.slice none 0 0), .raw (.int .i64 40)]) := by
  have hc : a.length ≤ 400000 ∧ b.length ≤ 400000 ∧ 16 ≤ b.length ∧ openE k n a b ≠ 0 := ⟨ha, hb, h16, hz⟩
  simp only [pr68, agg?_at hk, agg?_at hn, row?_at hm, row?_at hm', Option.bind_some, if_pos hc]
noncomputable def pr41 : List AV → Option AV
  | [k, x, y, z, w] => (agg? .u8 8 32 k).bind fun m => (int? x).bind fun d => (int? y).bind fun t => (int? z).bind fun i => (row? .u8 8 w).bind fun b => if b.length ≤ 400000 ∧ 16 ≤ b.length ∧ argOK d t i ∧ voE m d t i b ≠ 0 then some (.tup [.raw (.slice none 0 0), .raw (.int .i64 40)]) else none
  | _ => none
theorem soundr41 : SoundV Tryd.prog globS 41 pr41 := by
  refine SoundV.walk EQO okQO mixed Tryd.func41 rfl Tryd.call41 (by kernel_rfl) ?_
  intro args r hr
  unfold pr41 at hr
  split at hr
  · rename_i k x y z w
    simp only [Option.bind_eq_some_iff] at hr
    obtain ⟨m, h0, d, h1, t, h2, i, h3, b, h4, hr⟩ := hr
    split at hr
    · rename_i hc
      obtain ⟨hl, h16, hb, hz⟩ := hc
      cases hr
      obtain ⟨rfl, hm⟩ := agg?_of h0
      obtain ⟨fl, rfl⟩ := row?_of h4
      rw [int?_of h1, int?_of h2, int?_of h3, Tryd.ntmps41, Tryd.results41]
      refine ⟨by simp, ?_⟩
      have e1 : nonceE d t i = 0 := if_pos hb
      have v1 : nonceV d t i = nonce d t i := if_pos hb
      have hz : openE (keyV m d) (nonce d t i) (nonce d t i) b ≠ 0 := hz
      simp (maxSteps := 1000000) (disch := first | omega | (simp only [nums_len, keyV_len, nonce_len, nonceV_len, lnB] <;> omega) | fail) only [ev0, ev1, ev2, ev3, ↓reduceIte, reduceCtorEq, Nat.reduceAdd, Nat.reduceSub, Nat.reduceMul, Nat.reduceLT, Nat.reduceLeDiff, Nat.reduceEqDiff, Nat.reduceBEq, BitVec.reduceOfInt, Int.reduceLE, Int.reduceLT, Int.reduceGT, Int.reduceGE, Int.reduceNeg, Int.reduceAdd, Int.reduceSub, Int.reduceMul, Int.reduceToNat, ↓bind_go, ↓map_go, wantedV, isWrite, grow, write, ofV, AV.cells, Abs.start, Abs.strip, endQ, resV, rawsRes, rawRes, exports, export1, AS.grown, AS.put, Env.know, Env.boxed, isSelf, convSelf, convV, loadV, storeV, fieldAddrV, fieldV, indexAddrV, indexV, partV, isAggK, isStr, place, lenV, min2V, makeV, freshSl, sliceV, boundOr, bound, bounds, cutFl, copyV, slCells, srcV, appendV, room, zerosOf, eqNeg, kd, takeR, hasViewL, hasView, freshR, freshC, snapAll, snap, snapL, flatL, pureL, pureA, fillC, arrOK, oneA, partB, AV.laid, ren1, CR.gr, applyW, useL, AS.mute, isGen, startG, ev5, teE, EQO_te, EQO_glob, EQO_gs, EQO_dyn, EQO_mu, EQO_n, EQO_k, EQO_o, nonce_at, key_at, gopenr_at, ns_strip, ns_set, globS, sp12, tk12, le12, sp32, tk32, nonce_len, nonceV_len, keyV_len, if_true, Int.reduceBEq, Int.reduceBNe, e1, v1, hm, hl, gopenr_at (keyV_len m d) (nonce_len d t i) (show 12 = (nonce d t i).length from rfl) rfl (by rw [nonce_len]; omega) hl h16 hz]
      exact ResQ.same rfl
    · cases hr
  · cases hr
/-- what is sealed, in a box; what stands beside in a box -/
def gmx43 (args : List AV) (bx : Boxes) (us : Abs.Id → Bool) : Option CR := match args with
  | [v, u, x, w] => (agg? .u8 8 32 v).bind fun k => (agg? .u8 8 12 u).bind fun n => (vw? bx x).bind fun a => (row? .u8 8 w).bind fun t => if a.length ≤ 400000 ∧ t.length ≤ 400000 then some { v := .ret (.view (.own 0 0 0) 0 (sealB k n a t).length (sealB k n a t).length 1), cont := some (nums .u8 (sealB k n a t)) } else none
  | _ => none
theorem soundMX43 : SoundG Tryd.prog glob 43 gmx43 := by
  refine SoundG.walk EM okM mixed Tryd.func43 rfl Tryd.call43 (by kernel_rfl) ?_
  intro args bx us cr hr
  unfold gmx43 at hr
  split at hr
  · rename_i v u x w
    simp only [Option.bind_eq_some_iff] at hr
    obtain ⟨k, h1, n, h2, a, h3, t, h4, hr⟩ := hr
    split at hr
    · rename_i hc
      obtain ⟨ha, ht⟩ := hc
      cases hr
      obtain ⟨rfl, hk⟩ := agg?_of h1
      obtain ⟨rfl, hn⟩ := agg?_of h2
      obtain ⟨fl, rfl⟩ := row?_of h4
      obtain ⟨r, cp, bb, rfl, hb, hbt, hle, hlc⟩ := vw?_of h3
      have hbs : (bx r).isSome := by rw [hb]; rfl
      rw [Tryd.ntmps43, Tryd.results43]
      refine ⟨by simp, fun L hlow hus hbf => ?_⟩
      have hbL := (hlow r hbs).1
      simp (maxSteps := 1000000) (disch := first | omega | (simp only [updB, updI, dsB, reduceCtorEq, Nat.reduceEqDiff, Abs.Id.mk.injEq, and_false, false_and, and_true, true_and, if_false, ↓reduceIte, Option.isSome_some, *]; done) | (simp only [gxorB_len, tagB_len, sealB_len, lnB] <;> omega) | fail) only [ev0, ev1, ev2, ev3, ↓reduceIte, reduceCtorEq, Nat.reduceAdd, Nat.reduceSub, Nat.reduceMul, Nat.reduceLT, Nat.reduceLeDiff, Nat.reduceEqDiff, Nat.reduceBEq, BitVec.reduceOfInt, Int.reduceLE, Int.reduceLT, Int.reduceGT, Int.reduceGE, Int.reduceNeg, Int.reduceAdd, Int.reduceSub, Int.reduceMul, Int.reduceToNat, ↓bind_go, ↓map_go, wantedV, isWrite, grow, write, ofV, AV.cells, Abs.start, Abs.strip, endQ, resV, rawsRes, rawRes, exports, export1, AS.grown, AS.put, Env.know, Env.boxed, isSelf, convSelf, convV, loadV, storeV, fieldAddrV, fieldV, indexAddrV, indexV, partV, isAggK, isStr, place, lenV, min2V, makeV, freshSl, sliceV, boundOr, bound, bounds, cutFl, copyV, slCells, srcV, appendV, room, zerosOf, eqNeg, kd, takeR, hasViewL, hasView, freshR, freshC, snapAll, snap, snapL, flatL, pureL, pureA, fillC, arrOK, oneA, partB, AV.laid, ren1, CR.gr, applyW, useL, AS.mute, isGen, startG, ev5, teE, EM_te, EM_glob, EM_gs, EM_dyn, EM_mu, EM_mu27, EM_x, EM_t, gxor_two, gtag_at, nums_strip, nums_set8, nums_ren, splice0, glob, Nat.reduceMod, tagB_len, gxorB_len, own_ne, own_ne', Bx.own.injEq, and_false, false_and, and_true, true_and, hk, hn, hb, hbt]
      change EndG _ _ _ _ _ _ _
      rw [sealB_len]
      refine EndG.new (b := .own L 27 1) [_] [_] rfl (.one (.newv _ _ _ _ _ rfl)) rfl rfl (fun b' h1 => ?_) updB_self ?_ (fun _ _ => rfl)
      · simp only [updB, own_ne h1, if_false]
      · exact ExpL.same ⟨lowL_pure _ (nums_pure _), nums_cells _⟩
    · cases hr
  · cases hr
theorem sealx_go {k n t : List (BitVec 8)} {r : Bx} {m c m' : Nat} {fl : Fl} {bx : Boxes} {us : Abs.Id → Bool} (hk : k.length = 32) (hn : n.length = 12) (hm : m' = t.length) (ht : t.length ≤ 400000) : gmx43 [.agg (nums .u8 k), .agg (nums .u8 n), .view r 0 m c 1, .sl m' (nums .u8 t) fl] bx us = (bx r).bind fun cs => (row? .u8 8 (.sl cs.length cs .bor)).bind fun b => if m ≤ b.length ∧ m ≤ c then if (b.take m).length ≤ 400000 then some { v := .ret (.view (.own 0 0 0) 0 (sealB k n (b.take m) t).length (sealB k n (b.take m) t).length 1), cont := some (nums .u8 (sealB k n (b.take m) t)) } else none else none := by
  simp only [gmx43, agg?_at hk, agg?_at hn, row?_at hm, Option.bind_some, vw?_is]
  cases bx r with
  | none => rfl
  | some cs =>
    simp only [Option.bind_some]
    cases row? .u8 8 (.sl cs.length cs .bor) with
    | none => rfl
    | some b =>
      simp only [Option.bind_some]
      by_cases h1 : m ≤ b.length ∧ m ≤ c
      · rw [if_pos h1, if_pos h1, Option.bind_some]
        by_cases h2 : (b.take m).length ≤ 400000
        · rw [if_pos h2, if_pos ⟨h2, ht⟩]
        · rw [if_neg h2, if_neg (fun h => h2 h.1)]
      · rw [if_neg h1, if_neg h1]; rfl
noncomputable def EGS : Env := ((ES0.know 36 pf36).know 34 pf34).knowG 43 gmx43
theorem okGS : EnvOK Tryd.prog EGS := ((okS0.know (toS sound36)).know sound34).knowG (toSG soundMX43)
theorem EGS_te : EGS.te = te := rfl
theorem EGS_glob : EGS.glob = globS := rfl
theorem EGS_gs : EGS.gs = [43] := rfl
theorem EGS_dyn : EGS.dyn = false := rfl
theorem EGS_mu (d : Nat) : EGS.mu d = false := rfl
theorem EGS_n : EGS.tbl 36 = some (.val pf36) := rfl
theorem EGS_k : EGS.tbl 34 = some (.val pf34) := rfl
theorem EGS_s : EGS.tbl 43 = some (.gen gmx43) := rfl
noncomputable def gw39 (args : List AV) (bx : Boxes) (us : Abs.Id → Bool) : Option CR := match args with
  | [k, x, y, z, w] => (agg? .u8 8 32 k).bind fun m => (int? x).bind fun d => (int? y).bind fun t => (int? z).bind fun i => (row? .u8 8 w).bind fun b => if b.length ≤ 400000 then
      (if argOK d t i then some { v := .ret (.tup [.view (.own 0 0 0) 0 (vsB m d t i b).length (vsB m d t i b).length 1, .raw (.int .i64 0)]), cont := some (nums .u8 (vsB m d t i b)) } else some { v := .ret (.tup [.sl 0 [] .bor, .raw (.int .i64 1)]) }) else none
  | _ => none
def tbGj3 := (And.intro (And.intro (And.intro (And.intro @teE (And.intro @EGS_te @EGS_glob)) (And.intro (And.intro @EGS_gs @EGS_dyn) (And.intro @EGS_mu @EGS_n))) (And.intro (And.intro @EGS_k (And.intro @EGS_s @nonce_at)) (And.intro (And.intro @key_at @sealx_go) (And.intro @row_n @row_n')))) (And.intro (And.intro (And.intro @row_12 (And.intro @tkn @nums_ren)) (And.intro (And.intro @ns_strip @ns_set) (And.intro @sp12 @tk12))) (And.intro (And.intro (And.intro @le12 @sp32) (And.intro @tk32 @nonce_len)) (And.intro (And.intro @nonceV_len @keyV_len) (And.intro @own_ne @own_ne')))))
theorem soundw39 : SoundG Tryd.prog globS 39 gw39 := by
  refine SoundG.walk EGS okGS mixed Tryd.func39 rfl Tryd.call39 (by kernel_rfl) ?_
  intro args bx us cr hr
  unfold gw39 at hr
  split at hr
  · rename_i k x y z w
    simp only [Option.bind_eq_some_iff] at hr
    obtain ⟨m, h0, d, h1, t, h2, i, h3, b, h4, hr⟩ := hr
    split at hr
    · rename_i hl
      obtain ⟨rfl, hm⟩ := agg?_of h0
      obtain ⟨fl, rfl⟩ := row?_of h4
      rw [int?_of h1, int?_of h2, int?_of h3, Tryd.ntmps39, Tryd.results39]
      refine ⟨by simp, fun L hlow hus hbf => ?_⟩
      by_cases hb : argOK d t i
      · rw [if_pos hb] at hr
        cases hr
        have e1 : nonceE d t i = 0 := if_pos hb
        have v1 : nonceV d t i = nonce d t i := if_pos hb
        have w1 : sealB (keyV m d) (nonce d t i) (nonce d t i) b = vsB m d t i b := rfl
        simp (maxSteps := 1000000) (disch := first | omega | (simp only [updB, updI, dsB, reduceCtorEq, Nat.reduceEqDiff, Abs.Id.mk.injEq, and_false, false_and, and_true, true_and, if_false, ↓reduceIte, Option.isSome_some, *]; done) | (simp only [nums_len, keyV_len, nonce_len, nonceV_len, sealB_len, lnB] <;> omega) | fail) only [ev0, ev1, ev2, ev3, ↓reduceIte, reduceCtorEq, Nat.reduceAdd, Nat.reduceSub, Nat.reduceMul, Nat.reduceLT, Nat.reduceLeDiff, Nat.reduceEqDiff, Nat.reduceBEq, BitVec.reduceOfInt, Int.reduceLE, Int.reduceLT, Int.reduceGT, Int.reduceGE, Int.reduceNeg, Int.reduceAdd, Int.reduceSub, Int.reduceMul, Int.reduceToNat, ↓bind_go, ↓map_go, wantedV, isWrite, grow, write, ofV, AV.cells, Abs.start, Abs.strip, endQ, resV, rawsRes, rawRes, exports, export1, AS.grown, AS.put, Env.know, Env.boxed, isSelf, convSelf, convV, loadV, storeV, fieldAddrV, fieldV, indexAddrV, indexV, partV, isAggK, isStr, place, lenV, min2V, makeV, freshSl, sliceV, boundOr, bound, bounds, cutFl, copyV, slCells, srcV, appendV, room, zerosOf, eqNeg, kd, takeR, hasViewL, hasView, freshR, freshC, snapAll, snap, snapL, flatL, pureL, pureA, fillC, arrOK, oneA, partB, AV.laid, ren1, CR.gr, applyW, useL, AS.mute, isGen, startG, ev5, tbGj3, Nat.le_refl, globS, if_true, Int.reduceBEq, Int.reduceBNe, Bx.own.injEq, and_false, false_and, and_true, true_and, e1, v1, hm, hl, w1]
        change EndG _ _ _ _ _ _ _
        refine EndG.new (b := .own L 36 1) [_, .raw (.int .i64 0)] [_, _] rfl (.cons (.newv _ _ _ _ _ rfl) (.cons (.raw _) .nil)) rfl rfl (fun b' h1 => ?_) updB_self ?_ (fun _ _ => rfl)
        · simp only [updB, own_ne h1, if_false]
        · exact ExpL.same ⟨lowL_pure _ (nums_pure _), nums_cells _⟩
      · rw [if_neg hb] at hr
        cases hr
        have e1 : nonceE d t i = 1 := if_neg hb
        simp (maxSteps := 1000000) (disch := first | omega | (simp only [updB, updI, dsB, reduceCtorEq, Nat.reduceEqDiff, Abs.Id.mk.injEq, and_false, false_and, and_true, true_and, if_false, ↓reduceIte, Option.isSome_some, *]; done) | (simp only [nums_len, keyV_len, nonce_len, nonceV_len, sealB_len, lnB] <;> omega) | fail) only [ev0, ev1, ev2, ev3, ↓reduceIte, reduceCtorEq, Nat.reduceAdd, Nat.reduceSub, Nat.reduceMul, Nat.reduceLT, Nat.reduceLeDiff, Nat.reduceEqDiff, Nat.reduceBEq, BitVec.reduceOfInt, Int.reduceLE, Int.reduceLT, Int.reduceGT, Int.reduceGE, Int.reduceNeg, Int.reduceAdd, Int.reduceSub, Int.reduceMul, Int.reduceToNat, ↓bind_go, ↓map_go, wantedV, isWrite, grow, write, ofV, AV.cells, Abs.start, Abs.strip, endQ, resV, rawsRes, rawRes, exports, export1, AS.grown, AS.put, Env.know, Env.boxed, isSelf, convSelf, convV, loadV, storeV, fieldAddrV, fieldV, indexAddrV, indexV, partV, isAggK, isStr, place, lenV, min2V, makeV, freshSl, sliceV, boundOr, bound, bounds, cutFl, copyV, slCells, srcV, appendV, room, zerosOf, eqNeg, kd, takeR, hasViewL, hasView, freshR, freshC, snapAll, snap, snapL, flatL, pureL, pureA, fillC, arrOK, oneA, partB, AV.laid, ren1, CR.gr, applyW, useL, AS.mute, isGen, startG, ev5, tbGj3, Nat.le_refl, globS, if_true, Int.reduceBEq, Int.reduceBNe, Bx.own.injEq, and_false, false_and, and_true, true_and, e1, hm]
        change EndG _ _ _ _ _ _ _
        exact EndG.r0 [.raw (.slice none 0 0), .raw (.int .i64 1)] [_, _] rfl (.cons .nilb (.cons (.raw _) .nil)) rfl (fun b hb' => by simp only [updB, own_ne hb', if_false]) (fun _ _ => rfl)
    · cases hr
  · cases hr
end Go.Proofs.YtddeffdgldjdjaaDoor
