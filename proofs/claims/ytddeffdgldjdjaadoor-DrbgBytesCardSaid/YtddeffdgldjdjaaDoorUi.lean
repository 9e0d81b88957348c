/- A copy; what is appended to a copy: noughts up to sixteen bytes. -/
import Derived.Test.YtddeffdgldjdjaaDoorUh
namespace Go.Proofs.YtddeffdgldjdjaaDoor
set_option linter.unusedSimpArgs false
set_option linter.unusedVariables false
set_option linter.defProp false
open Go Go.Abs
set_option maxHeartbeats 4000000
def pf90 : List AV → Option AV
  | [v] => (row? .u8 8 v).bind fun m => if m.length ≤ 150000000000000 then some (.sl m.length (nums .u8 m) (.own ⟨0, 0, 0, 0⟩ 1)) else none
  | _ => none
theorem clone_at {n : Nat} {m : List (BitVec 8)} {fl : Fl} (h : n = m.length) (h2 : m.length ≤ 150000000000000) : pf90 [.sl n (nums .u8 m) fl] = some (.sl m.length (nums .u8 m) (.own ⟨0, 0, 0, 0⟩ 1)) := by
  simp only [pf90, row?_at h, Option.bind_some, if_pos h2]
def tbUi0 := (And.intro (And.intro @teE (And.intro @E0_te @E0_glob)) (And.intro @E0_gs (And.intro @E0_dyn @E0_mu)))
theorem sound90 : SoundV Tryd.prog glob 90 pf90 := by
  refine SoundV.walk E0 ok0 mixed Tryd.func90 rfl Tryd.call90 (by kernel_rfl) ?_
  intro args r h
  unfold pf90 at h
  split at h
  · simp only [Option.bind_eq_some_iff] at h
    obtain ⟨m, h1, h2⟩ := h
    split at h2
    · rename_i hm
      cases h2
      obtain ⟨fl, rfl⟩ := row?_of h1
      rw [Tryd.ntmps90, Tryd.results90]
      refine ⟨by simp, ?_⟩
      by_cases h0 : m.length = 0
      · simp (maxSteps := 1000000) (disch := first | omega | (simp only [nums_len, lnB] <;> omega) | fail) only [ev0, ev1, ev2, ev3, ↓reduceIte, reduceCtorEq, Nat.reduceAdd, Nat.reduceSub, Nat.reduceMul, Nat.reduceLT, Nat.reduceLeDiff, Nat.reduceEqDiff, Nat.reduceBEq, BitVec.reduceOfInt, Int.reduceLE, Int.reduceLT, Int.reduceGT, Int.reduceGE, Int.reduceNeg, Int.reduceAdd, Int.reduceSub, Int.reduceMul, Int.reduceToNat, ↓bind_go, ↓map_go, wantedV, isWrite, grow, write, ofV, AV.cells, Abs.start, Abs.strip, endQ, resV, rawsRes, rawRes, exports, export1, AS.grown, AS.put, Env.know, Env.boxed, isSelf, convSelf, convV, loadV, storeV, fieldAddrV, fieldV, indexAddrV, indexV, partV, isAggK, isStr, place, ipS, lenV, min2V, makeV, freshSl, sliceV, boundOr, bound, bounds, cutFl, copyV, slCells, srcV, appendV, room, zerosOf, eqNeg, kd, takeR, hasViewL, hasView, freshR, freshC, snapAll, snap, snapL, flatL, pureL, pureA, fillC, arrOK, oneA, partB, AV.laid, ren1, CR.gr, applyW, useL, AS.mute, isGen, startG, ev5, tbUi0, glob, h0]
        have : m = [] := List.eq_nil_of_length_eq_zero h0
        subst this
        exact ⟨ResQ.nil 1, ResQ.same rfl⟩
      · simp (maxSteps := 1000000) (disch := first | omega | (simp only [nums_len, lnB] <;> omega) | fail) only [ev0, ev1, ev2, ev3, ↓reduceIte, reduceCtorEq, Nat.reduceAdd, Nat.reduceSub, Nat.reduceMul, Nat.reduceLT, Nat.reduceLeDiff, Nat.reduceEqDiff, Nat.reduceBEq, BitVec.reduceOfInt, Int.reduceLE, Int.reduceLT, Int.reduceGT, Int.reduceGE, Int.reduceNeg, Int.reduceAdd, Int.reduceSub, Int.reduceMul, Int.reduceToNat, ↓bind_go, ↓map_go, wantedV, isWrite, grow, write, ofV, AV.cells, Abs.start, Abs.strip, endQ, resV, rawsRes, rawRes, exports, export1, AS.grown, AS.put, Env.know, Env.boxed, isSelf, convSelf, convV, loadV, storeV, fieldAddrV, fieldV, indexAddrV, indexV, partV, isAggK, isStr, place, ipS, lenV, min2V, makeV, freshSl, sliceV, boundOr, bound, bounds, cutFl, copyV, slCells, srcV, appendV, room, zerosOf, eqNeg, kd, takeR, hasViewL, hasView, freshR, freshC, snapAll, snap, snapL, flatL, pureL, pureA, fillC, arrOK, oneA, partB, AV.laid, ren1, CR.gr, applyW, useL, AS.mute, isGen, startG, ev5, tbUi0, glob, h0]
        exact ResQ.same rfl
    · cases h2
  · cases h

def cloneMu (d : Nat) : Bool := d == 5 || d == 7
def EC : Env := E0.boxed cloneMu
theorem okC : EnvOK Tryd.prog EC := ok0.boxed _
theorem EC_te : EC.te = te := rfl
theorem EC_glob : EC.glob = glob := rfl
theorem EC_mu5 : EC.mu 5 = true := rfl
theorem EC_mu7 : EC.mu 7 = true := rfl
theorem EC_gs : EC.gs = [] := rfl
theorem EC_dyn : EC.dyn = false := rfl
theorem nums_cells {L : Nat} (l : List (BitVec 8)) : ∀ x ∈ nums .u8 l, (∀ n ys i z, x = .sl n ys (.own i z) → i.lvl < L ∧ i.gen ≠ 0) ∧ ∀ vs, x ≠ .tup vs := by
  intro x hx
  simp only [nums, List.mem_map] at hx
  obtain ⟨_, _, rfl⟩ := hx
  exact ⟨fun _ _ _ _ h => (by cases h), fun _ h => (by cases h)⟩
/-- a copy that is one's own -/
def gm90 (args : List AV) (bx : Boxes) (us : Abs.Id → Bool) : Option CR := match args with
  | [v] => (row? .u8 8 v).bind fun m => if m.length ≤ 150000000000000 then
      if m.length = 0 then some { v := .ret (.sl 0 [] .bor) } else some { v := .ret (.view (.own 0 0 0) 0 m.length m.length 1), cont := some (nums .u8 m) } else none
  | _ => none
def tbUi1 := (And.intro (And.intro @teE (And.intro @EC_te @EC_glob)) (And.intro (And.intro @EC_gs @EC_dyn) (And.intro @EC_mu5 @EC_mu7)))
theorem soundM90 : SoundG Tryd.prog glob 90 gm90 := by
  refine SoundG.walk EC okC mixed Tryd.func90 rfl Tryd.call90 (by kernel_rfl) ?_
  intro args bx us cr hr
  unfold gm90 at hr
  split at hr
  · simp only [Option.bind_eq_some_iff] at hr
    obtain ⟨m, h1, hr⟩ := hr
    split at hr
    · rename_i hm
      obtain ⟨fl, rfl⟩ := row?_of h1
      rw [Tryd.ntmps90, Tryd.results90]
      split at hr
      · rename_i h0
        cases hr
        have : m = [] := List.eq_nil_of_length_eq_zero h0
        subst this
        refine ⟨by simp, fun L hlow hus hbf => ?_⟩
        simp (maxSteps := 1000000) (disch := first | omega | (simp only [nums_len, lnB] <;> omega) | fail) only [ev0, ev1, ev2, ev3, ↓reduceIte, reduceCtorEq, Nat.reduceAdd, Nat.reduceSub, Nat.reduceMul, Nat.reduceLT, Nat.reduceLeDiff, Nat.reduceEqDiff, Nat.reduceBEq, BitVec.reduceOfInt, Int.reduceLE, Int.reduceLT, Int.reduceGT, Int.reduceGE, Int.reduceNeg, Int.reduceAdd, Int.reduceSub, Int.reduceMul, Int.reduceToNat, ↓bind_go, ↓map_go, wantedV, isWrite, grow, write, ofV, AV.cells, Abs.start, Abs.strip, endQ, resV, rawsRes, rawRes, exports, export1, AS.grown, AS.put, Env.know, Env.boxed, isSelf, convSelf, convV, loadV, storeV, fieldAddrV, fieldV, indexAddrV, indexV, partV, isAggK, isStr, place, ipS, lenV, min2V, makeV, freshSl, sliceV, boundOr, bound, bounds, cutFl, copyV, slCells, srcV, appendV, room, zerosOf, eqNeg, kd, takeR, hasViewL, hasView, freshR, freshC, snapAll, snap, snapL, flatL, pureL, pureA, fillC, arrOK, oneA, partB, AV.laid, ren1, CR.gr, applyW, useL, AS.mute, isGen, startG, ev5, tbUi1, glob]
        refine ⟨?_, ?_⟩
        · change EndG _ _ _ _ _ _ _
          exact EndG.r0 [_] [_] rfl (.one .nilb) rfl (fun _ _ => rfl) (fun _ _ => rfl)
        · change EndG _ _ _ _ _ _ _
          exact EndG.r0 [_] [_] rfl (.one (.bor _ _ _ trivial)) rfl (fun _ _ => rfl) (fun _ _ => rfl)
      · rename_i h0
        cases hr
        refine ⟨by simp, fun L hlow hus hbf => ?_⟩
        simp (maxSteps := 1000000) (disch := first | omega | (simp only [nums_len, lnB] <;> omega) | fail) only [ev0, ev1, ev2, ev3, ↓reduceIte, reduceCtorEq, Nat.reduceAdd, Nat.reduceSub, Nat.reduceMul, Nat.reduceLT, Nat.reduceLeDiff, Nat.reduceEqDiff, Nat.reduceBEq, BitVec.reduceOfInt, Int.reduceLE, Int.reduceLT, Int.reduceGT, Int.reduceGE, Int.reduceNeg, Int.reduceAdd, Int.reduceSub, Int.reduceMul, Int.reduceToNat, ↓bind_go, ↓map_go, wantedV, isWrite, grow, write, ofV, AV.cells, Abs.start, Abs.strip, endQ, resV, rawsRes, rawRes, exports, export1, AS.grown, AS.put, Env.know, Env.boxed, isSelf, convSelf, convV, loadV, storeV, fieldAddrV, fieldV, indexAddrV, indexV, partV, isAggK, isStr, place, ipS, lenV, min2V, makeV, freshSl, sliceV, boundOr, bound, bounds, cutFl, copyV, slCells, srcV, appendV, room, zerosOf, eqNeg, kd, takeR, hasViewL, hasView, freshR, freshC, snapAll, snap, snapL, flatL, pureL, pureA, fillC, arrOK, oneA, partB, AV.laid, ren1, CR.gr, applyW, useL, AS.mute, isGen, startG, ev5, tbUi1, glob, h0]
        change EndG _ _ _ _ _ _ _
        refine EndG.new (b := .own L 7 1) [_] [_] rfl (.one (.newv _ _ _ _ _ rfl)) rfl rfl (fun b' h1 => ?_) updB_self ?_ (fun _ _ => rfl)
        · simp only [updB, own_ne h1, if_false]
        · rw [nums_strip]
          exact ExpL.same ⟨lowL_pure _ (nums_pure _), nums_cells _⟩
    · cases hr
  · cases hr

/-- a room is used up, and nothing else -/
theorem EndG.r0u {te : TypeId → Option TI} {rs : List ResultVar} {L : Nat} {bx : Boxes} {us : Abs.Id → Bool} {r : AV} {σ : AS} {use : List Abs.Id} (xp : List (Nat × Abs.Id)) (vs rv : List AV) (h1 : rawsRes te σ rs = some vs) (h2 : ExpL σ L xp none vs rv) (h3 : r = tupOf rv)
    (hxp : (xp.map (·.1)).Nodup ∧ (xp.map (·.2)).Nodup ∧ ∀ q ∈ xp, q.2.lvl = L ∧ σ.used q.2 = false) (hw : ∀ b, b.lvl < L → σ.box b = bx b) (hu : ∀ i, i.lvl < L → σ.used i = useL us use i) (hul : ∀ i ∈ use, i.lvl < L) : EndG te rs L bx us { v := .ret r, use := use } σ :=
  ⟨⟨xp, none, vs, rv, h1, h2, by rw [h3], hxp.1, hxp.2.1, hxp.2.2, wr_none (xp := xp) (bn := none) hw, wl_none, rfl, hu, hul⟩⟩
def padN (n : Nat) : Nat := (16 - n % 16) % 16
def padB (b : List (BitVec 8)) : List (BitVec 8) := b ++ List.replicate (padN b.length) 0#8
open Classical in
/-- bytes that are one's own, and to which may be laid -/
noncomputable def gf101 (args : List AV) (bx : Boxes) (us : Abs.Id → Bool) : Option CR := match args with
  | [.sl n xs (.own i 1)] => (row? .u8 8 (.sl n xs .bor)).bind fun m => if m.length ≤ 1000000 ∧ us i = false ∧ ∃ b, (bx b).isSome = true ∧ i.lvl ≤ b.lvl then some { v := .ret (.sl (padB m).length (nums .u8 (padB m)) (.own ⟨0, 0, 0, 0⟩ 1)), use := [i] } else none
  | _ => none
theorem sound101 : SoundG Tryd.prog glob 101 gf101 := by
  refine SoundG.walk E0 ok0 mixed Tryd.func101 rfl Tryd.call101 (by kernel_rfl) ?_
  intro args bx us cr hr
  unfold gf101 at hr
  split at hr
  · rename_i n xs i
    simp only [Option.bind_eq_some_iff] at hr
    obtain ⟨m, h1, hr⟩ := hr
    split at hr
    · rename_i hc
      obtain ⟨hm, hu, b0, hb0, hi⟩ := hc
      obtain ⟨fl, h2⟩ := row?_of h1
      cases h2
      cases hr
      rw [Tryd.ntmps101, Tryd.results101]
      refine ⟨by simp, fun L hlow hus hbf => ?_⟩
      simp (maxSteps := 1000000) (disch := first | omega | (simp only [nums_len, lnB] <;> omega) | fail) only [ev0, ev1, ev2, ev3, ↓reduceIte, reduceCtorEq, Nat.reduceAdd, Nat.reduceSub, Nat.reduceMul, Nat.reduceLT, Nat.reduceLeDiff, Nat.reduceEqDiff, Nat.reduceBEq, BitVec.reduceOfInt, Int.reduceLE, Int.reduceLT, Int.reduceGT, Int.reduceGE, Int.reduceNeg, Int.reduceAdd, Int.reduceSub, Int.reduceMul, Int.reduceToNat, ↓bind_go, ↓map_go, wantedV, isWrite, grow, write, ofV, AV.cells, Abs.start, Abs.strip, endQ, resV, rawsRes, rawRes, exports, export1, AS.grown, AS.put, Env.know, Env.boxed, isSelf, convSelf, convV, loadV, storeV, fieldAddrV, fieldV, indexAddrV, indexV, partV, isAggK, isStr, place, ipS, lenV, min2V, makeV, freshSl, sliceV, boundOr, bound, bounds, cutFl, copyV, slCells, srcV, appendV, room, zerosOf, eqNeg, kd, takeR, hasViewL, hasView, freshR, freshC, snapAll, snap, snapL, flatL, pureL, pureA, fillC, arrOK, oneA, partB, AV.laid, ren1, CR.gr, applyW, useL, AS.mute, isGen, startG, ev5, teE, E0_te, E0_glob, E0_gs, E0_dyn, E0_mu, glob, own_ne, own_ne', Bx.own.injEq, and_false, false_and, and_true, true_and, hu]
      change EndG _ _ _ _ _ _ _
      have hiL : i.lvl < L := Nat.lt_of_le_of_lt hi (hlow b0 hb0).1
      have hln : (padB m).length = m.length + (16 - m.length % 16) % 16 := by simp only [padB, padN, List.length_append, List.length_replicate]
      have hne : ∀ q : Abs.Id, q.lvl = L → updI us i q = us q := fun q hq => by
        unfold updI
        rw [if_neg]
        rintro rfl
        omega
      refine EndG.r0u [(0, ⟨L, 9, 0, 1⟩)] [_] [_] rfl (.one ?_) rfl (xp_one rfl ?_) (fun _ _ => rfl) ?_ ?_
      · rw [hln]
        exact .give _ _ _ _ 0 (lowL_pure _ (nums_pure _)) (by simp)
      · refine (hne _ rfl).trans ?_
        cases hq : us ⟨L, 9, 0, 1⟩ with
        | false => rfl
        | true => exact absurd (hus _ hq) (Nat.lt_irrefl _)
      · exact fun q hq => rfl
      · exact fun q hq => by simp only [List.mem_singleton] at hq; subst hq; exact hiL
    · cases hr
  · cases hr
end Go.Proofs.YtddeffdgldjdjaaDoor
