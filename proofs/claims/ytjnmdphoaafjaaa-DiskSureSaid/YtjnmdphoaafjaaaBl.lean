/- DiskFuse: what the walk comes to. -/
import Derived.Test.YtjnmdphoaafjaaaBj
import Derived.Test.YtjnmdphoaafjaaaBk
import Derived.Test.YtjnmdphoaafjaaaM3
namespace Go.Proofs.Ytjnmdphoaafjaaa
set_option linter.unusedSimpArgs false
set_option linter.unusedVariables false
set_option linter.defProp false
open Go Go.Abs
set_option maxHeartbeats 16000000
/-- a call of a disk -/
structure Opx where
  kind : Int
  f : Int
  n : Int
  b : List (BitVec 8)
  keep : List Int
def opA (o : Opx) : List AV := [.raw (.int .i64 o.kind), .raw (.int .i64 o.f), .raw (.int .i64 o.n), .sl o.b.length (nums .u8 o.b) .bor, .sl o.keep.length (ints .i64 o.keep) .bor]
theorem opA_len (o : Opx) : (opA o).length = 5 := rfl
def okOp (o : Opx) : Prop := i64ok o.kind ∧ i64ok o.f ∧ i64ok o.n ∧ o.b.length ≤ 9223372036854775807 ∧ o.keep.length ≤ 9223372036854775807 ∧ ∀ x ∈ o.keep, i64ok x
def opsA (l : List Opx) : List AV := l.flatMap opA
noncomputable def ops? (v : AV) : Option (List Opx) := open Classical in if h : ∃ l fl, v = .sl l.length (opsA l) fl ∧ ∀ o ∈ l, okOp o then some h.choose else none
theorem ops?_of {v : AV} {l : List Opx} (h : ops? v = some l) : ∃ fl, v = .sl l.length (opsA l) fl ∧ ∀ o ∈ l, okOp o := by
  unfold ops? at h
  split at h
  · rename_i h0; cases h; exact h0.choose_spec
  · cases h
theorem ops?_at {l : List Opx} {fl : Fl} (h : ∀ o ∈ l, okOp o) : ∃ m, ops? (.sl l.length (opsA l) fl) = some m := by
  have h0 : ∃ m fl', (.sl l.length (opsA l) fl : AV) = .sl m.length (opsA m) fl' ∧ ∀ o ∈ m, okOp o := ⟨l, fl, rfl, h⟩
  unfold ops?
  rw [dif_pos h0]
  exact ⟨_, rfl⟩
theorem opsA_len (l : List Opx) : (opsA l).length = l.length * 5 := by
  induction l with
  | nil => rfl
  | cons o l ih =>
    rw [opsA, List.flatMap_cons, List.length_append]
    rw [opsA] at ih
    rw [ih, opA_len, List.length_cons]; omega
theorem opsA_at (l : List Opx) (i : Nat) (h : i < l.length) : ((opsA l).drop (i * 5)).take 5 = opA l[i] := flat_at opA opA_len l i h
theorem kindF_lt {c n : Int} (hn : 0 < n) (hc : i64ok c) : 0 ≤ kindF c n ∧ kindF c n < n := by
  unfold i64ok at hc
  unfold kindF
  have h0 : 0 ≤ (if c < 0 then -(c + 1) else c) := by split <;> omega
  exact ⟨Int.tmod_nonneg _ h0, Int.tmod_lt_of_pos _ hn⟩
theorem boot_nil {d : Dk} (h4 : d.fs.length = 4) (hw : bootOK d) {b : Bx} {bx : Boxes} {us : Abs.Id → Bool} (hb : bx b = some (enc d)) : gf28 [.ptr b 0, .sl 0 [] .bor] bx us = some { v := .ret (.tup []), wr := [(b, enc (bootD d []))] } :=
  boot_go (l := []) h4 hw (by simp) hb rfl
noncomputable def E8 : Env := E7.knowG 28 (fun args bx us => gf28 (args.map norm) bx us)
theorem ok8 : EnvOK Try.prog E8 := ok7.knowG sound28.norm
theorem E8_te : E8.te = te := rfl
theorem E8_glob : E8.glob = glob := rfl
theorem E8_mu (d : Nat) : E8.mu d = false := rfl
theorem E8_gs : E8.gs = [28, 30, 32, 33, 28, 29, 27, 31, 24, 23] := rfl
theorem E8_dyn : E8.dyn = false := rfl
theorem E8_few : E8.tbl 25 = some (.val pf25) := rfl
theorem E8_kind : E8.tbl 26 = some (.val pf26) := rfl
theorem E8_new : E8.tbl 23 = some (.gen gf23) := rfl
theorem E8_ap : E8.tbl 24 = some (.gen gf24) := rfl
theorem E8_cut : E8.tbl 31 = some (.gen gf31) := rfl
theorem E8_sync : E8.tbl 27 = some (.gen gf27) := rfl
theorem E8_read : E8.tbl 29 = some (.gen gf29) := rfl
theorem E8_boot : E8.tbl 28 = some (.gen (fun args bx us => gf28 (args.map norm) bx us)) := rfl
theorem E8_on : E8.tbl 33 = some (.gen gf33) := rfl
theorem E8_steps : E8.tbl 32 = some (.gen gf32) := rfl
theorem E8_fuse : E8.tbl 30 = some (.gen gf30) := rfl
theorem E8_shown : E8.tbl 22 = some (.val pf22) := rfl
theorem norm_ptr {b : Bx} {o : Nat} : norm (.ptr b o) = .ptr b o := rfl
theorem q10 : ((1 : Int) == 0) = false := rfl
theorem q20 : ((2 : Int) == 0) = false := rfl
theorem q21 : ((2 : Int) == 1) = false := rfl
theorem q50 : ((5 : Int) == 0) = false := rfl
theorem q55 : ((5 : Int) != 5) = false := rfl
theorem n50 : ((5 : Int) != 0) = true := rfl
noncomputable def pf4 : List AV → Option AV
  | [.raw (.int .i64 n), v] => (ops? v).bind fun l => if i64ok n then some (.raw (.bool true)) else none
  | _ => none
def tbBl0 := (And.intro (And.intro (And.intro (And.intro @teE (And.intro @E8_te @E8_glob)) (And.intro @E8_gs (And.intro @E8_dyn @E8_mu))) (And.intro (And.intro @E8_few (And.intro @E8_kind @E8_new)) (And.intro @E8_ap (And.intro @E8_cut @E8_sync)))) (And.intro (And.intro (And.intro @E8_read (And.intro @E8_boot @E8_on)) (And.intro @E8_steps (And.intro @E8_fuse @E8_shown))) (And.intro (And.intro @shown_at (And.intro @norm_ptr @kind_at)) (And.intro @new_go (And.intro @enc_ren @newD_ren)))))
set_option maxRecDepth 20000 in
theorem sound4 : SoundV Try.prog glob 4 pf4 := by
  refine SoundV.walk E8 ok8 mixed Try.func4 rfl Try.call4 (by kernel_rfl) ?_
  intro args r h
  unfold pf4 at h
  split at h
  · rename_i n v
    simp only [Option.bind_eq_some_iff] at h
    obtain ⟨l, hl, h⟩ := h
    split at h
    · rename_i hn
      cases h
      obtain ⟨fl, rfl, hok⟩ := ops?_of hl
      rw [Try.ntmps4, Try.results4]
      refine ⟨by simp, ?_⟩
      obtain ⟨hk0, hk1⟩ := kindF_lt (n := 40) (by omega) hn
      obtain ⟨k, hk⟩ := Int.eq_ofNat_of_zero_le hk0
      have hk40 : k < 40 := by omega
      have lL := opsA_len l
      have fgo := fun {b : Bx} {bx : Boxes} {us : Abs.Id → Bool} (hb : bx b = some (enc newD)) => fuse_go (d := newD) (n := (k : Int)) rfl (us := us) hb
      have fren : (fuseD newD (k : Int)).ren 0 24 1 = fuseD newD (k : Int) := (fuseD_okD (newD_okD 1)).ren 0 24 1
      simp (maxSteps := 1000000) (disch := first | omega | (simp only [updB, updI, useL, Abs.Id.mk.injEq, Bx.own.injEq, reduceCtorEq, Nat.reduceEqDiff, and_true, true_and, and_false, false_and, if_true, if_false, *]; done) | (simp only [nums_len, nums_len, ints_len, List.length_cons, List.length_nil, List.length_append, List.length_take, List.length_drop, List.length_replicate, List.length_set, List.length_map] <;> omega) | fail) only [ev0, ev1, ev2, ev3, ↓reduceIte, reduceCtorEq, Nat.reduceAdd, Nat.reduceSub, Nat.reduceMul, Nat.reduceLT, Nat.reduceLeDiff, Nat.reduceEqDiff, Nat.reduceBEq, BitVec.reduceOfInt, Int.reduceLE, Int.reduceLT, Int.reduceGT, Int.reduceGE, Int.reduceNeg, Int.reduceAdd, Int.reduceSub, Int.reduceMul, Int.reduceToNat, ↓bind_go, ↓map_go, wantedV, isWrite, grow, write, ofV, AV.cells, Abs.start, Abs.strip, endQ, resV, rawsRes, rawRes, exports, export1, AS.grown, AS.put, Env.know, Env.boxed, isSelf, convSelf, convV, loadV, storeV, fieldAddrV, fieldV, indexAddrV, indexV, partV, isAggK, isStr, place, lenV, min2V, makeV, freshSl, sliceV, boundOr, bound, bounds, cutFl, copyV, slCells, srcV, appendV, room, zerosOf, eqNeg, kd, takeR, hasViewL, hasView, freshR, freshC, snapAll, snap, snapL, flatL, pureL, pureA, fillC, arrOK, oneA, partB, AV.laid, ren1, CR.gr, applyW, useL, AS.mute, isGen, startG, ev5, tbBl0, Bool.true_or, Bool.or_true, glob, Bx.own.injEq, and_false, false_and, and_true, true_and, List.drop_succ_cons, List.drop_zero, List.drop_nil, hk, fgo, fren]
      refine loopQ_fut _ (Wk.refl _) (fun m σ => ∃ (i done : Nat) (d : Dk), i ≤ 60 ∧ i ≤ l.length ∧ m = 60 - i ∧ done ≤ k ∧ σ.slots 9 = .raw (.int .i64 (i : Int)) ∧ σ.slots 8 = .raw (.int .i64 (done : Int)) ∧ σ.slots 7 = .raw (.int .i64 (k : Int)) ∧ σ.slots 6 = .ptr (.own 0 13 1) 0 ∧ σ.slots 1 = .sl l.length (opsA l) .bor ∧ σ.box (.own 0 13 1) = some (enc d) ∧ DI σ.used (101 * i) d ∧ d.steps = (done : Int) ∧ d.burns = true ∧ d.left = (k : Int) - (done : Int) ∧ (d.off = true → done = k)) 60 ?_ ?_
      · refine ⟨0, 0, fuseD newD (k : Int), by omega, by omega, by omega, by omega, ?_⟩
        simp (maxSteps := 1000000) (disch := first | omega | (simp only [updB, updI, useL, Abs.Id.mk.injEq, Bx.own.injEq, reduceCtorEq, Nat.reduceEqDiff, and_true, true_and, and_false, false_and, if_true, if_false, *]; done) | (simp only [nums_len, nums_len, ints_len, List.length_cons, List.length_nil, List.length_append, List.length_take, List.length_drop, List.length_replicate, List.length_set, List.length_map] <;> omega) | fail) only [ev0, ev1, ev2, ev3, ↓reduceIte, reduceCtorEq, Nat.reduceAdd, Nat.reduceSub, Nat.reduceMul, Nat.reduceLT, Nat.reduceLeDiff, Nat.reduceEqDiff, Nat.reduceBEq, BitVec.reduceOfInt, Int.reduceLE, Int.reduceLT, Int.reduceGT, Int.reduceGE, Int.reduceNeg, Int.reduceAdd, Int.reduceSub, Int.reduceMul, Int.reduceToNat, ↓bind_go, ↓map_go, wantedV, isWrite, grow, write, ofV, AV.cells, Abs.start, Abs.strip, endQ, resV, rawsRes, rawRes, exports, export1, AS.grown, AS.put, Env.know, Env.boxed, isSelf, convSelf, convV, loadV, storeV, fieldAddrV, fieldV, indexAddrV, indexV, partV, isAggK, isStr, place, lenV, min2V, makeV, freshSl, sliceV, boundOr, bound, bounds, cutFl, copyV, slCells, srcV, appendV, room, zerosOf, eqNeg, kd, takeR, hasViewL, hasView, freshR, freshC, snapAll, snap, snapL, flatL, pureL, pureA, fillC, arrOK, oneA, partB, AV.laid, ren1, CR.gr, applyW, useL, AS.mute, isGen, startG, ev5, tbBl0, Bool.true_or, Bool.or_true, glob, Bx.own.injEq, and_false, false_and, and_true, true_and, List.drop_succ_cons, List.drop_zero, List.drop_nil]
        refine ⟨rfl, rfl, (DI.new _).fuse (by omega), rfl, ?_, (by show (k : Int) = (k : Int) - ((0 : Nat) : Int); omega), fun h => by cases h⟩
        show decide ((k : Int) ≥ 0) = true
        exact decide_eq_true (by omega)
      · rintro m ⟨sl, gn, bx, us⟩ ⟨i, done, d, hi, hil, rfl, hdk, s9, s8, s7, s6, s1, bd, hD, hst, hbu, hle, hof⟩ hfut
        have fresh51 := hD.fresh hfut bd (s := 51) (g := gn 51 + 1) (Nat.lt_succ_self _)
        have fresh65 := hD.fresh hfut bd (s := 65) (g := gn 65 + 1) (Nat.lt_succ_self _)
        dsimp only at s9 s8 s7 s6 s1 bd hD fresh51 fresh65
        by_cases hgo : i < l.length ∧ i < 60
        · have e1 : decide ((i : Int) < (l.length : Int)) = true := decide_eq_true (by omega)
          have e2 : decide ((i : Int) < 60) = true := decide_eq_true (by omega)
          obtain ⟨o, ho⟩ : ∃ o, l[i]'(hgo.1) = o := ⟨_, rfl⟩
          have hop : List.take 5 (List.drop (i * 5) (opsA l)) = [.raw (.int .i64 o.kind), .raw (.int .i64 o.f), .raw (.int .i64 o.n), .sl o.b.length (nums .u8 o.b) .bor, .sl o.keep.length (ints .i64 o.keep) .bor] := by
            rw [opsA_at l i hgo.1, ho]; rfl
          obtain ⟨o1, o2, o3, o4, o5, o6⟩ := hok o (by rw [← ho]; exact List.getElem_mem _)
          obtain ⟨f0, f1⟩ := kindF_lt (n := 4) (by omega) o2
          obtain ⟨q, hq⟩ := Int.eq_ofNat_of_zero_le f0
          have hq4 : q < 4 := by omega
          obtain ⟨g0, g1⟩ := kindF_lt (n := 3) (by omega) o1
          obtain ⟨t, ht⟩ : ∃ t, o.b.take 100 = t := ⟨_, rfl⟩
          have lt : t.length ≤ 100 := by rw [← ht, List.length_take]; omega
          have few1 : ∀ {n : Nat} {fl : Fl}, n = o.b.length → pf25 [.sl n (nums .u8 o.b) fl] = some (.sl t.length (nums .u8 t) .bor) := fun h => by rw [← ht]; exact few_at h
          have hN := hD.okN (show 101 * i ≤ 1000000 by omega) hq4
          have hbor := (hD.f q hq4).nf
          have h4 := hD.len
          by_cases hlt : done < k
          · have hoff : (powerD d).off = false := by
              have h1 : d.off = false := by
                cases h : d.off with
                | false => rfl
                | true => have := hof h; omega
              have h2 : (d.left == 0) = false := beq_eq_false_iff_ne.2 (by omega)
              simp only [powerD, h1, h2, Bool.and_false, Bool.or_false]
            have e3 : decide ((done : Int) < (k : Int)) = true := decide_eq_true (by omega)
            rcases (show kindF o.kind 3 = 0 ∨ kindF o.kind 3 = 1 ∨ kindF o.kind 3 = 2 by omega) with hk3 | hk3 | hk3
            · obtain ⟨u, hu, hnext⟩ := hD.ap hq4 lt (by omega) hoff
              have hD' := hnext ⟨0, 51, 0, gn 51 + 1⟩ rfl (Nat.succ_ne_zero _) fresh51.1 fresh51.2
              have kap := fun {b : Bx} {bx : Boxes} {n : Nat} {fl : Fl} (hb : bx b = some (enc d)) (hn : n = t.length) => append_go (us := us) (u := u) (b := b) (n := n) (fl := fl) (t := t) h4 rfl hq4 hN hoff (by have := (hD.f q hq4).now; omega) hb hn hu
              have hren := apD_ren hD.ok q t 0 51 (gn 51 + 1)
              obtain ⟨d', hd'⟩ : ∃ d', apD d q t ⟨0, 51, 0, gn 51 + 1⟩ = d' := ⟨_, rfl⟩
              have hst' : d'.steps = (done : Int) + 1 := by rw [← hd', ← hst]; rfl
              have hof' : d'.off = false := by rw [← hd']; exact hoff
              have hbu' : d'.burns = true := by rw [← hd']; exact hbu
              have hle' : d'.left = (k : Int) - ((done + 1 : Nat) : Int) := by
                have h9 : d'.left = d.left - 1 := by rw [← hd']; show (if d.burns then d.left - 1 else d.left) = _; rw [hbu]; rfl
                omega
              rw [hd'] at hren hD'
              have kst := fun {b : Bx} {bx : Boxes} {us : Abs.Id → Bool} (hb : bx b = some (enc d')) => steps_go (us := us) hD'.len hb
              have kon := fun {b : Bx} {bx : Boxes} {us : Abs.Id → Bool} (hb : bx b = some (enc d')) => on_go (us := us) hD'.len hb
              rw [hst'] at kst
              rw [hof'] at kon
              simp (maxSteps := 1000000) (disch := first | omega | (simp only [updB, updI, useL, Abs.Id.mk.injEq, Bx.own.injEq, reduceCtorEq, Nat.reduceEqDiff, and_true, true_and, and_false, false_and, if_true, if_false, *]; done) | (simp only [nums_len, nums_len, ints_len, List.length_cons, List.length_nil, List.length_append, List.length_take, List.length_drop, List.length_replicate, List.length_set, List.length_map] <;> omega) | fail) only [ev0, ev1, ev2, ev3, ↓reduceIte, reduceCtorEq, Nat.reduceAdd, Nat.reduceSub, Nat.reduceMul, Nat.reduceLT, Nat.reduceLeDiff, Nat.reduceEqDiff, Nat.reduceBEq, BitVec.reduceOfInt, Int.reduceLE, Int.reduceLT, Int.reduceGT, Int.reduceGE, Int.reduceNeg, Int.reduceAdd, Int.reduceSub, Int.reduceMul, Int.reduceToNat, ↓bind_go, ↓map_go, wantedV, isWrite, grow, write, ofV, AV.cells, Abs.start, Abs.strip, endQ, resV, rawsRes, rawRes, exports, export1, AS.grown, AS.put, Env.know, Env.boxed, isSelf, convSelf, convV, loadV, storeV, fieldAddrV, fieldV, indexAddrV, indexV, partV, isAggK, isStr, place, lenV, min2V, makeV, freshSl, sliceV, boundOr, bound, bounds, cutFl, copyV, slCells, srcV, appendV, room, zerosOf, eqNeg, kd, takeR, hasViewL, hasView, freshR, freshC, snapAll, snap, snapL, flatL, pureL, pureA, fillC, arrOK, oneA, partB, AV.laid, ren1, CR.gr, applyW, useL, AS.mute, isGen, startG, ev5, tbBl0, Bool.true_or, Bool.or_true, glob, Bx.own.injEq, and_false, false_and, and_true, true_and, List.drop_succ_cons, List.drop_zero, List.drop_nil, s9, s8, s7, s6, s1, bd, lL, e1, e2, e3, q10, q20, q21, hop, hk3, hq, few1, kap, hren, kst, kon, bne_self_eq_false]
              exact ⟨60 - (i + 1), by omega, i + 1, done + 1, d', by omega, by omega, rfl, by omega, rfl, rfl, rfl, hD'.mono (by omega), by omega, hbu', hle', fun h => by rw [hof'] at h; cases h⟩
            · have hD' := hD.sync hq4 hoff
              have kap := fun {b : Bx} {bx : Boxes} (hb : bx b = some (enc d)) => sync_go (us := us) (b := b) h4 rfl hq4 hN hbor hoff hb
              have hren := hD'.ok.ren 0 58 (gn 58 + 1)
              obtain ⟨d', hd'⟩ : ∃ d', syncD d q = d' := ⟨_, rfl⟩
              rw [hd'] at kap
              have hst' : d'.steps = (done : Int) + 1 := by rw [← hd', ← hst]; rfl
              have hof' : d'.off = false := by rw [← hd']; exact hoff
              have hbu' : d'.burns = true := by rw [← hd']; exact hbu
              have hle' : d'.left = (k : Int) - ((done + 1 : Nat) : Int) := by
                have h9 : d'.left = d.left - 1 := by rw [← hd']; show (if d.burns then d.left - 1 else d.left) = _; rw [hbu]; rfl
                omega
              rw [hd'] at hren hD'
              have kst := fun {b : Bx} {bx : Boxes} {us : Abs.Id → Bool} (hb : bx b = some (enc d')) => steps_go (us := us) hD'.len hb
              have kon := fun {b : Bx} {bx : Boxes} {us : Abs.Id → Bool} (hb : bx b = some (enc d')) => on_go (us := us) hD'.len hb
              rw [hst'] at kst
              rw [hof'] at kon
              simp (maxSteps := 1000000) (disch := first | omega | (simp only [updB, updI, useL, Abs.Id.mk.injEq, Bx.own.injEq, reduceCtorEq, Nat.reduceEqDiff, and_true, true_and, and_false, false_and, if_true, if_false, *]; done) | (simp only [nums_len, nums_len, ints_len, List.length_cons, List.length_nil, List.length_append, List.length_take, List.length_drop, List.length_replicate, List.length_set, List.length_map] <;> omega) | fail) only [ev0, ev1, ev2, ev3, ↓reduceIte, reduceCtorEq, Nat.reduceAdd, Nat.reduceSub, Nat.reduceMul, Nat.reduceLT, Nat.reduceLeDiff, Nat.reduceEqDiff, Nat.reduceBEq, BitVec.reduceOfInt, Int.reduceLE, Int.reduceLT, Int.reduceGT, Int.reduceGE, Int.reduceNeg, Int.reduceAdd, Int.reduceSub, Int.reduceMul, Int.reduceToNat, ↓bind_go, ↓map_go, wantedV, isWrite, grow, write, ofV, AV.cells, Abs.start, Abs.strip, endQ, resV, rawsRes, rawRes, exports, export1, AS.grown, AS.put, Env.know, Env.boxed, isSelf, convSelf, convV, loadV, storeV, fieldAddrV, fieldV, indexAddrV, indexV, partV, isAggK, isStr, place, lenV, min2V, makeV, freshSl, sliceV, boundOr, bound, bounds, cutFl, copyV, slCells, srcV, appendV, room, zerosOf, eqNeg, kd, takeR, hasViewL, hasView, freshR, freshC, snapAll, snap, snapL, flatL, pureL, pureA, fillC, arrOK, oneA, partB, AV.laid, ren1, CR.gr, applyW, useL, AS.mute, isGen, startG, ev5, tbBl0, Bool.true_or, Bool.or_true, glob, Bx.own.injEq, and_false, false_and, and_true, true_and, List.drop_succ_cons, List.drop_zero, List.drop_nil, s9, s8, s7, s6, s1, bd, lL, e1, e2, e3, q10, q20, q21, hop, hk3, hq, few1, kap, hren, kst, kon, bne_self_eq_false]
              exact ⟨60 - (i + 1), by omega, i + 1, done + 1, d', by omega, by omega, rfl, by omega, rfl, rfl, rfl, hD'.mono (by omega), by omega, hbu', hle', fun h => by rw [hof'] at h; cases h⟩
            · obtain ⟨u, hu, hnext⟩ := hD.cut hq4 (z := 0) ⟨Int.le_refl _, Int.natCast_nonneg _⟩ (by omega) hoff
              have hD' := hnext ⟨0, 65, 0, gn 65 + 1⟩ rfl (Nat.succ_ne_zero _) fresh65.1 fresh65.2
              have kap := fun {b : Bx} {bx : Boxes} (hb : bx b = some (enc d)) => cut_go (us := us) (u := u) (b := b) (m := 0) h4 rfl hq4 hN hoff ⟨Int.le_refl _, Int.natCast_nonneg _⟩ hb hu
              have hren := cutD_ren hD.ok q 0 0 65 (gn 65 + 1)
              obtain ⟨d', hd'⟩ : ∃ d', cutD d q 0 ⟨0, 65, 0, gn 65 + 1⟩ = d' := ⟨_, rfl⟩
              have hst' : d'.steps = (done : Int) + 1 := by rw [← hd', ← hst]; rfl
              have hof' : d'.off = false := by rw [← hd']; exact hoff
              have hbu' : d'.burns = true := by rw [← hd']; exact hbu
              have hle' : d'.left = (k : Int) - ((done + 1 : Nat) : Int) := by
                have h9 : d'.left = d.left - 1 := by rw [← hd']; show (if d.burns then d.left - 1 else d.left) = _; rw [hbu]; rfl
                omega
              rw [hd'] at hren hD'
              have kst := fun {b : Bx} {bx : Boxes} {us : Abs.Id → Bool} (hb : bx b = some (enc d')) => steps_go (us := us) hD'.len hb
              have kon := fun {b : Bx} {bx : Boxes} {us : Abs.Id → Bool} (hb : bx b = some (enc d')) => on_go (us := us) hD'.len hb
              rw [hst'] at kst
              rw [hof'] at kon
              simp (maxSteps := 1000000) (disch := first | omega | (simp only [updB, updI, useL, Abs.Id.mk.injEq, Bx.own.injEq, reduceCtorEq, Nat.reduceEqDiff, and_true, true_and, and_false, false_and, if_true, if_false, *]; done) | (simp only [nums_len, nums_len, ints_len, List.length_cons, List.length_nil, List.length_append, List.length_take, List.length_drop, List.length_replicate, List.length_set, List.length_map] <;> omega) | fail) only [ev0, ev1, ev2, ev3, ↓reduceIte, reduceCtorEq, Nat.reduceAdd, Nat.reduceSub, Nat.reduceMul, Nat.reduceLT, Nat.reduceLeDiff, Nat.reduceEqDiff, Nat.reduceBEq, BitVec.reduceOfInt, Int.reduceLE, Int.reduceLT, Int.reduceGT, Int.reduceGE, Int.reduceNeg, Int.reduceAdd, Int.reduceSub, Int.reduceMul, Int.reduceToNat, ↓bind_go, ↓map_go, wantedV, isWrite, grow, write, ofV, AV.cells, Abs.start, Abs.strip, endQ, resV, rawsRes, rawRes, exports, export1, AS.grown, AS.put, Env.know, Env.boxed, isSelf, convSelf, convV, loadV, storeV, fieldAddrV, fieldV, indexAddrV, indexV, partV, isAggK, isStr, place, lenV, min2V, makeV, freshSl, sliceV, boundOr, bound, bounds, cutFl, copyV, slCells, srcV, appendV, room, zerosOf, eqNeg, kd, takeR, hasViewL, hasView, freshR, freshC, snapAll, snap, snapL, flatL, pureL, pureA, fillC, arrOK, oneA, partB, AV.laid, ren1, CR.gr, applyW, useL, AS.mute, isGen, startG, ev5, tbBl0, Bool.true_or, Bool.or_true, glob, Bx.own.injEq, and_false, false_and, and_true, true_and, List.drop_succ_cons, List.drop_zero, List.drop_nil, s9, s8, s7, s6, s1, bd, lL, e1, e2, e3, q10, q20, q21, hop, hk3, hq, few1, kap, hren, kst, kon, bne_self_eq_false]
              exact ⟨60 - (i + 1), by omega, i + 1, done + 1, d', by omega, by omega, rfl, by omega, rfl, rfl, rfl, hD'.mono (by omega), by omega, hbu', hle', fun h => by rw [hof'] at h; cases h⟩
          · have e3 : decide ((done : Int) < (k : Int)) = false := decide_eq_false (by omega)
            have h2 : (d.left == 0) = true := beq_iff_eq.2 (by omega)
            have hoff : (powerD d).off = true := by
              simp only [powerD, h2, hbu, Bool.and_true, Bool.or_true]
            have hP := hD.power
            have kst := fun {b : Bx} {bx : Boxes} {us : Abs.Id → Bool} (hb : bx b = some (enc (powerD d))) => steps_go (us := us) hP.len hb
            have kon := fun {b : Bx} {bx : Boxes} {us : Abs.Id → Bool} (hb : bx b = some (enc (powerD d))) => on_go (us := us) hP.len hb
            rw [show (powerD d).steps = (done : Int) from hst] at kst
            rw [hoff] at kon
            rcases (show kindF o.kind 3 = 0 ∨ kindF o.kind 3 = 1 ∨ kindF o.kind 3 = 2 by omega) with hk3 | hk3 | hk3
            · have kap := fun {b : Bx} {bx : Boxes} {n : Nat} {fl : Fl} (hb : bx b = some (enc d)) (hn : n = t.length) => append_off (us := us) (b := b) (n := n) (fl := fl) (t := t) h4 rfl hq4 hN hoff hb hn
              have hren := hP.ok.ren 0 51 (gn 51 + 1)
              simp (maxSteps := 1000000) (disch := first | omega | (simp only [updB, updI, useL, Abs.Id.mk.injEq, Bx.own.injEq, reduceCtorEq, Nat.reduceEqDiff, and_true, true_and, and_false, false_and, if_true, if_false, *]; done) | (simp only [nums_len, nums_len, ints_len, List.length_cons, List.length_nil, List.length_append, List.length_take, List.length_drop, List.length_replicate, List.length_set, List.length_map] <;> omega) | fail) only [ev0, ev1, ev2, ev3, ↓reduceIte, reduceCtorEq, Nat.reduceAdd, Nat.reduceSub, Nat.reduceMul, Nat.reduceLT, Nat.reduceLeDiff, Nat.reduceEqDiff, Nat.reduceBEq, BitVec.reduceOfInt, Int.reduceLE, Int.reduceLT, Int.reduceGT, Int.reduceGE, Int.reduceNeg, Int.reduceAdd, Int.reduceSub, Int.reduceMul, Int.reduceToNat, ↓bind_go, ↓map_go, wantedV, isWrite, grow, write, ofV, AV.cells, Abs.start, Abs.strip, endQ, resV, rawsRes, rawRes, exports, export1, AS.grown, AS.put, Env.know, Env.boxed, isSelf, convSelf, convV, loadV, storeV, fieldAddrV, fieldV, indexAddrV, indexV, partV, isAggK, isStr, place, lenV, min2V, makeV, freshSl, sliceV, boundOr, bound, bounds, cutFl, copyV, slCells, srcV, appendV, room, zerosOf, eqNeg, kd, takeR, hasViewL, hasView, freshR, freshC, snapAll, snap, snapL, flatL, pureL, pureA, fillC, arrOK, oneA, partB, AV.laid, ren1, CR.gr, applyW, useL, AS.mute, isGen, startG, ev5, tbBl0, Bool.true_or, Bool.or_true, glob, Bx.own.injEq, and_false, false_and, and_true, true_and, List.drop_succ_cons, List.drop_zero, List.drop_nil, s9, s8, s7, s6, s1, bd, lL, e1, e2, e3, q10, q20, q21, q50, q55, n50, hop, hk3, hq, few1, kap, hren, kst, kon, bne_self_eq_false]
              exact ⟨60 - (i + 1), by omega, i + 1, done, powerD d, by omega, by omega, rfl, by omega, rfl, rfl, rfl, hP.mono (by omega), hst, hbu, hle, fun _ => by omega⟩
            · have kap := fun {b : Bx} {bx : Boxes} (hb : bx b = some (enc d)) => sync_off (us := us) (b := b) h4 rfl hq4 hN hbor hoff hb
              have hren := hP.ok.ren 0 58 (gn 58 + 1)
              simp (maxSteps := 1000000) (disch := first | omega | (simp only [updB, updI, useL, Abs.Id.mk.injEq, Bx.own.injEq, reduceCtorEq, Nat.reduceEqDiff, and_true, true_and, and_false, false_and, if_true, if_false, *]; done) | (simp only [nums_len, nums_len, ints_len, List.length_cons, List.length_nil, List.length_append, List.length_take, List.length_drop, List.length_replicate, List.length_set, List.length_map] <;> omega) | fail) only [ev0, ev1, ev2, ev3, ↓reduceIte, reduceCtorEq, Nat.reduceAdd, Nat.reduceSub, Nat.reduceMul, Nat.reduceLT, Nat.reduceLeDiff, Nat.reduceEqDiff, Nat.reduceBEq, BitVec.reduceOfInt, Int.reduceLE, Int.reduceLT, Int.reduceGT, Int.reduceGE, Int.reduceNeg, Int.reduceAdd, Int.reduceSub, Int.reduceMul, Int.reduceToNat, ↓bind_go, ↓map_go, wantedV, isWrite, grow, write, ofV, AV.cells, Abs.start, Abs.strip, endQ, resV, rawsRes, rawRes, exports, export1, AS.grown, AS.put, Env.know, Env.boxed, isSelf, convSelf, convV, loadV, storeV, fieldAddrV, fieldV, indexAddrV, indexV, partV, isAggK, isStr, place, lenV, min2V, makeV, freshSl, sliceV, boundOr, bound, bounds, cutFl, copyV, slCells, srcV, appendV, room, zerosOf, eqNeg, kd, takeR, hasViewL, hasView, freshR, freshC, snapAll, snap, snapL, flatL, pureL, pureA, fillC, arrOK, oneA, partB, AV.laid, ren1, CR.gr, applyW, useL, AS.mute, isGen, startG, ev5, tbBl0, Bool.true_or, Bool.or_true, glob, Bx.own.injEq, and_false, false_and, and_true, true_and, List.drop_succ_cons, List.drop_zero, List.drop_nil, s9, s8, s7, s6, s1, bd, lL, e1, e2, e3, q10, q20, q21, q50, q55, n50, hop, hk3, hq, few1, kap, hren, kst, kon, bne_self_eq_false]
              exact ⟨60 - (i + 1), by omega, i + 1, done, powerD d, by omega, by omega, rfl, by omega, rfl, rfl, rfl, hP.mono (by omega), hst, hbu, hle, fun _ => by omega⟩
            · have kap := fun {b : Bx} {bx : Boxes} (hb : bx b = some (enc d)) => cut_off (us := us) (b := b) (m := 0) h4 rfl hq4 hN hoff ⟨Int.le_refl _, Int.natCast_nonneg _⟩ hb
              have hren := hP.ok.ren 0 65 (gn 65 + 1)
              simp (maxSteps := 1000000) (disch := first | omega | (simp only [updB, updI, useL, Abs.Id.mk.injEq, Bx.own.injEq, reduceCtorEq, Nat.reduceEqDiff, and_true, true_and, and_false, false_and, if_true, if_false, *]; done) | (simp only [nums_len, nums_len, ints_len, List.length_cons, List.length_nil, List.length_append, List.length_take, List.length_drop, List.length_replicate, List.length_set, List.length_map] <;> omega) | fail) only [ev0, ev1, ev2, ev3, ↓reduceIte, reduceCtorEq, Nat.reduceAdd, Nat.reduceSub, Nat.reduceMul, Nat.reduceLT, Nat.reduceLeDiff, Nat.reduceEqDiff, Nat.reduceBEq, BitVec.reduceOfInt, Int.reduceLE, Int.reduceLT, Int.reduceGT, Int.reduceGE, Int.reduceNeg, Int.reduceAdd, Int.reduceSub, Int.reduceMul, Int.reduceToNat, ↓bind_go, ↓map_go, wantedV, isWrite, grow, write, ofV, AV.cells, Abs.start, Abs.strip, endQ, resV, rawsRes, rawRes, exports, export1, AS.grown, AS.put, Env.know, Env.boxed, isSelf, convSelf, convV, loadV, storeV, fieldAddrV, fieldV, indexAddrV, indexV, partV, isAggK, isStr, place, lenV, min2V, makeV, freshSl, sliceV, boundOr, bound, bounds, cutFl, copyV, slCells, srcV, appendV, room, zerosOf, eqNeg, kd, takeR, hasViewL, hasView, freshR, freshC, snapAll, snap, snapL, flatL, pureL, pureA, fillC, arrOK, oneA, partB, AV.laid, ren1, CR.gr, applyW, useL, AS.mute, isGen, startG, ev5, tbBl0, Bool.true_or, Bool.or_true, glob, Bx.own.injEq, and_false, false_and, and_true, true_and, List.drop_succ_cons, List.drop_zero, List.drop_nil, s9, s8, s7, s6, s1, bd, lL, e1, e2, e3, q10, q20, q21, q50, q55, n50, hop, hk3, hq, few1, kap, hren, kst, kon, bne_self_eq_false]
              exact ⟨60 - (i + 1), by omega, i + 1, done, powerD d, by omega, by omega, rfl, by omega, rfl, rfl, rfl, hP.mono (by omega), hst, hbu, hle, fun _ => by omega⟩
        · have hB := hD.boot []
          have hob := hB.ok.ren 0 96 (gn 96 + 1)
          have h4 := hD.len
          have kbo := fun {b : Bx} {bx : Boxes} (hb : bx b = some (enc d)) => boot_nil (us := us) (b := b) h4 (hD.bootOK (by omega)) hb
          obtain ⟨d', hd'⟩ : ∃ d', bootD d [] = d' := ⟨_, rfl⟩
          have hof' : d'.off = false := by rw [← hd']; rfl
          have hbu' : d'.burns = false := by rw [← hd']; rfl
          rw [hd'] at hB hob kbo
          have hN := hB.okN (show 101 * i ≤ 1000000 by omega) (show 0 < 4 by omega)
          have hpo : (powerD d').off = false := by simp only [powerD, hof', hbu', Bool.false_and, Bool.or_false]
          have kon := fun {b : Bx} {bx : Boxes} {us : Abs.Id → Bool} (hb : bx b = some (enc d')) => on_go (us := us) hB.len hb
          rw [hof'] at kon
          have ksy := fun {b : Bx} {bx : Boxes} (hb : bx b = some (enc d')) => sync_go (us := us) (b := b) (k := 0) (f := 0) hB.len rfl (by omega) hN (hB.f 0 (by omega)).nf hpo hb
          have hsr := (hB.sync (k := 0) (by omega) hpo).ok.ren 0 101 (gn 101 + 1)
          by_cases hi2 : i < l.length
          · have e1 : decide ((i : Int) < (l.length : Int)) = true := decide_eq_true (by omega)
            have e2 : decide ((i : Int) < 60) = false := decide_eq_false (by omega)
            simp (maxSteps := 1000000) (disch := first | omega | (simp only [updB, updI, useL, Abs.Id.mk.injEq, Bx.own.injEq, reduceCtorEq, Nat.reduceEqDiff, and_true, true_and, and_false, false_and, if_true, if_false, *]; done) | (simp only [nums_len, nums_len, ints_len, List.length_cons, List.length_nil, List.length_append, List.length_take, List.length_drop, List.length_replicate, List.length_set, List.length_map] <;> omega) | fail) only [ev0, ev1, ev2, ev3, ↓reduceIte, reduceCtorEq, Nat.reduceAdd, Nat.reduceSub, Nat.reduceMul, Nat.reduceLT, Nat.reduceLeDiff, Nat.reduceEqDiff, Nat.reduceBEq, BitVec.reduceOfInt, Int.reduceLE, Int.reduceLT, Int.reduceGT, Int.reduceGE, Int.reduceNeg, Int.reduceAdd, Int.reduceSub, Int.reduceMul, Int.reduceToNat, ↓bind_go, ↓map_go, wantedV, isWrite, grow, write, ofV, AV.cells, Abs.start, Abs.strip, endQ, resV, rawsRes, rawRes, exports, export1, AS.grown, AS.put, Env.know, Env.boxed, isSelf, convSelf, convV, loadV, storeV, fieldAddrV, fieldV, indexAddrV, indexV, partV, isAggK, isStr, place, lenV, min2V, makeV, freshSl, sliceV, boundOr, bound, bounds, cutFl, copyV, slCells, srcV, appendV, room, zerosOf, eqNeg, kd, takeR, hasViewL, hasView, freshR, freshC, snapAll, snap, snapL, flatL, pureL, pureA, fillC, arrOK, oneA, partB, AV.laid, ren1, CR.gr, applyW, useL, AS.mute, isGen, startG, ev5, tbBl0, Bool.true_or, Bool.or_true, glob, Bx.own.injEq, and_false, false_and, and_true, true_and, List.drop_succ_cons, List.drop_zero, List.drop_nil, s9, s8, s7, s6, s1, bd, lL, e1, e2, kbo, hob, kon, ksy, hsr]
            exact ResQ.same rfl
          · have e1 : decide ((i : Int) < (l.length : Int)) = false := decide_eq_false (by omega)
            simp (maxSteps := 1000000) (disch := first | omega | (simp only [updB, updI, useL, Abs.Id.mk.injEq, Bx.own.injEq, reduceCtorEq, Nat.reduceEqDiff, and_true, true_and, and_false, false_and, if_true, if_false, *]; done) | (simp only [nums_len, nums_len, ints_len, List.length_cons, List.length_nil, List.length_append, List.length_take, List.length_drop, List.length_replicate, List.length_set, List.length_map] <;> omega) | fail) only [ev0, ev1, ev2, ev3, ↓reduceIte, reduceCtorEq, Nat.reduceAdd, Nat.reduceSub, Nat.reduceMul, Nat.reduceLT, Nat.reduceLeDiff, Nat.reduceEqDiff, Nat.reduceBEq, BitVec.reduceOfInt, Int.reduceLE, Int.reduceLT, Int.reduceGT, Int.reduceGE, Int.reduceNeg, Int.reduceAdd, Int.reduceSub, Int.reduceMul, Int.reduceToNat, ↓bind_go, ↓map_go, wantedV, isWrite, grow, write, ofV, AV.cells, Abs.start, Abs.strip, endQ, resV, rawsRes, rawRes, exports, export1, AS.grown, AS.put, Env.know, Env.boxed, isSelf, convSelf, convV, loadV, storeV, fieldAddrV, fieldV, indexAddrV, indexV, partV, isAggK, isStr, place, lenV, min2V, makeV, freshSl, sliceV, boundOr, bound, bounds, cutFl, copyV, slCells, srcV, appendV, room, zerosOf, eqNeg, kd, takeR, hasViewL, hasView, freshR, freshC, snapAll, snap, snapL, flatL, pureL, pureA, fillC, arrOK, oneA, partB, AV.laid, ren1, CR.gr, applyW, useL, AS.mute, isGen, startG, ev5, tbBl0, Bool.true_or, Bool.or_true, glob, Bx.own.injEq, and_false, false_and, and_true, true_and, List.drop_succ_cons, List.drop_zero, List.drop_nil, s9, s8, s7, s6, s1, bd, lL, e1, kbo, hob, kon, ksy, hsr]
            exact ResQ.same rfl
    · cases h
  · cases h
end Go.Proofs.Ytjnmdphoaafjaaa
