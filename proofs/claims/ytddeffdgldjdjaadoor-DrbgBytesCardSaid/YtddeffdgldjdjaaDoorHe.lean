/- The library's Grow and Concat: what their walks come to. -/
import Derived.Test.YtddeffdgldjdjaaDoorHd
import Derived.WalkKit
import Derived.Lib.Walk
import Derived.Lib.SliceRun
import Derived.Lib.AppendZerosOnto
namespace Go.Proofs.YtddeffdgldjdjaaDoor
set_option linter.unusedSimpArgs false
set_option linter.unusedVariables false
set_option linter.defProp false
open Go Go.Abs Go.RowKit Go.Lib
set_option maxHeartbeats 2000000 in
set_option maxRecDepth 100000 in
theorem growNil_walk (z : Value) (i : TypeInfo) (hi : Tryd.prog.info? 5 = some i) (his : i.size = 1) (hib : i.bytes = 1) (hiz : i.zero = some z) (n : Nat) (hn : 0 < n) (hb : n ≤ 140737488355328) (w : World) :
    Calls Tryd.prog 93 #[.slice none 0 0, .int .i64 n] w fun e w' =>
      e = .returned (.slice (some ⟨w.heap.size, 0, none⟩) 0 (grownCap w n 0 5)) ∧
      w' = w.drew.alloc (.cells (Builtin.zeroCells z.cells n ++ Builtin.zeroCells z.cells (grownCap w n 0 5 - n)) 5) := by
  have h1 : ¬ ((n : Int) < 0) := by omega
  have h4 : (n : Int) > 0 := by omega
  have h2 : wrap64 ((0 : Int) - 0) = 0 := by unfold wrap64; omega
  have h3 : wrap64 ((n : Int) - 0) = n := by unfold wrap64; omega
  have hrz : ∀ ty, (Builtin.append_ #[24, 3] ty #[.slice none 0 0, .int .i64 (n : Int)]).run Tryd.prog w =
      .ok (.slice (some ⟨w.heap.size, 0, none⟩) n (grownCap w n 0 5)) (w.drew.alloc (.cells (Builtin.zeroCells z.cells n ++ Builtin.zeroCells z.cells (grownCap w n 0 5 - n)) 5)) := fun ty => by
    have h := Lib.run_append_grow_zeros w 24 3 ty 5 i z .i64 .i64 Tryd.underlying24 Tryd.underlying3 hi hiz none 0 0 [] (run_firstCells_none w.drew i.size 0 0 0) n hn (by omega) (by omega) (by omega) (by rw [hib]; omega)
      (by rw [Nat.zero_add]; exact growslice_fits hn (by rw [hib]; omega))
    simpa using h
  have hGn : n ≤ grownCap w n 0 5 := grownCap_ge w _ _ _
  generalize grownCap w n 0 5 = G at hrz hGn ⊢
  go_enter Tryd.func93, Tryd.ntmps93
  go_wp2_with (at_builtin; refine Lib.wpList_append_run _ rfl _ _ _ _ rfl _ _ rfl rfl _ _ (hrz _) ?_)
  all_goals (go_ret; exact ⟨rfl, rfl⟩)

set_option maxHeartbeats 2000000 in
theorem growNil_zero (w : World) : Calls Tryd.prog 93 #[.slice none 0 0, .int .i64 0] w fun e w' => e = .returned (.slice none 0 0) ∧ w' = w := by
  have h2 : wrap64 ((0 : Int) - 0) = 0 := by unfold wrap64; omega
  go_enter Tryd.func93, Tryd.ntmps93
  go_wp2
  go_ret
  exact ⟨rfl, rfl⟩

/-- room for some bytes, where there was nothing -/
def pf93 : List AV → Option AV
  | [.raw (.slice none 0 0), v] => (int? v).bind fun n => if 0 ≤ n ∧ n ≤ 1099511627776 then some (.sl 0 [] (.own ⟨0, 0, 0, 0⟩ 1)) else none
  | _ => none
theorem pf93_at {n : Int} (h : 0 ≤ n ∧ n ≤ 1099511627776) : pf93 [.raw (.slice none 0 0), .raw (.int .i64 n)] = some (.sl 0 [] (.own ⟨0, 0, 0, 0⟩ 1)) := by
  simp only [pf93, int?_at, Option.bind_some, if_pos h]

theorem sound93 : SoundV Tryd.prog globS 93 pf93 := by
  refine ⟨Tryd.call93, fun args r hr G w vals hp => ?_⟩
  unfold pf93 at hr
  split at hr
  · rename_i v
    simp only [Option.bind_eq_some_iff] at hr
    obtain ⟨n, h1, h2⟩ := hr
    split at h2
    · rename_i hc
      cases h2
      rw [int?_of h1] at hp
      obtain ⟨k, rfl⟩ := Int.eq_ofNat_of_zero_le hc.1
      have ha := hp.args
      simp only [RVs, RV] at ha
      obtain ⟨u, us, rfl, rfl, u2, us2, rfl, rfl, rfl⟩ := ha
      by_cases h0 : k = 0
      · subst h0
        refine (growNil_zero w).mono ?_
        rintro e w' ⟨rfl, rfl⟩
        refine ⟨_, G, fun _ => none, rfl, Below.refl _ _, fun _ _ h => h, fun _ _ h _ => h, hp.cell, ?_, ?_, fun _ _ _ _ h => (by cases h), fun _ _ _ _ _ _ _ h => (by cases h)⟩
        · simp only [RV]; exact .inl (by simp)
        · simp [Top, FlOK, resG, made]
      · obtain ⟨i, z, hi, his, hib, hiz, hzl, hzs⟩ := (te_ok 5 _ te5).info
        refine (growNil_walk z i hi his hib hiz k (by omega) (by omega) w).mono ?_
        rintro e w' ⟨rfl, hw⟩
        have hg := grownCap_ge w k 0 5
        generalize grownCap w k 0 5 = cap at hw hg ⊢
        have hz1 : z.cells.size = 1 := by
          have : z.cells.toList.length = 1 := by rw [hzl]; rfl
          simpa using this
        have hbel : Below w.heap.size w w' := by
          rw [hw]
          exact (Below.refl w.heap.size w).drew.trans ((below_alloc' w.drew _ : Below w.drew.heap.size w.drew _).mono (Nat.le_refl _))
        obtain ⟨C, hC, hCs⟩ : ∃ C, w'.heap[w.heap.size]? = some (.cells C 5 (0, 0)) ∧ C.size = cap := by
          rw [hw]
          refine ⟨_, alloc_at w.drew _, ?_⟩
          simp only [Array.size_append, size_zeroCells, hz1]
          omega
        refine ⟨_, G, fun c => if c = 0 then some (w.heap.size, 0, cap) else none, rfl, hbel, fun _ _ h => h, fun _ _ h _ => h, ?_, ?_, ?_, ?_, ?_⟩
        · intro k' o' hg'
          have := hp.cell k' o' hg'
          rw [at_of_block (hbel.block k' (at_lt this))]
          exact this
        · simp only [RV]
          exact .inr ⟨w.heap.size, 0, cap, [], rfl, Nat.zero_le _, by simp only [RVs], fun j hj => by simp at hj⟩
        · simp only [Top, FlOK, resG]
          refine ⟨.inl ⟨rfl, Nat.le_refl _⟩, .inr (.inr ⟨w.heap.size, 0, 0, cap, rfl, by simp, by simp, .inr (by simp)⟩)⟩
        · intro c k' lo hi' hT
          have hT' : (if c = 0 then some (w.heap.size, 0, cap) else none) = some (k', lo, hi') := hT
          split at hT'
          · cases hT'
            refine ⟨Nat.le_refl _, (Array.getElem?_eq_some_iff.1 hC).1, Nat.zero_le _, fun o h1 h2 => ⟨?_, frozen_row hC, fun hG => ?_⟩⟩
            · rw [at_row hC]
              simp [show o < C.size by omega]
            · exact absurd (at_lt (hp.cell _ _ hG)) (Nat.lt_irrefl _)
          · cases hT'
        · intro c c' k' lo hi' lo' hi'' hT hT'
          have e1 : (if c = 0 then some (w.heap.size, 0, cap) else none) = some (k', lo, hi') := hT
          have e2 : (if c' = 0 then some (w.heap.size, 0, cap) else none) = some (k', lo', hi'') := hT'
          split at e1
          · split at e2
            · simp_all
            · cases e2
          · cases e1
    · cases h2
  · cases hr
theorem rep_two (v : AV) : rep 2 [v] = [v, v] := rfl
theorem rep_three (v : AV) : rep 3 [v] = [v, v, v] := rfl
def ES14 : Env := ES0.know 93 pf93
theorem okS14 : EnvOK Tryd.prog ES14 := okS0.know sound93
theorem ES14_te : ES14.te = te := rfl
theorem ES14_glob : ES14.glob = globS := rfl
theorem ES14_mu (d : Nat) : ES14.mu d = false := rfl
theorem ES14_gs : ES14.gs = [] := rfl
theorem ES14_dyn : ES14.dyn = false := rfl
theorem ES14_93 : ES14.tbl 93 = some (.val pf93) := rfl

def pf61 : List AV → Option AV
  | [v] => (rows? v).bind fun l => if (catF l l.length).length ≤ 1099511627776 ∧ l.length ≤ 1000000 then some (.sl (catF l l.length).length (nums .u8 (catF l l.length)) (.own ⟨0, 0, 0, 0⟩ 1)) else none
  | _ => none

theorem pf61_two {n a b : Nat} {x y : List (BitVec 8)} {fl : Fl} (h0 : n = 2) (ha : a = x.length) (hb : b = y.length) (h : x.length + y.length ≤ 1099511627776) :
    pf61 [.sl n [.sl a (nums .u8 x) .bor, .sl b (nums .u8 y) .bor] fl] = some (.sl (x.length + y.length) (nums .u8 (x ++ y)) (.own ⟨0, 0, 0, 0⟩ 1)) := by
  subst h0
  simp only [pf61, rows?, rowsB?, rowB?_at ha, rowB?_at hb, Option.bind_some, Option.map_some, List.length_cons, List.length_nil, Nat.zero_add, Nat.reduceAdd, if_true, catF, List.getD_cons_zero, List.getD_cons_succ, List.nil_append, List.length_append]
  rw [if_pos ⟨h, by omega⟩]
theorem pf61_three {n a b c : Nat} {x y z : List (BitVec 8)} {fl : Fl} (h0 : n = 3) (ha : a = x.length) (hb : b = y.length) (hc : c = z.length) (h : x.length + y.length + z.length ≤ 1099511627776) :
    pf61 [.sl n [.sl a (nums .u8 x) .bor, .sl b (nums .u8 y) .bor, .sl c (nums .u8 z) .bor] fl] = some (.sl (x.length + y.length + z.length) (nums .u8 (x ++ y ++ z)) (.own ⟨0, 0, 0, 0⟩ 1)) := by
  subst h0
  simp only [pf61, rows?, rowsB?, rowB?_at ha, rowB?_at hb, rowB?_at hc, Option.bind_some, Option.map_some, List.length_cons, List.length_nil, Nat.zero_add, Nat.reduceAdd, if_true, catF, List.getD_cons_zero, List.getD_cons_succ, List.nil_append, List.length_append]
  rw [if_pos ⟨h, by omega⟩]

set_option maxHeartbeats 4000000
def tbHe0 := (And.intro (And.intro (And.intro @teE (And.intro @ES14_te @ES14_glob)) (And.intro @ES14_mu (And.intro @ES14_gs @ES14_dyn))) (And.intro (And.intro @ES14_93 (And.intro @pf93_at @ns_strip)) (And.intro @ns_set (And.intro @rowsA_len @rowsA_get))))
theorem sound61 : SoundV Tryd.prog globS 61 pf61 := by
  refine SoundV.walk ES14 okS14 mixed Tryd.func61 rfl Tryd.call61 (by kernel_rfl) ?_
  intro args r hr
  unfold pf61 at hr
  split at hr
  · simp only [Option.bind_eq_some_iff] at hr
    obtain ⟨l, h1, hr⟩ := hr
    split at hr
    · rename_i hc
      obtain ⟨hc, hl⟩ := hc
      cases hr
      obtain ⟨fl, rfl⟩ := rows?_of h1
      clear h1
      rw [Tryd.ntmps61, Tryd.results61]
      refine ⟨by simp, ?_⟩
      simp (maxSteps := 1000000) (disch := first | omega | (simp only [rowsA_len, nums_len, List.length_cons, List.length_nil, List.length_append, List.length_take, List.length_drop, List.length_replicate, List.length_set, List.length_map] <;> omega) | fail) only [ev0, ev1, ev2, ev3, ↓reduceIte, reduceCtorEq, Nat.reduceAdd, Nat.reduceSub, Nat.reduceMul, Nat.reduceLT, Nat.reduceLeDiff, Nat.reduceEqDiff, Nat.reduceBEq, BitVec.reduceOfInt, Int.reduceLE, Int.reduceLT, Int.reduceGT, Int.reduceGE, Int.reduceNeg, Int.reduceAdd, Int.reduceSub, Int.reduceMul, Int.reduceToNat, ↓bind_go, ↓map_go, wantedV, isWrite, grow, write, ofV, AV.cells, Abs.start, Abs.strip, endQ, resV, rawsRes, rawRes, exports, export1, AS.grown, AS.put, Env.know, Env.boxed, isSelf, convSelf, convV, loadV, storeV, fieldAddrV, fieldV, indexAddrV, indexV, partV, isAggK, isStr, place, ipS, lenV, min2V, makeV, freshSl, sliceV, boundOr, bound, bounds, cutFl, copyV, slCells, srcV, appendV, room, zerosOf, eqNeg, kd, takeR, hasViewL, hasView, freshR, freshC, snapAll, snap, snapL, flatL, pureL, pureA, fillC, arrOK, oneA, partB, AV.laid, ren1, CR.gr, applyW, useL, AS.mute, isGen, startG, ev5, tbHe0, globS]
      refine loopQ_of (fun n σ => ∃ k, k ≤ l.length ∧ n = l.length - k ∧ σ.slots 11 = .raw (.int .i64 (k : Int)) ∧ σ.slots 10 = .raw (.int .i64 (l.length : Int)) ∧ σ.slots 3 = .raw (.int .i64 ((catF l k).length : Int)) ∧ σ.slots 0 = .sl l.length (rowsA l) .bor ∧ σ.slots 9 = .sl l.length (rowsA l) .bor ∧ ∀ i : Abs.Id, σ.used i = false) l.length ?_ ?_
      · refine ⟨0, by omega, by omega, ?_⟩
        simp (maxSteps := 1000000) (disch := first | omega | (simp only [rowsA_len, nums_len, List.length_cons, List.length_nil, List.length_append, List.length_take, List.length_drop, List.length_replicate, List.length_set, List.length_map] <;> omega) | fail) only [ev0, ev1, ev2, ev3, ↓reduceIte, reduceCtorEq, Nat.reduceAdd, Nat.reduceSub, Nat.reduceMul, Nat.reduceLT, Nat.reduceLeDiff, Nat.reduceEqDiff, Nat.reduceBEq, BitVec.reduceOfInt, Int.reduceLE, Int.reduceLT, Int.reduceGT, Int.reduceGE, Int.reduceNeg, Int.reduceAdd, Int.reduceSub, Int.reduceMul, Int.reduceToNat, ↓bind_go, ↓map_go, wantedV, isWrite, grow, write, ofV, AV.cells, Abs.start, Abs.strip, endQ, resV, rawsRes, rawRes, exports, export1, AS.grown, AS.put, Env.know, Env.boxed, isSelf, convSelf, convV, loadV, storeV, fieldAddrV, fieldV, indexAddrV, indexV, partV, isAggK, isStr, place, ipS, lenV, min2V, makeV, freshSl, sliceV, boundOr, bound, bounds, cutFl, copyV, slCells, srcV, appendV, room, zerosOf, eqNeg, kd, takeR, hasViewL, hasView, freshR, freshC, snapAll, snap, snapL, flatL, pureL, pureA, fillC, arrOK, oneA, partB, AV.laid, ren1, CR.gr, applyW, useL, AS.mute, isGen, startG, ev5, tbHe0, globS]
        exact ⟨rfl, rfl, fun _ => trivial⟩
      · rintro n ⟨sl, gn, bx, us⟩ ⟨k, hk, rfl, s11, s10, s3, s0, s9, hu⟩
        dsimp only at s11 s10 s3 s0 s9 hu
        have hm := catF_mono l hk
        simp (maxSteps := 1000000) (disch := first | omega | (simp only [rowsA_len, nums_len, List.length_cons, List.length_nil, List.length_append, List.length_take, List.length_drop, List.length_replicate, List.length_set, List.length_map] <;> omega) | fail) only [ev0, ev1, ev2, ev3, ↓reduceIte, reduceCtorEq, Nat.reduceAdd, Nat.reduceSub, Nat.reduceMul, Nat.reduceLT, Nat.reduceLeDiff, Nat.reduceEqDiff, Nat.reduceBEq, BitVec.reduceOfInt, Int.reduceLE, Int.reduceLT, Int.reduceGT, Int.reduceGE, Int.reduceNeg, Int.reduceAdd, Int.reduceSub, Int.reduceMul, Int.reduceToNat, ↓bind_go, ↓map_go, wantedV, isWrite, grow, write, ofV, AV.cells, Abs.start, Abs.strip, endQ, resV, rawsRes, rawRes, exports, export1, AS.grown, AS.put, Env.know, Env.boxed, isSelf, convSelf, convV, loadV, storeV, fieldAddrV, fieldV, indexAddrV, indexV, partV, isAggK, isStr, place, ipS, lenV, min2V, makeV, freshSl, sliceV, boundOr, bound, bounds, cutFl, copyV, slCells, srcV, appendV, room, zerosOf, eqNeg, kd, takeR, hasViewL, hasView, freshR, freshC, snapAll, snap, snapL, flatL, pureL, pureA, fillC, arrOK, oneA, partB, AV.laid, ren1, CR.gr, applyW, useL, AS.mute, isGen, startG, ev5, tbHe0, globS, s11, s10, s3, s0, s9]
        refine condQ_dec (fun hlt => ?_) (fun hge => ?_)
        · have hlt : k < l.length := by omega
          have hm1 := catF_mono l (show k + 1 ≤ l.length by omega)
          have he : (catF l (k + 1)).length = (catF l k).length + (l.getD k []).length := by simp [catF]
          simp (maxSteps := 1000000) (disch := first | omega | (simp only [rowsA_len, nums_len, List.length_cons, List.length_nil, List.length_append, List.length_take, List.length_drop, List.length_replicate, List.length_set, List.length_map] <;> omega) | fail) only [ev0, ev1, ev2, ev3, ↓reduceIte, reduceCtorEq, Nat.reduceAdd, Nat.reduceSub, Nat.reduceMul, Nat.reduceLT, Nat.reduceLeDiff, Nat.reduceEqDiff, Nat.reduceBEq, BitVec.reduceOfInt, Int.reduceLE, Int.reduceLT, Int.reduceGT, Int.reduceGE, Int.reduceNeg, Int.reduceAdd, Int.reduceSub, Int.reduceMul, Int.reduceToNat, ↓bind_go, ↓map_go, wantedV, isWrite, grow, write, ofV, AV.cells, Abs.start, Abs.strip, endQ, resV, rawsRes, rawRes, exports, export1, AS.grown, AS.put, Env.know, Env.boxed, isSelf, convSelf, convV, loadV, storeV, fieldAddrV, fieldV, indexAddrV, indexV, partV, isAggK, isStr, place, ipS, lenV, min2V, makeV, freshSl, sliceV, boundOr, bound, bounds, cutFl, copyV, slCells, srcV, appendV, room, zerosOf, eqNeg, kd, takeR, hasViewL, hasView, freshR, freshC, snapAll, snap, snapL, flatL, pureL, pureA, fillC, arrOK, oneA, partB, AV.laid, ren1, CR.gr, applyW, useL, AS.mute, isGen, startG, ev5, tbHe0, globS, s11, s10, s3, s0, s9]
          refine condQ_dec (fun hneg => by omega) (fun _ => ?_)
          simp (maxSteps := 1000000) (disch := first | omega | (simp only [rowsA_len, nums_len, List.length_cons, List.length_nil, List.length_append, List.length_take, List.length_drop, List.length_replicate, List.length_set, List.length_map] <;> omega) | fail) only [ev0, ev1, ev2, ev3, ↓reduceIte, reduceCtorEq, Nat.reduceAdd, Nat.reduceSub, Nat.reduceMul, Nat.reduceLT, Nat.reduceLeDiff, Nat.reduceEqDiff, Nat.reduceBEq, BitVec.reduceOfInt, Int.reduceLE, Int.reduceLT, Int.reduceGT, Int.reduceGE, Int.reduceNeg, Int.reduceAdd, Int.reduceSub, Int.reduceMul, Int.reduceToNat, ↓bind_go, ↓map_go, wantedV, isWrite, grow, write, ofV, AV.cells, Abs.start, Abs.strip, endQ, resV, rawsRes, rawRes, exports, export1, AS.grown, AS.put, Env.know, Env.boxed, isSelf, convSelf, convV, loadV, storeV, fieldAddrV, fieldV, indexAddrV, indexV, partV, isAggK, isStr, place, ipS, lenV, min2V, makeV, freshSl, sliceV, boundOr, bound, bounds, cutFl, copyV, slCells, srcV, appendV, room, zerosOf, eqNeg, kd, takeR, hasViewL, hasView, freshR, freshC, snapAll, snap, snapL, flatL, pureL, pureA, fillC, arrOK, oneA, partB, AV.laid, ren1, CR.gr, applyW, useL, AS.mute, isGen, startG, ev5, tbHe0, globS, s11, s10, s3, s0, s9]
          refine ⟨l.length - (k + 1), by omega, k + 1, by omega, rfl, rfl, i64_eq (by omega), hu⟩
        · have hk : k = l.length := by omega
          subst hk
          simp (maxSteps := 1000000) (disch := first | omega | (simp only [rowsA_len, nums_len, List.length_cons, List.length_nil, List.length_append, List.length_take, List.length_drop, List.length_replicate, List.length_set, List.length_map] <;> omega) | fail) only [ev0, ev1, ev2, ev3, ↓reduceIte, reduceCtorEq, Nat.reduceAdd, Nat.reduceSub, Nat.reduceMul, Nat.reduceLT, Nat.reduceLeDiff, Nat.reduceEqDiff, Nat.reduceBEq, BitVec.reduceOfInt, Int.reduceLE, Int.reduceLT, Int.reduceGT, Int.reduceGE, Int.reduceNeg, Int.reduceAdd, Int.reduceSub, Int.reduceMul, Int.reduceToNat, ↓bind_go, ↓map_go, wantedV, isWrite, grow, write, ofV, AV.cells, Abs.start, Abs.strip, endQ, resV, rawsRes, rawRes, exports, export1, AS.grown, AS.put, Env.know, Env.boxed, isSelf, convSelf, convV, loadV, storeV, fieldAddrV, fieldV, indexAddrV, indexV, partV, isAggK, isStr, place, ipS, lenV, min2V, makeV, freshSl, sliceV, boundOr, bound, bounds, cutFl, copyV, slCells, srcV, appendV, room, zerosOf, eqNeg, kd, takeR, hasViewL, hasView, freshR, freshC, snapAll, snap, snapL, flatL, pureL, pureA, fillC, arrOK, oneA, partB, AV.laid, ren1, CR.gr, applyW, useL, AS.mute, isGen, startG, ev5, tbHe0, globS, s11, s10, s3, s0, s9]
          refine loopQ_of (fun n σ => ∃ k i, k ≤ l.length ∧ n = l.length - k ∧ σ.slots 27 = .raw (.int .i64 (k : Int)) ∧ σ.slots 26 = .raw (.int .i64 (l.length : Int)) ∧ σ.slots 25 = .sl l.length (rowsA l) .bor ∧ σ.slots 6 = .sl (catF l k).length (nums .u8 (catF l k)) (.own i 1) ∧ Free σ.used (σ.gen 33) 33 i) l.length ?_ ?_
          · refine ⟨0, ⟨0, 24, 0, gn 24 + 1⟩, by omega, by omega, ?_⟩
            simp (maxSteps := 1000000) (disch := first | omega | (simp only [rowsA_len, nums_len, List.length_cons, List.length_nil, List.length_append, List.length_take, List.length_drop, List.length_replicate, List.length_set, List.length_map] <;> omega) | fail) only [ev0, ev1, ev2, ev3, ↓reduceIte, reduceCtorEq, Nat.reduceAdd, Nat.reduceSub, Nat.reduceMul, Nat.reduceLT, Nat.reduceLeDiff, Nat.reduceEqDiff, Nat.reduceBEq, BitVec.reduceOfInt, Int.reduceLE, Int.reduceLT, Int.reduceGT, Int.reduceGE, Int.reduceNeg, Int.reduceAdd, Int.reduceSub, Int.reduceMul, Int.reduceToNat, ↓bind_go, ↓map_go, wantedV, isWrite, grow, write, ofV, AV.cells, Abs.start, Abs.strip, endQ, resV, rawsRes, rawRes, exports, export1, AS.grown, AS.put, Env.know, Env.boxed, isSelf, convSelf, convV, loadV, storeV, fieldAddrV, fieldV, indexAddrV, indexV, partV, isAggK, isStr, place, ipS, lenV, min2V, makeV, freshSl, sliceV, boundOr, bound, bounds, cutFl, copyV, slCells, srcV, appendV, room, zerosOf, eqNeg, kd, takeR, hasViewL, hasView, freshR, freshC, snapAll, snap, snapL, flatL, pureL, pureA, fillC, arrOK, oneA, partB, AV.laid, ren1, CR.gr, applyW, useL, AS.mute, isGen, startG, ev5, tbHe0, globS, s11, s10, s3, s0, s9]
            exact ⟨rfl, rfl, ⟨hu _, fun _ _ => hu _, by simp⟩⟩
          · clear s11 s10 s3 s0 s9 hu sl gn bx us
            rintro n ⟨sl, gn, bx, us⟩ ⟨k, i, hk, rfl, s27, s26, s25, s6, hf⟩
            dsimp only at s27 s26 s25 s6 hf
            have hf0 := hf.now
            simp (maxSteps := 1000000) (disch := first | omega | (simp only [rowsA_len, nums_len, List.length_cons, List.length_nil, List.length_append, List.length_take, List.length_drop, List.length_replicate, List.length_set, List.length_map] <;> omega) | fail) only [ev0, ev1, ev2, ev3, ↓reduceIte, reduceCtorEq, Nat.reduceAdd, Nat.reduceSub, Nat.reduceMul, Nat.reduceLT, Nat.reduceLeDiff, Nat.reduceEqDiff, Nat.reduceBEq, BitVec.reduceOfInt, Int.reduceLE, Int.reduceLT, Int.reduceGT, Int.reduceGE, Int.reduceNeg, Int.reduceAdd, Int.reduceSub, Int.reduceMul, Int.reduceToNat, ↓bind_go, ↓map_go, wantedV, isWrite, grow, write, ofV, AV.cells, Abs.start, Abs.strip, endQ, resV, rawsRes, rawRes, exports, export1, AS.grown, AS.put, Env.know, Env.boxed, isSelf, convSelf, convV, loadV, storeV, fieldAddrV, fieldV, indexAddrV, indexV, partV, isAggK, isStr, place, ipS, lenV, min2V, makeV, freshSl, sliceV, boundOr, bound, bounds, cutFl, copyV, slCells, srcV, appendV, room, zerosOf, eqNeg, kd, takeR, hasViewL, hasView, freshR, freshC, snapAll, snap, snapL, flatL, pureL, pureA, fillC, arrOK, oneA, partB, AV.laid, ren1, CR.gr, applyW, useL, AS.mute, isGen, startG, ev5, tbHe0, globS, s27, s26, s25, s6, hf0]
            refine condQ_dec (fun hlt => ?_) (fun hge => ?_)
            · have hlt : k < l.length := by omega
              have hm1 := catF_mono l (show k + 1 ≤ l.length by omega)
              have he : (catF l (k + 1)).length = (catF l k).length + (l.getD k []).length := by simp [catF]
              simp (maxSteps := 1000000) (disch := first | omega | (simp only [rowsA_len, nums_len, List.length_cons, List.length_nil, List.length_append, List.length_take, List.length_drop, List.length_replicate, List.length_set, List.length_map] <;> omega) | fail) only [ev0, ev1, ev2, ev3, ↓reduceIte, reduceCtorEq, Nat.reduceAdd, Nat.reduceSub, Nat.reduceMul, Nat.reduceLT, Nat.reduceLeDiff, Nat.reduceEqDiff, Nat.reduceBEq, BitVec.reduceOfInt, Int.reduceLE, Int.reduceLT, Int.reduceGT, Int.reduceGE, Int.reduceNeg, Int.reduceAdd, Int.reduceSub, Int.reduceMul, Int.reduceToNat, ↓bind_go, ↓map_go, wantedV, isWrite, grow, write, ofV, AV.cells, Abs.start, Abs.strip, endQ, resV, rawsRes, rawRes, exports, export1, AS.grown, AS.put, Env.know, Env.boxed, isSelf, convSelf, convV, loadV, storeV, fieldAddrV, fieldV, indexAddrV, indexV, partV, isAggK, isStr, place, ipS, lenV, min2V, makeV, freshSl, sliceV, boundOr, bound, bounds, cutFl, copyV, slCells, srcV, appendV, room, zerosOf, eqNeg, kd, takeR, hasViewL, hasView, freshR, freshC, snapAll, snap, snapL, flatL, pureL, pureA, fillC, arrOK, oneA, partB, AV.laid, ren1, CR.gr, applyW, useL, AS.mute, isGen, startG, ev5, tbHe0, globS, s27, s26, s25, s6, hf0]
              exact ⟨l.length - (k + 1), by omega, k + 1, ⟨0, 33, 0, gn 33 + 1⟩, by omega, rfl, rfl, row_eq he.symm rfl, hf.go⟩
            · have hk : k = l.length := by omega
              subst hk
              simp (maxSteps := 1000000) (disch := first | omega | (simp only [rowsA_len, nums_len, List.length_cons, List.length_nil, List.length_append, List.length_take, List.length_drop, List.length_replicate, List.length_set, List.length_map] <;> omega) | fail) only [ev0, ev1, ev2, ev3, ↓reduceIte, reduceCtorEq, Nat.reduceAdd, Nat.reduceSub, Nat.reduceMul, Nat.reduceLT, Nat.reduceLeDiff, Nat.reduceEqDiff, Nat.reduceBEq, BitVec.reduceOfInt, Int.reduceLE, Int.reduceLT, Int.reduceGT, Int.reduceGE, Int.reduceNeg, Int.reduceAdd, Int.reduceSub, Int.reduceMul, Int.reduceToNat, ↓bind_go, ↓map_go, wantedV, isWrite, grow, write, ofV, AV.cells, Abs.start, Abs.strip, endQ, resV, rawsRes, rawRes, exports, export1, AS.grown, AS.put, Env.know, Env.boxed, isSelf, convSelf, convV, loadV, storeV, fieldAddrV, fieldV, indexAddrV, indexV, partV, isAggK, isStr, place, ipS, lenV, min2V, makeV, freshSl, sliceV, boundOr, bound, bounds, cutFl, copyV, slCells, srcV, appendV, room, zerosOf, eqNeg, kd, takeR, hasViewL, hasView, freshR, freshC, snapAll, snap, snapL, flatL, pureL, pureA, fillC, arrOK, oneA, partB, AV.laid, ren1, CR.gr, applyW, useL, AS.mute, isGen, startG, ev5, tbHe0, globS, s27, s26, s25, s6, hf0]
              exact ResQ.same rfl
    · cases hr
  · cases hr
end Go.Proofs.YtddeffdgldjdjaaDoor
