/- slices.Grow of nothing: walked with the library's own words. -/
import Derived.Test.YteooikdcafodfaaDoorBb
import Derived.WalkKit
import Derived.Lib.Walk
import Derived.Lib.SliceRun
import Derived.Lib.AppendZerosOnto
namespace Go.Proofs.YteooikdcafodfaaDoor
set_option linter.unusedSimpArgs false
set_option linter.unusedVariables false
open Go Go.Abs Go.RowKit Go.Lib

set_option maxHeartbeats 2000000 in
set_option maxRecDepth 100000 in
theorem growNil_walk (z : Value) (i : TypeInfo) (hi : Tryd.prog.info? 5 = some i) (his : i.size = 1) (hib : i.bytes = 1) (hiz : i.zero = some z) (n : Nat) (hn : 0 < n) (hb : n ≤ 140737488355328) (w : World) :
    Calls Tryd.prog 42 #[.slice none 0 0, .int .i64 n] w fun e w' =>
      e = .returned (.slice (some ⟨w.heap.size, 0, none⟩) 0 (grownCap w n 0 5)) ∧
      w' = w.drew.alloc (.cells (Builtin.zeroCells z.cells n ++ Builtin.zeroCells z.cells (grownCap w n 0 5 - n)) 5) := by
  have h1 : ¬ ((n : Int) < 0) := by omega
  have h4 : (n : Int) > 0 := by omega
  have h2 : wrap64 ((0 : Int) - 0) = 0 := by unfold wrap64; omega
  have h3 : wrap64 ((n : Int) - 0) = n := by unfold wrap64; omega
  have hrz : ∀ ty, (Builtin.append_ #[22, 3] ty #[.slice none 0 0, .int .i64 (n : Int)]).run Tryd.prog w =
      .ok (.slice (some ⟨w.heap.size, 0, none⟩) n (grownCap w n 0 5)) (w.drew.alloc (.cells (Builtin.zeroCells z.cells n ++ Builtin.zeroCells z.cells (grownCap w n 0 5 - n)) 5)) := fun ty => by
    have h := Lib.run_append_grow_zeros w 22 3 ty 5 i z .i64 .i64 Tryd.underlying22 Tryd.underlying3 hi hiz none 0 0 [] (run_firstCells_none w.drew i.size 0 0 0) n hn (by omega) (by omega) (by omega) (by rw [hib]; omega)
      (by rw [Nat.zero_add]; exact growslice_fits hn (by rw [hib]; omega))
    simpa using h
  have hGn : n ≤ grownCap w n 0 5 := grownCap_ge w _ _ _
  generalize grownCap w n 0 5 = G at hrz hGn ⊢
  go_enter Tryd.func42, Tryd.ntmps42
  go_wp2_with (at_builtin; refine Lib.wpList_append_run _ rfl _ _ _ _ rfl _ _ rfl rfl _ _ (hrz _) ?_)
  all_goals (go_ret; exact ⟨rfl, rfl⟩)

set_option maxHeartbeats 2000000 in
theorem growNil_zero (w : World) : Calls Tryd.prog 42 #[.slice none 0 0, .int .i64 0] w fun e w' => e = .returned (.slice none 0 0) ∧ w' = w := by
  have h2 : wrap64 ((0 : Int) - 0) = 0 := by unfold wrap64; omega
  go_enter Tryd.func42, Tryd.ntmps42
  go_wp2
  go_ret
  exact ⟨rfl, rfl⟩

/-- room for some bytes, where there was nothing -/
def pf42 : List AV → Option AV
  | [.raw (.slice none 0 0), v] => (int? v).bind fun n => if 0 ≤ n ∧ n ≤ 1099511627776 then some (.sl 0 [] (.own ⟨0, 0, 0⟩ 1)) else none
  | _ => none
theorem pf42_at {n : Int} (h : 0 ≤ n ∧ n ≤ 1099511627776) : pf42 [.raw (.slice none 0 0), .raw (.int .i64 n)] = some (.sl 0 [] (.own ⟨0, 0, 0⟩ 1)) := by
  simp only [pf42, int?_at, Option.bind_some, if_pos h]

theorem sound42 : SoundV Tryd.prog glob 42 pf42 := by
  refine ⟨Tryd.call42, fun args r hr G w vals hp => ?_⟩
  unfold pf42 at hr
  split at hr
  · rename_i v
    simp only [Option.bind_eq_some_iff] at hr
    obtain ⟨n, h1, h2⟩ := hr
    split at h2
    · rename_i hc
      cases h2
      rw [int?_of h1] at hp
      obtain ⟨k, rfl⟩ := Int.eq_ofNat_of_zero_le hc.1
      have ha := hp.args
      simp only [RVs, RV] at ha
      obtain ⟨u, us, rfl, rfl, u2, us2, rfl, rfl, rfl⟩ := ha
      by_cases h0 : k = 0
      · subst h0
        refine (growNil_zero w).mono ?_
        rintro e w' ⟨rfl, rfl⟩
        refine ⟨_, G, fun _ => none, rfl, Below.refl _ _, fun _ _ h => h, fun _ _ h _ => h, hp.cell, ?_, ?_, fun _ _ _ _ h => (by cases h), fun _ _ _ _ _ _ _ h => (by cases h)⟩
        · simp only [RV]; exact .inl (by simp)
        · simp [Top, FlOK, resG]
      · obtain ⟨i, z, hi, his, hib, hiz, hzl, hzs⟩ := (te_ok 5 _ te5).info
        refine (growNil_walk z i hi his hib hiz k (by omega) (by omega) w).mono ?_
        rintro e w' ⟨rfl, hw⟩
        have hg := grownCap_ge w k 0 5
        generalize grownCap w k 0 5 = cap at hw hg ⊢
        have hz1 : z.cells.size = 1 := by
          have : z.cells.toList.length = 1 := by rw [hzl]; rfl
          simpa using this
        have hbel : Below w.heap.size w w' := by
          rw [hw]
          exact (Below.refl w.heap.size w).drew.trans ((below_alloc' w.drew _ : Below w.drew.heap.size w.drew _).mono (Nat.le_refl _))
        obtain ⟨C, hC, hCs⟩ : ∃ C, w'.heap[w.heap.size]? = some (.cells C 5 (0, 0)) ∧ C.size = cap := by
          rw [hw]
          refine ⟨_, alloc_at w.drew _, ?_⟩
          simp only [Array.size_append, size_zeroCells, hz1]
          omega
        refine ⟨_, G, fun c => if c = 0 then some (w.heap.size, 0, cap) else none, rfl, hbel, fun _ _ h => h, fun _ _ h _ => h, ?_, ?_, ?_, ?_, ?_⟩
        · intro k' o' hg'
          have := hp.cell k' o' hg'
          rw [at_of_block (hbel.block k' (at_lt this))]
          exact this
        · simp only [RV]
          exact .inr ⟨w.heap.size, 0, cap, [], rfl, Nat.zero_le _, by simp only [RVs], fun j hj => by simp at hj⟩
        · simp only [Top, FlOK, resG]
          refine ⟨Nat.le_refl _, .inr (.inr ⟨w.heap.size, 0, 0, cap, rfl, by simp, by simp, .inr (by simp)⟩)⟩
        · intro c k' lo hi' hT
          have hT' : (if c = 0 then some (w.heap.size, 0, cap) else none) = some (k', lo, hi') := hT
          split at hT'
          · cases hT'
            refine ⟨Nat.le_refl _, (Array.getElem?_eq_some_iff.1 hC).1, Nat.zero_le _, fun o h1 h2 => ⟨?_, frozen_row hC, fun hG => ?_⟩⟩
            · rw [at_row hC]
              simp [show o < C.size by omega]
            · exact absurd (at_lt (hp.cell _ _ hG)) (Nat.lt_irrefl _)
          · cases hT'
        · intro c c' k' lo hi' lo' hi'' hT hT'
          have e1 : (if c = 0 then some (w.heap.size, 0, cap) else none) = some (k', lo, hi') := hT
          have e2 : (if c' = 0 then some (w.heap.size, 0, cap) else none) = some (k', lo', hi'') := hT'
          split at e1
          · split at e2
            · simp_all
            · cases e2
          · cases e1
    · cases h2
  · cases hr
end Go.Proofs.YteooikdcafodfaaDoor
