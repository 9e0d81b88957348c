/- GcmTags: any bytes' tag is the document's: for every input. -/
import Derived.Test.YtjnmdphoaafjaaaRq
import Derived.Test.YtjnmdphoaafjaaaVk
namespace Go.Proofs.Ytjnmdphoaafjaaa
set_option linter.unusedSimpArgs false
set_option linter.unusedVariables false
open Go Go.Abs Go.ChangeShapes Go.WideShapes Go.ChangeAt Go.RowKit

set_option maxRecDepth 100000 in
theorem gcmTags_lifted (os : Os) (started : os.Started) (H : Type) (enc : TypeId × Value → H) :
    ReturnsInHanded {} Try.checked os 12 .any (fun w args => (Rows.gcmTagsSpec.pre enc Try.prog Try.f12 [] false w args ∧ True) ∧ sizedMet enc Try.prog Try.f12 (OpenSpec.ofChange Rows.gcmTagsSpec) false w args)
      (Rows.gcmTagsSpec.post enc Try.prog Try.f12 false true false false) := by
  refine returnsInHanded_of_change_and (C := Try.checked) (X := fun _ _ => True) (fun _ _ _ hh h => h) own started (by kernel_rfl) Try.func12
    (ChangeSpec.witness_shaped (enc := enc) (C := Try.checked) (os := os) (X := fun _ _ => True) false (World.doorLaid Try.prog 400 os) #[.agg (Array.replicate 44 (.int .u8 0) ++ #[.slice none 0 0]), .slice none 0 0] 8 rfl (World.shaped_of_RefB (by kernel_rfl) (by kernel_rfl)) (by kernel_rfl) (by kernel_rfl) (by kernel_rfl) trivial) ?_
  intro W base args ds gs before hval0 hW _ hz _ _
  have hval : ∀ (j : Nat) t v, Try.f12.params[j]? = some t → args[j]? = some v → Value.okWide Try.prog W .any base t v := hval0
  have hW' := hW
  obtain ⟨p, q, hA0, hV, rfl, hfz, hnd⟩ := hW
  have hA : DataW.TrodAll enc Try.prog W 0 (fun _ => true) true Try.f12.params.toList args.toList ds p := hA0
  rw [Try.params12] at hA hval hz
  obtain ⟨v0, v1, d0, d1, p0, p1, rfl, rfl, rfl, h0, h1⟩ := trodAll_two hA
  obtain ⟨rfl, rfl⟩ := trodVars_none hV
  obtain ⟨m0, z0, r0⟩ := open_bk (hval 0 70 v0 rfl rfl) h0
  obtain ⟨e0, b0⟩ := bk?_at z0
  obtain ⟨m1, hm1, r1⟩ := Go.Abs.open_row (w := 8) Try.underlying29 Try.underlying5 cells5 u8_wf (hval 1 29 v1 rfl rfl) h1
  have z1 := sizedLen (j := 1) Try.underlying29 Try.underlying5 cells5 h1 (slLen r1) hz rfl rfl
  rw [bytes5] at z1
  have z1 : m1.length ≤ 140737488355328 := by have : reachBytes = 140737488351232 := rfl; omega
  clear hA0 hval0
  simp only [List.append_nil] at hW'
  have hlt : ∀ x ∈ p0 ++ p1, x.block < W.heap.size := fun x hx => by simpa using hW'.lt x (by simpa using hx)
  have hpf : pf12 [.agg (bkA m0), .sl m1.length (nums .u8 m1) .bor] = some (.raw (.bool true)) := by
    simp only [pf12, b0, row?_at, Option.bind_some]
    exact if_pos (by omega)
  have hrel : RVs noMu (allG W) W [.agg (bkA m0), .sl m1.length (nums .u8 m1) .bor] [v0, v1] := by simp only [RVs]; exact ⟨_, _, rfl, r0, ⟨_, _, rfl, r1, rfl⟩⟩
  refine (sound12.calls hpf glob_none hrel).mono ?_
  rintro e W' ⟨rfl, bel⟩
  have harg0 := Below.trod laidOut (by kernel_rfl) (of_decide_eq_true (by kernel_rfl)) h0 bel (fun x hx => hlt x (by simp [hx]))
  have harg1 := Below.trod laidOut (by kernel_rfl) (of_decide_eq_true (by kernel_rfl)) h1 bel (fun x hx => hlt x (by simp [hx]))
  refine ⟨_, rfl, _, _, _, [], p0 ++ p1, [], hW', ?_, trodAll_mk2 harg0 harg1, rfl, bel.frame _, fun h => by cases h⟩
  exact trodAll_mk1 (shut_bool Try.underlying4 _)

theorem gcmTags_facts : joinedFacts Try.prog 12 Try.f12 Rows.gcmTagsSpec Rows.gcmTagsRow = true := by
  unfold joinedFacts
  rw [may, lifts, makes]
  kernel_rfl

theorem gcmTags_holds : Rows.GcmTagsSaid :=
  OpenClaim.holds_of_wide 12 Try.f12 rfl rfl rfl rfl rfl rfl rfl ⟨rfl, rfl, rfl, rfl, rfl⟩ rfl rfl rfl rfl rfl (by kernel_rfl) Try.func12 gcmTags_facts
    (of_decide_eq_true (by kernel_rfl)) (by unfold Func.isWrapper; first | (rw [if_pos (by decide +kernel)]; kernel_rfl) | (rw [if_neg (by decide +kernel)]; exact ⟨rfl, rfl⟩))
    (fun os started H enc _ => by rw [preNone rfl]; exact gcmTags_lifted os started H enc)

#print axioms gcmTags_holds
end Go.Proofs.Ytjnmdphoaafjaaa
