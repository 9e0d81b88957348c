/- DiskFiles: what is done to a file is not seen in another one: for every input. -/
import Derived.Test.YtjnmdphoaafjaaaCb
import Derived.Test.YtjnmdphoaafjaaaBm
namespace Go.Proofs.Ytjnmdphoaafjaaa
set_option linter.unusedSimpArgs false
set_option linter.unusedVariables false
open Go Go.Abs Go.ChangeShapes Go.WideShapes Go.ChangeAt Go.RowKit

set_option maxRecDepth 100000 in
theorem diskFiles_lifted (os : Os) (started : os.Started) (H : Type) (enc : TypeId × Value → H) :
    ReturnsInHanded {} Try.checked os 5 .any (fun w args => (Rows.diskFilesSpec.pre enc Try.prog Try.f5 [] false w args ∧ True) ∧ sizedMet enc Try.prog Try.f5 (OpenSpec.ofChange Rows.diskFilesSpec) false w args)
      (Rows.diskFilesSpec.post enc Try.prog Try.f5 false true false false) := by
  refine returnsInHanded_of_change_and (C := Try.checked) (X := fun _ _ => True) (fun _ _ _ hh h => h) own started (by kernel_rfl) Try.func5
    (ChangeSpec.witness_shaped (enc := enc) (C := Try.checked) (os := os) (X := fun _ _ => True) false (World.doorLaid Try.prog 400 os) #[.slice none 0 0] 8 rfl (World.shaped_of_RefB (by kernel_rfl) (by kernel_rfl)) (by kernel_rfl) (by kernel_rfl) (by kernel_rfl) trivial) ?_
  intro W base args ds gs before hval0 hW _ hz _ _
  have hval : ∀ (j : Nat) t v, Try.f5.params[j]? = some t → args[j]? = some v → Value.okWide Try.prog W .any base t v := hval0
  have hW' := hW
  obtain ⟨p, q, hA0, hV, rfl, hfz, hnd⟩ := hW
  have hA : DataW.TrodAll enc Try.prog W 0 (fun _ => true) true Try.f5.params.toList args.toList ds p := hA0
  rw [Try.params5] at hA hval hz
  obtain ⟨v0, d0, rfl, rfl, h0⟩ := trodAll_one hA
  obtain ⟨rfl, rfl⟩ := trodVars_none hV
  obtain ⟨m0, z0, y0, r0⟩ := open_ops (hval 0 37 v0 rfl rfl) h0
  obtain ⟨e0, b0⟩ := ops?_at (fl := .bor) y0
  clear hA0 hval0
  simp only [List.append_nil] at hW'
  have hlt : ∀ x ∈ p, x.block < W.heap.size := fun x hx => by simpa using hW'.lt x (by simpa using hx)
  have hpf : pf5 [.sl m0.length (opsA m0) .bor] = some (.raw (.bool true)) := by
    simp only [pf5, b0, Option.bind_some]
  have hrel : RVs noMu (allG W) W [.sl m0.length (opsA m0) .bor] [v0] := by simp only [RVs]; exact ⟨_, _, rfl, r0, rfl⟩
  refine (sound5.calls hpf glob_none hrel).mono ?_
  rintro e W' ⟨rfl, bel⟩
  have harg0 := Below.trod laidOut (by kernel_rfl) (of_decide_eq_true (by kernel_rfl)) h0 bel (fun x hx => hlt x (by simp [hx]))
  refine ⟨_, rfl, _, _, _, [], p, [], hW', ?_, trodAll_mk1 harg0, rfl, bel.frame _, fun h => by cases h⟩
  exact trodAll_mk1 (shut_bool Try.underlying4 _)

theorem diskFiles_facts : joinedFacts Try.prog 5 Try.f5 Rows.diskFilesSpec Rows.diskFilesRow = true := by
  unfold joinedFacts
  rw [may, lifts, makes]
  kernel_rfl

theorem diskFiles_holds : Rows.DiskFilesSaid :=
  OpenClaim.holds_of_wide 5 Try.f5 rfl rfl rfl rfl rfl rfl rfl ⟨rfl, rfl, rfl, rfl, rfl⟩ rfl rfl rfl rfl rfl (by kernel_rfl) Try.func5 diskFiles_facts
    (of_decide_eq_true (by kernel_rfl)) (by unfold Func.isWrapper; first | (rw [if_pos (by decide +kernel)]; kernel_rfl) | (rw [if_neg (by decide +kernel)]; exact ⟨rfl, rfl⟩))
    (fun os started H enc _ => by rw [preNone rfl]; exact diskFiles_lifted os started H enc)

#print axioms diskFiles_holds
end Go.Proofs.Ytjnmdphoaafjaaa
