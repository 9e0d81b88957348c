/- WireOnce: bytes that are read are what is written of it: for every input. -/
import Derived.Test.YtjnmdphoaafjaaaRp
import Derived.Test.YtjnmdphoaafjaaaQr
namespace Go.Proofs.Ytjnmdphoaafjaaa
set_option linter.unusedSimpArgs false
set_option linter.unusedVariables false
open Go Go.Abs Go.ChangeShapes Go.WideShapes Go.ChangeAt Go.RowKit

set_option maxRecDepth 100000 in
theorem wireOnce_lifted (os : Os) (started : os.Started) (H : Type) (enc : TypeId × Value → H) :
    ReturnsInHanded {} Try.checked os 21 .any (fun w args => (Rows.wireOnceSpec.pre enc Try.prog Try.f21 [] false w args ∧ True) ∧ sizedMet enc Try.prog Try.f21 (OpenSpec.ofChange Rows.wireOnceSpec) false w args)
      (Rows.wireOnceSpec.post enc Try.prog Try.f21 false true false false) := by
  refine returnsInHanded_of_change_and (C := Try.checked) (X := fun _ _ => True) (fun _ _ _ hh h => h) own started (by kernel_rfl) Try.func21
    (ChangeSpec.witness_shaped (enc := enc) (C := Try.checked) (os := os) (X := fun _ _ => True) false (World.doorLaid Try.prog 400 os) #[.slice none 0 0] 8 rfl (World.shaped_of_RefB (by kernel_rfl) (by kernel_rfl)) (by kernel_rfl) (by kernel_rfl) (by kernel_rfl) trivial) ?_
  intro W base args ds gs before hval0 hW _ hz _ _
  have hval : ∀ (j : Nat) t v, Try.f21.params[j]? = some t → args[j]? = some v → Value.okWide Try.prog W .any base t v := hval0
  have hW' := hW
  obtain ⟨p, q, hA0, hV, rfl, hfz, hnd⟩ := hW
  have hA : DataW.TrodAll enc Try.prog W 0 (fun _ => true) true Try.f21.params.toList args.toList ds p := hA0
  rw [Try.params21] at hA hval hz
  obtain ⟨v0, d0, rfl, rfl, h0⟩ := trodAll_one hA
  obtain ⟨rfl, rfl⟩ := trodVars_none hV
  obtain ⟨m0, hm0, r0⟩ := Go.Abs.open_row (w := 8) Try.underlying29 Try.underlying5 cells5 u8_wf (hval 0 29 v0 rfl rfl) h0
  have z0 := sizedLen (j := 0) Try.underlying29 Try.underlying5 cells5 h0 (slLen r0) hz rfl rfl
  rw [bytes5] at z0
  have z0 : m0.length ≤ 140737488355328 := by have : reachBytes = 140737488351232 := rfl; omega
  clear hA0 hval0
  simp only [List.append_nil] at hW'
  have hlt : ∀ x ∈ p, x.block < W.heap.size := fun x hx => by simpa using hW'.lt x (by simpa using hx)
  have hpf : pf21 [.sl m0.length (nums .u8 m0) .bor] = some (.raw (.bool true)) := by
    simp only [pf21, row?_at, Option.bind_some]
    exact if_pos z0
  have hrel : RVs noMu (allG W) W [.sl m0.length (nums .u8 m0) .bor] [v0] := by simp only [RVs]; exact ⟨_, _, rfl, r0, rfl⟩
  refine (sound21.calls hpf glob_none hrel).mono ?_
  rintro e W' ⟨rfl, bel⟩
  have harg0 := Below.trod laidOut (by kernel_rfl) (of_decide_eq_true (by kernel_rfl)) h0 bel (fun x hx => hlt x (by simp [hx]))
  refine ⟨_, rfl, _, _, _, [], p, [], hW', ?_, trodAll_mk1 harg0, rfl, bel.frame _, fun h => by cases h⟩
  exact trodAll_mk1 (shut_bool Try.underlying4 _)

theorem wireOnce_facts : joinedFacts Try.prog 21 Try.f21 Rows.wireOnceSpec Rows.wireOnceRow = true := by
  unfold joinedFacts
  rw [may, lifts, makes]
  kernel_rfl

theorem wireOnce_holds : Rows.WireOnceSaid :=
  OpenClaim.holds_of_wide 21 Try.f21 rfl rfl rfl rfl rfl rfl rfl ⟨rfl, rfl, rfl, rfl, rfl⟩ rfl rfl rfl rfl rfl (by kernel_rfl) Try.func21 wireOnce_facts
    (of_decide_eq_true (by kernel_rfl)) (by unfold Func.isWrapper; first | (rw [if_pos (by decide +kernel)]; kernel_rfl) | (rw [if_neg (by decide +kernel)]; exact ⟨rfl, rfl⟩))
    (fun os started H enc _ => by rw [preNone rfl]; exact wireOnce_lifted os started H enc)

#print axioms wireOnce_holds
end Go.Proofs.Ytjnmdphoaafjaaa
