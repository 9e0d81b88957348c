/- DiskSure: what was made sure is there behind any Boot, ahead of whatever else is kept, and that is a beginning of what was there, but for its last byte: for every input. -/
import Derived.Test.YtjnmdphoaafjaaaCc
namespace Go.Proofs.Ytjnmdphoaafjaaa
set_option linter.unusedSimpArgs false
set_option linter.unusedVariables false
open Go Go.Abs Go.ChangeShapes Go.WideShapes Go.ChangeAt Go.RowKit

set_option maxRecDepth 100000 in
theorem diskSure_lifted (os : Os) (started : os.Started) (H : Type) (enc : TypeId × Value → H) :
    ReturnsInHanded {} Try.checked os 3 .any (fun w args => (Rows.diskSureSpec.pre enc Try.prog Try.f3 [] false w args ∧ True) ∧ sizedMet enc Try.prog Try.f3 (OpenSpec.ofChange Rows.diskSureSpec) false w args)
      (Rows.diskSureSpec.post enc Try.prog Try.f3 false true false false) := by
  refine returnsInHanded_of_change_and (C := Try.checked) (X := fun _ _ => True) (fun _ _ _ hh h => h) own started (by kernel_rfl) Try.func3
    (ChangeSpec.witness_shaped (enc := enc) (C := Try.checked) (os := os) (X := fun _ _ => True) false (World.doorLaid Try.prog 400 os) #[.slice none 0 0, .slice none 0 0, .slice none 0 0] 8 rfl (World.shaped_of_RefB (by kernel_rfl) (by kernel_rfl)) (by kernel_rfl) (by kernel_rfl) (by kernel_rfl) trivial) ?_
  intro W base args ds gs before hval0 hW _ hz _ _
  have hval : ∀ (j : Nat) t v, Try.f3.params[j]? = some t → args[j]? = some v → Value.okWide Try.prog W .any base t v := hval0
  have hW' := hW
  obtain ⟨p, q, hA0, hV, rfl, hfz, hnd⟩ := hW
  have hA : DataW.TrodAll enc Try.prog W 0 (fun _ => true) true Try.f3.params.toList args.toList ds p := hA0
  rw [Try.params3] at hA hval hz
  obtain ⟨v0, v1, v2, d0, d1, d2, p0, p1, p2, rfl, rfl, rfl, h0, h1, h2⟩ := trodAll_three hA
  obtain ⟨rfl, rfl⟩ := trodVars_none hV
  obtain ⟨m0, z0, y0, r0⟩ := open_bs (hval 0 22 v0 rfl rfl) h0
  obtain ⟨e0, b0⟩ := bs?_at (fl := .bor) y0
  obtain ⟨m1, hm1, o1, r1⟩ := Go.Abs.open_irow Try.underlying23 Try.underlying3 cells3 (hval 1 23 v1 rfl rfl) h1
  have z1 : m1.length ≤ 9223372036854775807 := hm1
  obtain ⟨m2, hm2, o2, r2⟩ := Go.Abs.open_irow Try.underlying23 Try.underlying3 cells3 (hval 2 23 v2 rfl rfl) h2
  have z2 : m2.length ≤ 9223372036854775807 := hm2
  clear hA0 hval0
  simp only [List.append_nil] at hW'
  have hlt : ∀ x ∈ p0 ++ (p1 ++ p2), x.block < W.heap.size := fun x hx => by simpa using hW'.lt x (by simpa using hx)
  have hpf : pf3 [.sl m0.length (bsA m0) .bor, .sl m1.length (ints .i64 m1) .bor, .sl m2.length (ints .i64 m2) .bor] = some (.raw (.bool true)) := by
    simp only [pf3, b0, irow?_at rfl o1, irow?_at rfl o2, Option.bind_some]
  have hrel : RVs noMu (allG W) W [.sl m0.length (bsA m0) .bor, .sl m1.length (ints .i64 m1) .bor, .sl m2.length (ints .i64 m2) .bor] [v0, v1, v2] := by simp only [RVs]; exact ⟨_, _, rfl, r0, ⟨_, _, rfl, r1, ⟨_, _, rfl, r2, rfl⟩⟩⟩
  refine (sound3.calls hpf glob_none hrel).mono ?_
  rintro e W' ⟨rfl, bel⟩
  have harg0 := Below.trod laidOut (by kernel_rfl) (of_decide_eq_true (by kernel_rfl)) h0 bel (fun x hx => hlt x (by simp [hx]))
  have harg1 := Below.trod laidOut (by kernel_rfl) (of_decide_eq_true (by kernel_rfl)) h1 bel (fun x hx => hlt x (by simp [hx]))
  have harg2 := Below.trod laidOut (by kernel_rfl) (of_decide_eq_true (by kernel_rfl)) h2 bel (fun x hx => hlt x (by simp [hx]))
  refine ⟨_, rfl, _, _, _, [], p0 ++ (p1 ++ p2), [], hW', ?_, trodAll_mk3 harg0 harg1 harg2, rfl, bel.frame _, fun h => by cases h⟩
  exact trodAll_mk1 (shut_bool Try.underlying4 _)

theorem diskSure_facts : joinedFacts Try.prog 3 Try.f3 Rows.diskSureSpec Rows.diskSureRow = true := by
  unfold joinedFacts
  rw [may, lifts, makes]
  kernel_rfl

theorem diskSure_holds : Rows.DiskSureSaid :=
  OpenClaim.holds_of_wide 3 Try.f3 rfl rfl rfl rfl rfl rfl rfl ⟨rfl, rfl, rfl, rfl, rfl⟩ rfl rfl rfl rfl rfl (by kernel_rfl) Try.func3 diskSure_facts
    (of_decide_eq_true (by kernel_rfl)) (by unfold Func.isWrapper; first | (rw [if_pos (by decide +kernel)]; kernel_rfl) | (rw [if_neg (by decide +kernel)]; exact ⟨rfl, rfl⟩))
    (fun os started H enc _ => by rw [preNone rfl]; exact diskSure_lifted os started H enc)

#print axioms diskSure_holds
end Go.Proofs.Ytjnmdphoaafjaaa
