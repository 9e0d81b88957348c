/- WireLeast: each kind may be with just what it has, and not with any other number beside: for every input. -/
import Derived.Test.YtjnmdphoaafjaaaRp
import Derived.Test.YtjnmdphoaafjaaaQq
namespace Go.Proofs.Ytjnmdphoaafjaaa
set_option linter.unusedSimpArgs false
set_option linter.unusedVariables false
open Go Go.Abs Go.ChangeShapes Go.WideShapes Go.ChangeAt Go.RowKit

set_option maxRecDepth 100000 in
theorem wireLeast_lifted (os : Os) (started : os.Started) (H : Type) (enc : TypeId × Value → H) :
    ReturnsInHanded {} Try.checked os 9 .any (fun w args => (Rows.wireLeastSpec.pre enc Try.prog Try.f9 [] false w args ∧ True) ∧ sizedMet enc Try.prog Try.f9 (OpenSpec.ofChange Rows.wireLeastSpec) false w args)
      (Rows.wireLeastSpec.post enc Try.prog Try.f9 false true false false) := by
  refine returnsInHanded_of_change_and (C := Try.checked) (X := fun _ _ => True) (fun _ _ _ hh h => h) own started (by kernel_rfl) Try.func9
    (ChangeSpec.witness_shaped (enc := enc) (C := Try.checked) (os := os) (X := fun _ _ => True) false (World.doorLaid Try.prog 400 os) #[.int .i64 0, .int .i64 0, .int .i64 0] 8 rfl (World.shaped_of_RefB (by kernel_rfl) (by kernel_rfl)) (by kernel_rfl) (by kernel_rfl) (by kernel_rfl) trivial) ?_
  intro W base args ds gs before hval0 hW _ hz _ _
  have hval : ∀ (j : Nat) t v, Try.f9.params[j]? = some t → args[j]? = some v → Value.okWide Try.prog W .any base t v := hval0
  have hW' := hW
  obtain ⟨p, q, hA0, hV, rfl, hfz, hnd⟩ := hW
  have hA : DataW.TrodAll enc Try.prog W 0 (fun _ => true) true Try.f9.params.toList args.toList ds p := hA0
  rw [Try.params9] at hA hval hz
  obtain ⟨v0, v1, v2, d0, d1, d2, p0, p1, p2, rfl, rfl, rfl, h0, h1, h2⟩ := trodAll_three hA
  obtain ⟨rfl, rfl⟩ := trodVars_none hV
  obtain ⟨m0, hm0, r0⟩ := Go.Abs.open_i64 Try.underlying3 (hval 0 3 v0 rfl rfl)
  have hm0 : i64ok m0 := hm0
  obtain ⟨m1, hm1, r1⟩ := Go.Abs.open_i64 Try.underlying3 (hval 1 3 v1 rfl rfl)
  have hm1 : i64ok m1 := hm1
  obtain ⟨m2, hm2, r2⟩ := Go.Abs.open_i64 Try.underlying3 (hval 2 3 v2 rfl rfl)
  have hm2 : i64ok m2 := hm2
  clear hA0 hval0
  simp only [List.append_nil] at hW'
  have hlt : ∀ x ∈ p0 ++ (p1 ++ p2), x.block < W.heap.size := fun x hx => by simpa using hW'.lt x (by simpa using hx)
  have hpf : pf9 [.raw (.int .i64 m0), .raw (.int .i64 m1), .raw (.int .i64 m2)] = some (.raw (.bool true)) := by
    simp only [pf9, int?_at, Option.bind_some]
    exact if_pos ⟨hm0, hm1, hm2⟩
  have hrel : RVs noMu (allG W) W [.raw (.int .i64 m0), .raw (.int .i64 m1), .raw (.int .i64 m2)] [v0, v1, v2] := by simp only [RVs]; exact ⟨_, _, rfl, r0, ⟨_, _, rfl, r1, ⟨_, _, rfl, r2, rfl⟩⟩⟩
  refine (sound9.calls hpf glob_none hrel).mono ?_
  rintro e W' ⟨rfl, bel⟩
  have harg0 := Below.trod laidOut (by kernel_rfl) (of_decide_eq_true (by kernel_rfl)) h0 bel (fun x hx => hlt x (by simp [hx]))
  have harg1 := Below.trod laidOut (by kernel_rfl) (of_decide_eq_true (by kernel_rfl)) h1 bel (fun x hx => hlt x (by simp [hx]))
  have harg2 := Below.trod laidOut (by kernel_rfl) (of_decide_eq_true (by kernel_rfl)) h2 bel (fun x hx => hlt x (by simp [hx]))
  refine ⟨_, rfl, _, _, _, [], p0 ++ (p1 ++ p2), [], hW', ?_, trodAll_mk3 harg0 harg1 harg2, rfl, bel.frame _, fun h => by cases h⟩
  exact trodAll_mk1 (shut_bool Try.underlying4 _)

theorem wireLeast_facts : joinedFacts Try.prog 9 Try.f9 Rows.wireLeastSpec Rows.wireLeastRow = true := by
  unfold joinedFacts
  rw [may, lifts, makes]
  kernel_rfl

theorem wireLeast_holds : Rows.WireLeastSaid :=
  OpenClaim.holds_of_wide 9 Try.f9 rfl rfl rfl rfl rfl rfl rfl ⟨rfl, rfl, rfl, rfl, rfl⟩ rfl rfl rfl rfl rfl (by kernel_rfl) Try.func9 wireLeast_facts
    (of_decide_eq_true (by kernel_rfl)) (by unfold Func.isWrapper; first | (rw [if_pos (by decide +kernel)]; kernel_rfl) | (rw [if_neg (by decide +kernel)]; exact ⟨rfl, rfl⟩))
    (fun os started H enc _ => by rw [preNone rfl]; exact wireLeast_lifted os started H enc)

#print axioms wireLeast_holds
end Go.Proofs.Ytjnmdphoaafjaaa
