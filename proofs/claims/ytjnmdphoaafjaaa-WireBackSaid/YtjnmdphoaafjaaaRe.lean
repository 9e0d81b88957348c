/- WireBack: what is written is read as it was: for every command, reply and entry. -/
import Derived.Test.YtjnmdphoaafjaaaRp
import Derived.Test.YtjnmdphoaafjaaaQr
namespace Go.Proofs.Ytjnmdphoaafjaaa
set_option linter.unusedSimpArgs false
set_option linter.unusedVariables false
open Go Go.Abs Go.ChangeShapes Go.WideShapes Go.ChangeAt Go.RowKit

set_option maxRecDepth 100000 in
theorem wireBack_lifted (os : Os) (started : os.Started) (H : Type) (enc : TypeId × Value → H) :
    ReturnsInHanded {} Try.checked os 20 .any (fun w args => (Rows.wireBackSpec.pre enc Try.prog Try.f20 [] false w args ∧ True) ∧ sizedMet enc Try.prog Try.f20 (OpenSpec.ofChange Rows.wireBackSpec) false w args)
      (Rows.wireBackSpec.post enc Try.prog Try.f20 false true false false) := by
  refine returnsInHanded_of_change_and (C := Try.checked) (X := fun _ _ => True) (fun _ _ _ hh h => h) own started (by kernel_rfl) Try.func20
    (ChangeSpec.witness_shaped (enc := enc) (C := Try.checked) (os := os) (X := fun _ _ => True) false (World.doorLaid Try.prog 400 os) #[.agg #[.int .i64 0, .int .i64 0, .int .i64 0, .int .i64 0, .int .i64 0, .slice none 0 0, .slice none 0 0], .agg #[.int .i64 0, .int .i64 0, .int .i64 0, .slice none 0 0], .agg #[.int .i64 0, .int .i64 0, .slice none 0 0, .slice none 0 0]] 8 rfl (World.shaped_of_RefB (by kernel_rfl) (by kernel_rfl)) (by kernel_rfl) (by kernel_rfl) (by kernel_rfl) trivial) ?_
  intro W base args ds gs before hval0 hW _ hz _ _
  have hval : ∀ (j : Nat) t v, Try.f20.params[j]? = some t → args[j]? = some v → Value.okWide Try.prog W .any base t v := hval0
  have hW' := hW
  obtain ⟨p, q, hA0, hV, rfl, hfz, hnd⟩ := hW
  have hA : DataW.TrodAll enc Try.prog W 0 (fun _ => true) true Try.f20.params.toList args.toList ds p := hA0
  rw [Try.params20] at hA hval hz
  obtain ⟨v0, v1, v2, d0, d1, d2, p0, p1, p2, rfl, rfl, rfl, h0, h1, h2⟩ := trodAll_three hA
  obtain ⟨rfl, rfl⟩ := trodVars_none hV
  obtain ⟨m0, z0, r0⟩ := open_cmd (hval 0 57 v0 rfl rfl) h0
  obtain ⟨m1, z1, r1⟩ := open_rep (hval 1 86 v1 rfl rfl) h1
  obtain ⟨m2, z2, r2⟩ := open_ent (hval 2 93 v2 rfl rfl) h2
  clear hA0 hval0
  simp only [List.append_nil] at hW'
  have hlt : ∀ x ∈ p0 ++ (p1 ++ p2), x.block < W.heap.size := fun x hx => by simpa using hW'.lt x (by simpa using hx)
  have hpf : pf20 [.agg (cmdA m0), .agg (repA m1), .agg (entA m2)] = some (.raw (.bool true)) := by
    simp only [pf20, cmdA_strip, cmd?_at, repA_strip, rep?_at, entA_strip, ent?_at, Option.bind_some]
    exact if_pos ⟨z0, z1, z2⟩
  have hrel : RVs noMu (allG W) W [.agg (cmdA m0), .agg (repA m1), .agg (entA m2)] [v0, v1, v2] := by simp only [RVs]; exact ⟨_, _, rfl, r0, ⟨_, _, rfl, r1, ⟨_, _, rfl, r2, rfl⟩⟩⟩
  refine (sound20.calls hpf glob_none hrel).mono ?_
  rintro e W' ⟨rfl, bel⟩
  have harg0 := Below.trod laidOut (by kernel_rfl) (of_decide_eq_true (by kernel_rfl)) h0 bel (fun x hx => hlt x (by simp [hx]))
  have harg1 := Below.trod laidOut (by kernel_rfl) (of_decide_eq_true (by kernel_rfl)) h1 bel (fun x hx => hlt x (by simp [hx]))
  have harg2 := Below.trod laidOut (by kernel_rfl) (of_decide_eq_true (by kernel_rfl)) h2 bel (fun x hx => hlt x (by simp [hx]))
  refine ⟨_, rfl, _, _, _, [], p0 ++ (p1 ++ p2), [], hW', ?_, trodAll_mk3 harg0 harg1 harg2, rfl, bel.frame _, fun h => by cases h⟩
  exact trodAll_mk1 (shut_bool Try.underlying4 _)

theorem wireBack_facts : joinedFacts Try.prog 20 Try.f20 Rows.wireBackSpec Rows.wireBackRow = true := by
  unfold joinedFacts
  rw [may, lifts, makes]
  kernel_rfl

theorem wireBack_holds : Rows.WireBackSaid :=
  OpenClaim.holds_of_wide 20 Try.f20 rfl rfl rfl rfl rfl rfl rfl ⟨rfl, rfl, rfl, rfl, rfl⟩ rfl rfl rfl rfl rfl (by kernel_rfl) Try.func20 wireBack_facts
    (of_decide_eq_true (by kernel_rfl)) (by unfold Func.isWrapper; first | (rw [if_pos (by decide +kernel)]; kernel_rfl) | (rw [if_neg (by decide +kernel)]; exact ⟨rfl, rfl⟩))
    (fun os started H enc _ => by rw [preNone rfl]; exact wireBack_lifted os started H enc)

#print axioms wireBack_holds
end Go.Proofs.Ytjnmdphoaafjaaa
