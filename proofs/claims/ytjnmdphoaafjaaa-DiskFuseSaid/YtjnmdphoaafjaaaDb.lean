/- DiskFuse: a fuse lets just so many steps be done, and behind them nothing changes, till the power is back: for every input. -/
import Derived.Test.YtjnmdphoaafjaaaCb
namespace Go.Proofs.Ytjnmdphoaafjaaa
set_option linter.unusedSimpArgs false
set_option linter.unusedVariables false
open Go Go.Abs Go.ChangeShapes Go.WideShapes Go.ChangeAt Go.RowKit

set_option maxRecDepth 100000 in
theorem diskFuse_lifted (os : Os) (started : os.Started) (H : Type) (enc : TypeId × Value → H) :
    ReturnsInHanded {} Try.checked os 4 .any (fun w args => (Rows.diskFuseSpec.pre enc Try.prog Try.f4 [] false w args ∧ True) ∧ sizedMet enc Try.prog Try.f4 (OpenSpec.ofChange Rows.diskFuseSpec) false w args)
      (Rows.diskFuseSpec.post enc Try.prog Try.f4 false true false false) := by
  refine returnsInHanded_of_change_and (C := Try.checked) (X := fun _ _ => True) (fun _ _ _ hh h => h) own started (by kernel_rfl) Try.func4
    (ChangeSpec.witness_shaped (enc := enc) (C := Try.checked) (os := os) (X := fun _ _ => True) false (World.doorLaid Try.prog 400 os) #[.int .i64 0, .slice none 0 0] 8 rfl (World.shaped_of_RefB (by kernel_rfl) (by kernel_rfl)) (by kernel_rfl) (by kernel_rfl) (by kernel_rfl) trivial) ?_
  intro W base args ds gs before hval0 hW _ hz _ _
  have hval : ∀ (j : Nat) t v, Try.f4.params[j]? = some t → args[j]? = some v → Value.okWide Try.prog W .any base t v := hval0
  have hW' := hW
  obtain ⟨p, q, hA0, hV, rfl, hfz, hnd⟩ := hW
  have hA : DataW.TrodAll enc Try.prog W 0 (fun _ => true) true Try.f4.params.toList args.toList ds p := hA0
  rw [Try.params4] at hA hval hz
  obtain ⟨v0, v1, d0, d1, p0, p1, rfl, rfl, rfl, h0, h1⟩ := trodAll_two hA
  obtain ⟨rfl, rfl⟩ := trodVars_none hV
  obtain ⟨m0, hm0, r0⟩ := Go.Abs.open_i64 Try.underlying3 (hval 0 3 v0 rfl rfl)
  have hm0 : i64ok m0 := hm0
  obtain ⟨m1, z1, y1, r1⟩ := open_ops (hval 1 37 v1 rfl rfl) h1
  obtain ⟨e1, b1⟩ := ops?_at (fl := .bor) y1
  clear hA0 hval0
  simp only [List.append_nil] at hW'
  have hlt : ∀ x ∈ p0 ++ p1, x.block < W.heap.size := fun x hx => by simpa using hW'.lt x (by simpa using hx)
  have hpf : pf4 [.raw (.int .i64 m0), .sl m1.length (opsA m1) .bor] = some (.raw (.bool true)) := by
    simp only [pf4, int?_at, b1, Option.bind_some]
    exact if_pos hm0
  have hrel : RVs noMu (allG W) W [.raw (.int .i64 m0), .sl m1.length (opsA m1) .bor] [v0, v1] := by simp only [RVs]; exact ⟨_, _, rfl, r0, ⟨_, _, rfl, r1, rfl⟩⟩
  refine (sound4.calls hpf glob_none hrel).mono ?_
  rintro e W' ⟨rfl, bel⟩
  have harg0 := Below.trod laidOut (by kernel_rfl) (of_decide_eq_true (by kernel_rfl)) h0 bel (fun x hx => hlt x (by simp [hx]))
  have harg1 := Below.trod laidOut (by kernel_rfl) (of_decide_eq_true (by kernel_rfl)) h1 bel (fun x hx => hlt x (by simp [hx]))
  refine ⟨_, rfl, _, _, _, [], p0 ++ p1, [], hW', ?_, trodAll_mk2 harg0 harg1, rfl, bel.frame _, fun h => by cases h⟩
  exact trodAll_mk1 (shut_bool Try.underlying4 _)

theorem diskFuse_facts : joinedFacts Try.prog 4 Try.f4 Rows.diskFuseSpec Rows.diskFuseRow = true := by
  unfold joinedFacts
  rw [may, lifts, makes]
  kernel_rfl

theorem diskFuse_holds : Rows.DiskFuseSaid :=
  OpenClaim.holds_of_wide 4 Try.f4 rfl rfl rfl rfl rfl rfl rfl ⟨rfl, rfl, rfl, rfl, rfl⟩ rfl rfl rfl rfl rfl (by kernel_rfl) Try.func4 diskFuse_facts
    (of_decide_eq_true (by kernel_rfl)) (by unfold Func.isWrapper; first | (rw [if_pos (by decide +kernel)]; kernel_rfl) | (rw [if_neg (by decide +kernel)]; exact ⟨rfl, rfl⟩))
    (fun os started H enc _ => by rw [preNone rfl]; exact diskFuse_lifted os started H enc)

#print axioms diskFuse_holds
end Go.Proofs.Ytjnmdphoaafjaaa
