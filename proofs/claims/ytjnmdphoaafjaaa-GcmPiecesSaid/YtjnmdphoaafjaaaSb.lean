/- GcmPieces: bytes are laid over piece by piece, each sixteen by the next counter: for every input. -/
import Derived.Test.YtjnmdphoaafjaaaRq
import Derived.Test.YtjnmdphoaafjaaaUo
namespace Go.Proofs.Ytjnmdphoaafjaaa
set_option linter.unusedSimpArgs false
set_option linter.unusedVariables false
open Go Go.Abs Go.ChangeShapes Go.WideShapes Go.ChangeAt Go.RowKit

set_option maxRecDepth 100000 in
theorem gcmPieces_lifted (os : Os) (started : os.Started) (H : Type) (enc : TypeId × Value → H) :
    ReturnsInHanded {} Try.checked os 16 .any (fun w args => (Rows.gcmPiecesSpec.pre enc Try.prog Try.f16 [] false w args ∧ True) ∧ sizedMet enc Try.prog Try.f16 (OpenSpec.ofChange Rows.gcmPiecesSpec) false w args)
      (Rows.gcmPiecesSpec.post enc Try.prog Try.f16 false true false false) := by
  refine returnsInHanded_of_change_and (C := Try.checked) (X := fun _ _ => True) (fun _ _ _ hh h => h) own started (by kernel_rfl) Try.func16
    (ChangeSpec.witness_shaped (enc := enc) (C := Try.checked) (os := os) (X := fun _ _ => True) false (World.doorLaid Try.prog 400 os) #[.agg (Array.replicate 44 (.int .u8 0) ++ #[.slice none 0 0]), .int .u32 0, .agg #[.slice none 0 0, .int .i64 0]] 8 rfl (World.shaped_of_RefB (by kernel_rfl) (by kernel_rfl)) (by kernel_rfl) (by kernel_rfl) (by kernel_rfl) trivial) ?_
  intro W base args ds gs before hval0 hW _ hz _ _
  have hval : ∀ (j : Nat) t v, Try.f16.params[j]? = some t → args[j]? = some v → Value.okWide Try.prog W .any base t v := hval0
  have hW' := hW
  obtain ⟨p, q, hA0, hV, rfl, hfz, hnd⟩ := hW
  have hA : DataW.TrodAll enc Try.prog W 0 (fun _ => true) true Try.f16.params.toList args.toList ds p := hA0
  rw [Try.params16] at hA hval hz
  obtain ⟨v0, v1, v2, d0, d1, d2, p0, p1, p2, rfl, rfl, rfl, h0, h1, h2⟩ := trodAll_three hA
  obtain ⟨rfl, rfl⟩ := trodVars_none hV
  obtain ⟨m0, z0, r0⟩ := open_bk (hval 0 70 v0 rfl rfl) h0
  obtain ⟨e0, b0⟩ := bk?_at z0
  obtain ⟨m1, r1⟩ := open_u32 Try.underlying71 (hval 1 71 v1 rfl rfl)
  obtain ⟨m2, y2, z2, k2, r2⟩ := open_cut (hval 2 83 v2 rfl rfl) h2
  clear hA0 hval0
  simp only [List.append_nil] at hW'
  have hlt : ∀ x ∈ p0 ++ (p1 ++ p2), x.block < W.heap.size := fun x hx => by simpa using hW'.lt x (by simpa using hx)
  have hpf : pf16 [.agg (bkA m0), .raw (.int .u32 (m1.toNat : Int)), .agg [.sl m2.length (nums .u8 m2) .bor, .raw (.int .i64 y2)]] = some (.raw (.bool true)) := by
    simp only [pf16, b0, num?_num, row?_at, Option.bind_some]
    exact if_pos ⟨z2, k2⟩
  have hrel : RVs noMu (allG W) W [.agg (bkA m0), .raw (.int .u32 (m1.toNat : Int)), .agg [.sl m2.length (nums .u8 m2) .bor, .raw (.int .i64 y2)]] [v0, v1, v2] := by simp only [RVs]; exact ⟨_, _, rfl, r0, ⟨_, _, rfl, r1, ⟨_, _, rfl, r2, rfl⟩⟩⟩
  refine (sound16.calls hpf glob_none hrel).mono ?_
  rintro e W' ⟨rfl, bel⟩
  have harg0 := Below.trod laidOut (by kernel_rfl) (of_decide_eq_true (by kernel_rfl)) h0 bel (fun x hx => hlt x (by simp [hx]))
  have harg1 := Below.trod laidOut (by kernel_rfl) (of_decide_eq_true (by kernel_rfl)) h1 bel (fun x hx => hlt x (by simp [hx]))
  have harg2 := Below.trod laidOut (by kernel_rfl) (of_decide_eq_true (by kernel_rfl)) h2 bel (fun x hx => hlt x (by simp [hx]))
  refine ⟨_, rfl, _, _, _, [], p0 ++ (p1 ++ p2), [], hW', ?_, trodAll_mk3 harg0 harg1 harg2, rfl, bel.frame _, fun h => by cases h⟩
  exact trodAll_mk1 (shut_bool Try.underlying4 _)

theorem gcmPieces_facts : joinedFacts Try.prog 16 Try.f16 Rows.gcmPiecesSpec Rows.gcmPiecesRow = true := by
  unfold joinedFacts
  rw [may, lifts, makes]
  kernel_rfl

theorem gcmPieces_holds : Rows.GcmPiecesSaid :=
  OpenClaim.holds_of_wide 16 Try.f16 rfl rfl rfl rfl rfl rfl rfl ⟨rfl, rfl, rfl, rfl, rfl⟩ rfl rfl rfl rfl rfl (by kernel_rfl) Try.func16 gcmPieces_facts
    (of_decide_eq_true (by kernel_rfl)) (by unfold Func.isWrapper; first | (rw [if_pos (by decide +kernel)]; kernel_rfl) | (rw [if_neg (by decide +kernel)]; exact ⟨rfl, rfl⟩))
    (fun os started H enc _ => by rw [preNone rfl]; exact gcmPieces_lifted os started H enc)

#print axioms gcmPieces_holds
end Go.Proofs.Ytjnmdphoaafjaaa
