/- DrbgBytes: whatever the key, the value and the number, the statement's function answers true, and they stay: proved for every input. -/
import Derived.Test.YtddeffdgldjdjaaDoorCj
import Derived.Test.YtddeffdgldjdjaaDoorCards
import Derived.Test.YtddeffdgldjdjaaDoorTie
import Derived.SevenTiedAt
namespace Go.Proofs.YtddeffdgldjdjaaDoor
set_option linter.unusedSimpArgs false
set_option linter.unusedVariables false
open Go Go.Abs Go.ChangeShapes Go.WideShapes Go.ChangeAt Go.RowKit

set_option maxRecDepth 100000 in
theorem drbgBytes_lifted (os : Os) (started : os.Started) (H : Type) (enc : TypeId × Value → H) :
    ReturnsInHanded {} Tryd.checked os 4 .any (fun w args => (Rows.drbgBytesSpec.pre enc Tryd.prog Tryd.f4 [] false w args ∧ laidMetH Tryd.prog laidL w) ∧ sizedMet enc Tryd.prog Tryd.f4 (OpenSpec.ofChange Rows.drbgBytesSpec) false w args)
      (Rows.drbgBytesSpec.post enc Tryd.prog Tryd.f4 false true false false) := by
  refine returnsInHanded_of_change_and (C := Tryd.checked) (X := fun w _ => laidMetH Tryd.prog laidL w) (fun _ _ _ hh h => h.of_heap hh) own started (by kernel_rfl) Tryd.func4
    (ChangeSpec.witness_shaped (enc := enc) (C := Tryd.checked) (os := os) (X := fun w _ => laidMetH Tryd.prog laidL w) false (World.doorLaid Tryd.prog 400 os) #[.agg (Array.replicate 32 (.int .u8 0)), .agg (Array.replicate 32 (.int .u8 0)), .int .i64 0] 8 rfl (World.shaped_of_RefB (by kernel_rfl) (by kernel_rfl)) (by kernel_rfl) (by kernel_rfl) (by kernel_rfl) (door_met os _)) ?_
  intro W base args ds gs before hval0 hW _ _ hL _
  have hval : ∀ (j : Nat) t v, Tryd.f4.params[j]? = some t → args[j]? = some v → Value.okWide Tryd.prog W .any base t v := hval0
  have hW' := hW
  obtain ⟨p, q, hA0, hV, rfl, hfz, hnd⟩ := hW
  have hA : DataW.TrodAll enc Tryd.prog W 0 (fun _ => true) true Tryd.f4.params.toList args.toList ds p := hA0
  rw [Tryd.params4] at hA hval
  obtain ⟨v0, v1, v2, d0, d1, d2, p0, p1, p2, rfl, rfl, rfl, h0, h1, h2⟩ := trodAll_three hA
  obtain ⟨rfl, rfl⟩ := trodVars_none hV
  obtain ⟨m0, hm0, r0⟩ := Go.Abs.open_arr (w := 8) Tryd.underlying23 (by kernel_rfl) (by decide) cells23 Tryd.underlying5 u8_has (hval 0 23 v0 rfl rfl)
  obtain ⟨m1, hm1, r1⟩ := Go.Abs.open_arr (w := 8) Tryd.underlying23 (by kernel_rfl) (by decide) cells23 Tryd.underlying5 u8_has (hval 1 23 v1 rfl rfl)
  obtain ⟨m2, hm2, r2⟩ := Go.Abs.open_i64 Tryd.underlying3 (hval 2 3 v2 rfl rfl)
  clear hA0 hval0
  simp only [List.append_nil] at hW'
  have hlt : ∀ x ∈ p0 ++ (p1 ++ p2), x.block < W.heap.size := fun x hx => by simpa using hW'.lt x (by simpa using hx)
  have hpf : pf4 [.agg (nums .u8 m0), .agg (nums .u8 m1), .raw (.int .i64 m2)] = some (.raw (.bool true)) := by simp only [pf4, agg?_at hm0, agg?_at hm1, int?_at, if_pos hm2, Option.bind_some, if_pos (show i64B m2 from hm2)]
  have hrel : RVs noMu (allG W) W [.agg (nums .u8 m0), .agg (nums .u8 m1), .raw (.int .i64 m2)] [v0, v1, v2] := by simp only [RVs]; exact ⟨_, _, rfl, r0, ⟨_, _, rfl, r1, ⟨_, _, rfl, r2, rfl⟩⟩⟩
  refine (sound4.calls hpf (glob_ofS hL) hrel).mono ?_
  rintro e W' ⟨rfl, bel⟩
  have harg0 := Below.trod laidOut (by kernel_rfl) (of_decide_eq_true (by kernel_rfl)) h0 bel (fun x hx => hlt x (by simp [hx]))
  have harg1 := Below.trod laidOut (by kernel_rfl) (of_decide_eq_true (by kernel_rfl)) h1 bel (fun x hx => hlt x (by simp [hx]))
  have harg2 := Below.trod laidOut (by kernel_rfl) (of_decide_eq_true (by kernel_rfl)) h2 bel (fun x hx => hlt x (by simp [hx]))
  refine ⟨_, rfl, _, _, _, [], p0 ++ (p1 ++ p2), [], hW', ?_, trodAll_mk3 harg0 harg1 harg2, rfl, bel.frame _, fun h => by cases h⟩
  exact trodAll_mk1 (shut_bool Tryd.underlying4 _)

theorem drbgBytes_facts : joinedFacts Tryd.prog 4 Tryd.f4 Rows.drbgBytesSpec Rows.drbgBytesRow = true := by
  unfold joinedFacts
  rw [may, lifts, makes]
  kernel_rfl

theorem drbgBytes_holds : Rows.DrbgBytesSaid :=
  OpenClaim.holds_of_wide 4 Tryd.f4 rfl rfl rfl rfl rfl rfl rfl ⟨rfl, rfl, rfl, rfl, rfl⟩ rfl rfl rfl rfl rfl (by kernel_rfl) Tryd.func4 drbgBytes_facts
    (of_decide_eq_true (by kernel_rfl)) (by unfold Func.isWrapper; first | (rw [if_pos (by decide +kernel)]; kernel_rfl) | (rw [if_neg (by decide +kernel)]; exact ⟨rfl, rfl⟩))
    (fun os started H enc _ => drbgBytes_lifted os started H enc)

set_option maxRecDepth 100000 in
theorem drbgBytes_main : Tryd.prog.mainIs = some (Rows.drbgBytesCard.stood.harness.1, Rows.drbgBytesCard.stood.harness.2.toList) := ((mainB Tryd.prog _).2 (toList_lit rfl)).trans (by kernel_rfl)
theorem drbgBytes_card : Rows.DrbgBytesCardSaid :=
  Claim7.holds_tied_plain_at .later [] [.data] true Rows.drbgBytesCard.stood.harness Rows.drbgBytesCard.stood.looks
    drbgBytes_holds (fun _ h => by cases h) (by kernel_rfl) (fun _ h => by cases h) drbgBytes_row_tie rfl ⟨rfl, rfl⟩ drbgBytes_main rfl
    (fun f fn hf hfn => by
      obtain rfl : f = 4 := Option.some.inj ((show Tryd.prog.funcNamed "strongroom/strongroomlaw07.DrbgBytes" = some 4 by kernel_rfl).symm.trans hf) |>.symm
      obtain rfl : fn = Tryd.f4 := (Option.some.inj (Tryd.func4.symm.trans hfn)).symm
      exact ⟨by kernel_rfl, fun j t ht => by
        rw [Tryd.params4] at ht
        have hm : t ∈ [23, 23, 3] := by simpa using Array.mem_of_getElem? ht
        have hall : ([23, 23, 3].all fun u => !Tryd.prog.wantsStandIn u) = true := by kernel_rfl
        exact (show Tryd.prog.wantsStandIn t = false by simpa using List.all_eq_true.1 hall t hm)⟩)
    (by kernel_rfl)
#print axioms drbgBytes_card
end Go.Proofs.YtddeffdgldjdjaaDoor
