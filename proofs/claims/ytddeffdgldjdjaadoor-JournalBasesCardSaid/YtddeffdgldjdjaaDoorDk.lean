/- JournalBases: whatever the terms, the place and the choice, the statement's function answers true, and they stay: proved for every input. -/
import Derived.Test.YtddeffdgldjdjaaDoorCl
import Derived.Test.YtddeffdgldjdjaaDoorCards
import Derived.Test.YtddeffdgldjdjaaDoorTie
import Derived.SevenTiedAt
namespace Go.Proofs.YtddeffdgldjdjaaDoor
set_option linter.unusedSimpArgs false
set_option linter.unusedVariables false
open Go Go.Abs Go.ChangeShapes Go.WideShapes Go.ChangeAt Go.RowKit
open W (pf18 sound18)

set_option maxRecDepth 100000 in
theorem journalBases_lifted (os : Os) (started : os.Started) (H : Type) (enc : TypeId × Value → H) :
    ReturnsInHanded {} Tryd.checked os 18 .any (fun w args => (Rows.journalBasesSpec.pre enc Tryd.prog Tryd.f18 [] false w args ∧ laidMetH Tryd.prog laidL w) ∧ sizedMet enc Tryd.prog Tryd.f18 (OpenSpec.ofChange Rows.journalBasesSpec) false w args)
      (Rows.journalBasesSpec.post enc Tryd.prog Tryd.f18 false true false false) := by
  refine returnsInHanded_of_change_and (C := Tryd.checked) (X := fun w _ => laidMetH Tryd.prog laidL w) (fun _ _ _ hh h => h.of_heap hh) own started (by kernel_rfl) Tryd.func18
    (ChangeSpec.witness_shaped (enc := enc) (C := Tryd.checked) (os := os) (X := fun w _ => laidMetH Tryd.prog laidL w) false (World.doorLaid Tryd.prog 400 os) #[.slice none 0 0, .int .i64 0, .bool false] 8 rfl (World.shaped_of_RefB (by kernel_rfl) (by kernel_rfl)) (by kernel_rfl) (by kernel_rfl) (by kernel_rfl) (door_met os _)) ?_
  intro W base args ds gs before hval0 hW _ _ hL _
  have hval : ∀ (j : Nat) t v, Tryd.f18.params[j]? = some t → args[j]? = some v → Value.okWide Tryd.prog W .any base t v := hval0
  have hW' := hW
  obtain ⟨p, q, hA0, hV, rfl, hfz, hnd⟩ := hW
  have hA : DataW.TrodAll enc Tryd.prog W 0 (fun _ => true) true Tryd.f18.params.toList args.toList ds p := hA0
  rw [Tryd.params18] at hA hval
  obtain ⟨v0, v1, v2, d0, d1, d2, p0, p1, p2, rfl, rfl, rfl, h0, h1, h2⟩ := trodAll_three hA
  obtain ⟨rfl, rfl⟩ := trodVars_none hV
  obtain ⟨m0, hm0, o0, r0⟩ := Go.Abs.open_irow Tryd.underlying64 Tryd.underlying3 cells3 (hval 0 64 v0 rfl rfl) h0
  have hm0 : m0.length ≤ 9223372036854775807 := hm0
  obtain ⟨m1, hm1, r1⟩ := Go.Abs.open_i64 Tryd.underlying3 (hval 1 3 v1 rfl rfl)
  obtain ⟨m2, r2⟩ := open_bool (hval 2 4 v2 rfl rfl)
  clear hA0 hval0
  simp only [List.append_nil] at hW'
  have hlt : ∀ x ∈ p0 ++ (p1 ++ p2), x.block < W.heap.size := fun x hx => by simpa using hW'.lt x (by simpa using hx)
  have hpf : pf18 [.sl m0.length (ints .i64 m0) .bor, .raw (.int .i64 m1), .raw (.bool m2)] = some (.raw (.bool true)) := by simp only [pf18, irow?_at rfl o0, int?_at, bool?_at, Option.bind_some, if_pos (And.intro hm0 (And.intro hm1.1 hm1.2))]
  have hrel : RVs noMu (allG W) W [.sl m0.length (ints .i64 m0) .bor, .raw (.int .i64 m1), .raw (.bool m2)] [v0, v1, v2] := by simp only [RVs]; exact ⟨_, _, rfl, r0, ⟨_, _, rfl, r1, ⟨_, _, rfl, r2, rfl⟩⟩⟩
  refine (sound18.calls hpf (glob_ofS hL) hrel).mono ?_
  rintro e W' ⟨rfl, bel⟩
  have harg0 := Below.trod laidOut (by kernel_rfl) (of_decide_eq_true (by kernel_rfl)) h0 bel (fun x hx => hlt x (by simp [hx]))
  have harg1 := Below.trod laidOut (by kernel_rfl) (of_decide_eq_true (by kernel_rfl)) h1 bel (fun x hx => hlt x (by simp [hx]))
  have harg2 := Below.trod laidOut (by kernel_rfl) (of_decide_eq_true (by kernel_rfl)) h2 bel (fun x hx => hlt x (by simp [hx]))
  refine ⟨_, rfl, _, _, _, [], p0 ++ (p1 ++ p2), [], hW', ?_, trodAll_mk3 harg0 harg1 harg2, rfl, bel.frame _, fun h => by cases h⟩
  exact trodAll_mk1 (shut_bool Tryd.underlying4 _)

theorem journalBases_facts : joinedFacts Tryd.prog 18 Tryd.f18 Rows.journalBasesSpec Rows.journalBasesRow = true := by
  unfold joinedFacts
  rw [may, lifts, makes]
  kernel_rfl

theorem journalBases_holds : Rows.JournalBasesSaid :=
  OpenClaim.holds_of_wide 18 Tryd.f18 rfl rfl rfl rfl rfl rfl rfl ⟨rfl, rfl, rfl, rfl, rfl⟩ rfl rfl rfl rfl rfl (by kernel_rfl) Tryd.func18 journalBases_facts
    (of_decide_eq_true (by kernel_rfl)) (by unfold Func.isWrapper; first | (rw [if_pos (by decide +kernel)]; kernel_rfl) | (rw [if_neg (by decide +kernel)]; exact ⟨rfl, rfl⟩))
    (fun os started H enc _ => journalBases_lifted os started H enc)

set_option maxRecDepth 100000 in
theorem journalBases_main : Tryd.prog.mainIs = some (Rows.journalBasesCard.stood.harness.1, Rows.journalBasesCard.stood.harness.2.toList) := ((mainB Tryd.prog _).2 (toList_lit rfl)).trans (by kernel_rfl)
theorem journalBases_card : Rows.JournalBasesCardSaid :=
  Claim7.holds_tied_plain_at .later [] [.data] true Rows.journalBasesCard.stood.harness Rows.journalBasesCard.stood.looks
    journalBases_holds (fun _ h => by cases h) (by kernel_rfl) (fun _ h => by cases h) journalBases_row_tie rfl ⟨rfl, rfl⟩ journalBases_main rfl
    (fun f fn hf hfn => by
      obtain rfl : f = 18 := Option.some.inj ((show Tryd.prog.funcNamed "strongroom/strongroomlaw11.JournalBases" = some 18 by kernel_rfl).symm.trans hf) |>.symm
      obtain rfl : fn = Tryd.f18 := (Option.some.inj (Tryd.func18.symm.trans hfn)).symm
      exact ⟨by kernel_rfl, fun j t ht => by
        rw [Tryd.params18] at ht
        have hm : t ∈ [64, 3, 4] := by simpa using Array.mem_of_getElem? ht
        have hall : ([64, 3, 4].all fun u => !Tryd.prog.wantsStandIn u) = true := by kernel_rfl
        exact (show Tryd.prog.wantsStandIn t = false by simpa using List.all_eq_true.1 hall t hm)⟩)
    (by kernel_rfl)
#print axioms journalBases_card
end Go.Proofs.YtddeffdgldjdjaaDoor
