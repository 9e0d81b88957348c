/- JournalFolds: whatever the records, the statement's function answers true, and they stay: proved for every input. -/
import Derived.Test.YtddeffdgldjdjaaDoorCn
import Derived.Test.YtddeffdgldjdjaaDoorCards
import Derived.Test.YtddeffdgldjdjaaDoorTie
import Derived.SevenTiedAt
namespace Go.Proofs.YtddeffdgldjdjaaDoor
set_option linter.unusedSimpArgs false
set_option linter.unusedVariables false
open Go Go.Abs Go.ChangeShapes Go.WideShapes Go.ChangeAt Go.RowKit
open W (pf15 sound15 recsA recs?_at)

set_option maxRecDepth 100000 in
theorem journalFolds_lifted (os : Os) (started : os.Started) (H : Type) (enc : TypeId × Value → H) :
    ReturnsInHanded {} Tryd.checked os 15 .any (fun w args => (Rows.journalFoldsSpec.pre enc Tryd.prog Tryd.f15 [] false w args ∧ laidMetH Tryd.prog laidL w) ∧ sizedMet enc Tryd.prog Tryd.f15 (OpenSpec.ofChange Rows.journalFoldsSpec) false w args)
      (Rows.journalFoldsSpec.post enc Tryd.prog Tryd.f15 false true false false) := by
  refine returnsInHanded_of_change_and (C := Tryd.checked) (X := fun w _ => laidMetH Tryd.prog laidL w) (fun _ _ _ hh h => h.of_heap hh) own started (by kernel_rfl) Tryd.func15
    (ChangeSpec.witness_shaped (enc := enc) (C := Tryd.checked) (os := os) (X := fun w _ => laidMetH Tryd.prog laidL w) false (World.doorLaid Tryd.prog 400 os) #[.slice none 0 0] 8 rfl (World.shaped_of_RefB (by kernel_rfl) (by kernel_rfl)) (by kernel_rfl) (by kernel_rfl) (by kernel_rfl) (door_met os _)) ?_
  intro W base args ds gs before hval0 hW _ _ hL _
  have hval : ∀ (j : Nat) t v, Tryd.f15.params[j]? = some t → args[j]? = some v → Value.okWide Tryd.prog W .any base t v := hval0
  have hW' := hW
  obtain ⟨p, q, hA0, hV, rfl, hfz, hnd⟩ := hW
  have hA : DataW.TrodAll enc Tryd.prog W 0 (fun _ => true) true Tryd.f15.params.toList args.toList ds p := hA0
  rw [Tryd.params15] at hA hval
  obtain ⟨v0, d0, rfl, rfl, h0⟩ := trodAll_one hA
  obtain ⟨rfl, rfl⟩ := trodVars_none hV
  obtain ⟨m0, hm0, o0, r0⟩ := open_recs (hval 0 79 v0 rfl rfl) h0
  clear hA0 hval0
  simp only [List.append_nil] at hW'
  have hlt : ∀ x ∈ p, x.block < W.heap.size := fun x hx => by simpa using hW'.lt x (by simpa using hx)
  have hpf : pf15 [.sl m0.length (recsA m0) .bor] = some (.raw (.bool true)) := by simp only [pf15, recs?_at rfl, Option.bind_some, if_pos (And.intro hm0 o0)]
  have hrel : RVs noMu (allG W) W [.sl m0.length (recsA m0) .bor] [v0] := by simp only [RVs]; exact ⟨_, _, rfl, r0, rfl⟩
  refine (sound15.calls hpf (glob_ofS hL) hrel).mono ?_
  rintro e W' ⟨rfl, bel⟩
  have harg0 := Below.trod laidOut (by kernel_rfl) (of_decide_eq_true (by kernel_rfl)) h0 bel (fun x hx => hlt x (by simp [hx]))
  refine ⟨_, rfl, _, _, _, [], p, [], hW', ?_, trodAll_mk1 harg0, rfl, bel.frame _, fun h => by cases h⟩
  exact trodAll_mk1 (shut_bool Tryd.underlying4 _)

theorem journalFolds_facts : joinedFacts Tryd.prog 15 Tryd.f15 Rows.journalFoldsSpec Rows.journalFoldsRow = true := by
  unfold joinedFacts
  rw [may, lifts, makes]
  kernel_rfl

theorem journalFolds_holds : Rows.JournalFoldsSaid :=
  OpenClaim.holds_of_wide 15 Tryd.f15 rfl rfl rfl rfl rfl rfl rfl ⟨rfl, rfl, rfl, rfl, rfl⟩ rfl rfl rfl rfl rfl (by kernel_rfl) Tryd.func15 journalFolds_facts
    (of_decide_eq_true (by kernel_rfl)) (by unfold Func.isWrapper; first | (rw [if_pos (by decide +kernel)]; kernel_rfl) | (rw [if_neg (by decide +kernel)]; exact ⟨rfl, rfl⟩))
    (fun os started H enc _ => journalFolds_lifted os started H enc)

set_option maxRecDepth 100000 in
theorem journalFolds_main : Tryd.prog.mainIs = some (Rows.journalFoldsCard.stood.harness.1, Rows.journalFoldsCard.stood.harness.2.toList) := ((mainB Tryd.prog _).2 (toList_lit rfl)).trans (by kernel_rfl)
theorem journalFolds_card : Rows.JournalFoldsCardSaid :=
  Claim7.holds_tied_plain_at .later [] [.data] true Rows.journalFoldsCard.stood.harness Rows.journalFoldsCard.stood.looks
    journalFolds_holds (fun _ h => by cases h) (by kernel_rfl) (fun _ h => by cases h) journalFolds_row_tie rfl ⟨rfl, rfl⟩ journalFolds_main rfl
    (fun f fn hf hfn => by
      obtain rfl : f = 15 := Option.some.inj ((show Tryd.prog.funcNamed "strongroom/strongroomlaw11.JournalFolds" = some 15 by kernel_rfl).symm.trans hf) |>.symm
      obtain rfl : fn = Tryd.f15 := (Option.some.inj (Tryd.func15.symm.trans hfn)).symm
      exact ⟨by kernel_rfl, fun j t ht => by
        rw [Tryd.params15] at ht
        have hm : t ∈ [79] := by simpa using Array.mem_of_getElem? ht
        have hall : ([79].all fun u => !Tryd.prog.wantsStandIn u) = true := by kernel_rfl
        exact (show Tryd.prog.wantsStandIn t = false by simpa using List.all_eq_true.1 hall t hm)⟩)
    (by kernel_rfl)
#print axioms journalFolds_card
end Go.Proofs.YtddeffdgldjdjaaDoor
