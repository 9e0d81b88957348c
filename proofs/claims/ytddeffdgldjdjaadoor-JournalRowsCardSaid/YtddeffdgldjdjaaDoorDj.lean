/- JournalRows: whatever the terms, the place and the term, the statement's function answers true, and they stay: proved for every input. -/
import Derived.Test.YtddeffdgldjdjaaDoorCl
import Derived.Test.YtddeffdgldjdjaaDoorCards
import Derived.Test.YtddeffdgldjdjaaDoorTie
import Derived.SevenTiedAt
namespace Go.Proofs.YtddeffdgldjdjaaDoor
set_option linter.unusedSimpArgs false
set_option linter.unusedVariables false
open Go Go.Abs Go.ChangeShapes Go.WideShapes Go.ChangeAt Go.RowKit
open W (pf17 sound17)

set_option maxRecDepth 100000 in
theorem journalRows_lifted (os : Os) (started : os.Started) (H : Type) (enc : TypeId × Value → H) :
    ReturnsInHanded {} Tryd.checked os 17 .any (fun w args => (Rows.journalRowsSpec.pre enc Tryd.prog Tryd.f17 [] false w args ∧ laidMetH Tryd.prog laidL w) ∧ sizedMet enc Tryd.prog Tryd.f17 (OpenSpec.ofChange Rows.journalRowsSpec) false w args)
      (Rows.journalRowsSpec.post enc Tryd.prog Tryd.f17 false true false false) := by
  refine returnsInHanded_of_change_and (C := Tryd.checked) (X := fun w _ => laidMetH Tryd.prog laidL w) (fun _ _ _ hh h => h.of_heap hh) own started (by kernel_rfl) Tryd.func17
    (ChangeSpec.witness_shaped (enc := enc) (C := Tryd.checked) (os := os) (X := fun w _ => laidMetH Tryd.prog laidL w) false (World.doorLaid Tryd.prog 400 os) #[.slice none 0 0, .int .i64 0, .int .i64 0] 8 rfl (World.shaped_of_RefB (by kernel_rfl) (by kernel_rfl)) (by kernel_rfl) (by kernel_rfl) (by kernel_rfl) (door_met os _)) ?_
  intro W base args ds gs before hval0 hW _ _ hL _
  have hval : ∀ (j : Nat) t v, Tryd.f17.params[j]? = some t → args[j]? = some v → Value.okWide Tryd.prog W .any base t v := hval0
  have hW' := hW
  obtain ⟨p, q, hA0, hV, rfl, hfz, hnd⟩ := hW
  have hA : DataW.TrodAll enc Tryd.prog W 0 (fun _ => true) true Tryd.f17.params.toList args.toList ds p := hA0
  rw [Tryd.params17] at hA hval
  obtain ⟨v0, v1, v2, d0, d1, d2, p0, p1, p2, rfl, rfl, rfl, h0, h1, h2⟩ := trodAll_three hA
  obtain ⟨rfl, rfl⟩ := trodVars_none hV
  obtain ⟨m0, hm0, o0, r0⟩ := Go.Abs.open_irow Tryd.underlying64 Tryd.underlying3 cells3 (hval 0 64 v0 rfl rfl) h0
  have hm0 : m0.length ≤ 9223372036854775807 := hm0
  obtain ⟨m1, hm1, r1⟩ := Go.Abs.open_i64 Tryd.underlying3 (hval 1 3 v1 rfl rfl)
  obtain ⟨m2, hm2, r2⟩ := Go.Abs.open_i64 Tryd.underlying3 (hval 2 3 v2 rfl rfl)
  clear hA0 hval0
  simp only [List.append_nil] at hW'
  have hlt : ∀ x ∈ p0 ++ (p1 ++ p2), x.block < W.heap.size := fun x hx => by simpa using hW'.lt x (by simpa using hx)
  have hpf : pf17 [.sl m0.length (ints .i64 m0) .bor, .raw (.int .i64 m1), .raw (.int .i64 m2)] = some (.raw (.bool true)) := by simp only [pf17, irow?_at rfl o0, int?_at, Option.bind_some, if_pos (And.intro hm0 (And.intro hm1.1 hm1.2))]
  have hrel : RVs noMu (allG W) W [.sl m0.length (ints .i64 m0) .bor, .raw (.int .i64 m1), .raw (.int .i64 m2)] [v0, v1, v2] := by simp only [RVs]; exact ⟨_, _, rfl, r0, ⟨_, _, rfl, r1, ⟨_, _, rfl, r2, rfl⟩⟩⟩
  refine (sound17.calls hpf (glob_ofS hL) hrel).mono ?_
  rintro e W' ⟨rfl, bel⟩
  have harg0 := Below.trod laidOut (by kernel_rfl) (of_decide_eq_true (by kernel_rfl)) h0 bel (fun x hx => hlt x (by simp [hx]))
  have harg1 := Below.trod laidOut (by kernel_rfl) (of_decide_eq_true (by kernel_rfl)) h1 bel (fun x hx => hlt x (by simp [hx]))
  have harg2 := Below.trod laidOut (by kernel_rfl) (of_decide_eq_true (by kernel_rfl)) h2 bel (fun x hx => hlt x (by simp [hx]))
  refine ⟨_, rfl, _, _, _, [], p0 ++ (p1 ++ p2), [], hW', ?_, trodAll_mk3 harg0 harg1 harg2, rfl, bel.frame _, fun h => by cases h⟩
  exact trodAll_mk1 (shut_bool Tryd.underlying4 _)

theorem journalRows_facts : joinedFacts Tryd.prog 17 Tryd.f17 Rows.journalRowsSpec Rows.journalRowsRow = true := by
  unfold joinedFacts
  rw [may, lifts, makes]
  kernel_rfl

theorem journalRows_holds : Rows.JournalRowsSaid :=
  OpenClaim.holds_of_wide 17 Tryd.f17 rfl rfl rfl rfl rfl rfl rfl ⟨rfl, rfl, rfl, rfl, rfl⟩ rfl rfl rfl rfl rfl (by kernel_rfl) Tryd.func17 journalRows_facts
    (of_decide_eq_true (by kernel_rfl)) (by unfold Func.isWrapper; first | (rw [if_pos (by decide +kernel)]; kernel_rfl) | (rw [if_neg (by decide +kernel)]; exact ⟨rfl, rfl⟩))
    (fun os started H enc _ => journalRows_lifted os started H enc)

set_option maxRecDepth 100000 in
theorem journalRows_main : Tryd.prog.mainIs = some (Rows.journalRowsCard.stood.harness.1, Rows.journalRowsCard.stood.harness.2.toList) := ((mainB Tryd.prog _).2 (toList_lit rfl)).trans (by kernel_rfl)
theorem journalRows_card : Rows.JournalRowsCardSaid :=
  Claim7.holds_tied_plain_at .later [] [.data] true Rows.journalRowsCard.stood.harness Rows.journalRowsCard.stood.looks
    journalRows_holds (fun _ h => by cases h) (by kernel_rfl) (fun _ h => by cases h) journalRows_row_tie rfl ⟨rfl, rfl⟩ journalRows_main rfl
    (fun f fn hf hfn => by
      obtain rfl : f = 17 := Option.some.inj ((show Tryd.prog.funcNamed "strongroom/strongroomlaw11.JournalRows" = some 17 by kernel_rfl).symm.trans hf) |>.symm
      obtain rfl : fn = Tryd.f17 := (Option.some.inj (Tryd.func17.symm.trans hfn)).symm
      exact ⟨by kernel_rfl, fun j t ht => by
        rw [Tryd.params17] at ht
        have hm : t ∈ [64, 3, 3] := by simpa using Array.mem_of_getElem? ht
        have hall : ([64, 3, 3].all fun u => !Tryd.prog.wantsStandIn u) = true := by kernel_rfl
        exact (show Tryd.prog.wantsStandIn t = false by simpa using List.all_eq_true.1 hall t hm)⟩)
    (by kernel_rfl)
#print axioms journalRows_card
end Go.Proofs.YtddeffdgldjdjaaDoor
