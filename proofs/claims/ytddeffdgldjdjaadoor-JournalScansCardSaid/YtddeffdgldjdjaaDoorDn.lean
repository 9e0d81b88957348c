/- JournalScans: whatever the bytes,the statement's function answers true,and they stay: proved for every input. -/
import Derived.Test.YtddeffdgldjdjaaDoorCp
import Derived.Test.YtddeffdgldjdjaaDoorCards
import Derived.Test.YtddeffdgldjdjaaDoorTie
import Derived.SevenTiedAt
namespace Go.Proofs.YtddeffdgldjdjaaDoor
set_option linter.unusedSimpArgs false
set_option linter.unusedVariables false
open Go Go.Abs Go.ChangeShapes Go.WideShapes Go.ChangeAt Go.RowKit
open W (pf14 sound14)
set_option maxRecDepth 100000 in
theorem journalScans_lifted (os : Os) (started : os.Started) (H : Type) (enc : TypeId × Value → H) :
    ReturnsInHanded {} Tryd.checked os 14 .any (fun w args => (Rows.journalScansSpec.pre enc Tryd.prog Tryd.f14 [] false w args ∧ laidMetH Tryd.prog laidL w) ∧ sizedMet enc Tryd.prog Tryd.f14 (OpenSpec.ofChange Rows.journalScansSpec) false w args)
      (Rows.journalScansSpec.post enc Tryd.prog Tryd.f14 false true false false):=by
  refine returnsInHanded_of_change_and (C := Tryd.checked) (X := fun w _ => laidMetH Tryd.prog laidL w) (fun _ _ _ hh h => h.of_heap hh) own started (by kernel_rfl) Tryd.func14
    (ChangeSpec.witness_shaped (enc:=enc) (C:=Tryd.checked) (os:=os) (X:=fun w _=>laidMetH Tryd.prog laidL w) false (World.doorLaid Tryd.prog 400 os) #[.slice none 0 0] 8 rfl (World.shaped_of_RefB (by kernel_rfl) (by kernel_rfl)) (by kernel_rfl) (by kernel_rfl) (by kernel_rfl) (door_met os _)) ?_
  intro W base args ds gs before hval0 hW _ _ hL _
  have hval : ∀ (j : Nat) t v,Tryd.f14.params[j]? = some t→args[j]? = some v→Value.okWide Tryd.prog W .any base t v:=hval0
  have hW':=hW
  obtain ⟨p,q,hA0,hV,rfl,hfz,hnd⟩:=hW
  have hA : DataW.TrodAll enc Tryd.prog W 0 (fun _=>true) true Tryd.f14.params.toList args.toList ds p:=hA0
  rw [Tryd.params14] at hA hval
  obtain ⟨v0,d0,rfl,rfl,h0⟩:=trodAll_one hA
  obtain ⟨rfl,rfl⟩:=trodVars_none hV
  obtain ⟨m0,hm0,r0⟩:=Go.Abs.open_row (w:=8) Tryd.underlying24 Tryd.underlying5 cells5 u8_wf (hval 0 24 v0 rfl rfl) h0
  clear hA0 hval0
  simp only [List.append_nil] at hW'
  have hlt : ∀ x ∈ p,x.block < W.heap.size:=fun x hx=>by simpa using hW'.lt x (by simpa using hx)
  have hpf : pf14 [.sl m0.length (nums .u8 m0) .bor] = some (.raw (.bool true)):=by simp only [pf14,row?_at,Option.bind_some,if_pos (show m0.length ≤ 9223372036854775807 from hm0)]
  have hrel : RVs noMu (allG W) W [.sl m0.length (nums .u8 m0) .bor] [v0]:=by simp only [RVs]; exact ⟨_,_,rfl,r0,rfl⟩
  refine (sound14.calls hpf (glob_ofS hL) hrel).mono ?_
  rintro e W' ⟨rfl,bel⟩
  have harg0:=Below.trod laidOut (by kernel_rfl) (of_decide_eq_true (by kernel_rfl)) h0 bel (fun x hx=>hlt x (by simp [hx]))
  refine ⟨_,rfl,_,_,_,[],p,[],hW',?_,trodAll_mk1 harg0,rfl,bel.frame _,fun h=>by cases h⟩
  exact trodAll_mk1 (shut_bool Tryd.underlying4 _)
theorem journalScans_facts : joinedFacts Tryd.prog 14 Tryd.f14 Rows.journalScansSpec Rows.journalScansRow = true:=by
  unfold joinedFacts
  rw [may,lifts,makes]
  kernel_rfl
theorem journalScans_holds : Rows.JournalScansSaid :=
  OpenClaim.holds_of_wide 14 Tryd.f14 rfl rfl rfl rfl rfl rfl rfl ⟨rfl,rfl,rfl,rfl,rfl⟩ rfl rfl rfl rfl rfl (by kernel_rfl) Tryd.func14 journalScans_facts
    (of_decide_eq_true (by kernel_rfl)) (by unfold Func.isWrapper; first | (rw [if_pos (by decide +kernel)]; kernel_rfl) | (rw [if_neg (by decide +kernel)]; exact ⟨rfl,rfl⟩))
    (fun os started H enc _=>journalScans_lifted os started H enc)
set_option maxRecDepth 100000 in
theorem journalScans_main : Tryd.prog.mainIs = some (Rows.journalScansCard.stood.harness.1,Rows.journalScansCard.stood.harness.2.toList):=((mainB Tryd.prog _).2 (toList_lit rfl)).trans (by kernel_rfl)
theorem journalScans_card : Rows.JournalScansCardSaid :=
  Claim7.holds_tied_plain_at .later [] [.data] true Rows.journalScansCard.stood.harness Rows.journalScansCard.stood.looks
    journalScans_holds (fun _ h=>by cases h) (by kernel_rfl) (fun _ h=>by cases h) journalScans_row_tie rfl ⟨rfl,rfl⟩ journalScans_main rfl
    (fun f fn hf hfn=>by
      obtain rfl : f = 14 := Option.some.inj ((show Tryd.prog.funcNamed "strongroom/strongroomlaw11.JournalScans" = some 14 by kernel_rfl).symm.trans hf) |>.symm
      obtain rfl : fn = Tryd.f14:=(Option.some.inj (Tryd.func14.symm.trans hfn)).symm
      exact ⟨by kernel_rfl,fun j t ht=>by
        rw [Tryd.params14] at ht
        have hm : t ∈ [24]:=by simpa using Array.mem_of_getElem? ht
        have hall : ([24].all fun u=>!Tryd.prog.wantsStandIn u) = true:=by kernel_rfl
        exact (show Tryd.prog.wantsStandIn t = false by simpa using List.all_eq_true.1 hall t hm)⟩)
    (by kernel_rfl)
#print axioms journalScans_card
end Go.Proofs.YtddeffdgldjdjaaDoor
