/- From the functions' promises to the rows: what all of the seat's rows need. -/
import Derived.Test.YteooikdcafodfaaDoorRows
import Derived.Test.YteooikdcafodfaaDoorBl
import Derived.Test.YteooikdcafodfaaDoorAz
namespace Go.Proofs.YteooikdcafodfaaDoor
set_option linter.unusedSimpArgs false
set_option linter.unusedVariables false
open Go Go.Abs Go.ChangeShapes Go.WideShapes Go.ChangeAt Go.RowKit

theorem own : ownKnob Tryd.prog.godebug = none := by kernel_rfl
theorem laidOut : laidOutB Tryd.prog = true := by kernel_rfl
theorem gAdd : Tryd.prog.globalNamed "strongroom/sha.add" = some 0 := by kernel_rfl
theorem tAdd : (Tryd.prog.globals[0]?).map (·.type) = some 46 := by kernel_rfl
theorem cells5 : Tryd.prog.cellsOf 5 = 1 := by kernel_rfl
theorem cells28 : Tryd.prog.cellsOf 28 = 1 := by kernel_rfl
theorem cells29 : Tryd.prog.cellsOf 29 = 8 := by kernel_rfl
theorem cells30 : Tryd.prog.cellsOf 30 = 64 := by kernel_rfl
theorem cells46 : Tryd.prog.cellsOf 46 = 64 := by kernel_rfl
def laidL : List (String × DataW Unit) := [("strongroom/sha.add", Rows.laid_strongroom_sha_add)]

theorem door_met (os : Os) (args : Array Value) : laidMetH Tryd.prog laidL ((World.doorLaid Tryd.prog 400 os).forCall (fun _ _ => 0) ⟨#[], args, []⟩).memory :=
  laidMetH_of_parts3 (fuel := 8) (laidMet_of_run' 8 (by kernel_rfl) (by kernel_rfl)) (by kernel_rfl) (by kernel_rfl)

theorem tab_eq : laidL = [("strongroom/sha.add", Lib.tabData .u32 (addL.map fun x => (x.toNat : Int)))] := rfl
theorem glob_of {W : World} (h : laidMetH Tryd.prog laidL W) : ∀ gi xs, glob gi = some xs → RV noMu (allG W) W (.iptr xs) (.pointer (some ⟨gi, 0, none⟩)) := by
  rw [MakeChecks.laidMetH_plain _ _ _ (by kernel_rfl), tab_eq] at h
  have ht := Lib.tabIs_of_head gAdd tAdd Tryd.underlying46 Tryd.underlying28 cells28 cells46 h
  intro gi xs hx
  unfold glob at hx
  split at hx
  · rename_i e; subst e; cases hx
    exact glob_of_tab ht gAdd
  · cases hx

theorem u8_wf : ∀ z, (Lit.int .u8 z).wf = true → 0 ≤ z ∧ z < 2 ^ 8 := fun z h => by
  have h1 : IntKind.u8.min = 0 := rfl
  have h2 : IntKind.u8.max = 255 := rfl
  simp only [Lit.wf, Bool.and_eq_true, decide_eq_true_eq] at h
  omega
theorem u8_has : ∀ z, IntKind.u8.has z → 0 ≤ z ∧ z < 2 ^ 8 := fun z h => by
  have h1 : IntKind.u8.min = 0 := rfl
  have h2 : IntKind.u8.max = 255 := rfl
  unfold IntKind.has at h
  omega
theorem u32_has : ∀ z, IntKind.u32.has z → 0 ≤ z ∧ z < 2 ^ 32 := fun z h => by
  have h1 : IntKind.u32.min = 0 := rfl
  have h2 : IntKind.u32.max = 4294967295 := rfl
  unfold IntKind.has at h
  omega
end Go.Proofs.YteooikdcafodfaaDoor
