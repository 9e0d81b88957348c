/- From the functions' promises to the rows: what the rows need that reach the laid table. -/
import Derived.Test.YtddeffdgldjdjaaDoorCa
import Derived.Test.YtddeffdgldjdjaaDoorGd
namespace Go.Proofs.YtddeffdgldjdjaaDoor
set_option linter.unusedSimpArgs false
set_option linter.unusedVariables false
set_option linter.defProp false
open Go Go.Abs Go.ChangeShapes Go.WideShapes Go.ChangeAt Go.RowKit
theorem gAdd : Tryd.prog.globalNamed "strongroom/sha.add" = some 0 := by kernel_rfl
theorem tAdd : (Tryd.prog.globals[0]?).map (·.type) = some 166 := by kernel_rfl
theorem cells5 : Tryd.prog.cellsOf 5 = 1 := by kernel_rfl
theorem cells48 : Tryd.prog.cellsOf 48 = 32 := by kernel_rfl
theorem cells72 : Tryd.prog.cellsOf 72 = 1 := by kernel_rfl
theorem cells166 : Tryd.prog.cellsOf 166 = 64 := by kernel_rfl
theorem tab_eq : laidL = [("strongroom/sha.add", Lib.tabData .u32 (addL.map fun x => (x.toNat : Int)))] := rfl
theorem glob_ofS {W : World} (h : laidMetH Tryd.prog laidL W) : ∀ gi xs, globS gi = some xs → RV noMu (allG W) W (.iptr xs) (.pointer (some ⟨gi, 0, none⟩)) := by
  rw [MakeChecks.laidMetH_plain _ _ _ (by kernel_rfl), tab_eq] at h
  have ht := Lib.tabIs_of_head gAdd tAdd Tryd.underlying166 Tryd.underlying72 cells72 cells166 h
  intro gi xs hx
  unfold globS at hx
  split at hx
  · rename_i e; subst e; cases hx
    exact glob_of_tab ht gAdd
  · cases hx
theorem u8_wf : ∀ z, (Lit.int .u8 z).wf = true → 0 ≤ z ∧ z < 2 ^ 8 := fun z h => by
  have h1 : IntKind.u8.min = 0 := rfl
  have h2 : IntKind.u8.max = 255 := rfl
  simp only [Lit.wf, Bool.and_eq_true, decide_eq_true_eq] at h
  omega
theorem u8_has : ∀ z, IntKind.u8.has z → 0 ≤ z ∧ z < 2 ^ 8 := fun z h => by
  have h1 : IntKind.u8.min = 0 := rfl
  have h2 : IntKind.u8.max = 255 := rfl
  unfold IntKind.has at h
  omega
end Go.Proofs.YtddeffdgldjdjaaDoor
