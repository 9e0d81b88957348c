/- From the functions' promises to the rows: what the rows about a source need. -/
import Derived.Test.YtddeffdgldjdjaaDoorCa
import Derived.Test.YtddeffdgldjdjaaDoorJf
namespace Go.Proofs.YtddeffdgldjdjaaDoor
set_option linter.unusedSimpArgs false
set_option linter.unusedVariables false
set_option linter.defProp false
open Go Go.Abs Go.ChangeShapes Go.WideShapes Go.ChangeAt Go.RowKit
theorem gAdd : Tryd.prog.globalNamed "strongroom/sha.add" = some 0 := by kernel_rfl
theorem tAdd : (Tryd.prog.globals[0]?).map (·.type) = some 166 := by kernel_rfl
theorem cells5 : Tryd.prog.cellsOf 5 = 1 := by kernel_rfl
theorem cells48 : Tryd.prog.cellsOf 48 = 32 := by kernel_rfl
theorem cells23 : Tryd.prog.cellsOf 23 = 32 := by kernel_rfl
theorem cells72 : Tryd.prog.cellsOf 72 = 1 := by kernel_rfl
theorem cells166 : Tryd.prog.cellsOf 166 = 64 := by kernel_rfl
theorem tab_eq : laidL = [("strongroom/sha.add", Lib.tabData .u32 (addL.map fun x => (x.toNat : Int)))] := rfl
theorem glob_ofS {W : World} (h : laidMetH Tryd.prog laidL W) : ∀ gi xs, globS gi = some xs → RV noMu (allG W) W (.iptr xs) (.pointer (some ⟨gi, 0, none⟩)) := by
  rw [MakeChecks.laidMetH_plain _ _ _ (by kernel_rfl), tab_eq] at h
  have ht := Lib.tabIs_of_head gAdd tAdd Tryd.underlying166 Tryd.underlying72 cells72 cells166 h
  intro gi xs hx
  unfold globS at hx
  split at hx
  · rename_i e; subst e; cases hx
    exact glob_of_tab ht gAdd
  · cases hx
theorem u8_wf : ∀ z, (Lit.int .u8 z).wf = true → 0 ≤ z ∧ z < 2 ^ 8 := fun z h => by
  have h1 : IntKind.u8.min = 0 := rfl
  have h2 : IntKind.u8.max = 255 := rfl
  simp only [Lit.wf, Bool.and_eq_true, decide_eq_true_eq] at h
  omega
theorem u8_has : ∀ z, IntKind.u8.has z → 0 ≤ z ∧ z < 2 ^ 8 := fun z h => by
  have h1 : IntKind.u8.min = 0 := rfl
  have h2 : IntKind.u8.max = 255 := rfl
  unfold IntKind.has at h
  omega
section
variable {H : Type} {enc : TypeId × Value → H} {W : World} {base : Nat} {v : Value} {d : DataW H} {p : List MemPlace}
set_option maxRecDepth 100000 in
/-- a call: two numbers, some bytes -/
theorem open_op7 (hv : Value.okWide Tryd.prog W .any base 26 v) (h0 : DataW.Trod enc Tryd.prog W 0 (fun _ => true) true 26 v d p) : ∃ (x y : Int) (m : List (BitVec 8)), i64B x ∧ i64B y ∧ m.length ≤ 9223372036854775807 ∧ RV noMu (allG W) W (.agg [.raw (.int .i64 x), .raw (.int .i64 y), .sl m.length (nums .u8 m) .bor]) v := by
  obtain ⟨vs, rfl, hl, hf⟩ := open_struct Tryd.underlying26 (by kernel_rfl) (by kernel_rfl) (by kernel_rfl) hv h0
  obtain ⟨x0, x1, x2, rfl⟩ := list3 hl
  obtain ⟨n0, h0, r0⟩ := fld_i64 Tryd.underlying3 (hf 0 _ x0 rfl rfl).1
  obtain ⟨n1, h1, r1⟩ := fld_i64 Tryd.underlying3 (hf 1 _ x1 rfl rfl).1
  obtain ⟨n2, h2, r2⟩ := fld_row (enc := enc) (w := 8) Tryd.underlying24 Tryd.underlying5 cells5 u8_wf (hf 2 _ x2 rfl rfl).1 (hf 2 _ x2 rfl rfl).2
  refine ⟨n0, n1, n2, ⟨h0.1, h0.2⟩, ⟨h1.1, h1.2⟩, h2, ?_⟩
  simp only [RV, RVs]
  exact ⟨_, rfl, _, _, rfl, r0, _, _, rfl, r1, _, _, rfl, by simpa only [RV] using r2, rfl⟩
end
def pf6 : List AV → Option AV := op3 (fun _ _ _ _ _ => true)
def pf3 : List AV → Option AV := op3 (fun _ _ _ _ _ => true)
end Go.Proofs.YtddeffdgldjdjaaDoor
