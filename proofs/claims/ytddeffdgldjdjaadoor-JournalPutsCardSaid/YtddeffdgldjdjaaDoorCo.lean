/- From the functions' promises to the rows: JournalPuts. -/
import Derived.Test.YtddeffdgldjdjaaDoorCm
import Derived.Test.YtddeffdgldjdjaaDoorNu
namespace Go.Proofs.YtddeffdgldjdjaaDoor
set_option linter.unusedSimpArgs false
set_option linter.unusedVariables false
set_option linter.defProp false
open Go Go.Abs Go.ChangeShapes Go.WideShapes Go.ChangeAt Go.RowKit
open Go.Proofs.YtddeffdgldjdjaaDoor.W (Rec recA recOK)
section
variable {H : Type} {enc : TypeId × Value → H} {W : World} {base : Nat} {v : Value} {d : DataW H} {p : List MemPlace}
set_option maxRecDepth 100000 in
/-- a record -/
theorem open_rec (hv : Value.okWide Tryd.prog W .any base 68 v) (h0 : DataW.Trod enc Tryd.prog W 0 (fun _ => true) true 68 v d p) : ∃ x : Rec,recOK x ∧ RV noMu (allG W) W (.agg (recA x)) v := by
  simp only [Value.okWide,Tryd.underlying68] at hv
  obtain ⟨cs,rfl,hsz,_⟩ := hv
  obtain ⟨fuel,hf⟩ := h0
  have hc : Tryd.prog.cellsOf 68 = 10 := by kernel_rfl
  obtain ⟨x,hx,r⟩ := rec_el cs.toList fuel _ (by simp [hsz,hc]) hf
  refine ⟨x,hx,?_⟩
  simp only [RV]
  exact ⟨cs.toList,by simp,r⟩
end
end Go.Proofs.YtddeffdgldjdjaaDoor
