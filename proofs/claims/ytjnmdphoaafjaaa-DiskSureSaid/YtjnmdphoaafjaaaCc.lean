/- From the functions' promises to the rows of layer 10: arguments that are rows of bytes. -/
import Derived.Test.YtjnmdphoaafjaaaCb
import Derived.Test.YtjnmdphoaafjaaaBn
namespace Go.Proofs.Ytjnmdphoaafjaaa
set_option linter.unusedSimpArgs false
set_option linter.unusedVariables false
set_option linter.defProp false
open Go Go.Abs Go.ChangeShapes Go.WideShapes Go.ChangeAt Go.RowKit
section
variable {H : Type} {enc : TypeId × Value → H} {W : World} {base : Nat} {v : Value} {d : DataW H} {p : List MemPlace}
theorem bs_el (cs : List Value) (n : Nat) (y : DataW H × List MemPlace) (hl : cs.length = 1) (h : DataW.trod enc Try.prog W 0 (fun _ => true) true n 29 cs = some y) : ∃ x : List (BitVec 8), x.length ≤ 9223372036854775807 ∧ RVs noMu (allG W) W [.sl x.length (nums .u8 x) .bor] cs := by
  match cs, hl with
  | [c], _ =>
    obtain ⟨b, kb, rb⟩ := trod_row (w := 8) Try.underlying29 Try.underlying5 cells5 u8_wf h
    refine ⟨b, kb, ?_⟩
    simp only [RVs]
    exact ⟨_, _, rfl, rb, rfl⟩
set_option maxRecDepth 100000 in
theorem open_bs (hv : Value.okWide Try.prog W .any base 22 v) (h0 : DataW.Trod enc Try.prog W 0 (fun _ => true) true 22 v d p) : ∃ l : List (List (BitVec 8)), l.length ≤ 9223372036854775807 ∧ (∀ o ∈ l, o.length ≤ 9223372036854775807) ∧ RV noMu (allG W) W (.sl l.length (bsA l) .bor) v :=
  open_rowOf (fun b : List (BitVec 8) => [.sl b.length (nums .u8 b) .bor]) (fun b => b.length ≤ 9223372036854775807) (s := 1) Try.underlying22 (by kernel_rfl) (by omega) (fun _ => rfl) bs_el hv h0
end
end Go.Proofs.Ytjnmdphoaafjaaa
