/- From the functions' promises to the rows of layer 10: arguments that are calls, or rows of bytes. -/
import Derived.Test.YtjnmdphoaafjaaaCa
import Derived.Test.YtjnmdphoaafjaaaM3
import Derived.Test.YtjnmdphoaafjaaaBl
namespace Go.Proofs.Ytjnmdphoaafjaaa
set_option linter.unusedSimpArgs false
set_option linter.unusedVariables false
set_option linter.defProp false
open Go Go.Abs Go.ChangeShapes Go.WideShapes Go.ChangeAt Go.RowKit
theorem list5 {α : Type} {l : List α} (h : l.length = 5) : ∃ a b c d e, l = [a, b, c, d, e] := by
  match l, h with
  | [a, b, c, d, e], _ => exact ⟨a, b, c, d, e, rfl⟩
section
variable {H : Type} {enc : TypeId × Value → H} {W : World} {base : Nat} {v : Value} {d : DataW H} {p : List MemPlace}
theorem some_at {α : Type} {xs : List α} {o : Option α} {i n : Nat} (h : o = xs[i]?) (hl : xs.length = n) (hi : i < n) : ∃ x, o = some x := ⟨_, h.trans (List.getElem?_eq_getElem (by omega))⟩
set_option maxRecDepth 100000 in
theorem op_el (cs : List Value) (n : Nat) (y : DataW H × List MemPlace) (hl : cs.length = 5) (h : DataW.trod enc Try.prog W 0 (fun _ => true) true n 40 cs = some y) : ∃ x, okOp x ∧ RVs noMu (allG W) W (opA x) cs := by
  obtain ⟨xs, n', _, _, _, hxl, hx⟩ := DataW.trod_struct Try.underlying40 h
  obtain ⟨c0, c1, c2, c3, c4, rfl⟩ := list5 hl
  have c29 : Try.prog.cellsOf 29 = 1 := by kernel_rfl
  have c23 : Try.prog.cellsOf 23 = 1 := by kernel_rfl
  have h0 : DataW.trod enc Try.prog W 0 (fun _ => true) true n' 3 (([c0, c1, c2, c3, c4].drop 0).take (Try.prog.cellsOf 3)) = xs[0]? := hx 0 _ rfl
  have h1 : DataW.trod enc Try.prog W 0 (fun _ => true) true n' 3 (([c0, c1, c2, c3, c4].drop 1).take (Try.prog.cellsOf 3)) = xs[1]? := hx 1 _ rfl
  have h2 : DataW.trod enc Try.prog W 0 (fun _ => true) true n' 3 (([c0, c1, c2, c3, c4].drop 2).take (Try.prog.cellsOf 3)) = xs[2]? := hx 2 _ rfl
  have h3 : DataW.trod enc Try.prog W 0 (fun _ => true) true n' 29 (([c0, c1, c2, c3, c4].drop 3).take (Try.prog.cellsOf 29)) = xs[3]? := hx 3 _ rfl
  have h4 : DataW.trod enc Try.prog W 0 (fun _ => true) true n' 23 (([c0, c1, c2, c3, c4].drop 4).take (Try.prog.cellsOf 23)) = xs[4]? := hx 4 _ rfl
  rw [cells3] at h0 h1 h2
  rw [c29] at h3
  rw [c23] at h4
  have hxl : xs.length = 5 := hxl
  obtain ⟨_, h0⟩ := some_at h0 hxl (by omega)
  obtain ⟨_, h1⟩ := some_at h1 hxl (by omega)
  obtain ⟨_, h2⟩ := some_at h2 hxl (by omega)
  obtain ⟨_, h3⟩ := some_at h3 hxl (by omega)
  obtain ⟨_, h4⟩ := some_at h4 hxl (by omega)
  obtain ⟨z0, k0, rfl⟩ := trod_i64 Try.underlying3 h0
  obtain ⟨z1, k1, rfl⟩ := trod_i64 Try.underlying3 h1
  obtain ⟨z2, k2, rfl⟩ := trod_i64 Try.underlying3 h2
  obtain ⟨b, kb, rb⟩ := trod_row (w := 8) Try.underlying29 Try.underlying5 cells5 u8_wf h3
  obtain ⟨m, km, ki, rm⟩ := trod_irow Try.underlying23 Try.underlying3 cells3 h4
  refine ⟨⟨z0, z1, z2, b, m⟩, ⟨k0, k1, k2, kb, km, ki⟩, ?_⟩
  simp only [opA, RVs]
  exact ⟨_, _, rfl, by simp only [RV], _, _, rfl, by simp only [RV], _, _, rfl, by simp only [RV], _, _, rfl, rb, _, _, rfl, rm, rfl⟩
set_option maxRecDepth 100000 in
/-- calls of a disk -/
theorem open_ops (hv : Value.okWide Try.prog W .any base 37 v) (h0 : DataW.Trod enc Try.prog W 0 (fun _ => true) true 37 v d p) : ∃ l : List Opx, l.length ≤ 9223372036854775807 ∧ (∀ o ∈ l, okOp o) ∧ RV noMu (allG W) W (.sl l.length (opsA l) .bor) v :=
  open_rowOf opA okOp Try.underlying37 (by kernel_rfl) (by omega) opA_len op_el hv h0
end
end Go.Proofs.Ytjnmdphoaafjaaa
