/- An argument that is a whole number. -/
import Derived.Test.YteooikdcafodfaaDoorAz
namespace Go.Abs
set_option linter.unusedSimpArgs false
set_option linter.unusedVariables false
open Go

theorem open_i64 {P : Program} {W : World} {base : Nat} {t : TypeId} {v : Value} (ht : P.underlying t = some (.int .i64)) (hv : Value.okWide P W .any base t v) :
    ∃ n : Int, (-9223372036854775808 ≤ n ∧ n ≤ 9223372036854775807) ∧ RV noMu (allG W) W (.raw (.int .i64 n)) v := by
  simp only [Value.okWide, ht, Cell.okWide] at hv
  cases v <;> simp only [Cell.ok, ht] at hv
  rename_i k n
  obtain ⟨rfl, h⟩ := hv
  have h1 : IntKind.i64.min = -9223372036854775808 := rfl
  have h2 : IntKind.i64.max = 9223372036854775807 := rfl
  unfold IntKind.has at h
  exact ⟨n, by omega, by simp only [RV]⟩
end Go.Abs
