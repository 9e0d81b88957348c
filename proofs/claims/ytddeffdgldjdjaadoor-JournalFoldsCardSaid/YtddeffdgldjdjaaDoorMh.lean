/- Small facts that several texts need. -/
import Derived.Test.YtddeffdgldjdjaaDoorMg
namespace Go.Proofs.YtddeffdgldjdjaaDoor.W
set_option linter.unusedSimpArgs false
set_option linter.unusedVariables false
set_option linter.defProp false
open Go Go.Abs
set_option maxHeartbeats 8000000
theorem put_nil {fl : Fl} {n : Int} (h3 : n ≤ 9223372036854775807) (h0 : 0 ≤ n) : pf80 [.sl 0 [] fl, .raw (.int .i64 n)] = some (.tup [.sl (putB [] n.toNat).length (nums .u8 (putB [] n.toNat)) (.own ⟨0, 0, 0, 0⟩ 1), .raw (.int .i64 0)]) :=
  pf80_at (b := []) rfl (by simp) h3 h0
theorem rS_ok {p : List (BitVec 8) × Int} (h : p.2 = 0) : rS p = (tkR p.1, (tkE p.1 : Int)) := by rw [rS, if_pos h]
theorem rS_no {p : List (BitVec 8) × Int} (h : p.2 ≠ 0) : rS p = p := by rw [rS, if_neg h]
theorem rN_ok' {p : List (BitVec 8) × Int} (h : p.2 = 0) : rN p = (tkN p.1 : Int) := by rw [rN, if_pos h]
theorem tS_ok {p : List (BitVec 8) × Int} (h : p.2 = 0) : tS p = (ttR p.1 4096, (ttE p.1 4096 : Int)) := by rw [tS, if_pos h]
theorem tS_no {p : List (BitVec 8) × Int} (h : p.2 ≠ 0) : tS p = p := by rw [tS, if_neg h]
theorem tN_ok {p : List (BitVec 8) × Int} (h : p.2 = 0) : tN p = ttT p.1 4096 := by rw [tN, if_pos h]
theorem lS_ok {p : List (BitVec 8) × Int} (h : p.2 = 0) : lS 7 p = (tlR p.1 7, (tlE p.1 7 : Int)) := by rw [lS, if_pos h]
theorem lS_no {p : List (BitVec 8) × Int} (h : p.2 ≠ 0) : lS 7 p = p := by rw [lS, if_neg h]
theorem lN_ok' {p : List (BitVec 8) × Int} (h : p.2 = 0) : lN 7 p = tlL p.1 7 := by rw [lN, if_pos h]
theorem nz_t {n : Nat} (h : n ≠ 0) : ((n : Int) != 0) = true := by rw [bne_iff_ne]; omega
theorem nz_f {n : Nat} (h : n = 0) : ((n : Int) != 0) = false := by rw [h]; rfl
theorem dz {n : Nat} (h : n ≠ 0) : decide ((n : Int) = 0) = false := decide_eq_false (by omega)
end Go.Proofs.YtddeffdgldjdjaaDoor.W
