/- The statements' functions of layer 9: what their walks come to (the least that may be): the parts. -/
import Derived.Test.YtjnmdphoaafjaaaQo
namespace Go.Proofs.Ytjnmdphoaafjaaa
set_option linter.unusedSimpArgs false
set_option linter.unusedVariables false
set_option linter.defProp false
open Go Go.Abs
set_option maxHeartbeats 16000000
theorem check_lit1 {k s q i n : Int} {m : Nat} (h : m = 1) : pf44 [.agg [.raw (.int .i64 k), .raw (.int .i64 s), .raw (.int .i64 q), .raw (.int .i64 i), .raw (.int .i64 n), .sl m [.raw (.int .u8 1)] .bor, .raw (.slice none 0 0)]] = some (.raw (.int .i64 (checkF ⟨k, s, q, i, n, some [1#8], none⟩))) := by
  subst h; exact check_at ⟨k, s, q, i, n, some [1#8], none⟩
theorem not_ok {c : Cmd} (h : ¬ (0 ≤ c.s ∧ 0 ≤ c.q ∧ 0 ≤ c.i ∧ 0 ≤ c.n)) : checkF c = 1 := by
  rcases check_01 c with h0 | h1
  · have := check_ok h0
    exact absurd (by omega) h
  · exact h1
section
variable {k s q i n x y : Int} {d b : Option (List (BitVec 8))}
theorem bad_s (h : s < 0) : checkF ⟨k, s, q, i, n, d, b⟩ = 1 := not_ok (by dsimp only; omega)
theorem bad_q (h : q < 0) : checkF ⟨k, s, q, i, n, d, b⟩ = 1 := not_ok (by dsimp only; omega)
theorem bad_i (h : i < 0) : checkF ⟨k, s, q, i, n, d, b⟩ = 1 := not_ok (by dsimp only; omega)
theorem bad_n (h : n < 0) : checkF ⟨k, s, q, i, n, d, b⟩ = 1 := not_ok (by dsimp only; omega)
theorem l0 : checkF ⟨0, 0, 0, 0, 0, none, none⟩ = 1 := by decide +kernel
theorem l11 : checkF ⟨11, 0, 0, 0, 0, none, none⟩ = 1 := by decide +kernel
theorem l1 : checkF ⟨1, 0, 0, 0, 0, none, none⟩ = 0 := by decide +kernel
theorem l2 : checkF ⟨2, 0, 0, 1, 0, none, none⟩ = 0 := by decide +kernel
theorem inW_ok (h : 1 ≤ x ∧ x ≤ 1099511627776) : inW x 1 1099511627776 = true := by
  unfold inW; rw [decide_eq_true (by omega), decide_eq_true (by omega)]; rfl
theorem l3 (h : 1 ≤ x ∧ x ≤ 1099511627776) (h' : 1 ≤ y ∧ y ≤ 1099511627776) : checkF ⟨3, x, y, 0, 0, none, none⟩ = 0 := by
  simp [checkF, stepsS, headS, leftS, idS, dataS, besS, numS, nameS, inW_ok h, inW_ok h', blen0, leB, gtB, show inW 3 3 10 = true from by decide]
theorem l4 (h : 1 ≤ x ∧ x ≤ 1099511627776) (h' : 1 ≤ y ∧ y ≤ 1099511627776) : checkF ⟨4, x, y, 1, 0, none, none⟩ = 0 := by
  simp [checkF, stepsS, headS, leftS, idS, dataS, besS, numS, nameS, inW_ok h, inW_ok h', blen0, leB, gtB, show inW 4 3 10 = true from by decide, show inW 1 1 1099511627776 = true from by decide]
theorem l5 (h : 1 ≤ x ∧ x ≤ 1099511627776) (h' : 1 ≤ y ∧ y ≤ 1099511627776) : checkF ⟨5, x, y, 1, 0, none, none⟩ = 0 := by
  simp [checkF, stepsS, headS, leftS, idS, dataS, besS, numS, nameS, inW_ok h, inW_ok h', blen0, leB, gtB, show inW 5 3 10 = true from by decide, show inW 1 1 1099511627776 = true from by decide, show inW 0 0 1 = true from by decide]
theorem l6 (h : 1 ≤ x ∧ x ≤ 1099511627776) (h' : 1 ≤ y ∧ y ≤ 1099511627776) : checkF ⟨6, x, y, 1, 1, none, none⟩ = 0 := by
  simp [checkF, stepsS, headS, leftS, idS, dataS, besS, numS, nameS, inW_ok h, inW_ok h', blen0, leB, gtB, show inW 6 3 10 = true from by decide, show inW 1 1 1099511627776 = true from by decide]
theorem l7 (h : 1 ≤ x ∧ x ≤ 1099511627776) (h' : 1 ≤ y ∧ y ≤ 1099511627776) : checkF ⟨7, x, y, 1, 0, none, none⟩ = 0 := by
  simp [checkF, stepsS, headS, leftS, idS, dataS, besS, numS, nameS, inW_ok h, inW_ok h', blen0, leB, gtB, show inW 7 3 10 = true from by decide, show inW 1 1 1099511627776 = true from by decide, show inW 0 0 64 = true from by decide]
theorem l8 (h : 1 ≤ x ∧ x ≤ 1099511627776) (h' : 1 ≤ y ∧ y ≤ 1099511627776) : checkF ⟨8, x, y, 0, 0, none, none⟩ = 0 := by
  simp [checkF, stepsS, headS, leftS, idS, dataS, besS, numS, nameS, inW_ok h, inW_ok h', blen0, leB, gtB, show inW 8 3 10 = true from by decide, show inW 0 0 128 = true from by decide]
theorem l9 (h : 1 ≤ x ∧ x ≤ 1099511627776) (h' : 1 ≤ y ∧ y ≤ 1099511627776) : checkF ⟨9, x, y, 0, 0, none, none⟩ = 0 := by
  simp [checkF, stepsS, headS, leftS, idS, dataS, besS, numS, nameS, inW_ok h, inW_ok h', blen0, leB, gtB, show inW 9 3 10 = true from by decide, show inW 0 0 128 = true from by decide]
theorem l10 (h : 1 ≤ x ∧ x ≤ 1099511627776) (h' : 1 ≤ y ∧ y ≤ 1099511627776) : checkF ⟨10, x, y, 0, 0, some [1#8], none⟩ = 0 := by
  simp [checkF, stepsS, headS, leftS, idS, dataS, besS, numS, nameS, inW_ok h, inW_ok h', blen0, leB, gtB, show inW 10 3 10 = true from by decide, show inW 1 1 64 = true from by decide]
end
/-- three numbers, by whether they are below nought -/
def pfL (a b c : Bool) : List AV → Option AV
  | [.raw (.int .i64 n), .raw (.int .i64 s), .raw (.int .i64 f)] => if i64ok n ∧ i64ok s ∧ i64ok f ∧ decide (n < 0) = a ∧ decide (s < 0) = b ∧ decide (f < 0) = c then some (.raw (.bool true)) else none
  | _ => none
def pos (b : Bool) (n : Int) : Int := if b then 0 - (n + 1) else n
theorem pos_t (n : Int) : pos true n = 0 - (n + 1) := rfl
theorem pos_f (n : Int) : pos false n = n := rfl
theorem pos_ok {b : Bool} {n : Int} (h : i64ok n) (hb : decide (n < 0) = b) : 0 ≤ pos b n ∧ pos b n ≤ 9223372036854775807 := by
  unfold i64ok at h
  cases b
  · have := of_decide_eq_false hb; rw [pos_f]; omega
  · have := of_decide_eq_true hb; rw [pos_t]; omega
end Go.Proofs.Ytjnmdphoaafjaaa
