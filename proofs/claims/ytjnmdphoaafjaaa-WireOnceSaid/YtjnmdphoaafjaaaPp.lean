/- Check: all kinds. -/
import Derived.Test.YtjnmdphoaafjaaaPo1
import Derived.Test.YtjnmdphoaafjaaaPo2
import Derived.Test.YtjnmdphoaafjaaaPo3
namespace Go.Proofs.Ytjnmdphoaafjaaa
set_option linter.unusedSimpArgs false
set_option linter.unusedVariables false
set_option linter.defProp false
open Go Go.Abs
theorem SoundV.of {P : Program} {glob : Nat → Option (List AV)} {f : Nat} {p q0 : List AV → Option AV} (h0 : SoundV P glob f q0) (h : ∀ args r, p args = some r → ∃ q, SoundV P glob f q ∧ q args = some r) : SoundV P glob f p :=
  ⟨h0.1, fun args r hr => by
    obtain ⟨q, hq, hqr⟩ := h args r hr
    exact hq.2 args r hqr⟩
theorem sound44 : SoundV Try.prog glob 44 pf44 := by
  refine SoundV.of check_no fun args r hr => ?_
  unfold pf44 at hr
  split at hr
  · rename_i cs
    simp only [Option.bind_eq_some_iff] at hr
    obtain ⟨c, hc, hr⟩ := hr
    have go : ∀ j, c.k = j → pfK j [.agg cs] = some r := fun j h => by simp only [pfK, hc, Option.bind_some, if_pos h, hr]
    by_cases k1 : c.k = 1; · exact ⟨_, check_k1, go _ k1⟩
    by_cases k2 : c.k = 2; · exact ⟨_, check_k2, go _ k2⟩
    by_cases k3 : c.k = 3; · exact ⟨_, check_k3, go _ k3⟩
    by_cases k4 : c.k = 4; · exact ⟨_, check_k4, go _ k4⟩
    by_cases k5 : c.k = 5; · exact ⟨_, check_k5, go _ k5⟩
    by_cases k6 : c.k = 6; · exact ⟨_, check_k6, go _ k6⟩
    by_cases k7 : c.k = 7; · exact ⟨_, check_k7, go _ k7⟩
    by_cases k8 : c.k = 8; · exact ⟨_, check_k8, go _ k8⟩
    by_cases k9 : c.k = 9; · exact ⟨_, check_k9, go _ k9⟩
    by_cases k10 : c.k = 10; · exact ⟨_, check_k10, go _ k10⟩
    exact ⟨_, check_no, by simp only [pfR, hc, Option.bind_some]; rw [if_pos ⟨k1, k2, k3, k4, k5, k6, k7, k8, k9, k10⟩]; exact hr⟩
  · cases hr
/-- what a check that passes tells -/
theorem check_ok {c : Cmd} (h : checkF c = 0) : 1 ≤ c.k ∧ c.k ≤ 10 ∧ 0 ≤ c.s ∧ c.s ≤ 1099511627776 ∧ 0 ≤ c.q ∧ c.q ≤ 1099511627776 ∧ 0 ≤ c.i ∧ c.i ≤ 1099511627776 ∧ 0 ≤ c.n ∧ blen0 c.d ≤ 128 ∧ blen0 c.b ≤ 32 := by
  obtain ⟨k, s, q, i, n, d, b⟩ := c
  have hd : 0 ≤ blen0 d := by cases d <;> simp [blen0]
  have hb : 0 ≤ blen0 b := by cases b <;> simp [blen0]
  have hn : blen0 none = 0 := rfl
  have D : ∀ {x y : Int}, x = 0 → (x != 0) = false := fun h => by rw [h]; rfl
  by_cases hk : 1 ≤ k ∧ k ≤ 10
  · obtain ⟨h1, h2⟩ := hk
    have hk : k = 1 ∨ k = 2 ∨ k = 3 ∨ k = 4 ∨ k = 5 ∨ k = 6 ∨ k = 7 ∨ k = 8 ∨ k = 9 ∨ k = 10 := by omega
    rcases hk with rfl | rfl | rfl | rfl | rfl | rfl | rfl | rfl | rfl | rfl <;>
    · simp [checkF, stepsS, headS, leftS, idS, dataS, besS, numS, nameS, inW, hn, leB, gtB] at h
      dsimp only
      omega
  · have : checkF ⟨k, s, q, i, n, d, b⟩ = 1 := by
      have hne : k ≠ 1 ∧ k ≠ 2 ∧ k ≠ 3 ∧ k ≠ 4 ∧ k ≠ 5 ∧ k ≠ 6 ∧ k ≠ 7 ∧ k ≠ 8 ∧ k ≠ 9 ∧ k ≠ 10 := by omega
      simp [checkF, stepsS, hne]
    rw [this] at h
    cases h
theorem check_01 (c : Cmd) : checkF c = 0 ∨ checkF c = 1 := by
  unfold checkF
  split
  · exact .inr rfl
  · split
    · exact .inr rfl
    · exact .inl rfl
end Go.Proofs.Ytjnmdphoaafjaaa
