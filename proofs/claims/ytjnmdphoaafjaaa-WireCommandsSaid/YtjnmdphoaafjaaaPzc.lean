/- The document's check: all kinds. -/
import Derived.Test.YtjnmdphoaafjaaaPw1
import Derived.Test.YtjnmdphoaafjaaaPw2
import Derived.Test.YtjnmdphoaafjaaaPw3
namespace Go.Proofs.Ytjnmdphoaafjaaa
set_option linter.unusedSimpArgs false
set_option linter.unusedVariables false
set_option linter.defProp false
open Go Go.Abs
theorem sound45 : SoundV Try.prog glob 45 pf44 := by
  refine SoundV.of rcheck_no fun args r hr => ?_
  unfold pf44 at hr
  split at hr
  · rename_i cs
    simp only [Option.bind_eq_some_iff] at hr
    obtain ⟨c, hc, hr⟩ := hr
    have go : ∀ j, c.k = j → pfK j [.agg cs] = some r := fun j h => by simp only [pfK, hc, Option.bind_some, if_pos h, hr]
    by_cases k1 : c.k = 1; · exact ⟨_, rcheck_k1, go _ k1⟩
    by_cases k2 : c.k = 2; · exact ⟨_, rcheck_k2, go _ k2⟩
    by_cases k3 : c.k = 3; · exact ⟨_, rcheck_k3, go _ k3⟩
    by_cases k4 : c.k = 4; · exact ⟨_, rcheck_k4, go _ k4⟩
    by_cases k5 : c.k = 5; · exact ⟨_, rcheck_k5, go _ k5⟩
    by_cases k6 : c.k = 6; · exact ⟨_, rcheck_k6, go _ k6⟩
    by_cases k7 : c.k = 7; · exact ⟨_, rcheck_k7, go _ k7⟩
    by_cases k8 : c.k = 8; · exact ⟨_, rcheck_k8, go _ k8⟩
    by_cases k9 : c.k = 9; · exact ⟨_, rcheck_k9, go _ k9⟩
    by_cases k10 : c.k = 10; · exact ⟨_, rcheck_k10, go _ k10⟩
    exact ⟨_, rcheck_no, by simp only [pfR, hc, Option.bind_some]; rw [if_pos ⟨k1, k2, k3, k4, k5, k6, k7, k8, k9, k10⟩]; exact hr⟩
  · cases hr
end Go.Proofs.Ytjnmdphoaafjaaa
