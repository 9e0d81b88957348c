/- The statements' functions of layer 9: the least that may be. -/
import Derived.Test.YtjnmdphoaafjaaaQp1
import Derived.Test.YtjnmdphoaafjaaaQp2
import Derived.Test.YtjnmdphoaafjaaaQp3
import Derived.Test.YtjnmdphoaafjaaaQp4
namespace Go.Proofs.Ytjnmdphoaafjaaa
set_option linter.unusedSimpArgs false
set_option linter.unusedVariables false
set_option linter.defProp false
open Go Go.Abs
def pf9 : List AV → Option AV
  | [v, u, w] => (int? v).bind fun n => (int? u).bind fun s => (int? w).bind fun f => if i64ok n ∧ i64ok s ∧ i64ok f then some (.raw (.bool true)) else none
  | _ => none
theorem sound9 : SoundV Try.prog glob 9 pf9 := by
  refine SoundV.of least_fff fun args r hr => ?_
  unfold pf9 at hr
  split at hr
  · simp only [Option.bind_eq_some_iff] at hr
    obtain ⟨n, h1, s, h2, f, h3, hr⟩ := hr
    split at hr
    · rename_i hh
      cases hr
      rw [int?_of h1, int?_of h2, int?_of h3]
      have go : ∀ a b c, decide (n < 0) = a → decide (s < 0) = b → decide (f < 0) = c → pfL a b c [.raw (.int .i64 n), .raw (.int .i64 s), .raw (.int .i64 f)] = some (.raw (.bool true)) := fun a b c ha hb hc => by
        simp only [pfL]
        exact if_pos ⟨hh.1, hh.2.1, hh.2.2, ha, hb, hc⟩
      cases ha : decide (n < 0) <;> cases hb : decide (s < 0) <;> cases hc : decide (f < 0)
      · exact ⟨_, least_fff, go _ _ _ ha hb hc⟩
      · exact ⟨_, least_fft, go _ _ _ ha hb hc⟩
      · exact ⟨_, least_ftf, go _ _ _ ha hb hc⟩
      · exact ⟨_, least_ftt, go _ _ _ ha hb hc⟩
      · exact ⟨_, least_tff, go _ _ _ ha hb hc⟩
      · exact ⟨_, least_tft, go _ _ _ ha hb hc⟩
      · exact ⟨_, least_ttf, go _ _ _ ha hb hc⟩
      · exact ⟨_, least_ttt, go _ _ _ ha hb hc⟩
    · cases hr
  · cases hr
end Go.Proofs.Ytjnmdphoaafjaaa
