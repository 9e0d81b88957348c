/- Rows of rows: arguments that hold slices of bytes. -/
import Derived.Test.YteooikdcafodfaaDoorAy
namespace Go.Abs
set_option linter.unusedSimpArgs false
set_option linter.unusedVariables false
open Go

def norm2 : AV → AV
  | .sl n xs fl => .sl n (xs.map norm) fl
  | v => norm v
theorem norm2_sl {n : Nat} {xs : List AV} {fl : Fl} : norm2 (.sl n xs fl) = .sl n (xs.map norm) fl := rfl
theorem norm2_rel {μ : Bx → Option Nat} {G : Nat → Nat → Prop} {w : World} {v : AV} {u : Value} (h : RV μ G w v u) : RV μ G w (norm2 v) u := by
  unfold norm2
  split
  · rename_i n xs fl
    simp only [RV] at h ⊢
    rcases h with ⟨h1, h2, h3⟩ | ⟨k, o, c, us, h1, h2, h3, h4⟩
    · exact .inl ⟨h1, h2, by rw [h3]; rfl⟩
    · exact .inr ⟨k, o, c, us, h1, h2, norm_rels h3, h4⟩
  · exact norm_rel h
theorem norm2_rels {μ : Bx → Option Nat} {G : Nat → Nat → Prop} {w : World} : ∀ {xs : List AV} {us : List Value}, RVs μ G w xs us → RVs μ G w (xs.map norm2) us
  | [], us, h => by simpa only [RVs, List.map_nil] using h
  | x :: xs, us, h => by
    simp only [RVs, List.map_cons] at h ⊢
    obtain ⟨u, us', rfl, h1, h2⟩ := h
    exact ⟨u, us', rfl, norm2_rel h1, norm2_rels h2⟩
theorem SoundV.norm2 {P : Program} {glob : Nat → Option (List AV)} {f : FuncId} {pf : List AV → Option AV} (h : SoundV P glob f pf) : SoundV P glob f (fun args => pf (args.map norm2)) :=
  ⟨h.1, fun args r hr G w vals hp => h.2 (args.map Abs.norm2) r hr G w vals ⟨hp.cell, hp.glob, norm2_rels hp.args⟩⟩

/-- some slices of bytes -/
def rowsA (l : List (List (BitVec 8))) : List AV := l.map fun a => .sl a.length (nums .u8 a) .bor
theorem rowsA_len (l : List (List (BitVec 8))) : (rowsA l).length = l.length := by simp [rowsA]
theorem rowsA_get (l : List (List (BitVec 8))) (i : Nat) (h : i < l.length) : ((rowsA l).drop i)[0]? = some (.sl (l.getD i []).length (nums .u8 (l.getD i [])) .bor) := by
  simp [rowsA, h]
def rowB? : AV → Option (List (BitVec 8))
  | .sl n xs .bor => (deNums .u8 8 xs).bind fun m => if n = m.length then some m else none
  | _ => none
theorem rowB?_of {v : AV} {m : List (BitVec 8)} (h : rowB? v = some m) : v = .sl m.length (nums .u8 m) .bor := by
  unfold rowB? at h
  split at h
  · simp only [Option.bind_eq_some_iff] at h
    obtain ⟨m', h1, h2⟩ := h
    split at h2
    · rename_i hn
      cases h2
      rw [deNums_of h1, hn]
    · cases h2
  · cases h
theorem rowB?_at {n : Nat} {m : List (BitVec 8)} (h : n = m.length) : rowB? (.sl n (nums .u8 m) .bor) = some m := by
  simp [rowB?, deNums_nums, h]
def rowsB? : List AV → Option (List (List (BitVec 8)))
  | [] => some []
  | v :: vs => (rowB? v).bind fun m => (rowsB? vs).map (m :: ·)
theorem rowsB?_of : ∀ {vs : List AV} {l : List (List (BitVec 8))}, rowsB? vs = some l → vs = rowsA l
  | [], l, h => by simp [rowsB?] at h; subst h; rfl
  | v :: vs, l, h => by
    simp only [rowsB?, Option.bind_eq_some_iff, Option.map_eq_some_iff] at h
    obtain ⟨m, h1, l', h2, rfl⟩ := h
    rw [rowB?_of h1, rowsB?_of h2]
    rfl
def rows? : AV → Option (List (List (BitVec 8)))
  | .sl n xs _ => (rowsB? xs).bind fun l => if n = l.length then some l else none
  | _ => none
theorem rows?_of {v : AV} {l : List (List (BitVec 8))} (h : rows? v = some l) : ∃ fl, v = .sl l.length (rowsA l) fl := by
  unfold rows? at h
  split at h
  · simp only [Option.bind_eq_some_iff] at h
    obtain ⟨m', h1, h2⟩ := h
    split at h2
    · rename_i hn
      cases h2
      rw [rowsB?_of h1, hn]
      exact ⟨_, rfl⟩
    · cases h2
  · cases h

/-- the first k of them, one behind the other -/
def catF (l : List (List (BitVec 8))) : Nat → List (BitVec 8)
  | 0 => []
  | k + 1 => catF l k ++ l.getD k []
theorem catF_mono (l : List (List (BitVec 8))) {i j : Nat} (h : i ≤ j) : (catF l i).length ≤ (catF l j).length := by
  induction j with
  | zero => have : i = 0 := by omega
            subst this; exact Nat.le_refl _
  | succ j ih =>
    by_cases e : i = j + 1
    · subst e; exact Nat.le_refl _
    · have := ih (by omega)
      simp only [catF, List.length_append]
      omega
theorem i64_eq {k : IntKind} {a b : Int} (h : a = b) : AV.raw (.int k a) = .raw (.int k b) := by rw [h]
theorem row_eq {k : IntKind} {w l l' : Nat} {m m' : List (BitVec w)} {fl : Fl} (h1 : l = l') (h2 : m = m') : AV.sl l (nums k m) fl = .sl l' (nums k m') fl := by rw [h1, h2]
theorem Free.keep {us : Id → Bool} {a d : Nat} {i j : Id} (h : Free us a d i) (hs : j.slot ≠ d) (hne : i ≠ j) : Free (updI us j) a d i := by
  refine ⟨?_, fun g hg => ?_, h.2.2⟩
  · rw [updI_at, if_neg hne]; exact h.1
  · rw [updI_at, if_neg (fun e => hs (by rw [← e]))]; exact h.2.1 g hg
theorem slot_ne {i j : Id} (h : i.slot ≠ j.slot) : i ≠ j := fun e => h (by rw [e])
end Go.Abs
