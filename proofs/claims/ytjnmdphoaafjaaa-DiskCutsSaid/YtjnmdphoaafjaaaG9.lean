/- Rows of whole numbers, below nought too. -/
import Derived.Test.YtjnmdphoaafjaaaG8
namespace Go.Abs
set_option linter.unusedSimpArgs false
set_option linter.unusedVariables false
set_option linter.defProp false
open Go Go.ChangeShapes Go.WideShapes Go.ChangeAt Go.RowKit

section
variable {k : IntKind}
theorem ints_len (l : List Int) : (ints k l).length = l.length := by simp [ints]
theorem ints_get (l : List Int) (i : Nat) (h : i < l.length) : (ints k l)[i]? = some (.raw (.int k (l.getD i 0))) := by simp [ints, h]
theorem ints_get0 (l : List Int) (h : 0 < l.length) : (ints k l)[0]? = some (.raw (.int k (l.getD 0 0))) := ints_get l 0 h
theorem ints_take (l : List Int) (n : Nat) : (ints k l).take n = ints k (l.take n) := by simp [ints]
theorem ints_drop (l : List Int) (n : Nat) : (ints k l).drop n = ints k (l.drop n) := by simp [ints]
theorem ints_app (l m : List Int) : ints k l ++ ints k m = ints k (l ++ m) := by simp [ints]
theorem ints_snoc (l : List Int) (x : Int) : ints k l ++ [.raw (.int k x)] = ints k (l ++ [x]) := by simp [ints]
theorem ints_nil_app (m : List Int) : [] ++ ints k m = ints k m := rfl
theorem ints_one (l : List Int) : (ints k l).all oneA = true := by simp [ints, oneA]
theorem ints_flat (l : List Int) : flatL (ints k l) = some (ints k l) := by
  induction l with
  | nil => rfl
  | cons x l ih => simp only [ints, List.map_cons, flatL] at ih ⊢; rw [ih]; rfl
theorem ints_pure (l : List Int) : pureL (ints k l) = true := by
  induction l with
  | nil => rfl
  | cons x l ih => simp only [ints, List.map_cons, pureL, pureA] at ih ⊢; rw [ih]; rfl
theorem ints_snap (bx : Boxes) (l : List Int) : snapL bx (ints k l) = some (ints k l) := by
  induction l with
  | nil => rfl
  | cons x l ih => simp only [ints, List.map_cons, snapL, snap] at ih ⊢; rw [ih]; rfl
theorem ints_noview (l : List Int) : hasViewL (ints k l) = false := by
  induction l with
  | nil => rfl
  | cons x l ih => simp only [ints, List.map_cons, hasViewL, hasView] at ih ⊢; rw [ih]; rfl
theorem ints_nil : ints k [] = [] := rfl
end
/-- a number from -2^63 to 2^63-1 -/
def i64ok (n : Int) : Prop := -9223372036854775808 ≤ n ∧ n ≤ 9223372036854775807
instance (n : Int) : Decidable (i64ok n) := inferInstanceAs (Decidable (_ ∧ _))
def deInts : List AV → Option (List Int)
  | [] => some []
  | .raw (.int .i64 n) :: xs => if i64ok n then (deInts xs).map (n :: ·) else none
  | _ => none
theorem deInts_of : ∀ {xs : List AV} {l : List Int}, deInts xs = some l → xs = ints .i64 l ∧ ∀ n ∈ l, i64ok n
  | [], l, h => by simp [deInts] at h; subst h; exact ⟨rfl, by simp⟩
  | x :: xs, l, h => by
    unfold deInts at h
    split at h
    · rename_i e; cases e
    · rename_i n xs' e
      cases e
      split at h
      · rename_i hc
        simp only [Option.map_eq_some_iff] at h
        obtain ⟨l', h1, rfl⟩ := h
        obtain ⟨e1, e2⟩ := deInts_of h1
        rw [e1]
        exact ⟨rfl, fun m hm => (List.mem_cons.1 hm).elim (fun e => e ▸ hc) (e2 m)⟩
      · cases h
    · cases h
theorem deInts_ints (l : List Int) (h : ∀ n ∈ l, i64ok n) : deInts (ints .i64 l) = some l := by
  induction l with
  | nil => rfl
  | cons x l ih =>
    have := ih fun n hn => h n (List.mem_cons_of_mem _ hn)
    simp only [ints, List.map_cons, deInts] at this ⊢
    rw [if_pos (h x (List.mem_cons_self ..)), this]
    rfl
/-- a slice of whole numbers -/
def irow? : AV → Option (List Int)
  | .sl n xs _ => (deInts xs).bind fun m => if n = m.length then some m else none
  | _ => none
theorem irow?_of {v : AV} {m : List Int} (h : irow? v = some m) : (∃ fl, v = .sl m.length (ints .i64 m) fl) ∧ ∀ n ∈ m, i64ok n := by
  unfold irow? at h
  split at h
  · simp only [Option.bind_eq_some_iff] at h
    obtain ⟨m', h1, h2⟩ := h
    split at h2
    · rename_i hn
      cases h2
      obtain ⟨e1, e2⟩ := deInts_of h1
      rw [e1, hn]
      exact ⟨⟨_, rfl⟩, e2⟩
    · cases h2
  · cases h
theorem irow?_at {n : Nat} {m : List Int} {fl : Fl} (h : n = m.length) (h2 : ∀ n ∈ m, i64ok n) : irow? (.sl n (ints .i64 m) fl) = some m := by
  simp [irow?, deInts_ints m h2, h]
theorem irow_eq {l l' : Nat} {m m' : List Int} {fl : Fl} (h1 : l = l') (h2 : m = m') : AV.sl l (ints .i64 m) fl = .sl l' (ints .i64 m') fl := by rw [h1, h2]
theorem getD_mem {l : List Int} {i : Nat} (h : i < l.length) : l.getD i 0 ∈ l := by
  rw [List.getD_eq_getElem?_getD, List.getElem?_eq_getElem h]; exact List.getElem_mem h

theorem RVs.ints {μ : Bx → Option Nat} {G : Nat → Nat → Prop} {W : World} {k : IntKind} (m : List Int) : RVs μ G W (ints k m) (m.map fun x => .int k x) := by
  have := RVs.raws (μ := μ) (G := G) (w := W) (m.map fun x => Value.int k x)
  rwa [List.map_map] at this
/-- an argument that is a slice of whole numbers -/
theorem open_irow {H : Type} {enc : TypeId × Value → H} {P : Program} {W : World} {base : Nat} {t e : TypeId} {v : Value} {d : DataW H} {p : List MemPlace} (ht : P.underlying t = some (.slice e)) (he : P.underlying e = some (.int .i64)) (hc : P.cellsOf e = 1)
    (hv : Value.okWide P W .any base t v) (h0 : DataW.Trod enc P W 0 (fun _ => true) true t v d p) :
    ∃ m : List Int, m.length ≤ maxLen ∧ (∀ n ∈ m, i64ok n) ∧ RV noMu (allG W) W (.sl m.length (Abs.ints .i64 m) .bor) v := by
  obtain ⟨a, len, cap, rfl⟩ := okWide_slice ht hv
  obtain ⟨fuel, hf⟩ := h0
  rcases open_ints ht he hc hf with ⟨hcs, _⟩ | ⟨a', len', cap', zs, hcs, _, hl, hm, hz, _, hcell, hwf⟩
  · simp [Value.cells] at hcs
    obtain ⟨rfl, rfl, rfl⟩ := hcs
    exact ⟨[], Nat.zero_le _, by simp, by simp only [RV]; exact .inl (by simp [Abs.ints])⟩
  · simp [Value.cells] at hcs
    obtain ⟨rfl, rfl, rfl⟩ := hcs
    have hsp : a'.spot = none := by
      simp only [Value.okWide, ht, Cell.okWide, Cell.ok] at hv
      exact hv.2.2.2.1
    obtain ⟨b, o, s⟩ := a'
    cases hsp
    simp only [if_true] at hz
    refine ⟨zs.take len, by simp; omega, ?_, ?_⟩
    · intro n hn
      have h := hwf n (List.mem_of_mem_take hn)
      have h1 : IntKind.i64.min = -9223372036854775808 := rfl
      have h2 : IntKind.i64.max = 9223372036854775807 := rfl
      simp only [Lit.wf, Bool.and_eq_true, decide_eq_true_eq] at h
      unfold i64ok
      omega
    · simp only [RV]
      have hlen : (zs.take len).length = len := by simp; omega
      refine .inr ⟨b, o, cap, _, by rw [hlen], by rw [hlen]; exact hl, RVs.ints _, fun j hj => ?_⟩
      have hjl : j < len := by simpa using (by rw [List.length_map, hlen] at hj; exact hj)
      have hv : at_ W b (o + j) = some (.int .i64 (zs.getD j 0)) := by
        have := hcell j (by omega)
        rwa [add_plain] at this
      refine ⟨?_, by show (at_ W b (o + j)).isSome = true; rw [hv]; rfl⟩
      rw [hv]
      simp only [List.getElem?_map, List.getElem?_take, if_pos hjl, List.getElem?_eq_getElem (show j < zs.length by omega), Option.map_some, List.getD_eq_getElem?_getD, Option.getD_some]
def ev4 := And.intro @ints_len (And.intro @ints_get (And.intro @ints_get0 (And.intro @ints_take (And.intro @ints_drop (And.intro @ints_app (And.intro @ints_snoc (And.intro @ints_nil_app (And.intro @ints_one (And.intro @ints_flat (And.intro @ints_pure (And.intro @ints_snap (And.intro @ints_noview (@ints_nil)))))))))))))
end Go.Abs
