/- How what holds of a state is kept: a new block, a store, room taken. -/
import Derived.Test.YteooikdcafodfaaDoorAd
namespace Go.Abs
set_option linter.unusedSimpArgs false
set_option linter.unusedVariables false
open Go Go.RowKit

theorem at_lt {w : World} {k o : Nat} (h : (at_ w k o).isSome) : k < w.heap.size := by
  unfold at_ World.cell? at h
  rcases Nat.lt_or_ge k w.heap.size with h' | h'
  · exact h'
  · simp [Array.getElem?_eq_none h'] at h

theorem at_of_block {w w' : World} {k o : Nat} (h : w'.heap[k]? = w.heap[k]?) : at_ w' k o = at_ w k o := by
  unfold at_ World.cell?
  rw [h]

theorem frozen_of_block {w w' : World} {k o : Nat} (h : w'.heap[k]? = w.heap[k]?) : w'.frozen? ⟨k, o, none⟩ = w.frozen? ⟨k, o, none⟩ := by
  unfold World.frozen?
  rw [h]

theorem at_row {w : World} {k o : Nat} {cs : Array Value} {el : TypeId} {fr : Nat × Nat} (h : w.heap[k]? = some (.cells cs el fr)) : at_ w k o = cs[o]? := by
  unfold at_ World.cell?
  simp [h]

theorem frozen_row {w : World} {k o : Nat} {cs : Array Value} {el : TypeId} (h : w.heap[k]? = some (.cells cs el (0, 0))) : w.frozen? ⟨k, o, none⟩ = false := by
  unfold World.frozen?
  simp [h]

theorem Holds.lt {μ : Bx → Option Nat} {G : Nat → Nat → Prop} {w : World} {k : Nat} {xs : List AV} (h : Holds μ G w k xs) : k < w.heap.size := by
  obtain ⟨cs, el, us, h, _⟩ := h
  exact (Array.getElem?_eq_some_iff.1 h).1

theorem Holds.mono {μ μ' : Bx → Option Nat} {G G' : Nat → Nat → Prop} {w w' : World} {k : Nat} {xs : List AV} (h : Holds μ G w k xs) (hb : w'.heap[k]? = w.heap[k]?)
    (hm : ∀ b k, μ b = some k → μ' b = some k) (hG : ∀ k o, G k o → G' k o) (hw : ∀ k o, G k o → at_ w' k o = at_ w k o) : Holds μ' G' w' k xs := by
  obtain ⟨cs, el, us, h1, h2, h3, h4⟩ := h
  exact ⟨cs, el, us, hb.trans h1, h2, h3, RVs.mono hm hG hw _ _ h4⟩

section
variable {N : Ent} {g : Ghost} {box : Boxes} {w : World}

theorem Valid.muLt (h : Valid N g box w) {b : Bx} {k : Nat} (hb : g.μ b = some k) : k < w.heap.size := by
  have hd := h.dom b
  rw [hb] at hd
  obtain ⟨xs, hx⟩ := Option.isSome_iff_exists.1 (by simpa using hd)
  exact (h.cont b k xs hb hx).lt

/-- the world goes on: nothing that was there has changed -/
theorem Valid.world (h : Valid N g box w) {w' : World} (hb : Below w.heap.size w w') : Valid N g box w' := by
  have hat : ∀ k o, g.G k o → at_ w' k o = at_ w k o := fun k o hg => at_of_block (hb.block k (at_lt (h.cell k o hg)))
  refine { h with chg := ?_, cell := ?_, cont := ?_, tail := ?_ }
  · exact ⟨hb.os.trans h.chg.os, hb.tape.trans h.chg.tape, hb.output.trans h.chg.output, Nat.le_trans h.chg.size hb.size,
      fun i hi hn => (hb.block i (Nat.lt_of_lt_of_le hi h.chg.size)).trans (h.chg.block i hi hn)⟩
  · intro k o hg; rw [hat k o hg]; exact h.cell k o hg
  · intro b k xs hm hx
    exact (h.cont b k xs hm hx).mono (hb.block k (h.muLt hm)) (fun _ _ h => h) (fun _ _ h => h) hat
  · intro i k lo hi ht
    obtain ⟨h1, h2, h3, h4, h5, h6, h7⟩ := h.tail i k lo hi ht
    refine ⟨h1, Nat.lt_of_lt_of_le h2 hb.size, h3, h4, h5, fun o ho ho' => ?_, h7⟩
    obtain ⟨e1, e2, e3⟩ := h6 o ho ho'
    exact ⟨by rw [at_of_block (hb.block k h2)]; exact e1, by rw [frozen_of_block (hb.block k h2)]; exact e2, e3⟩

theorem Valid.le_world (h : Valid N g box w) {w' : World} (hb : Below w.heap.size w w') : Le g w g w' :=
  ⟨fun _ _ h => h, fun _ _ h => h, fun k o hg => at_of_block (hb.block k (at_lt (h.cell k o hg))), fun _ => Nat.le_refl _, fun _ h => h, fun _ _ h => .inl h⟩

/-- more cells that nobody writes any more -/
theorem Valid.addG (h : Valid N g box w) (S : Nat → Nat → Prop)
    (hS : ∀ k o, S k o → (at_ w k o).isSome ∧ (k < N.w0.heap.size → N.G0 k o) ∧ (∀ b, g.μ b ≠ some k) ∧ ∀ i lo hi, g.T i = some (k, lo, hi) → o < lo) :
    Valid N { g with G := fun k o => g.G k o ∨ S k o } box w := by
  refine { h with sub := ?_, old := ?_, cell := ?_, gmu := ?_, cont := ?_, tail := ?_ }
  · exact fun k o hk => .inl (h.sub k o hk)
  · rintro k o (hg | hs) hk
    · exact h.old k o hg hk
    · exact (hS k o hs).2.1 hk
  · rintro k o (hg | hs)
    · exact h.cell k o hg
    · exact (hS k o hs).1
  · rintro k o b (hg | hs)
    · exact h.gmu k o b hg
    · exact (hS k o hs).2.2.1 b
  · intro b k xs hm hx
    exact (h.cont b k xs hm hx).mono rfl (fun _ _ h => h) (fun _ _ h => .inl h) (fun _ _ _ => rfl)
  · intro i k lo hi ht
    obtain ⟨h1, h2, h3, h4, h5, h6, h7⟩ := h.tail i k lo hi ht
    refine ⟨h1, h2, h3, h4, h5, fun o ho ho' => ?_, h7⟩
    obtain ⟨e1, e2, e3⟩ := h6 o ho ho'
    refine ⟨e1, e2, ?_⟩
    rintro (hg | hs)
    · exact e3 hg
    · have := (hS k o hs).2.2.2 i lo hi ht; omega

theorem Le.addG (S : Nat → Nat → Prop) : Le g w { g with G := fun k o => g.G k o ∨ S k o } w :=
  ⟨fun _ _ h => h, fun _ _ h => .inl h, fun _ _ _ => rfl, fun _ => Nat.le_refl _, fun _ h => h, fun _ _ h => .inl h⟩

/-- a slot makes one thing more -/
theorem Valid.bump (h : Valid N g box w) (U : Nat → Nat) (hU : ∀ s, g.U s ≤ U s) : Valid N { g with U } box w := by
  refine { h with fresh := fun s n k hm => Nat.le_trans (h.fresh s n k hm) (hU s), tail := ?_, dgen := fun i hi => Nat.le_trans (h.dgen i hi) (hU _) }
  intro i k lo hi ht
  obtain ⟨h1, h2, h3, h4⟩ := h.tail i k lo hi ht
  exact ⟨h1, h2, Nat.le_trans h3 (hU _), h4⟩

theorem Le.bump (U : Nat → Nat) (hU : ∀ s, g.U s ≤ U s) : Le g w { g with U } w :=
  ⟨fun _ _ h => h, fun _ _ h => h, fun _ _ _ => rfl, hU, fun _ h => h, fun _ _ h => .inl h⟩

/-- a new box -/
theorem Valid.addMu (h : Valid N g box w) (s n k : Nat) (xs : List AV) (hn : n ≤ g.U s) (hb : g.μ (.own N.lvl s n) = none) (hk : N.w0.heap.size ≤ k) (hG : ∀ o, ¬ g.G k o)
    (hμ : ∀ b, g.μ b ≠ some k) (hT : ∀ i lo hi, g.T i ≠ some (k, lo, hi)) (hc : Holds g.μ g.G w k xs) :
    Valid N { g with μ := fun b => if b = .own N.lvl s n then some k else g.μ b } (updB box (.own N.lvl s n) xs) w := by
  have hmu : ∀ b k', g.μ b = some k' → (if b = Bx.own N.lvl s n then some k else g.μ b) = some k' := fun b k' hm => by
    rw [if_neg (fun e => by rw [e, hb] at hm; cases hm)]; exact hm
  refine { h with gmu := ?_, ext := ?_, lv := ?_, fresh := ?_, inj := ?_, dom := ?_, cont := ?_, tail := ?_ }
  · intro k' o b hg
    show (if b = _ then some k else g.μ b) ≠ _
    split
    · intro e; cases e; exact hG o hg
    · exact h.gmu k' o b hg
  · exact fun b k' hm => hmu _ _ (h.ext b k' hm)
  · intro b k' hm
    change (if b = _ then some k else g.μ b) = _ at hm
    split at hm
    · rename_i e; cases hm; subst e; exact .inr ⟨rfl, hk⟩
    · exact h.lv b k' hm
  · intro s' n' k' hm
    change (if _ = _ then some k else g.μ _) = _ at hm
    split at hm
    · rename_i e; cases e; exact hn
    · exact h.fresh s' n' k' hm
  · intro b b' k' hm hm'
    change (if _ = _ then some k else g.μ _) = _ at hm
    change (if _ = _ then some k else g.μ _) = _ at hm'
    split at hm <;> split at hm'
    · rename_i e e'; rw [e, e']
    · cases hm; exact absurd hm' (hμ b')
    · cases hm'; exact absurd hm (hμ b)
    · exact h.inj b b' k' hm hm'
  · intro b
    show (updB box _ xs b).isSome = (if _ = _ then some k else g.μ _).isSome
    unfold updB
    split
    · rfl
    · exact h.dom b
  · intro b k' xs' hm hx
    change (if _ = _ then some k else g.μ _) = _ at hm
    unfold updB at hx
    split at hm
    · rename_i e
      rw [if_pos e] at hx
      cases hm; cases hx
      exact hc.mono rfl hmu (fun _ _ h => h) (fun _ _ _ => rfl)
    · rename_i e
      rw [if_neg e] at hx
      exact (h.cont b k' xs' hm hx).mono rfl hmu (fun _ _ h => h) (fun _ _ _ => rfl)
  · intro i k' lo hi ht
    obtain ⟨h1, h2, h3, h4, h5, h6, h7⟩ := h.tail i k' lo hi ht
    refine ⟨h1, h2, h3, h4, h5, h6, fun b => ?_⟩
    show (if b = _ then some k else g.μ b) ≠ _
    split
    · intro e; cases e; exact hT _ _ _ ht
    · exact h7 b

theorem Le.addMu (b : Bx) (k : Nat) (hb : g.μ b = none) : Le g w { g with μ := fun b' => if b' = b then some k else g.μ b' } w :=
  ⟨fun b' k' hm => by show (if b' = b then some k else g.μ b') = _; rw [if_neg (fun e => by rw [e, hb] at hm; cases hm)]; exact hm, fun _ _ h => h, fun _ _ _ => rfl, fun _ => Nat.le_refl _, fun _ h => h, fun _ _ h => .inl h⟩

/-- room behind a new slice -/
theorem Valid.addT (h : Valid N g box w) (i : Id) (k lo hi : Nat) (hk : N.w0.heap.size ≤ k) (hlt : k < w.heap.size) (hg : i.gen ≤ g.U i.slot) (hD : g.D i = false) (hle : lo ≤ hi)
    (hc : ∀ o, lo ≤ o → o < hi → (at_ w k o).isSome ∧ w.frozen? ⟨k, o, none⟩ = false ∧ ¬ g.G k o) (hμ : ∀ b, g.μ b ≠ some k) (hT : ∀ j lo hi, j ≠ i → g.T j ≠ some (k, lo, hi)) :
    Valid N { g with T := fun j => if j = i then some (k, lo, hi) else g.T j } box w := by
  refine { h with tail := ?_, tinj := ?_ }
  · intro j k' lo' hi' ht
    change (if _ = _ then _ else _) = _ at ht
    split at ht
    · rename_i e; cases ht; subst e
      exact ⟨hk, hlt, hg, hD, hle, hc, hμ⟩
    · exact h.tail j k' lo' hi' ht
  · intro j j' k' lo' hi' lo'' hi'' ht ht'
    change (if _ = _ then _ else _) = _ at ht
    change (if _ = _ then _ else _) = _ at ht'
    split at ht <;> split at ht'
    · rename_i e e'; rw [e, e']
    · rename_i e e'; cases ht; exact absurd ht' (hT _ _ _ e')
    · rename_i e e'; cases ht'; exact absurd ht (hT _ _ _ e)
    · exact h.tinj _ _ _ _ _ _ _ ht ht'

theorem Le.addT (i : Id) (r : Nat × Nat × Nat) (hi : g.T i = none) : Le g w { g with T := fun j => if j = i then some r else g.T j } w :=
  ⟨fun _ _ h => h, fun _ _ h => h, fun _ _ _ => rfl, fun _ => Nat.le_refl _, fun _ h => h, fun j r' h => .inl (by show (if j = i then _ else _) = _; rw [if_neg (fun e => by rw [e, hi] at h; cases h)]; exact h)⟩

/-- room is taken -/
theorem Valid.dropT (h : Valid N g box w) (i : Id) (hi : i.gen ≤ g.U i.slot) : Valid N { g with T := fun j => if j = i then none else g.T j, D := updI g.D i } box w := by
  refine { h with tail := ?t, tinj := ?j, dgen := ?d }
  case d =>
    intro j hj
    have hj' : updI g.D i j = true := hj
    unfold updI at hj'
    split at hj'
    · rename_i e; subst e; exact hi
    · exact h.dgen j hj'
  case t =>
    intro j k' lo' hi' ht
    change (if _ = _ then _ else _) = _ at ht
    split at ht
    · cases ht
    · rename_i e
      obtain ⟨h1, h2, h3, h4, h5⟩ := h.tail j k' lo' hi' ht
      exact ⟨h1, h2, h3, by simp only [updI, if_neg e]; exact h4, h5⟩
  case j =>
    intro j j' k' lo' hi' lo'' hi'' ht ht'
    change (if _ = _ then _ else _) = _ at ht
    change (if _ = _ then _ else _) = _ at ht'
    split at ht <;> split at ht'
    · cases ht
    · cases ht
    · cases ht'
    · exact h.tinj _ _ _ _ _ _ _ ht ht'

theorem Le.dropT (i : Id) : Le g w { g with T := fun j => if j = i then none else g.T j, D := updI g.D i } w :=
  ⟨fun _ _ h => h, fun _ _ h => h, fun _ _ _ => rfl, fun _ => Nat.le_refl _, fun j h => by show (if j = i then true else g.D j) = true; rw [h]; simp,
    fun j r h => by
      by_cases e : j = i
      · exact .inr (by show updI g.D i j = true; simp [updI, e])
      · exact .inl (by show (if j = i then none else g.T j) = _; rw [if_neg e]; exact h)⟩
end
end Go.Abs
