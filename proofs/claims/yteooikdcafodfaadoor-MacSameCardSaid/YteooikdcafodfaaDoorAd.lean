/- What an abstract state says goes on in later worlds; a step of one operation. -/
import Derived.Test.YteooikdcafodfaaDoorAc
namespace Go.Abs
set_option linter.unusedSimpArgs false
set_option linter.unusedVariables false
open Go

mutual
theorem RV.mono {μ μ' : Bx → Option Nat} {G G' : Nat → Nat → Prop} {w w' : World} (hm : ∀ b k, μ b = some k → μ' b = some k) (hG : ∀ k o, G k o → G' k o)
    (hw : ∀ k o, G k o → at_ w' k o = at_ w k o) : ∀ (v : AV) (u : Value), RV μ G w v u → RV μ' G' w' v u
  | .dead, _, _ => trivial
  | .raw _, _, h => h
  | .anyb, _, h => h
  | .sl n xs fl, u, h => by
    simp only [RV] at h ⊢
    rcases h with h | ⟨k, o, c, us, h1, h2, h3, h4⟩
    · exact .inl h
    · exact .inr ⟨k, o, c, us, h1, h2, RVs.mono hm hG hw xs us h3, fun j hj => ⟨(hw _ _ (h4 j hj).2).trans (h4 j hj).1, hG _ _ (h4 j hj).2⟩⟩
  | .ptr b off, u, h => by
    simp only [RV] at h ⊢
    obtain ⟨k, h1, h2⟩ := h
    exact ⟨k, hm _ _ h1, h2⟩
  | .iptr xs, u, h => by
    simp only [RV] at h ⊢
    obtain ⟨k, o, us, h1, h3, h4⟩ := h
    exact ⟨k, o, us, h1, RVs.mono hm hG hw xs us h3, fun j hj => ⟨(hw _ _ (h4 j hj).2).trans (h4 j hj).1, hG _ _ (h4 j hj).2⟩⟩
  | .view b off n c sz, u, h => by
    simp only [RV] at h ⊢
    obtain ⟨k, o, h1, h2⟩ := h
    exact ⟨k, o, hm _ _ h1, h2⟩
  | .agg xs, u, h => by
    simp only [RV] at h ⊢
    obtain ⟨us, h1, h2⟩ := h
    exact ⟨us, h1, RVs.mono hm hG hw xs us h2⟩
  | .tup xs, u, h => by
    simp only [RV] at h ⊢
    obtain ⟨us, h1, h2⟩ := h
    exact ⟨us, h1, RVs.mono hm hG hw xs us h2⟩
  | .fn f xs, u, h => by
    simp only [RV] at h ⊢
    obtain ⟨us, h1, h2⟩ := h
    exact ⟨us, h1, RVs.mono hm hG hw xs us h2⟩
  | .nptr xs, u, h => by simp only [RV] at h
theorem RVs.mono {μ μ' : Bx → Option Nat} {G G' : Nat → Nat → Prop} {w w' : World} (hm : ∀ b k, μ b = some k → μ' b = some k) (hG : ∀ k o, G k o → G' k o)
    (hw : ∀ k o, G k o → at_ w' k o = at_ w k o) : ∀ (xs : List AV) (us : List Value), RVs μ G w xs us → RVs μ' G' w' xs us
  | [], _, h => h
  | x :: xs, us, h => by
    simp only [RVs] at h ⊢
    obtain ⟨u, us', h1, h2, h3⟩ := h
    exact ⟨u, us', h1, RV.mono hm hG hw x u h2, RVs.mono hm hG hw xs us' h3⟩
end

section
variable {μ : Bx → Option Nat} {G : Nat → Nat → Prop} {w : World}

theorem RVs.length : ∀ {xs : List AV} {us : List Value}, RVs μ G w xs us → us.length = xs.length
  | [], us, h => by simp only [RVs] at h; subst h; rfl
  | x :: xs, us, h => by
    simp only [RVs] at h
    obtain ⟨u, us', rfl, _, h3⟩ := h
    simp [RVs.length h3]

theorem RVs.get : ∀ {xs : List AV} {us : List Value}, RVs μ G w xs us → ∀ (j : Nat) (x : AV), xs[j]? = some x → ∃ u, us[j]? = some u ∧ RV μ G w x u
  | [], us, h, j, x, hx => by simp at hx
  | y :: xs, us, h, j, x, hx => by
    simp only [RVs] at h
    obtain ⟨u, us', rfl, h2, h3⟩ := h
    cases j with
    | zero => simp at hx; subst hx; exact ⟨u, rfl, h2⟩
    | succ j => simpa using RVs.get h3 j x (by simpa using hx)

theorem RVs.of_get : ∀ {xs : List AV} {us : List Value}, us.length = xs.length → (∀ (j : Nat) (x : AV) (u : Value), xs[j]? = some x → us[j]? = some u → RV μ G w x u) → RVs μ G w xs us
  | [], us, hl, _ => by simp only [RVs]; exact List.length_eq_zero_iff.1 hl
  | x :: xs, [], hl, _ => by simp at hl
  | x :: xs, u :: us, hl, h => by
    simp only [RVs]
    exact ⟨u, us, rfl, h 0 x u rfl rfl, RVs.of_get (by simpa using hl) (fun j y v hy hv => h (j + 1) y v (by simpa using hy) (by simpa using hv))⟩

theorem RVs.append {xs ys : List AV} {us vs : List Value} (h : RVs μ G w xs us) (k : RVs μ G w ys vs) : RVs μ G w (xs ++ ys) (us ++ vs) := by
  refine RVs.of_get (by simp [h.length, k.length]) fun j x u hx hu => ?_
  by_cases hj : j < xs.length
  · rw [List.getElem?_append_left hj] at hx
    rw [List.getElem?_append_left (by rw [h.length]; exact hj)] at hu
    obtain ⟨u', h1, h2⟩ := h.get j x hx
    rw [h1] at hu; cases hu; exact h2
  · rw [List.getElem?_append_right (by omega)] at hx
    rw [List.getElem?_append_right (by rw [h.length]; omega), h.length] at hu
    obtain ⟨u', h1, h2⟩ := k.get _ x hx
    rw [h1] at hu; cases hu; exact h2

theorem RVs.take {xs : List AV} {us : List Value} (h : RVs μ G w xs us) (n : Nat) : RVs μ G w (xs.take n) (us.take n) := by
  refine RVs.of_get (by simp [h.length]) fun j x u hx hu => ?_
  rw [List.getElem?_take] at hx hu
  split at hx
  · rw [if_pos ‹_›] at hu
    obtain ⟨u', h1, h2⟩ := h.get j x hx
    rw [h1] at hu; cases hu; exact h2
  · cases hx

theorem RVs.drop {xs : List AV} {us : List Value} (h : RVs μ G w xs us) (n : Nat) : RVs μ G w (xs.drop n) (us.drop n) := by
  refine RVs.of_get (by simp [h.length]) fun j x u hx hu => ?_
  rw [List.getElem?_drop] at hx hu
  obtain ⟨u', h1, h2⟩ := h.get _ x hx
  rw [h1] at hu; cases hu; exact h2

theorem RVs.nil : RVs μ G w [] [] := by simp only [RVs]

theorem RVs.raws (us : List Value) : RVs μ G w (us.map .raw) us := by
  refine RVs.of_get (by simp) fun j x u hx hu => ?_
  simp only [List.getElem?_map, hu, Option.map_some, Option.some.injEq] at hx
  subst hx
  simp only [RV]

theorem RV.strip {v : AV} {u : Value} (h : RV μ G w v u) : RV μ G w (strip v) u := by
  cases v <;> simp only [Abs.strip] <;> first | exact h | (simp only [RV] at h ⊢; exact h) | (simp only [RV])

theorem RV.ofV (v : Value) : RV μ G w (ofV v) v := by
  cases v with
  | agg cs =>
    simp only [Abs.ofV, RV]
    exact ⟨cs.toList, by simp, RVs.raws _⟩
  | _ => simp only [Abs.ofV, RV]

theorem Read.take {k o : Nat} {us : List Value} (h : Read w G k o us) (n : Nat) : Read w G k o (us.take n) := fun j hj => by
  rw [List.length_take] at hj
  have := h j (by omega)
  rw [List.getElem?_take, if_pos (by omega)]; exact this

theorem Read.drop {k o : Nat} {us : List Value} (h : Read w G k o us) (n : Nat) : Read w G k (o + n) (us.drop n) := fun j hj => by
  simp at hj
  have := h (n + j) (by omega)
  rw [List.getElem?_drop, show o + n + j = o + (n + j) by omega]; exact this

theorem cells_rel {v : AV} {u : Value} (h : RV μ G w v u) {xs : List AV} (hx : v.cells = some xs) : RVs μ G w xs u.cells.toList := by
  have one : ∀ (v : AV) (u : Value), RV μ G w v u → RVs μ G w [v] [u] := fun v u h => by simp only [RVs]; exact ⟨u, [], rfl, h, rfl⟩
  have h0 := h
  cases v with
  | dead => simp [AV.cells] at hx
  | raw x =>
    simp only [RV] at h
    subst h
    cases u with
    | agg cs => simp [AV.cells] at hx; subst hx; simpa [Value.cells] using RVs.raws (μ := μ) (G := G) (w := w) cs.toList
    | _ => simp [AV.cells] at hx; subst hx; exact one _ _ h0
  | agg xs' =>
    simp only [RV] at h
    obtain ⟨us, rfl, h2⟩ := h
    simp [AV.cells] at hx; subst hx
    simpa [Value.cells] using h2
  | nptr xs => simp only [RV] at h
  | anyb =>
    simp only [RV] at h
    obtain ⟨b, rfl⟩ := h
    simp [AV.cells] at hx; subst hx; exact one _ _ h0
  | sl n xs' fl =>
    simp only [RV] at h
    rcases h with ⟨rfl, _⟩ | ⟨k, o, c, us, rfl, _⟩ <;> (simp [AV.cells] at hx; subst hx; exact one _ _ h0)
  | ptr b off =>
    simp only [RV] at h
    obtain ⟨k, _, rfl⟩ := h
    simp [AV.cells] at hx; subst hx; exact one _ _ h0
  | iptr xs' =>
    simp only [RV] at h
    obtain ⟨k, o, us, rfl, _⟩ := h
    simp [AV.cells] at hx; subst hx; exact one _ _ h0
  | view b off n c sz =>
    simp only [RV] at h
    obtain ⟨k, o, _, rfl, _⟩ := h
    simp [AV.cells] at hx; subst hx; exact one _ _ h0
  | tup xs' =>
    simp only [RV] at h
    obtain ⟨us, rfl, _⟩ := h
    simp [AV.cells] at hx; subst hx; exact one _ _ h0
  | fn f xs' =>
    simp only [RV] at h
    obtain ⟨us, rfl, _⟩ := h
    simp [AV.cells] at hx; subst hx; exact one _ _ h0
end

/-- the later world and ghost say as much as the earlier ones -/
structure Le (g : Ghost) (w : World) (g' : Ghost) (w' : World) : Prop where
  mu : ∀ b k, g.μ b = some k → g'.μ b = some k
  G : ∀ k o, g.G k o → g'.G k o
  at' : ∀ k o, g.G k o → at_ w' k o = at_ w k o
  U : ∀ s, g.U s ≤ g'.U s
  D : ∀ i, g.D i = true → g'.D i = true
  T : ∀ i r, g.T i = some r → g'.T i = some r ∨ g'.D i = true

theorem Le.refl (g : Ghost) (w : World) : Le g w g w := ⟨fun _ _ h => h, fun _ _ h => h, fun _ _ _ => rfl, fun _ => Nat.le_refl _, fun _ h => h, fun _ _ h => .inl h⟩
theorem Le.trans {g1 g2 g3 : Ghost} {w1 w2 w3 : World} (h : Le g1 w1 g2 w2) (k : Le g2 w2 g3 w3) : Le g1 w1 g3 w3 :=
  ⟨fun b n hb => k.mu _ _ (h.mu _ _ hb), fun b n hb => k.G _ _ (h.G _ _ hb), fun b n hb => (k.at' _ _ (h.G _ _ hb)).trans (h.at' _ _ hb), fun s => Nat.le_trans (h.U s) (k.U s), fun i hi => k.D _ (h.D _ hi),
    fun i r hr => (h.T i r hr).elim (fun h1 => k.T i r h1) (fun h1 => .inr (k.D _ h1))⟩

theorem RV.le {g g' : Ghost} {w w' : World} (h : Le g w g' w') {v : AV} {u : Value} (hv : RV g.μ g.G w v u) : RV g'.μ g'.G w' v u := RV.mono h.mu h.G h.at' v u hv
theorem RVs.le {g g' : Ghost} {w w' : World} (h : Le g w g' w') {v : List AV} {u : List Value} (hv : RVs g.μ g.G w v u) : RVs g'.μ g'.G w' v u := RVs.mono h.mu h.G h.at' v u hv

theorem FlOK.le {g g' : Ghost} {w w' : World} (h : Le g w g' w') {fl : Fl} {m : Nat} {u : Value} (hv : FlOK g fl m u) : FlOK g' fl m u := by
  cases fl with
  | bor => trivial
  | full => cases u <;> first | exact hv | (simp only [FlOK] at hv)
  | own i sz =>
    cases u with
    | slice a n c =>
      simp only [FlOK] at hv ⊢
      obtain ⟨h1, h2⟩ := hv
      refine ⟨Nat.le_trans h1 (h.U _), ?_⟩
      rcases h2 with h2 | h2 | ⟨k, o, lo, hi, e1, e2, e3, e4⟩
      · exact .inl (h.D _ h2)
      · exact .inr (.inl h2)
      · rcases h.T _ _ e3 with h4 | h4
        · exact .inr (.inr ⟨k, o, lo, hi, e1, e2, h4, e4⟩)
        · exact .inl h4
    | _ => simp only [FlOK] at hv

theorem Top.le {g g' : Ghost} {w w' : World} (h : Le g w g' w') {v : AV} {u : Value} (hv : Top g v u) : Top g' v u := by
  cases v with
  | sl n xs fl => exact FlOK.le h hv
  | tup vs =>
    obtain ⟨us, h1, h2⟩ := hv
    exact ⟨us, h1, fun j n xs fl v hj hv => FlOK.le h (h2 j n xs fl v hj hv)⟩
  | _ => trivial

/-- what holds of all slots -/
def Slots (g : Ghost) (w : World) (sl : Nat → AV) (a : Act) : Prop := ∀ i, RV g.μ g.G w (sl i) (a.tmps.getD i undef) ∧ Top g (sl i) (a.tmps.getD i undef)

theorem Slots.le {g g' : Ghost} {w w' : World} {sl : Nat → AV} {a : Act} (h : Le g w g' w') (hs : Slots g w sl a) : Slots g' w' sl a := fun i => ⟨RV.le h (hs i).1, Top.le h (hs i).2⟩

theorem Slots.put {g : Ghost} {w : World} {sl : Nat → AV} {a : Act} (hs : Slots g w sl a) {d : Nat} (hd : d < a.tmps.size) {v : AV} {u : Value} (hv : RV g.μ g.G w v u) (ht : Top g v u) :
    Slots g w (upd sl d v) (a.put (some d) u) := fun i => by
  by_cases h : i = d
  · subst h
    have e : (a.put (some i) u).tmps.getD i undef = u := by simp [Act.put, hd]
    rw [e]; simp only [upd, if_true]; exact ⟨hv, ht⟩
  · have e : (a.put (some d) u).tmps.getD i undef = a.tmps.getD i undef := by
      simp only [Act.put, Array.getD_eq_getD_getElem?, Array.getElem?_setIfInBounds]
      rw [if_neg (fun e => h e.symm)]
    rw [e]; simp only [upd, if_neg h]; exact hs i

theorem put_size (a : Act) (d : Option Nat) (u : Value) : (a.put d u).tmps.size = a.tmps.size := by cases d <;> simp [Act.put]
theorem put_defers (a : Act) (d : Option Nat) (u : Value) : (a.put d u).defers = a.defers := by cases d <;> simp [Act.put]
end Go.Abs
