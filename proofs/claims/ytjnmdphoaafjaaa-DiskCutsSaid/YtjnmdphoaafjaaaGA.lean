/- A function that sees its caller's boxes: its promise out of its body. -/
import Derived.Test.YtjnmdphoaafjaaaG9
namespace Go.Abs
set_option linter.unusedSimpArgs false
set_option linter.unusedVariables false
open Go Go.RowKit

mutual
/-- each box that a value leads to is of a lower level -/
def lowA (L : Nat) : AV → Prop
  | .ptr b _ => b.lvl < L
  | .view b _ _ _ _ => b.lvl < L
  | .sl _ xs _ => lowL L xs
  | .agg xs => lowL L xs
  | .tup xs => lowL L xs
  | .iptr xs => lowL L xs
  | .fn _ xs => lowL L xs
  | .nptr _ => False
  | .dead => True
  | .raw _ => True
  | .anyb => True
def lowL (L : Nat) : List AV → Prop
  | [] => True
  | x :: xs => lowA L x ∧ lowL L xs
end

mutual
theorem lowA_pure {L : Nat} : ∀ (v : AV), pureA v = true → lowA L v
  | .dead, _ => trivial
  | .raw _, _ => trivial
  | .anyb, _ => trivial
  | .sl _ xs _, h => by simp only [pureA, lowA] at h ⊢; exact lowL_pure xs h
  | .agg xs, h => by simp only [pureA, lowA] at h ⊢; exact lowL_pure xs h
  | .tup xs, h => by simp only [pureA, lowA] at h ⊢; exact lowL_pure xs h
  | .fn _ xs, h => by simp only [pureA, lowA] at h ⊢; exact lowL_pure xs h
  | .iptr xs, h => by simp only [pureA, lowA] at h ⊢; exact lowL_pure xs h
  | .ptr _ _, h => by simp [pureA] at h
  | .view .., h => by simp [pureA] at h
  | .nptr _, h => by simp [pureA] at h
theorem lowL_pure {L : Nat} : ∀ (xs : List AV), pureL xs = true → lowL L xs
  | [], _ => trivial
  | x :: xs, h => by
    simp only [pureL, lowL, Bool.and_eq_true] at h ⊢
    exact ⟨lowA_pure x h.1, lowL_pure xs h.2⟩
end

mutual
theorem RV.low {μ : Bx → Option Nat} {G : Nat → Nat → Prop} {w : World} {L : Nat} (hm : ∀ b k, μ b = some k → b.lvl < L) : ∀ (v : AV) (u : Value), RV μ G w v u → lowA L v
  | .dead, _, _ => trivial
  | .raw _, _, _ => trivial
  | .anyb, _, _ => trivial
  | .sl n xs fl, u, h => by
    simp only [RV, lowA] at h ⊢
    rcases h with ⟨_, _, h⟩ | ⟨k, o, c, us, _, _, h, _⟩
    · rw [h]; simp only [lowL]
    · exact RVs.low hm xs us h
  | .ptr b off, u, h => by simp only [RV, lowA] at h ⊢; obtain ⟨k, h, _⟩ := h; exact hm _ _ h
  | .iptr xs, u, h => by simp only [RV, lowA] at h ⊢; obtain ⟨k, o, us, _, h, _⟩ := h; exact RVs.low hm xs us h
  | .view b off n c z, u, h => by simp only [RV, lowA] at h ⊢; obtain ⟨k, o, _, h, _⟩ := h; exact hm _ _ h
  | .agg xs, u, h => by simp only [RV, lowA] at h ⊢; obtain ⟨us, _, h⟩ := h; exact RVs.low hm xs us h
  | .tup xs, u, h => by simp only [RV, lowA] at h ⊢; obtain ⟨us, _, h⟩ := h; exact RVs.low hm xs us h
  | .fn _ xs, u, h => by simp only [RV, lowA] at h ⊢; obtain ⟨us, _, h⟩ := h; exact RVs.low hm xs us h
  | .nptr _, _, h => by simp only [RV] at h
theorem RVs.low {μ : Bx → Option Nat} {G : Nat → Nat → Prop} {w : World} {L : Nat} (hm : ∀ b k, μ b = some k → b.lvl < L) : ∀ (xs : List AV) (us : List Value), RVs μ G w xs us → lowL L xs
  | [], _, _ => trivial
  | x :: xs, us, h => by
    simp only [RVs, lowL] at h ⊢
    obtain ⟨u, us', _, h1, h2⟩ := h
    exact ⟨RV.low hm x u h1, RVs.low hm xs us' h2⟩
end

mutual
theorem RV.relow {μ μ' : Bx → Option Nat} {G G' : Nat → Nat → Prop} {w : World} {L : Nat} (hm : ∀ b k, b.lvl < L → μ b = some k → μ' b = some k) (hG : ∀ k o, G k o → G' k o) : ∀ (v : AV) (u : Value), lowA L v → RV μ G w v u → RV μ' G' w v u
  | .dead, _, _, _ => by simp only [RV]
  | .raw _, _, _, h => by simpa only [RV] using h
  | .anyb, _, _, h => by simpa only [RV] using h
  | .sl n xs fl, u, hl, h => by
    simp only [RV, lowA] at h hl ⊢
    rcases h with h | ⟨k, o, c, us, h1, h2, h3, h4⟩
    · exact .inl h
    · exact .inr ⟨k, o, c, us, h1, h2, RVs.relow hm hG xs us hl h3, fun j hj => ⟨(h4 j hj).1, hG _ _ (h4 j hj).2⟩⟩
  | .iptr xs, u, hl, h => by
    simp only [RV, lowA] at h hl ⊢
    obtain ⟨k, o, us, h1, h3, h4⟩ := h
    exact ⟨k, o, us, h1, RVs.relow hm hG xs us hl h3, fun j hj => ⟨(h4 j hj).1, hG _ _ (h4 j hj).2⟩⟩
  | .agg xs, u, hl, h => by
    simp only [RV, lowA] at h hl ⊢
    obtain ⟨us, h1, h2⟩ := h
    exact ⟨us, h1, RVs.relow hm hG xs us hl h2⟩
  | .tup xs, u, hl, h => by
    simp only [RV, lowA] at h hl ⊢
    obtain ⟨us, h1, h2⟩ := h
    exact ⟨us, h1, RVs.relow hm hG xs us hl h2⟩
  | .fn f xs, u, hl, h => by
    simp only [RV, lowA] at h hl ⊢
    obtain ⟨us, h1, h2⟩ := h
    exact ⟨us, h1, RVs.relow hm hG xs us hl h2⟩
  | .ptr b off, u, hl, h => by
    simp only [RV, lowA] at h hl ⊢
    obtain ⟨k, h1, h2⟩ := h
    exact ⟨k, hm _ _ hl h1, h2⟩
  | .view b off n c z, u, hl, h => by
    simp only [RV, lowA] at h hl ⊢
    obtain ⟨k, o, c', h1, h2⟩ := h
    exact ⟨k, o, c', hm _ _ hl h1, h2⟩
  | .nptr _, _, hl, _ => hl.elim
theorem RVs.relow {μ μ' : Bx → Option Nat} {G G' : Nat → Nat → Prop} {w : World} {L : Nat} (hm : ∀ b k, b.lvl < L → μ b = some k → μ' b = some k) (hG : ∀ k o, G k o → G' k o) : ∀ (xs : List AV) (us : List Value), lowL L xs → RVs μ G w xs us → RVs μ' G' w xs us
  | [], _, _, h => by simpa only [RVs] using h
  | x :: xs, us, hl, h => by
    simp only [RVs, lowL] at h hl ⊢
    obtain ⟨u, us', h1, h2, h3⟩ := h
    exact ⟨u, us', h1, RV.relow hm hG x u hl.1 h2, RVs.relow hm hG xs us' hl.2 h3⟩
end

/-- a value as it is handed over at the end of a call. xp: which of the callee's rooms go along, by their numbers; bn: the box that goes along -/
inductive ExpV (σ : AS) (L : Nat) (xp : List (Nat × Id)) (bn : Option Bx) : AV → AV → Prop
  | low (v : AV) (hl : lowA L v) (hf : ∀ n xs i z, v ≠ .sl n xs (.own i z)) (hb : ∀ n xs, v ≠ .sl n xs .full) (hn : ∀ vs, v ≠ .tup vs) : ExpV σ L xp bn v v
  | full (n : Nat) (xs : List AV) (hl : lowL L xs) : ExpV σ L xp bn (.sl n xs .full) (.sl n xs .full)
  | keep (n : Nat) (xs : List AV) (i : Id) (z : Nat) (hl : lowL L xs) (hi : i.lvl < L) (hg : i.gen ≠ 0) : ExpV σ L xp bn (.sl n xs (.own i z)) (.sl n xs (.own i z))
  | give (n : Nat) (xs : List AV) (i : Id) (z c : Nat) (hl : lowL L xs) (hc : (c, i) ∈ xp) : ExpV σ L xp bn (.sl n xs (.own i z)) (.sl n xs (.own ⟨0, 0, c, 0⟩ z))
  | bor (n : Nat) (xs : List AV) (fl : Fl) (hl : lowL L xs) : ExpV σ L xp bn (.sl n xs fl) (.sl n xs .bor)
  | nil (c z : Nat) : ExpV σ L xp bn (.raw (.slice none 0 0)) (.sl 0 [] (.own ⟨0, 0, c, 0⟩ z))
  | nilb : ExpV σ L xp bn (.raw (.slice none 0 0)) (.sl 0 [] .bor)
  | any (b : Bool) : ExpV σ L xp bn (.raw (.bool b)) .anyb
  | shut (b : Bx) (off n c z : Nat) (xs : List AV) (hx : σ.box b = some xs) (hL : b.lvl = L) (hn : some b ≠ bn) (hle : off + n * z ≤ xs.length) (hl : lowL L ((xs.drop off).take (n * z))) : ExpV σ L xp bn (.view b off n c z) (.sl n ((xs.drop off).take (n * z)) .bor)
  | newp (b : Bx) (o : Nat) (hb : bn = some b) : ExpV σ L xp bn (.ptr b o) (.ptr (.own 0 0 0) o)
  | newv (b : Bx) (o n c z : Nat) (hb : bn = some b) : ExpV σ L xp bn (.view b o n c z) (.view (.own 0 0 0) o n c z)

inductive ExpL (σ : AS) (L : Nat) (xp : List (Nat × Id)) (bn : Option Bx) : List AV → List AV → Prop
  | nil : ExpL σ L xp bn [] []
  | cons {x y : AV} {xs ys : List AV} (h : ExpV σ L xp bn x y) (t : ExpL σ L xp bn xs ys) : ExpL σ L xp bn (x :: xs) (y :: ys)

/-- what is written to a box, if it is -/
def wrAt : List (Bx × List AV) → Bx → Option (List AV)
  | [], _ => none
  | p :: l, b => match wrAt l b with
    | some c => some c
    | none => if b = p.1 then some p.2 else none

/-- how a function that sees boxes begins -/
def startG (args : List AV) (bx : Boxes) (us : Id → Bool) : AS :=
  { slots := fun i => match args[i]? with
      | some (.tup _) => .dead
      | some v => v
      | none => .raw undef
    gen := fun _ => 0
    box := bx
    used := us }

def tupOf (rv : List AV) : AV := match rv with
  | [v] => v
  | vs => .tup vs

/-- how it ends -/
structure EndG (te : TypeId → Option TI) (rs : List ResultVar) (L : Nat) (bx : Boxes) (us : Id → Bool) (cr : CR) (σ : AS) : Prop where
  ex : ∃ (xp : List (Nat × Id)) (bn : Option Bx) (vs rv : List AV), rawsRes te σ rs = some vs ∧ ExpL σ L xp bn vs rv ∧ cr.v = .ret (tupOf rv) ∧
    (xp.map (·.1)).Nodup ∧ (xp.map (·.2)).Nodup ∧ (∀ q ∈ xp, q.2.lvl = L ∧ σ.used q.2 = false) ∧
    (∀ b, b.lvl < L → match wrAt cr.wr b with | none => σ.box b = bx b | some ys => (bx b).isSome ∧ ∃ xs, σ.box b = some xs ∧ ExpL σ L xp bn xs ys) ∧
    (∀ b ys, wrAt cr.wr b = some ys → b.lvl < L) ∧
    (match bn with | none => cr.cont = none | some b => b.lvl = L ∧ ∃ xs ys, σ.box b = some xs ∧ cr.cont = some ys ∧ ExpL σ L xp bn xs ys) ∧
    (∀ i, i.lvl < L → σ.used i = useL us cr.use i) ∧ ∀ i ∈ cr.use, i.lvl < L

def endGQ (te : TypeId → Option TI) (rs : List ResultVar) (L : Nat) (bx : Boxes) (us : Id → Bool) (cr : CR) : AX → AS → Prop
  | .exit _, _ => False
  | _, σ => EndG te rs L bx us cr σ

theorem useL_mono : ∀ (l : List Id) (u : Id → Bool) (i : Id), u i = true → useL u l i = true
  | [], u, i, h => h
  | j :: l, u, i, h => useL_mono l (updI u j) i (by unfold updI; split <;> simp [h])
theorem useL_mem : ∀ (l : List Id) (u : Id → Bool) (i : Id), useL u l i = true → u i = true ∨ i ∈ l
  | [], u, i, h => .inl h
  | j :: l, u, i, h => by
    rcases useL_mem l (updI u j) i h with h | h
    · unfold updI at h
      split at h
      · rename_i e; exact .inr (by rw [e]; simp)
      · exact .inl h
    · exact .inr (by simp [h])

theorem applyW_at : ∀ (l : List (Bx × List AV)) (f : List AV → List AV) (bx : Boxes) (b : Bx), applyW bx (l.map fun p => (p.1, f p.2)) b = match wrAt l b with | some c => some (f c) | none => bx b
  | [], f, bx, b => rfl
  | p :: l, f, bx, b => by
    simp only [List.map_cons, applyW, wrAt]
    rw [applyW_at l f]
    cases wrAt l b with
    | some c => rfl
    | none =>
      simp only [updB]
      by_cases h : b = p.1 <;> simp [h]

/-- what is handed over, in the caller's eyes -/
structure Hand (N : Ent) (g gr : Ghost) (σ : AS) (w : World) (L Lc d dn : Nat) (xp : List (Nat × Id)) (bn : Option Bx) : Prop where
  hv : Valid N g σ.box w
  lvl : N.lvl = L
  mu : ∀ b k, b.lvl < L → g.μ b = some k → gr.μ b = some k
  mub : ∀ b k, bn = some b → g.μ b = some k → gr.μ (.own Lc d dn) = some k
  G : ∀ k o, g.G k o → gr.G k o
  Gl : ∀ b xs k o, b.lvl = L → some b ≠ bn → g.μ b = some k → σ.box b = some xs → o < xs.length → gr.G k o
  T : ∀ i r, i.lvl < L → g.D i = false → g.T i = some r → gr.T i = some r
  Tx : ∀ c i, (c, i) ∈ xp → gr.T ⟨Lc, d, c, dn⟩ = g.T i
  Dl : ∀ i, i.lvl < L → g.D i = true → gr.D i = true
  Dx : ∀ c i, (c, i) ∈ xp → g.D i = false
  mde : ∀ i, i.lvl < L → made g i → made gr i
  mdx : ∀ c, made gr ⟨Lc, d, c, dn⟩
  ty : g.D = σ.used

section
variable {N : Ent} {g gr : Ghost} {σ : AS} {w : World} {L Lc d dn : Nat} {xp : List (Nat × Id)} {bn : Option Bx}

theorem renB_mu (h : Hand N g gr σ w L Lc d dn xp bn) {b : Bx} {k : Nat} (hb : g.μ b = some k) : renB Lc d dn b = b := by
  obtain ⟨l, s, n⟩ := b
  simp only [renB]
  rw [if_neg]
  rintro rfl
  rw [h.hv.nz] at hb; cases hb

theorem ExpV.rel (h : Hand N g gr σ w L Lc d dn xp bn) {v r : AV} {u : Value} (he : ExpV σ L xp bn v r) (hr : RV g.μ g.G w v u) (ht : Top g v u) :
    RV gr.μ gr.G w (ren1 Lc d dn r) u ∧ (∀ n xs fl, ren1 Lc d dn r = .sl n xs fl → FlOK gr fl xs.length u) ∧ ∀ vs, ren1 Lc d dn r ≠ .tup vs := by
  have rl : ∀ v u, lowA L v → RV g.μ g.G w v u → RV gr.μ gr.G w v u := fun v u hl hr => RV.relow (fun b k hb => h.mu b k hb) h.G v u hl hr
  cases he with
  | low _ hl hf hb hn =>
    have h1 := rl _ _ hl hr
    cases v with
    | sl n xs fl =>
      cases fl with
      | bor => exact ⟨by simpa only [ren1, RV] using h1, fun n xs fl e => (by simp only [ren1, renF] at e; cases e; trivial), by simp [ren1]⟩
      | full => exact absurd rfl (hb _ _)
      | own i z => exact absurd rfl (hf _ _ _ _)
    | ptr b o =>
      have h2 := hr
      simp only [RV] at h2
      obtain ⟨k, hk, _⟩ := h2
      refine ⟨?_, by simp [ren1], by simp [ren1]⟩
      simp only [ren1]
      rw [renB_mu h hk]
      exact h1
    | view b o n c z =>
      have h2 := hr
      simp only [RV] at h2
      obtain ⟨k, _, _, hk, _⟩ := h2
      refine ⟨?_, by simp [ren1], by simp [ren1]⟩
      simp only [ren1]
      rw [renB_mu h hk]
      exact h1
    | tup vs => exact absurd rfl (hn _)
    | _ => exact ⟨h1, (by simp [ren1]), (by simp [ren1])⟩
  | full n xs hl =>
    refine ⟨by simpa only [ren1, RV] using rl (.sl n xs .full) u hl hr, fun n' xs' fl e => ?_, by simp [ren1]⟩
    simp only [ren1, renF] at e
    cases e
    simp only [Top] at ht
    cases u <;> first | exact ht | (simp only [FlOK] at ht)
  | keep n xs i z hl hi hg =>
    refine ⟨by simpa only [ren1, RV] using rl (.sl n xs (.own i z)) u hl hr, fun n' xs' fl e => ?_, by simp [ren1]⟩
    simp only [ren1, renF] at e
    rw [if_neg hg] at e
    cases e
    simp only [Top] at ht
    cases u with
    | slice A n' c =>
      simp only [FlOK] at ht ⊢
      obtain ⟨h1, h2⟩ := ht
      refine ⟨h.mde i hi h1, ?_⟩
      rcases h2 with h2 | h2 | ⟨k, o, lo, hi', e1, e2, e3, e4⟩
      · exact .inl (h.Dl i hi h2)
      · exact .inr (.inl h2)
      · cases hD : g.D i with
        | true => exact .inl (h.Dl i hi hD)
        | false => exact .inr (.inr ⟨k, o, lo, hi', e1, e2, h.T i _ hi hD e3, e4⟩)
    | _ => simp only [FlOK] at ht
  | give n xs i z c hl hc =>
    refine ⟨by simpa only [ren1, RV] using rl (.sl n xs (.own i z)) u hl hr, fun n' xs' fl e => ?_, by simp [ren1]⟩
    simp only [ren1, renF, if_true] at e
    cases e
    simp only [Top] at ht
    cases u with
    | slice A n' c' =>
      simp only [FlOK] at ht ⊢
      obtain ⟨h1, h2⟩ := ht
      refine ⟨h.mdx c, ?_⟩
      rcases h2 with h2 | h2 | ⟨k, o, lo, hi', e1, e2, e3, e4⟩
      · rw [h.Dx c i hc] at h2; cases h2
      · exact .inr (.inl h2)
      · exact .inr (.inr ⟨k, o, lo, hi', e1, e2, by rw [h.Tx c i hc]; exact e3, e4⟩)
    | _ => simp only [FlOK] at ht
  | bor n xs fl hl =>
    refine ⟨by simpa only [ren1, RV] using rl (.sl n xs fl) u hl hr, fun n' xs' fl' e => ?_, by simp [ren1]⟩
    simp only [ren1, renF] at e
    cases e; trivial
  | nil c z =>
    simp only [RV] at hr
    subst hr
    refine ⟨by simp only [ren1, RV]; exact .inl (by simp), fun n' xs' fl' e => ?_, by simp [ren1]⟩
    simp only [ren1, renF, if_true] at e
    cases e
    simp only [FlOK]
    exact ⟨h.mdx c, .inr (.inl (by simp))⟩
  | nilb =>
    simp only [RV] at hr
    subst hr
    refine ⟨by simp only [ren1, RV]; exact .inl (by simp), fun n' xs' fl' e => ?_, by simp [ren1]⟩
    simp only [ren1, renF] at e
    cases e; trivial
  | any b =>
    simp only [RV] at hr
    exact ⟨by simp only [ren1, RV]; exact ⟨_, hr⟩, fun n' xs' fl' e => (by cases e), fun vs e => (by cases e)⟩
  | shut b off n c z xs hx hL hn hle hl =>
    refine ⟨?_, fun n' xs' fl' e => (by simp only [ren1, renF] at e; cases e; trivial), by simp [ren1]⟩
    simp only [RV] at hr
    simp only [ren1, RV]
    obtain ⟨k, oo, c', hm, rfl, hcc, hnc, hoo⟩ := hr
    obtain ⟨us, h4, h5, _⟩ := h.hv.box_cells hm hx
    have hul := h4.length
    right
    by_cases hc0 : c = 0
    · have hn0 : n = 0 := by omega
      subst hn0
      refine ⟨k, oo, c', [], rfl, Nat.zero_le _, ?_, fun j hj => by simp at hj⟩
      simp; exact RVs.nil
    · have : oo = off := by rcases hoo with h | h; · exact h
                            · exact absurd h hc0
      subst this
      refine ⟨k, oo, c', _, rfl, Nat.le_trans hnc hcc, RVs.relow (fun b k hb => h.mu b k hb) h.G _ _ hl ((h4.drop oo).take (n * z)), fun j hj => ?_⟩
      rw [List.length_take, List.length_drop] at hj
      refine ⟨?_, h.Gl b xs k (oo + j) hL hn hm hx (by omega)⟩
      rw [List.getElem?_take, if_pos (by omega), List.getElem?_drop]
      exact h5 _ (by omega)
  | newp b o hb =>
    simp only [RV] at hr
    obtain ⟨k, hk, rfl⟩ := hr
    refine ⟨?_, by simp [ren1], by simp [ren1]⟩
    simp only [ren1, renB, if_true, RV]
    exact ⟨k, h.mub b k hb hk, rfl⟩
  | newv b o n c z hb =>
    simp only [RV] at hr
    obtain ⟨k, oo, c', hk, hu⟩ := hr
    refine ⟨?_, by simp [ren1], by simp [ren1]⟩
    simp only [ren1, renB, if_true, RV]
    exact ⟨k, oo, c', h.mub b k hb hk, hu⟩

theorem ExpL.rel (h : Hand N g gr σ w L Lc d dn xp bn) : ∀ {vs rs : List AV} {us : List Value}, ExpL σ L xp bn vs rs → RVs g.μ g.G w vs us → (∀ (j n : Nat) (xs : List AV) (fl : Fl) (u : Value), vs[j]? = some (.sl n xs fl) → us[j]? = some u → FlOK g fl xs.length u) → (∀ (j : Nat) (ws : List AV), vs[j]? ≠ some (.tup ws)) →
    RVs gr.μ gr.G w (rs.map (ren1 Lc d dn)) us ∧ (∀ (j n : Nat) (xs : List AV) (fl : Fl) (u : Value), (rs.map (ren1 Lc d dn))[j]? = some (.sl n xs fl) → us[j]? = some u → FlOK gr fl xs.length u) ∧ (∀ (j : Nat) (ws : List AV), (rs.map (ren1 Lc d dn))[j]? ≠ some (.tup ws))
  | _, _, us, .nil, hr, _, _ => by
    simp only [RVs] at hr; subst hr
    exact ⟨RVs.nil, fun j n xs fl u hj => by simp at hj, fun j ws hj => by simp at hj⟩
  | _, _, us, .cons (x := x) (y := y) he hl, hr, ht, hn => by
    simp only [RVs] at hr
    obtain ⟨u, us', rfl, h1, h2⟩ := hr
    obtain ⟨e1, e2, e3⟩ := he.rel h h1 (by
      cases x with
      | sl n xs fl => exact ht 0 n xs fl u rfl rfl
      | tup ws => exact absurd rfl (hn 0 ws)
      | _ => trivial)
    obtain ⟨f1, f2, f3⟩ := ExpL.rel h hl h2 (fun j n xs fl u hj hu => ht (j + 1) n xs fl u (by simpa using hj) (by simpa using hu)) (fun j ws hj => hn (j + 1) ws (by simpa using hj))
    refine ⟨by simp only [List.map_cons, RVs]; exact ⟨u, us', rfl, e1, f1⟩, fun j n xs fl u' hj hu => ?_, fun j ws hj => ?_⟩
    · cases j with
      | zero => simp at hj hu; subst hu; exact e2 n xs fl hj
      | succ j => exact f2 j n xs fl u' (by simpa using hj) (by simpa using hu)
    · cases j with
      | zero => simp at hj; exact e3 ws hj
      | succ j => exact f3 j ws (by simpa using hj)
theorem ExpV.ok (hd : dn ≠ 0) {v r : AV} (he : ExpV σ L xp bn v r) : (∀ n ys i z, ren1 Lc d dn r = .sl n ys (.own i z) → i.gen ≠ 0) ∧ ∀ vs, ren1 Lc d dn r ≠ .tup vs := by
  cases he with
  | low _ hl hf hb hn =>
    cases v with
    | sl n xs fl =>
      cases fl with
      | own i z => exact absurd rfl (hf _ _ _ _)
      | _ => exact ⟨by simp [ren1, renF], by simp [ren1]⟩
    | tup vs => exact absurd rfl (hn _)
    | _ => exact ⟨by simp [ren1], by simp [ren1]⟩
  | keep n xs i z hl hi hg =>
    refine ⟨fun n' ys i' z' e => ?_, by simp [ren1]⟩
    simp only [ren1, renF] at e
    rw [if_neg hg] at e
    cases e; exact hg
  | give n xs i z c hl hc =>
    refine ⟨fun n' ys i' z' e => ?_, by simp [ren1]⟩
    simp only [ren1, renF, if_true] at e
    cases e; exact hd
  | nil c z =>
    refine ⟨fun n' ys i' z' e => ?_, by simp [ren1]⟩
    simp only [ren1, renF, if_true] at e
    cases e; exact hd
  | _ => exact ⟨by simp [ren1, renF], by simp [ren1]⟩
theorem ExpL.ok (hd : dn ≠ 0) : ∀ {vs rs : List AV}, ExpL σ L xp bn vs rs → CellsOK (rs.map (ren1 Lc d dn))
  | _, _, .nil => fun x hx => by simp at hx
  | _, _, .cons h t => fun x hx => by
    rcases List.mem_cons.1 hx with rfl | hx
    · exact h.ok hd
    · exact ExpL.ok hd t x hx
end
end Go.Abs
