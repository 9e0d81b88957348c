/- The operations that change no box, one by one. Fifth part: slices of slices, conversions, literals. -/
import Derived.Test.YteooikdcafodfaaDoorAi
namespace Go.Abs
set_option linter.unusedSimpArgs false
set_option linter.unusedVariables false
open Go Go.RowKit
section
variable {P : Program} {N : Ent} {g : Ghost} {box : Boxes} {w : World} {o : Oper} {a : Act} {d : Nat} {ρ : Operand → AV} {te : TypeId → Option TI}

theorem bound_rel {m : Nat} {v : AV} {n : Nat} (h : bound m v = some n) {μ : Bx → Option Nat} {G : Nat → Nat → Prop} {u : Value} (hr : RV μ G w v u) :
    ∃ k : IntKind, ∃ i : Int, u = .int k i ∧ 0 ≤ i ∧ i ≤ m ∧ n = i.toNat := by
  unfold bound at h
  split at h
  · split at h
    · rename_i k i hb
      cases h; simp only [RV] at hr
      exact ⟨k, i, hr, hb.1, hb.2, rfl⟩
    · cases h
  · cases h

theorem run_sliceBound' {k : IntKind} {i : Int} {y : Nat} {c : BoundsCode} (h0 : 0 ≤ i) (h1 : i ≤ y) : (Instr.sliceBound (.int k i) y c).run P w = .ok i.toNat w := by
  simp [Instr.sliceBound, asIntOf, h0, h1]

/-- operands that may be there -/
def ORel (g : Ghost) (w : World) (x : Option AV) (u : Option Value) : Prop :=
  match x, u with
  | none, none => True
  | some v, some u => RV g.μ g.G w v u
  | _, _ => False

theorem ORel.of (hρ : Rel g w a ρ) (x : Option Operand) : ORel g w (x.map ρ) (x.map a.eval) := by
  cases x with
  | none => trivial
  | some x => exact (hρ x).1

/-- the three bounds of a slice expression -/
theorem run_sliceBounds {isS : Bool} {len cap cap' : Nat} (hlc : len ≤ cap) (hc : cap' ≤ cap) {lo hi mx : Option AV} {lo' hi' mx' : Option Value} (hl : ORel g w lo lo') (hh : ORel g w hi hi') (hm : ORel g w mx mx')
    {l h m : Nat} (hb : bounds len cap' lo hi mx = some (l, h, m)) :
    (Instr.sliceBounds isS len cap lo' hi' mx').run P w = .ok (l, h, if mx.isSome then m else cap) w ∧ l ≤ h ∧ (hi ≠ none ∨ h = len) ∧ (mx.isSome = true → h ≤ m ∧ m ≤ cap') ∧ (mx.isSome = false → hi ≠ none → h ≤ cap') := by
  unfold bounds at hb
  simp only [Option.bind_eq_some_iff, Option.map_eq_some_iff] at hb
  obtain ⟨m', h1, h'', h2, l', h3, h4⟩ := hb
  cases h4
  have hlo : (lo' = none ∧ l = 0) ∨ ∃ k i, lo' = some (.int k i) ∧ 0 ≤ i ∧ i ≤ h ∧ l = i.toNat := by
    cases lo with
    | none => cases lo' with
      | none => cases h3; exact .inl ⟨rfl, rfl⟩
      | some _ => exact hl.elim
    | some v => cases lo' with
      | none => exact hl.elim
      | some u =>
        obtain ⟨k, i, rfl, i0, i1, rfl⟩ := bound_rel h3 hl
        exact .inr ⟨k, i, rfl, i0, i1, rfl⟩
  have hhi : (hi = none ∧ hi' = none ∧ mx = none ∧ h = len) ∨ ∃ k i, hi ≠ none ∧ hi' = some (.int k i) ∧ 0 ≤ i ∧ i ≤ m ∧ h = i.toNat := by
    cases hi with
    | none => cases hi' with
      | some _ => exact hh.elim
      | none => cases mx with
        | none => cases h2; exact .inl ⟨rfl, rfl, rfl, rfl⟩
        | some _ => cases h2
    | some v => cases hi' with
      | none => exact hh.elim
      | some u =>
        have h2' : bound m v = some h := by cases mx <;> exact h2
        obtain ⟨k, i, rfl, i0, i1, rfl⟩ := bound_rel h2' hh
        exact .inr ⟨k, i, by simp, rfl, i0, i1, rfl⟩
  have hmx : (mx = none ∧ mx' = none ∧ m = cap') ∨ ∃ k i, mx.isSome = true ∧ mx' = some (.int k i) ∧ 0 ≤ i ∧ i ≤ cap' ∧ m = i.toNat := by
    cases mx with
    | none => cases mx' with
      | none => cases h1; exact .inl ⟨rfl, rfl, rfl⟩
      | some _ => exact hm.elim
    | some v => cases mx' with
      | none => exact hm.elim
      | some u =>
        obtain ⟨k, i, rfl, i0, i1, rfl⟩ := bound_rel h1 hm
        exact .inr ⟨k, i, rfl, rfl, i0, i1, rfl⟩
  clear h1 h2 h3 hl hh hm
  have hlh : l ≤ h := by rcases hlo with ⟨_, e⟩ | ⟨_, i, _, e1, e2, e3⟩ <;> omega
  refine ⟨?_, hlh, ?_, ?_, ?_⟩
  · rcases hmx with ⟨rfl, rfl, e⟩ | ⟨km, im, e1, rfl, m0, m1, rfl⟩
    · rcases hhi with ⟨rfl, rfl, _, rfl⟩ | ⟨kh, ih, _, rfl, h0, h1, rfl⟩
      · rcases hlo with ⟨rfl, rfl⟩ | ⟨kl, il, rfl, l0, l1, rfl⟩
        · simp [Instr.sliceBounds]
        · simp [Instr.sliceBounds, Instr.sliceBound, asIntOf, l0, l1]
      · have h1' : ih ≤ cap := by omega
        rcases hlo with ⟨rfl, rfl⟩ | ⟨kl, il, rfl, l0, l1, rfl⟩
        · simp [Instr.sliceBounds, Instr.sliceBound, asIntOf, h0, h1']
        · simp [Instr.sliceBounds, run_sliceBound' l0 l1, run_sliceBound' h0 h1']
    · have m1' : im ≤ cap := by omega
      rcases hhi with ⟨_, _, e2, _⟩ | ⟨kh, ih, _, rfl, h0, h1, rfl⟩
      · rw [e2] at e1; cases e1
      · rcases hlo with ⟨rfl, rfl⟩ | ⟨kl, il, rfl, l0, l1, rfl⟩
        · simp [Instr.sliceBounds, run_sliceBound' h0 h1, run_sliceBound' m0 m1', e1]
        · simp [Instr.sliceBounds, run_sliceBound' l0 l1, run_sliceBound' h0 h1, run_sliceBound' m0 m1', e1]
  · rcases hhi with ⟨_, _, _, e⟩ | ⟨_, _, e, _⟩
    · exact .inr e
    · exact .inl e
  · intro hs
    rcases hmx with ⟨rfl, _⟩ | ⟨km, im, e1, rfl, m0, m1, e4⟩
    · cases hs
    · rcases hhi with ⟨_, _, e2, _⟩ | ⟨kh, ih, _, _, h0, h1, e5⟩
      · rw [e2] at e1; cases e1
      · exact ⟨by omega, by omega⟩
  · intro hs hne
    rcases hmx with ⟨rfl, _, e⟩ | ⟨km, im, e1, _⟩
    · rcases hhi with ⟨e2, _⟩ | ⟨kh, ih, _, _, h0, h1, e5⟩
      · exact absurd e2 hne
      · omega
    · rw [hs] at e1; cases e1
end
section
variable {P : Program} {N : Ent} {g : Ghost} {box : Boxes} {w : World} {o : Oper} {a : Act} {d : Nat} {ρ : Operand → AV} {te : TypeId → Option TI}

theorem FlOK.cut {g : Ghost} {fl : Fl} {xs : List AV} {n c sz l h m M : Nat} {full : Bool} {k o : Nat} (hn : n ≤ c) (hf : FlOK g fl xs.length (.slice (some ⟨k, o, none⟩) n c)) (hlh : l ≤ h) (hM : M = if full then m else c)
    (hmh : full = true → h ≤ m ∧ m ≤ n) (hhn : h ≤ M) (A : Option Addr) (hA : A = some ⟨k, if M = l then o else o + l * sz, none⟩) :
    FlOK g (cutFl sz n l h m full fl) ((xs.drop (l * sz)).take ((h - l) * sz)).length (.slice A (h - l) (M - l)) := by
  subst hA
  cases full with
  | true =>
    simp only [if_true] at hM
    subst hM
    have : cutFl sz n l h M true fl = if M = h then .full else .bor := by cases fl <;> rfl
    rw [this]
    split
    · simp only [FlOK]; omega
    · trivial
  | false =>
    simp only [Bool.false_eq_true, if_false] at hM
    subst hM
    cases fl with
    | bor => trivial
    | full =>
      simp only [cutFl, Bool.false_eq_true, if_false]
      simp only [FlOK] at hf
      split
      · simp only [FlOK]; omega
      · trivial
    | own i z =>
      simp only [cutFl, Bool.false_eq_true, if_false]
      simp only [FlOK] at hf
      split
      · rename_i hh
        obtain ⟨rfl, rfl⟩ := hh
        simp only [FlOK]
        refine ⟨hf.1, ?_⟩
        rcases hf.2 with h1 | ⟨h1, _⟩ | ⟨k', o', lo', hi', e1, e2, e3, e4⟩
        · exact .inl h1
        · cases h1
        · cases e1
          have h1 : (h - l) * z = h * z - l * z := Nat.sub_mul _ _ _
          have h2 : (M - l) * z = M * z - l * z := Nat.sub_mul _ _ _
          have h3 : l * z ≤ h * z := Nat.mul_le_mul_right _ hlh
          have h4 : h * z ≤ M * z := Nat.mul_le_mul_right _ hn
          have h5 : ((xs.drop (l * z)).take ((h - l) * z)).length = (h - l) * z := by simp only [List.length_take, List.length_drop]; omega
          refine .inr (.inr ⟨k, _, lo', hi', rfl, h5, e3, ?_⟩)
          rcases e4 with e4 | ⟨e4, e5⟩
          · exact .inl (by omega)
          · by_cases hcl : M = l
            · exact .inl (by omega)
            · rw [if_neg hcl, h5]
              exact .inr ⟨by omega, by omega⟩
      · trivial

theorem out_slice (hte : TeOK P te) (hv : Valid N g box w) (hρ : Rel g w a ρ) (t : TypeId) (x : Operand) (lo hi mx : Option Operand) (ho : o.op = .slice t x lo hi mx) {v : AV}
    (h : sliceV te t (ρ x) (lo.map ρ) (hi.map ρ) (mx.map ρ) = some v) : GOut P N g box w o a d { v } := by
  have hx := (hρ x)
  have key : ∀ u r : Value, a.eval x = u → (Instr.sliceAt t u (lo.map a.eval) (hi.map a.eval) (mx.map a.eval)).run P w = .ok r w → (execOp a.eval o).run P w = .ok (.value r) w := fun u r he hr => run_value (by rw [← he] at hr; exact hr) (by unfold execOp; rw [ho])
  have hl := ORel.of hρ lo
  have hh := ORel.of hρ hi
  have hm := ORel.of hρ mx
  revert h hx key hl hh hm
  generalize ρ x = x0
  generalize a.eval x = u0
  generalize lo.map ρ = lo0
  generalize hi.map ρ = hi0
  generalize mx.map ρ = mx0
  generalize lo.map a.eval = lo1
  generalize hi.map a.eval = hi1
  generalize mx.map a.eval = mx1
  intro h hx key hl hh hm
  unfold sliceV at h
  split at h
  · rename_i s hk
    obtain ⟨_, _, _, dd, hd, hk2⟩ := kd_some hte hk (by simp)
    simp only [TKis] at hk2; subst hk2
    have hx := hx.1
    simp only [RV] at hx; subst hx
    split at h
    · cases h
    · rename_i hmn
      simp only [Option.map_eq_some_iff] at h
      obtain ⟨⟨l, hi', m⟩, hb, rfl⟩ := h
      cases mx0 with
      | some _ => simp at hmn
      | none =>
        cases mx1 with
        | some _ => exact hm.elim
        | none =>
          obtain ⟨r1, r2, _⟩ := run_sliceBounds (P := P) (isS := false) (Nat.le_refl s.size) (Nat.le_refl _) hl hh hm hb
          refine .pure hv (key _ (.string (s.extract l hi')) rfl ?_) (by simp only [RV]) trivial
          simp [Instr.sliceAt, run_underlying hd, Instr.slice, r1]
  · rename_i e hk
    obtain ⟨_, _, _, dd, hd, hk2⟩ := kd_some hte hk (by simp)
    simp only [TKis] at hk2; subst hk2
    have hx := hx.1
    simp only [RV] at hx; subst hx
    simp only [Option.bind_eq_some_iff, Option.map_eq_some_iff] at h
    obtain ⟨ti, ht, ⟨l, hi', m⟩, hb, rfl⟩ := h
    obtain ⟨r1, r2, r3, r4, r5⟩ := run_sliceBounds (P := P) (isS := true) (Nat.le_refl 0) (Nat.le_refl _) hl hh hm hb
    have z0 : (if mx0.isSome then m else 0) = 0 ∧ hi' = 0 := by
      rcases r3 with r3 | r3
      · cases hs : mx0.isSome with
        | true => have := r4 hs; simp; omega
        | false => have := r5 hs r3; simp; omega
      · cases hs : mx0.isSome with
        | true => have := r4 hs; simp; omega
        | false => simp; omega
    have z3 : l = 0 := by omega
    rw [z0.1, z0.2, z3] at r1
    refine .pure hv (key _ (.slice none 0 0) rfl ?_) (by simp only [RV]) trivial
    simp [Instr.sliceAt, run_underlying hd, Instr.slice, r1, run_sizeOf hte ht]
  · -- a slice by value
    rename_i e n xs fl hk
    obtain ⟨_, _, _, dd, hd, hk2⟩ := kd_some hte hk (by simp)
    simp only [TKis] at hk2; subst hk2
    simp only [Option.bind_eq_some_iff, Option.map_eq_some_iff] at h
    obtain ⟨ti, ht, ⟨l, h', m⟩, hb, rfl⟩ := h
    obtain ⟨hx, htop⟩ := hx
    simp only [RV] at hx
    rcases hx with ⟨rfl, rfl, rfl⟩ | ⟨k, off, c, us, rfl, hnc, hr, hdd⟩
    · obtain ⟨r1, r2, r3, r4, r5⟩ := run_sliceBounds (P := P) (isS := true) (Nat.le_refl 0) (Nat.le_refl _) hl hh hm hb
      have z0 : (if mx0.isSome then m else 0) = 0 ∧ h' = 0 := by
        rcases r3 with r3 | r3
        · cases hs : mx0.isSome with
          | true => have := r4 hs; simp; omega
          | false => have := r5 hs r3; simp; omega
        · cases hs : mx0.isSome with
          | true => have := r4 hs; simp; omega
          | false => simp; omega
      have z3 : l = 0 := by omega
      rw [z0.1, z0.2, z3] at r1
      refine .pure hv (u := .slice none 0 0) (key _ (.slice none 0 0) rfl ?_) ?_ ?_
      · simp [Instr.sliceAt, run_underlying hd, Instr.slice, r1, run_sizeOf hte ht]
      · simp only [RV]; exact .inl ⟨trivial, by omega, by simp⟩
      · simp only [Top] at htop ⊢
        have e2 := z0.2
        cases fl with
        | bor => simp only [cutFl]; repeat' split
                 all_goals simp only [FlOK]
        | full => simp only [cutFl]; repeat' split
                  all_goals simp only [FlOK]
        | own i z =>
          simp only [cutFl]; repeat' split
          all_goals simp only [FlOK] at htop ⊢
          exact ⟨htop.1, .inr (.inl ⟨trivial, by first | trivial | omega, trivial⟩)⟩
    · obtain ⟨r1, r2, r3, r4, r5⟩ := run_sliceBounds (P := P) (isS := true) (cap := c) hnc hnc hl hh hm hb
      have hM : h' ≤ (if mx0.isSome then m else c) := by
        cases hs : mx0.isSome with
        | true => exact (r4 hs).1
        | false =>
          rcases r3 with r3 | r3
          · have := r5 hs r3; simp; omega
          · simp; omega
      generalize hMe : (if mx0.isSome then m else c) = M at r1 hM
      refine .pure hv (key _ (.slice (some ⟨k, if M = l then off else off + l * ti.size, none⟩) (h' - l) (M - l)) rfl ?_) ?_ ?_
      · simp only [Instr.sliceAt, Sem.run_bind, run_underlying hd, Result.andThen_ok, Instr.slice, r1, run_sizeOf hte ht, Sem.run_pure, Option.map_some, addr_add]
        by_cases hq : M = l <;> simp [hq]
      · simp only [RV]
        refine .inr ⟨k, _, _, (us.drop (l * ti.size)).take ((h' - l) * ti.size), rfl, by omega, (hr.drop _).take _, ?_⟩
        split
        · have : h' - l = 0 := by omega
          rw [this]; intro j hj; simp at hj
        · exact (hdd.drop _).take _
      · simp only [Top] at htop ⊢
        exact htop.cut hnc r2 hMe.symm (fun hs => r4 hs) hM _ rfl
  · -- a view
    rename_i e b off n c z hk
    obtain ⟨_, _, _, dd, hd, hk2⟩ := kd_some hte hk (by simp)
    simp only [TKis] at hk2; subst hk2
    simp only [Option.bind_eq_some_iff] at h
    obtain ⟨ti, ht, h⟩ := h
    split at h
    · rename_i hz
      simp only [Option.map_eq_some_iff] at h
      obtain ⟨⟨l, h', m⟩, hb, rfl⟩ := h
      have hx := hx.1
      simp only [RV] at hx
      obtain ⟨k, oo, hmu, rfl, hnc, hoo⟩ := hx
      obtain ⟨r1, r2, r3, r4, r5⟩ := run_sliceBounds (P := P) (isS := true) hnc (Nat.le_refl c) hl hh hm hb
      have hMe : (if mx0.isSome then m else c) = m := by
        cases hs : mx0 with
        | some _ => simp
        | none =>
          unfold bounds at hb
          rw [hs] at hb
          simp only [Option.bind_eq_some_iff, Option.map_eq_some_iff] at hb
          obtain ⟨m', h1, h'', h2, l', h3, h4⟩ := hb
          cases h4; cases h1; simp
      rw [hMe] at r1
      have hM : h' ≤ m := by
        cases hs : mx0.isSome with
        | true => exact (r4 hs).1
        | false =>
          rw [hs] at hMe; simp at hMe
          rcases r3 with r3 | r3
          · have := r5 hs r3; omega
          · omega
      have hmc : m ≤ c := by
        cases hs : mx0.isSome with
        | true => exact (r4 hs).2
        | false => rw [hs] at hMe; simp at hMe; omega
      refine .pure hv (key _ (.slice (some ⟨k, if m = l then oo else oo + l * ti.size, none⟩) (h' - l) (m - l)) rfl ?_) ?_ ?_
      · simp only [Instr.sliceAt, Sem.run_bind, run_underlying hd, Result.andThen_ok, Instr.slice, r1, run_sizeOf hte ht, Sem.run_pure, Option.map_some, addr_add]
        by_cases hq : m = l <;> simp [hq]
      · by_cases hml : m = l
        · simp only [if_pos hml, RV]
          exact ⟨k, _, hmu, by rw [show h' - l = 0 by omega, show m - l = 0 by omega], Nat.le_refl _, .inr (by trivial)⟩
        · simp only [if_neg hml, RV]
          exact ⟨k, _, hmu, rfl, by omega, .inl (by rw [hz]; rcases hoo with h | h <;> omega)⟩
      · show Top g (if m = l then _ else _) _
        split <;> trivial
    · cases h
  · -- an array in a box
    rename_i n e b off hk
    obtain ⟨_, _, _, dd, hd, hk2⟩ := kd_some hte hk (by simp)
    simp only [TKis] at hk2; subst hk2
    simp only [Option.bind_eq_some_iff, Option.map_eq_some_iff] at h
    obtain ⟨ti, ht, ⟨l, h', m⟩, hb, rfl⟩ := h
    have hx := hx.1
    simp only [RV] at hx
    obtain ⟨k, hmu, rfl⟩ := hx
    obtain ⟨r1, r2, r3, r4, r5⟩ := run_sliceBounds (P := P) (isS := false) (Nat.le_refl n) (Nat.le_refl n) hl hh hm hb
    have hMe : (if mx0.isSome then m else n) = m := by
      cases hs : mx0 with
      | some _ => simp
      | none =>
        unfold bounds at hb
        rw [hs] at hb
        simp only [Option.bind_eq_some_iff, Option.map_eq_some_iff] at hb
        obtain ⟨m', h1, h'', h2, l', h3, h4⟩ := hb
        cases h4; cases h1; simp
    rw [hMe] at r1
    have hM : h' ≤ m := by
      cases hs : mx0.isSome with
      | true => exact (r4 hs).1
      | false =>
        rw [hs] at hMe; simp at hMe
        rcases r3 with r3 | r3
        · have := r5 hs r3; omega
        · omega
    refine .pure hv (key _ (.slice (some ⟨k, if m = l then off else off + l * ti.size, none⟩) (h' - l) (m - l)) rfl ?_) ?_ ?_
    · simp only [Instr.sliceAt, Instr.sureAddr, Sem.run_bind, run_underlying hd, Result.andThen_ok, r1, run_sizeOf hte ht, Sem.run_pure, addr_add]
      by_cases hq : m = l <;> simp [hq]
    · by_cases hml : m = l
      · simp only [if_pos hml, RV]
        exact ⟨k, _, hmu, by rw [show h' - l = 0 by omega, show m - l = 0 by omega], Nat.le_refl _, .inr (by trivial)⟩
      · simp only [if_neg hml, RV]
        exact ⟨k, _, hmu, rfl, by omega, .inl rfl⟩
    · show Top g (if m = l then _ else _) _
      split <;> trivial
  · cases h
end
end Go.Abs
