/- A region whose order is drawn. -/
import Derived.Test.YteooikdcafodfaaDoorAt
namespace Go.Abs
set_option linter.unusedSimpArgs false
set_option linter.unusedVariables false
open Go Go.RowKit

/-- what an operation that writes to no box does -/
def effV (E : Env) (lvl N : Nat) (ops : List Oper) (σ : AS) (o : Oper) : Option (Option (Nat × GR)) :=
  match wantedV ops σ o with
  | none => none
  | some false => match o.dst with
    | some d => if d < N then some (some (d, { v := .raw undef })) else none
    | none => some none
  | some true => match o.dst with
    | some d => if d < N then (grow E lvl d (σ.gen d + 1) (ev E σ.slots) σ.box σ.used o.op).map fun r => some (d, r) else none
    | none => none

def AS.app (lvl : Nat) (σ : AS) : Option (Nat × GR) → AS
  | none => σ
  | some (d, r) => σ.grown lvl d r

section
variable {E : Env} {lvl N : Nat} {ops : List Oper} {σ σ' : AS} {o : Oper}

theorem stepV_eff (hw : isWrite o.op = false) : stepV E lvl N ops σ o = (effV E lvl N ops σ o).map (σ.app lvl) := by
  unfold stepV effV
  cases wantedV ops σ o with
  | none => rfl
  | some b =>
    cases b with
    | false =>
      cases o.dst with
      | none => rfl
      | some d =>
        simp only
        split
        · rfl
        · rfl
    | true =>
      simp only
      rw [if_neg (by simp [hw])]
      cases o.dst with
      | none => rfl
      | some d =>
        simp only
        split
        · simp only [Option.map_map]; rfl
        · rfl

theorem effV_dst {d : Nat} {r : GR} (h : effV E lvl N ops σ o = some (some (d, r))) : o.dst = some d := by
  unfold effV at h
  split at h
  · cases h
  · split at h
    · split at h
      · cases h; assumption
      · cases h
    · cases h
  · split at h
    · split at h
      · simp only [Option.map_eq_some_iff] at h
        obtain ⟨_, _, h⟩ := h
        cases h; assumption
      · cases h
    · cases h

theorem effV_use {d : Nat} {r : GR} {k : Id} (h : effV E lvl N ops σ o = some (some (d, r))) (hk : r.use = some k) : σ.used k = false := by
  unfold effV at h
  split at h
  · cases h
  · split at h
    · split at h
      · cases h; cases hk
      · cases h
    · cases h
  · split at h
    · split at h
      · simp only [Option.map_eq_some_iff] at h
        obtain ⟨_, h1, h⟩ := h
        cases h
        exact grow_use h1 hk
      · cases h
    · cases h

theorem effV_move {p : Bx → Prop} {e : Option (Nat × GR)} (hw : wantedV ops σ' o = wantedV ops σ o) (hρ : ∀ u ∈ o.op.operands, ev E σ.slots u = ev E σ'.slots u) (hg : ∀ d, o.dst = some d → σ'.gen d = σ.gen d)
    (hb : ∀ b, p b → σ.box b = σ'.box b) (hm : ∀ u ∈ o.op.operands, Men p (ev E σ.slots u)) (hu : ∀ d r k, e = some (d, r) → r.use = some k → σ'.used k = false)
    (h : effV E lvl N ops σ o = some e) : effV E lvl N ops σ' o = some e := by
  unfold effV at h ⊢
  rw [hw]
  split at h
  · cases h
  · exact h
  · split at h
    · rename_i d hd
      split at h
      · rename_i hlt
        rw [if_pos hlt, hg d hd]
        simp only [Option.map_eq_some_iff] at h ⊢
        obtain ⟨r, h1, rfl⟩ := h
        refine ⟨r, ?_, rfl⟩
        rw [← grow_rho o.op hρ, ← grow_box hb o.op hm]
        exact grow_used h1 (fun k hk => hu d r k rfl hk)
      · cases h
    · cases h

theorem ev_upd {d : Nat} {v : AV} {sl : Nat → AV} {u : Operand} (h : u ≠ .tmp d) : ev E (upd sl d v) u = ev E sl u := by
  cases u with
  | tmp t => simp only [ev, upd]; rw [if_neg (fun e => h (by rw [e]))]
  | _ => rfl

theorem ev_look {d : Nat} {v : AV} {sl : Nat → AV} (h : d ∉ o.looksAt ops.toArray) {u : Operand} (hu : u ∈ o.op.operands) : ev E (upd sl d v) u = ev E sl u :=
  ev_upd fun e => h (by subst e; exact List.mem_append_left _ (List.mem_filterMap.2 ⟨.tmp d, by simpa using hu, rfl⟩))

theorem wantedV_look {d : Nat} {v : AV} (h : d ∉ o.looksAt ops.toArray) (hs : σ'.slots = upd σ.slots d v) : wantedV ops σ' o = wantedV ops σ o := by
  unfold wantedV
  cases hg : o.guard with
  | none => rfl
  | some p =>
    obtain ⟨j, want⟩ := p
    simp only
    cases hj : (ops[j]?).bind (·.dst) with
    | none => rfl
    | some s =>
      have : s ≠ d := fun e => h (by subst e; simp [Oper.looksAt, hg, hj])
      simp only [hs, upd]
      rw [if_neg this]

theorem app_comm {d d' : Nat} {r r' : GR} (hd : d ≠ d') : (σ.grown lvl d r).grown lvl d' r' = (σ.grown lvl d' r').grown lvl d r := by
  have hd' : ¬ d' = d := fun e => hd e.symm
  have h1 : upd (upd σ.slots d r.v) d' r'.v = upd (upd σ.slots d' r'.v) d r.v := by
    funext i; unfold upd; split <;> split <;> first | rfl | omega
  have g1 : (σ.grown lvl d r).gen d' = σ.gen d' := by
    simp only [AS.grown]; split
    · simp only [upd]; rw [if_neg hd']
    · rfl
  have g2 : (σ.grown lvl d' r').gen d = σ.gen d := by
    simp only [AS.grown]; split
    · simp only [upd]; rw [if_neg hd]
    · rfl
  have h2 : (if r'.bump then upd (σ.grown lvl d r).gen d' (σ.gen d' + 1) else (σ.grown lvl d r).gen) = (if r.bump then upd (σ.grown lvl d' r').gen d (σ.gen d + 1) else (σ.grown lvl d' r').gen) := by
    funext i; simp only [AS.grown]
    cases r.bump <;> cases r'.bump <;> simp only [if_true, Bool.false_eq_true, if_false, upd]
    split <;> split <;> first | rfl | omega
  have h3 : (match r'.cont with | some c => updB (σ.grown lvl d r).box (.own lvl d' (σ.gen d' + 1)) c | none => (σ.grown lvl d r).box) = (match r.cont with | some c => updB (σ.grown lvl d' r').box (.own lvl d (σ.gen d + 1)) c | none => (σ.grown lvl d' r').box) := by
    simp only [AS.grown]
    cases r.cont <;> cases r'.cont <;> simp only
    funext b; unfold updB
    split <;> split <;> first | rfl | (rename_i e1 e2; rw [e1] at e2; cases e2; exact absurd rfl hd)
  have h4 : (match r'.use with | some i => updI (σ.grown lvl d r).used i | none => (σ.grown lvl d r).used) = (match r.use with | some i => updI (σ.grown lvl d' r').used i | none => (σ.grown lvl d' r').used) := by
    simp only [AS.grown]
    cases r.use <;> cases r'.use <;> simp only
    funext b; unfold updI
    split <;> split <;> rfl
  show AS.mk _ _ _ _ = AS.mk _ _ _ _
  rw [g1, g2]
  congr 1

/-- boxes that are not yet made are in nobody's hands -/
structure Fresh (lvl : Nat) (σ : AS) : Prop where
  new : ∀ d n, σ.gen d < n → σ.box (.own lvl d n) = none
  men : ∀ i, Men (fun b => (σ.box b).isSome) (σ.slots i)

theorem Fresh.ev (h : Fresh lvl σ) (u : Operand) : Men (fun b => (σ.box b).isSome) (ev E σ.slots u) := by
  cases u with
  | tmp t => exact h.men t
  | const v =>
    have raws : ∀ l : List Value, MenL (fun b => (σ.box b).isSome) (l.map .raw) := fun l => by
      induction l with
      | nil => trivial
      | cons x xs ih => exact ⟨trivial, ih⟩
    cases v <;> first | trivial | exact raws _
  | global g => simp only [Abs.ev]; split <;> trivial
  | func f => exact trivial

theorem swapV {x y : Oper} (hf : Fresh lvl σ) (hap : x.apart ops.toArray y = true) (hx : isWrite x.op = false) (hy : isWrite y.op = false) {σ1 σ2 : AS}
    (h1 : stepV E lvl N ops σ x = some σ1) (h2 : stepV E lvl N ops σ1 y = some σ2) : ∃ σ1', stepV E lvl N ops σ y = some σ1' ∧ stepV E lvl N ops σ1' x = some σ2 := by
  obtain ⟨a1, a2, a3⟩ := Oper.apart_spec hap
  rw [stepV_eff hx] at h1
  rw [stepV_eff hy] at h2
  simp only [Option.map_eq_some_iff] at h1 h2
  obtain ⟨ex, hex, rfl⟩ := h1
  obtain ⟨ey, hey, rfl⟩ := h2
  -- y, before x
  have boxOK : ∀ (e : Option (Nat × GR)) b, (σ.box b).isSome = true → (σ.app lvl e).box b = σ.box b := by
    intro e b hb
    cases e with
    | none => rfl
    | some p =>
      obtain ⟨d, r⟩ := p
      simp only [AS.app, AS.grown]
      cases r.cont with
      | some c =>
        simp only [updB]
        split
        · rename_i e; rw [e, hf.new d _ (Nat.lt_succ_self _)] at hb; cases hb
        · rfl
      | none => rfl
  have usedOK : ∀ (e : Option (Nat × GR)) k, (σ.app lvl e).used k = false → σ.used k = false ∧ ∀ d r, e = some (d, r) → r.use ≠ some k := by
    intro e k hk
    cases e with
    | none => exact ⟨hk, fun _ _ h => by cases h⟩
    | some p =>
      obtain ⟨d, r⟩ := p
      simp only [AS.app, AS.grown] at hk
      cases hi : r.use with
      | some i =>
        rw [hi] at hk
        simp only [updI] at hk
        split at hk
        · cases hk
        · rename_i hne
          refine ⟨hk, fun d' r' e' hu => ?_⟩
          cases e'
          rw [hi] at hu; cases hu; exact hne rfl
      | none =>
        rw [hi] at hk
        exact ⟨hk, fun d' r' e' hu => by cases e'; rw [hi] at hu; cases hu⟩
  have slotOK : ∀ (e : Option (Nat × GR)) (z : Oper), (∀ d r, e = some (d, r) → d ∉ z.looksAt ops.toArray) →
      wantedV ops (σ.app lvl e) z = wantedV ops σ z ∧ ∀ u ∈ z.op.operands, ev E (σ.app lvl e).slots u = ev E σ.slots u := by
    intro e z hz
    cases e with
    | none => exact ⟨rfl, fun _ _ => rfl⟩
    | some p =>
      obtain ⟨d, r⟩ := p
      exact ⟨wantedV_look (hz d r rfl) rfl, fun u hu => ev_look (hz d r rfl) hu⟩
  have genOK : ∀ (e : Option (Nat × GR)) d', (∀ d r, e = some (d, r) → d ≠ d') → (σ.app lvl e).gen d' = σ.gen d' := by
    intro e d' hd
    cases e with
    | none => rfl
    | some p =>
      obtain ⟨d, r⟩ := p
      simp only [AS.app, AS.grown]
      split
      · simp only [upd]; rw [if_neg (fun h => hd d r rfl h.symm)]
      · rfl
  have dx : ∀ d r, ex = some (d, r) → x.dst = some d := fun d r e => effV_dst (by rw [← e]; exact hex)
  have dy : ∀ d r, ey = some (d, r) → y.dst = some d := fun d r e => effV_dst (by rw [← e]; exact hey)
  obtain ⟨sy1, sy2⟩ := slotOK ex y (fun d r e => a1 d (dx d r e))
  have hey0 : effV E lvl N ops σ y = some ey := by
    refine effV_move (p := fun b => (σ.box b).isSome) sy1.symm sy2 (fun d hd => (genOK ex d (fun d' r e h => a2 d' (dx d' r e) (by rw [hd, h]))).symm) (fun b hb => boxOK ex b hb) (fun u hu => by rw [sy2 u hu]; exact hf.ev u) ?_ hey
    intro d r k e hk
    exact (usedOK ex k (effV_use (by rw [← e]; exact hey) hk)).1
  obtain ⟨sx1, sx2⟩ := slotOK ey x (fun d r e => a3 d (dy d r e))
  have hex1 : effV E lvl N ops (σ.app lvl ey) x = some ex := by
    refine effV_move (p := fun b => (σ.box b).isSome) sx1 (fun u hu => (sx2 u hu).symm) (fun d hd => genOK ey d (fun d' r e h => a2 d hd (by rw [dy d' r e, h]))) (fun b hb => (boxOK ey b hb).symm) (fun u hu => hf.ev u) ?_ hex
    intro d r k e hk
    have hk0 : σ.used k = false := effV_use (by rw [← e]; exact hex) hk
    cases ey with
    | none => exact hk0
    | some q =>
      obtain ⟨d', r'⟩ := q
      simp only [AS.app, AS.grown]
      cases hi : r'.use with
      | some i =>
        have := (usedOK ex i (effV_use (r := r') hey hi)).2 d r e
        simp only [updI]
        split
        · rename_i e'; exact absurd (by rw [e'] at hk; exact hk) this
        · exact hk0
      | none => exact hk0
  refine ⟨σ.app lvl ey, by rw [stepV_eff hy, hey0]; rfl, ?_⟩
  rw [stepV_eff hx, hex1]
  simp only [Option.map_some, Option.some.injEq]
  cases ex with
  | none => rfl
  | some p =>
    cases ey with
    | none => rfl
    | some q =>
      obtain ⟨d, r⟩ := p
      obtain ⟨d', r'⟩ := q
      exact app_comm (fun e => a2 d (dx d r rfl) (by have := dy d' r' rfl; rw [this]; exact congrArg some e))
end
end Go.Abs
