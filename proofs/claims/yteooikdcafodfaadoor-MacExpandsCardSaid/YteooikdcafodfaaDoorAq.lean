/- Regions in the order of the text; code; a function. -/
import Derived.Test.YteooikdcafodfaaDoorAp
import Derived.Deep.LoopGhost
import Derived.Scope
namespace Go.Abs
set_option linter.unusedSimpArgs false
set_option linter.unusedVariables false
open Go Go.RowKit

inductive AX where
  | nrm | ret
  | exit (i : Nat)

def AX.to : AX → Exit
  | .nrm => .normal
  | .ret => .ret
  | .exit i => .exit i

def thenQ (R : AS → Prop) (Q : AX → AS → Prop) : AX → AS → Prop
  | .nrm, σ => R σ
  | x, σ => Q x σ

def blockQ (id : Nat) (Q : AX → AS → Prop) : AX → AS → Prop
  | .exit i, σ => if i = id then Q .nrm σ else Q (.exit i) σ
  | x, σ => Q x σ

/-- whatever concrete state fits σ: the code ends, and what it leaves fits a state of Q -/
def AW (P : Program) (N : Ent) (c : Code) (Q : AX → AS → Prop) (σ : AS) : Prop :=
  ∀ a w, Sim N σ a w → c.wp P (fun e a' w' => ∃ x σ', e = AX.to x ∧ Q x σ' ∧ Sim N σ' a' w') a w

section
variable {P : Program} {N : Ent} {E : Env} {Q : AX → AS → Prop} {σ σ' : AS}

theorem wanted_rel {ops : List Oper} {o : Oper} {b : Bool} (h : wantedV ops σ o = some b) {a : Act} {g : Ghost} {w : World} (hs : Slots g w σ.slots a) : Region.wanted o (yielded ops.toArray a.tmps) = b := by
  unfold wantedV at h
  unfold Region.wanted
  cases hg : o.guard with
  | none => rw [hg] at h; cases h; rfl
  | some p =>
    obtain ⟨j, want⟩ := p
    rw [hg] at h
    simp only at h ⊢
    cases hj : (ops[j]?).bind (·.dst) with
    | none => rw [hj] at h; cases h
    | some s =>
      rw [hj] at h
      simp only at h
      have hs1 := (hs s).1
      have hy : yielded ops.toArray a.tmps j = (match a.tmps[s]? with | some (.bool b) => some b | _ => none) := by
        unfold yielded
        rw [List.getElem?_toArray, hj]; rfl
      rw [hy]
      split at h
      · rename_i bb hsl
        cases h
        rw [hsl] at hs1; simp only [RV] at hs1
        cases ht : a.tmps[s]? with
        | none => simp [Array.getD_eq_getD_getElem?, ht, undef] at hs1
        | some v =>
          simp [Array.getD_eq_getD_getElem?, ht] at hs1
          subst hs1
          simp only
          cases bb <;> cases want <;> rfl
      · rename_i v hnb hsl
        cases h
        rw [hsl] at hs1; simp only [RV] at hs1
        cases ht : a.tmps[s]? with
        | none => rfl
        | some v' =>
          simp [Array.getD_eq_getD_getElem?, ht] at hs1
          subst hs1
          cases v' <;> first | rfl | exact absurd rfl (hnb _)
      · cases h

theorem stepV_sound (hE : EnvOK P E) (hN : EntOK E N) {ops : List Oper} {o : Oper} (h : stepV E N.lvl N.N ops σ o = some σ') {a : Act} {w : World} (hs : Sim N σ a w) {K : Act → World → Prop} {Q' : Exit → Act → World → Prop}
    (hK : ∀ a' w', Sim N σ' a' w' → K a' w') : if Region.wanted o (yielded ops.toArray a.tmps) = true then o.wp P a w K Q' else K (a.put o.dst undef) w := by
  obtain ⟨g, hv, hU, hD, hn, hdf, hsl⟩ := hs
  have hsl' : Slots g w σ.slots a := hsl
  unfold stepV at h
  cases hw : wantedV ops σ o with
  | none => rw [hw] at h; cases h
  | some b =>
    rw [hw] at h
    rw [wanted_rel hw hsl']
    cases b with
    | false =>
      simp only [Bool.false_eq_true, if_false] at h ⊢
      cases hd : o.dst with
      | none =>
        rw [hd] at h; cases h
        exact hK _ _ ⟨g, hv, hU, hD, hn, hdf, hsl⟩
      | some d =>
        rw [hd] at h
        simp only at h
        split at h
        · rename_i hlt
          cases h
          refine hK _ _ ⟨g, hv, hU, hD, by rw [put_size]; exact hn, by rw [put_defers]; exact hdf, ?_⟩
          exact hsl'.put (by rw [hn]; exact hlt) (by simp only [RV]) trivial
        · cases h
    | true =>
      simp only [if_true] at h ⊢
      have hρ := ev_rel hv hN hsl'
      split at h
      · -- it writes
        split at h
        · rename_i v b hwr
          obtain ⟨u, w', hrun, hv', hle, hr, ht⟩ := write_sound (o := o) hE hv hρ hwr
          have fin : ∀ (a' : Act), a' = a.put o.dst u → K a' w' := by
            rintro a' rfl
            split at h
            · rename_i d hd
              split at h
              · rename_i hlt
                cases h
                rw [hd] at hK ⊢
                exact hK _ _ ⟨g, hv', hU, hD, by rw [put_size]; exact hn, by rw [put_defers]; exact hdf, (hsl'.le hle).put (by rw [hn]; exact hlt) hr ht⟩
              · cases h
            · rename_i hd
              cases h
              rw [hd]
              exact hK _ _ ⟨g, hv', hU, hD, hn, hdf, hsl'.le hle⟩
          unfold Oper.wp
          rcases hrun with hrun | ⟨hrun, rfl⟩
          · rw [hrun]; exact fin _ rfl
          · rw [hrun]; exact fin _ rfl
        · cases h
      · split at h
        · rename_i d hd
          split at h
          · rename_i hlt
            simp only [Option.map_eq_some_iff] at h
            obtain ⟨r, hr, rfl⟩ := h
            rw [← hU, ← hD] at hr
            refine grow_sound hE hN hv hρ hd hr K Q' (fun u w' g' v1 l1 u1 d1 r1 t1 => ?_)
            rw [hd]
            refine hK _ _ ⟨g', ?_, ?_, ?_, by rw [put_size]; exact hn, by rw [put_defers]; exact hdf, (hsl'.le l1).put (by rw [hn]; exact hlt) r1 t1⟩
            · unfold AS.grown; rw [← hU]; exact v1
            · unfold AS.grown; rw [u1, hU]
            · unfold AS.grown; rw [d1, hD]; cases r.use <;> rfl
          · cases h
        · cases h

theorem regs_sound (hE : EnvOK P E) (hN : EntOK E N) {ops : List Oper} {Q' : Exit → Act → World → Prop} (hQ : ∀ a w, Sim N σ' a w → Q' .normal a w) :
    ∀ (l : List Oper) (k : Nat) (σ : AS) (a : Act) (w : World), (∀ j, l[j]? = ops[k + j]?) → regs E N.lvl N.N ops l σ = some σ' → Sim N σ a w → wpOps P ops.toArray Q' (List.range' k l.length) a w
  | [], k, σ, a, w, _, h, hs => by simp only [regs, Option.some.injEq] at h; subst h; exact hQ a w hs
  | o :: l, k, σ, a, w, hl, h, hs => by
    have h0 : ops.toArray[k]? = some o := by simpa using (hl 0).symm
    unfold regs at h
    split at h
    · rename_i σ1 h1
      rw [List.length_cons, List.range'_succ, wpOps_cons]
      unfold wpOp
      simp only [h0]
      have := stepV_sound (K := wpOps P ops.toArray Q' (List.range' (k + 1) l.length)) (Q' := Q') hE hN h1 hs (fun a' w' hs' => regs_sound hE hN hQ l (k + 1) σ1 a' w' (fun j => by
        have := hl (j + 1); simpa [Nat.add_assoc, Nat.add_comm 1 j] using this) h hs')
      split
      · rename_i hw; rw [if_pos hw] at this; exact .inl this
      · rename_i hw; rw [if_neg hw] at this; exact this
    · cases h

theorem AW_region (E : Env) (hE : EnvOK P E) (hN : EntOK E N) {id : Nat} {ops : List Oper} (σ' : AS) (h : regs E N.lvl N.N ops ops σ = some σ') (hQ : Q .nrm σ') : AW P N (.region id ops.toArray false) Q σ := by
  intro a w hs
  refine wp_region ?_
  have := regs_sound (Q' := fun e a' w' => ∃ x σ', e = AX.to x ∧ Q x σ' ∧ Sim N σ' a' w') hE hN (fun a w hs => ⟨.nrm, σ', rfl, hQ, hs⟩) ops 0 σ a w (by simp) h hs
  rw [List.size_toArray, List.range_eq_range']
  exact this

theorem AW_mono {c : Code} {Q' : AX → AS → Prop} (h : AW P N c Q σ) (hq : ∀ x σ, Q x σ → Q' x σ) : AW P N c Q' σ := fun a w hs =>
  wp_mono (h a w hs) fun _ _ _ ⟨x, σ', h1, h2, h3⟩ => ⟨x, σ', h1, hq _ _ h2, h3⟩

theorem AW_seq {a b : Code} (h : AW P N a (thenQ (AW P N b Q) Q) σ) : AW P N (.seq a b) Q σ := by
  intro ac w hs
  refine wp_seq (wp_mono (h ac w hs) ?_)
  rintro e a' w' ⟨x, σ', rfl, h2, h3⟩
  cases x with
  | nrm => exact h2 a' w' h3
  | ret => exact ⟨.ret, σ', rfl, h2, h3⟩
  | exit i => exact ⟨.exit i, σ', rfl, h2, h3⟩

theorem AW_skip (h : Q .nrm σ) : AW P N .skip Q σ := fun _ _ hs => wp_skip ⟨.nrm, σ, rfl, h, hs⟩
theorem AW_label {l : Nat} (h : Q .nrm σ) : AW P N (.label l) Q σ := fun _ _ hs => wp_label ⟨.nrm, σ, rfl, h, hs⟩
theorem AW_exit {i : Nat} (h : Q (.exit i) σ) : AW P N (.exit i) Q σ := fun _ _ hs => wp_exit ⟨.exit i, σ, rfl, h, hs⟩
theorem AW_ret (h : Q .ret σ) : AW P N .ret Q σ := fun _ _ hs => wp_ret ⟨.ret, σ, rfl, h, hs⟩

theorem AW_block {id : Nat} {c : Code} (h : AW P N c (blockQ id Q) σ) : AW P N (.block id c) Q σ := by
  intro a w hs
  refine wp_block (wp_mono (h a w hs) ?_)
  rintro e a' w' ⟨x, σ', rfl, h2, h3⟩
  cases x with
  | nrm => exact ⟨.nrm, σ', rfl, h2, h3⟩
  | ret => exact ⟨.ret, σ', rfl, h2, h3⟩
  | exit i =>
    simp only [AX.to, Exit.inBlock]
    simp only [blockQ] at h2
    split
    · rw [if_pos ‹_›] at h2; exact ⟨.nrm, σ', rfl, h2, h3⟩
    · rw [if_neg ‹_›] at h2; exact ⟨.exit i, σ', rfl, h2, h3⟩

theorem AW_scope {c : Code} (h : AW P N c Q σ) : AW P N (.scope c) Q σ := by
  intro a w hs
  refine wp_scope_straight (wp_mono (h a w hs) ?_)
  rintro e a' w' ⟨x, σ', rfl, h2, h3⟩
  cases x <;> exact ⟨_, σ', rfl, h2, h3⟩

theorem AW_cond {c : Operand} {x y : Code} {t : Bool} (E : Env) (hN : EntOK E N) (hc : ev E σ.slots c = .raw (.bool t)) (h : AW P N (if t then x else y) Q σ) : AW P N (.cond c x y) Q σ := by
  intro a w hs
  have hs0 := hs
  obtain ⟨g, hv, hU, hD, hn, hdf, hsl⟩ := hs
  have := (ev_rel hv hN hsl c).1
  rw [hc] at this; simp only [RV] at this
  exact wp_cond this (h a w hs0)

theorem AW_cond_any {c : Operand} {x y : Code} (E : Env) (hN : EntOK E N) (hc : ev E σ.slots c = .anyb) (h1 : AW P N x Q σ) (h2 : AW P N y Q σ) : AW P N (.cond c x y) Q σ := by
  intro a w hs
  have hs0 := hs
  obtain ⟨g, hv, hU, hD, hn, hdf, hsl⟩ := hs
  have := (ev_rel hv hN hsl c).1
  rw [hc] at this; simp only [RV] at this
  obtain ⟨b, hb⟩ := this
  refine wp_cond hb ?_
  cases b
  · exact h2 a w hs0
  · exact h1 a w hs0

theorem AW_loop {c : Code} (I : Nat → AS → Prop) (n : Nat) (h0 : I n σ) (round : ∀ n σ, I n σ → AW P N c (thenQ (fun σ' => ∃ m, m < n ∧ I m σ') Q) σ) : AW P N (.loop c) Q σ := by
  intro a w hs
  refine wp_loop_ghost (fun n a w => ∃ σ, I n σ ∧ Sim N σ a w) n ⟨σ, h0, hs⟩ ?_
  rintro n a w ⟨σ, hI, hs⟩
  refine wp_mono (round n σ hI a w hs) ?_
  rintro e a' w' ⟨x, σ', rfl, h2, h3⟩
  cases x with
  | nrm => obtain ⟨m, h4, h5⟩ := h2; exact ⟨m, h4, σ', h5, h3⟩
  | ret => exact ⟨.ret, σ', rfl, h2, h3⟩
  | exit i => exact ⟨.exit i, σ', rfl, h2, h3⟩
end
end Go.Abs
