/- Code, results, a function's promise. -/
import Derived.Test.YtjnmdphoaafjaaaG4
import Derived.Deep.LoopGhost
import Derived.Scope
/- Regions in the order of the text; code; a function. -/
namespace Go.Abs
set_option linter.unusedSimpArgs false
set_option linter.unusedVariables false
open Go Go.RowKit

inductive AX where
  | nrm | ret
  | exit (i : Nat)

def AX.to : AX → Exit
  | .nrm => .normal
  | .ret => .ret
  | .exit i => .exit i

def thenQ (R : AS → Prop) (Q : AX → AS → Prop) : AX → AS → Prop
  | .nrm, σ => R σ
  | x, σ => Q x σ

def blockQ (id : Nat) (Q : AX → AS → Prop) : AX → AS → Prop
  | .exit i, σ => if i = id then Q .nrm σ else Q (.exit i) σ
  | x, σ => Q x σ

/-- whatever concrete state fits σ: the code ends, and what it leaves fits a state of Q -/
def AW (P : Program) (N : Ent) (c : Code) (Q : AX → AS → Prop) (σ : AS) : Prop :=
  ∀ a w, Sim N σ a w → c.wp P (fun e a' w' => ∃ x σ', e = AX.to x ∧ Q x σ' ∧ Sim N σ' a' w') a w

section
variable {P : Program} {N : Ent} {E : Env} {Q : AX → AS → Prop} {σ σ' : AS}

theorem wanted_rel {ops : List Oper} {o : Oper} {b : Bool} (h : wantedV ops σ o = some b) {a : Act} {g : Ghost} {w : World} (hs : Slots g w σ.slots a) : Region.wanted o (yielded ops.toArray a.tmps) = b := by
  unfold wantedV at h
  unfold Region.wanted
  cases hg : o.guard with
  | none => rw [hg] at h; cases h; rfl
  | some p =>
    obtain ⟨j, want⟩ := p
    rw [hg] at h
    simp only at h ⊢
    cases hj : (ops[j]?).bind (·.dst) with
    | none => rw [hj] at h; cases h
    | some s =>
      rw [hj] at h
      simp only at h
      have hs1 := (hs s).1
      have hy : yielded ops.toArray a.tmps j = (match a.tmps[s]? with | some (.bool b) => some b | _ => none) := by
        unfold yielded
        rw [List.getElem?_toArray, hj]; rfl
      rw [hy]
      split at h
      · rename_i bb hsl
        cases h
        rw [hsl] at hs1; simp only [RV] at hs1
        cases ht : a.tmps[s]? with
        | none => simp [Array.getD_eq_getD_getElem?, ht, undef] at hs1
        | some v =>
          simp [Array.getD_eq_getD_getElem?, ht] at hs1
          subst hs1
          simp only
          cases bb <;> cases want <;> rfl
      · rename_i v hnb hsl
        cases h
        rw [hsl] at hs1; simp only [RV] at hs1
        cases ht : a.tmps[s]? with
        | none => rfl
        | some v' =>
          simp [Array.getD_eq_getD_getElem?, ht] at hs1
          subst hs1
          cases v' <;> first | rfl | exact absurd rfl (hnb _)
      · cases h

theorem stepV_sound (hE : EnvOK P E) (hN : EntOK E N) {ops : List Oper} {o : Oper} (h : stepV E N.lvl N.N ops σ o = some σ') {a : Act} {w : World} (hs : Sim N σ a w) {K : Act → World → Prop} {Q' : Exit → Act → World → Prop}
    (hK : ∀ a' w', Sim N σ' a' w' → K a' w') : if Region.wanted o (yielded ops.toArray a.tmps) = true then o.wp P a w K Q' else K (a.put o.dst undef) w := by
  obtain ⟨g, hv, hU, hD, hn, hdf, hsl⟩ := hs
  have hsl' : Slots g w σ.slots a := hsl
  unfold stepV at h
  cases hw : wantedV ops σ o with
  | none => rw [hw] at h; cases h
  | some b =>
    rw [hw] at h
    rw [wanted_rel hw hsl']
    cases b with
    | false =>
      simp only [Bool.false_eq_true, if_false] at h ⊢
      cases hd : o.dst with
      | none =>
        rw [hd] at h; cases h
        exact hK _ _ ⟨g, hv, hU, hD, hn, hdf, hsl⟩
      | some d =>
        rw [hd] at h
        simp only at h
        split at h
        · rename_i hlt
          cases h
          refine hK _ _ ⟨g, hv, hU, hD, by rw [put_size]; exact hn, by rw [put_defers]; exact hdf, ?_⟩
          exact hsl'.put (by rw [hn]; exact hlt) (by simp only [RV]) trivial
        · cases h
    | true =>
      simp only [if_true] at h ⊢
      have hρ := ev_rel hv hN hsl'
      split at h
      · -- it writes
        split at h
        · rename_i v b hwr
          obtain ⟨u, w', hrun, hv', hle, hr, ht⟩ := write_sound (o := o) hE hv hρ hwr
          have fin : ∀ (a' : Act), a' = a.put o.dst u → K a' w' := by
            rintro a' rfl
            split at h
            · rename_i d hd
              split at h
              · rename_i hlt
                cases h
                rw [hd] at hK ⊢
                exact hK _ _ ⟨g, hv', hU, hD, by rw [put_size]; exact hn, by rw [put_defers]; exact hdf, (hsl'.le hle).put (by rw [hn]; exact hlt) hr ht⟩
              · cases h
            · rename_i hd
              cases h
              rw [hd]
              exact hK _ _ ⟨g, hv', hU, hD, hn, hdf, hsl'.le hle⟩
          unfold Oper.wp
          rcases hrun with hrun | ⟨hrun, rfl⟩
          · rw [hrun]; exact fin _ rfl
          · rw [hrun]; exact fin _ rfl
        · cases h
      · split at h
        · rename_i d hd
          split at h
          · rename_i hlt
            simp only [Option.map_eq_some_iff] at h
            obtain ⟨r, hr, rfl⟩ := h
            rw [← hU, ← hD] at hr
            refine grow_sound hE hN hv hρ hr K Q' (fun u w' g' v1 l1 u1 d1 r1 t1 => ?_)
            rw [hd]
            refine hK _ _ ⟨g', ?_, ?_, ?_, by rw [put_size]; exact hn, by rw [put_defers]; exact hdf, (hsl'.le l1).put (by rw [hn]; exact hlt) r1 t1⟩
            · unfold AS.grown; rw [← hU]; exact v1
            · unfold AS.grown; rw [u1, hU]
            · unfold AS.grown; rw [d1, hD]; rfl
          · cases h
        · rename_i hd
          split at h
          · simp only [Option.map_eq_some_iff] at h
            obtain ⟨r, hr, rfl⟩ := h
            rw [← hU, ← hD] at hr
            refine grow_sound hE hN hv hρ hr K Q' (fun u w' g' v1 l1 u1 d1 r1 t1 => ?_)
            rw [hd]
            refine hK _ _ ⟨g', ?_, ?_, ?_, by rw [put_size]; exact hn, by rw [put_defers]; exact hdf, hsl'.le l1⟩
            · show Valid N g' (σ.grown N.lvl N.N r).box w'
              unfold AS.grown; rw [← hU]; exact v1
            · show g'.U = (σ.grown N.lvl N.N r).gen
              unfold AS.grown; rw [u1, hU]
            · show g'.D = (σ.grown N.lvl N.N r).used
              unfold AS.grown; rw [d1, hD]; rfl
          · cases h

theorem regs_sound (hE : EnvOK P E) (hN : EntOK E N) {ops : List Oper} {Q' : Exit → Act → World → Prop} (hQ : ∀ a w, Sim N σ' a w → Q' .normal a w) :
    ∀ (l : List Oper) (k : Nat) (σ : AS) (a : Act) (w : World), (∀ j, l[j]? = ops[k + j]?) → regs E N.lvl N.N ops l σ = some σ' → Sim N σ a w → wpOps P ops.toArray Q' (List.range' k l.length) a w
  | [], k, σ, a, w, _, h, hs => by simp only [regs, Option.some.injEq] at h; subst h; exact hQ a w hs
  | o :: l, k, σ, a, w, hl, h, hs => by
    have h0 : ops.toArray[k]? = some o := by simpa using (hl 0).symm
    unfold regs at h
    split at h
    · rename_i σ1 h1
      rw [List.length_cons, List.range'_succ, wpOps_cons]
      unfold wpOp
      simp only [h0]
      have := stepV_sound (K := wpOps P ops.toArray Q' (List.range' (k + 1) l.length)) (Q' := Q') hE hN h1 hs (fun a' w' hs' => regs_sound hE hN hQ l (k + 1) σ1 a' w' (fun j => by
        have := hl (j + 1); simpa [Nat.add_assoc, Nat.add_comm 1 j] using this) h hs')
      split
      · rename_i hw; rw [if_pos hw] at this; exact .inl this
      · rename_i hw; rw [if_neg hw] at this; exact this
    · cases h

theorem AW_region (E : Env) (hE : EnvOK P E) (hN : EntOK E N) {id : Nat} {ops : List Oper} (σ' : AS) (h : regs E N.lvl N.N ops ops σ = some σ') (hQ : Q .nrm σ') : AW P N (.region id ops.toArray false) Q σ := by
  intro a w hs
  refine wp_region ?_
  have := regs_sound (Q' := fun e a' w' => ∃ x σ', e = AX.to x ∧ Q x σ' ∧ Sim N σ' a' w') hE hN (fun a w hs => ⟨.nrm, σ', rfl, hQ, hs⟩) ops 0 σ a w (by simp) h hs
  rw [List.size_toArray, List.range_eq_range']
  exact this

theorem AW_mono {c : Code} {Q' : AX → AS → Prop} (h : AW P N c Q σ) (hq : ∀ x σ, Q x σ → Q' x σ) : AW P N c Q' σ := fun a w hs =>
  wp_mono (h a w hs) fun _ _ _ ⟨x, σ', h1, h2, h3⟩ => ⟨x, σ', h1, hq _ _ h2, h3⟩

theorem AW_seq {a b : Code} (h : AW P N a (thenQ (AW P N b Q) Q) σ) : AW P N (.seq a b) Q σ := by
  intro ac w hs
  refine wp_seq (wp_mono (h ac w hs) ?_)
  rintro e a' w' ⟨x, σ', rfl, h2, h3⟩
  cases x with
  | nrm => exact h2 a' w' h3
  | ret => exact ⟨.ret, σ', rfl, h2, h3⟩
  | exit i => exact ⟨.exit i, σ', rfl, h2, h3⟩

theorem AW_skip (h : Q .nrm σ) : AW P N .skip Q σ := fun _ _ hs => wp_skip ⟨.nrm, σ, rfl, h, hs⟩
theorem AW_label {l : Nat} (h : Q .nrm σ) : AW P N (.label l) Q σ := fun _ _ hs => wp_label ⟨.nrm, σ, rfl, h, hs⟩
theorem AW_exit {i : Nat} (h : Q (.exit i) σ) : AW P N (.exit i) Q σ := fun _ _ hs => wp_exit ⟨.exit i, σ, rfl, h, hs⟩
theorem AW_ret (h : Q .ret σ) : AW P N .ret Q σ := fun _ _ hs => wp_ret ⟨.ret, σ, rfl, h, hs⟩

theorem AW_block {id : Nat} {c : Code} (h : AW P N c (blockQ id Q) σ) : AW P N (.block id c) Q σ := by
  intro a w hs
  refine wp_block (wp_mono (h a w hs) ?_)
  rintro e a' w' ⟨x, σ', rfl, h2, h3⟩
  cases x with
  | nrm => exact ⟨.nrm, σ', rfl, h2, h3⟩
  | ret => exact ⟨.ret, σ', rfl, h2, h3⟩
  | exit i =>
    simp only [AX.to, Exit.inBlock]
    simp only [blockQ] at h2
    split
    · rw [if_pos ‹_›] at h2; exact ⟨.nrm, σ', rfl, h2, h3⟩
    · rw [if_neg ‹_›] at h2; exact ⟨.exit i, σ', rfl, h2, h3⟩

theorem AW_scope {c : Code} (h : AW P N c Q σ) : AW P N (.scope c) Q σ := by
  intro a w hs
  refine wp_scope_straight (wp_mono (h a w hs) ?_)
  rintro e a' w' ⟨x, σ', rfl, h2, h3⟩
  cases x <;> exact ⟨_, σ', rfl, h2, h3⟩

theorem AW_cond {c : Operand} {x y : Code} {t : Bool} (E : Env) (hN : EntOK E N) (hc : ev E σ.slots c = .raw (.bool t)) (h : AW P N (if t then x else y) Q σ) : AW P N (.cond c x y) Q σ := by
  intro a w hs
  have hs0 := hs
  obtain ⟨g, hv, hU, hD, hn, hdf, hsl⟩ := hs
  have := (ev_rel hv hN hsl c).1
  rw [hc] at this; simp only [RV] at this
  exact wp_cond this (h a w hs0)

theorem AW_cond_any {c : Operand} {x y : Code} (E : Env) (hN : EntOK E N) (hc : ev E σ.slots c = .anyb) (h1 : AW P N x Q σ) (h2 : AW P N y Q σ) : AW P N (.cond c x y) Q σ := by
  intro a w hs
  have hs0 := hs
  obtain ⟨g, hv, hU, hD, hn, hdf, hsl⟩ := hs
  have := (ev_rel hv hN hsl c).1
  rw [hc] at this; simp only [RV] at this
  obtain ⟨b, hb⟩ := this
  refine wp_cond hb ?_
  cases b
  · exact h2 a w hs0
  · exact h1 a w hs0

theorem AW_loop {c : Code} (I : Nat → AS → Prop) (n : Nat) (h0 : I n σ) (round : ∀ n σ, I n σ → AW P N c (thenQ (fun σ' => ∃ m, m < n ∧ I m σ') Q) σ) : AW P N (.loop c) Q σ := by
  intro a w hs
  refine wp_loop_ghost (fun n a w => ∃ σ, I n σ ∧ Sim N σ a w) n ⟨σ, h0, hs⟩ ?_
  rintro n a w ⟨σ, hI, hs⟩
  refine wp_mono (round n σ hI a w hs) ?_
  rintro e a' w' ⟨x, σ', rfl, h2, h3⟩
  cases x with
  | nrm => obtain ⟨m, h4, h5⟩ := h2; exact ⟨m, h4, σ', h5, h3⟩
  | ret => exact ⟨.ret, σ', rfl, h2, h3⟩
  | exit i => exact ⟨.exit i, σ', rfl, h2, h3⟩
end
end Go.Abs

/- What a function hands back; a function's promise out of its body. -/
namespace Go.Abs
set_option linter.unusedSimpArgs false
set_option linter.unusedVariables false
open Go Go.RowKit

/-- a result slot or variable -/
def rawRes (te : TypeId → Option TI) (σ : AS) : ResultVar → Option AV
  | .tmp t => some (σ.slots t)
  | .cell a t => loadV te σ.box t (σ.slots a)

/-- a result as the caller gets it, and whose room it takes along -/
def export1 (σ : AS) (c : Nat) : AV → Option (AV × Option Id)
  | .sl n xs (.own i z) => if pureL xs = true then (if σ.used i then some (.sl n xs .bor, none) else some (.sl n xs (.own ⟨0, 0, c, 0⟩ z), some i)) else none
  | .sl n xs .bor => if pureL xs = true then some (.sl n xs .bor, none) else none
  | .sl n xs .full => if pureL xs = true then some (.sl n xs .bor, none) else none
  | .view b off n _ z => (σ.box b).bind fun xs => if off + n * z ≤ xs.length ∧ pureL ((xs.drop off).take (n * z)) = true then some (.sl n ((xs.drop off).take (n * z)) .bor, none) else none
  | .raw v => some (.raw v, none)
  | .anyb => some (.anyb, none)
  | .agg xs => if pureL xs = true then some (.agg xs, none) else none
  | .fn f [] => some (.fn f [], none)
  | _ => none

def exports (σ : AS) : Nat → List AV → Option (List AV × List (Nat × Id))
  | _, [] => some ([], [])
  | c, v :: vs => (export1 σ c v).bind fun r => (exports σ (c + 1) vs).bind fun rs => some (r.1 :: rs.1, (match r.2 with | some i => [(c, i)] | none => []) ++ rs.2)

def rawsRes (te : TypeId → Option TI) (σ : AS) : List ResultVar → Option (List AV)
  | [] => some []
  | r :: rs => (rawRes te σ r).bind fun v => (rawsRes te σ rs).map (v :: ·)

/-- what a function's frame comes to -/
def resV (te : TypeId → Option TI) (rs : List ResultVar) (σ : AS) : Option AV :=
  (rawsRes te σ rs).bind fun vs => (exports σ 0 vs).bind fun p =>
    if (p.2.map (·.2)).Nodup then (match p.1 with | [v] => some v | vs => some (.tup vs)) else none

section
variable {P : Program} {N : Ent} {E : Env} {g : Ghost} {σ : AS} {a : Act} {w : World}

theorem rawRes_rel (hte : TeOK P E.te) (hv : Valid N g σ.box w) (hs : Slots g w σ.slots a) {r : ResultVar} {v : AV} (h : rawRes E.te σ r = some v) :
    ∃ u, ((match r with | .tmp t => Pure.pure (a.tmps.getD t undef) | .cell x t => do loadVar t (← asAddr (a.tmps.getD x undef)) : Sem Value)).run P w = .ok u w ∧ RV g.μ g.G w v u ∧ Top g v u := by
  cases r with
  | tmp t => simp only [rawRes, Option.some.injEq] at h; subst h; exact ⟨_, rfl, (hs t).1, (hs t).2⟩
  | cell x t =>
    simp only [rawRes] at h
    have hx := (hs x).1
    unfold loadV at h
    split at h
    · rename_i b off e
      rw [e] at hx; simp only [RV] at hx
      obtain ⟨k, hk, he⟩ := hx
      simp only [Option.bind_eq_some_iff] at h
      obtain ⟨xs, hxs, h⟩ := h
      obtain ⟨u, hu, h6, h7⟩ := run_loadBox_rel (P := P) hte hv hk hxs h
      refine ⟨u, ?_, h6, h7⟩
      show (do loadVar t (← asAddr (a.tmps.getD x undef)) : Sem Value).run P w = _
      rw [he]; simpa [asAddr] using hu
    · rename_i xs e
      rw [e] at hx; simp only [RV] at hx
      obtain ⟨k, off, us, he, h4, h5⟩ := hx
      obtain ⟨u, hu, h6, h7⟩ := run_loadVar_rel (k := k) (b := off) hte h4 (fun j hj => (h5 j hj).1) h
      refine ⟨u, ?_, h6, h7⟩
      show (do loadVar t (← asAddr (a.tmps.getD x undef)) : Sem Value).run P w = _
      rw [he]; simpa [asAddr] using hu
    · cases h

theorem rawsRes_rel (hte : TeOK P E.te) (hv : Valid N g σ.box w) (hs : Slots g w σ.slots a) : ∀ {rs : List ResultVar} {vs : List AV}, rawsRes E.te σ rs = some vs →
    ∃ us, (rs.mapM (m := Sem) fun | .tmp t => Pure.pure (a.tmps.getD t undef) | .cell x t => do loadVar t (← asAddr (a.tmps.getD x undef))).run P w = .ok us w ∧ RVs g.μ g.G w vs us ∧ ∀ (j : Nat) v u, vs[j]? = some v → us[j]? = some u → Top g v u
  | [], vs, h => by simp only [rawsRes, Option.some.injEq] at h; subst h; exact ⟨[], rfl, RVs.nil, fun j v u h => by simp at h⟩
  | r :: rs, vs, h => by
    simp only [rawsRes, Option.bind_eq_some_iff, Option.map_eq_some_iff] at h
    obtain ⟨v, h1, vs', h2, rfl⟩ := h
    obtain ⟨u, r1, r2, r3⟩ := rawRes_rel hte hv hs h1
    obtain ⟨us, s1, s2, s3⟩ := rawsRes_rel hte hv hs h2
    refine ⟨u :: us, ?_, by simp only [RVs]; exact ⟨u, us, rfl, r2, s2⟩, fun j v' u' hv' hu' => ?_⟩
    · rw [List.mapM_cons, Sem.run_bind, r1]
      simp only [Result.andThen_ok, Sem.run_bind, s1, Sem.run_pure]
    · cases j with
      | zero => simp at hv' hu'; subst hv'; subst hu'; exact r3
      | succ j => exact s3 j v' u' (by simpa using hv') (by simpa using hu')

/-- a result handed over -/
theorem export1_rel (hv : Valid N g σ.box w) (hD : g.D = σ.used) {v : AV} {u : Value} (hr : RV g.μ g.G w v u) (ht : Top g v u) {c : Nat} {v' : AV} {oi : Option Id} (h : export1 σ c v = some (v', oi)) :
    RV noMu (boxG g σ.box) w v' u ∧ (∀ i, oi = some i → ∃ n xs z, v' = .sl n xs (.own ⟨0, 0, c, 0⟩ z) ∧ g.D i = false) ∧
    (∀ (T : Nat → Option (Nat × Nat × Nat)), (∀ i, oi = some i → T c = g.T i) → ∀ n xs fl, v' = .sl n xs fl → FlOK (resG (boxG g σ.box) T) fl xs.length u) ∧ (∀ vs, v' ≠ .tup vs) ∧ ∀ xs, v' ≠ .nptr xs := by
  have up : ∀ v u, pureA v = true → RV g.μ g.G w v u → RV noMu (boxG g σ.box) w v u := fun v u hp h => RV.mono (fun _ _ h => h) (fun _ _ h => .inl h) (fun _ _ _ => rfl) _ _ (RV.pure (μ' := noMu) v u hp h)
  unfold export1 at h
  split at h
  · rename_i n xs i z
    split at h
    · rename_i hp
      split at h
      · cases h
        refine ⟨?_, by simp, fun T _ n' xs' fl e => by cases e; trivial, by simp, by simp⟩
        have := up (.sl n xs (.own i z)) u (by simpa [pureA] using hp) hr
        simpa only [RV] using this
      · rename_i hu
        cases h
        have hDi : g.D i = false := by rw [hD]; simpa using hu
        refine ⟨?_, fun i' e => by cases e; exact ⟨n, xs, z, rfl, hDi⟩, fun T hT n' xs' fl e => ?_, by simp, by simp⟩
        · have := up (.sl n xs (.own i z)) u (by simpa [pureA] using hp) hr
          simpa only [RV] using this
        · cases e
          simp only [Top] at ht
          cases u with
          | slice A n' c' =>
            simp only [FlOK, resG] at ht ⊢
            refine ⟨.inl ⟨rfl, Nat.le_refl _⟩, ?_⟩
            rcases ht.2 with h1 | h1 | ⟨k, o, lo, hi, e1, e2, e3, e4⟩
            · rw [hDi] at h1; cases h1
            · exact .inr (.inl h1)
            · exact .inr (.inr ⟨k, o, lo, hi, e1, e2, by simp only [and_self, if_true]; rw [hT i rfl]; exact e3, e4⟩)
          | _ => simp only [FlOK] at ht
    · cases h
  · rename_i n xs
    split at h
    · rename_i hp
      cases h
      exact ⟨up _ u (by simpa [pureA] using hp) hr, by simp, fun T _ n' xs' fl e => by cases e; trivial, by simp, by simp⟩
    · cases h
  · rename_i n xs
    split at h
    · rename_i hp
      cases h
      refine ⟨?_, by simp, fun T _ n' xs' fl e => by cases e; trivial, by simp, by simp⟩
      have := up (.sl n xs .full) u (by simpa [pureA] using hp) hr
      simpa only [RV] using this
    · cases h
  · rename_i b off n c' z
    simp only [Option.bind_eq_some_iff] at h
    obtain ⟨xs, hx, h⟩ := h
    split at h
    · rename_i hc
      cases h
      refine ⟨?_, by simp, fun T _ n' xs' fl e => by cases e; trivial, by simp, by simp⟩
      simp only [RV] at hr ⊢
      obtain ⟨k, oo, c'', hm, rfl, hcc, hnc, hoo⟩ := hr
      obtain ⟨us, h4, h5, _⟩ := hv.box_cells hm hx
      right
      by_cases hc0 : c' = 0
      · have hn0 : n = 0 := by omega
        subst hn0
        refine ⟨k, oo, c'', [], rfl, Nat.zero_le _, ?_, fun j hj => by simp at hj⟩
        simp; exact RVs.nil
      · have : oo = off := by rcases hoo with h | h; · exact h
                              · exact absurd h hc0
        subst this
        have hul := h4.length
        refine ⟨k, oo, c'', _, rfl, Nat.le_trans hnc hcc, RVs.mono (fun _ _ h => h) (fun _ _ h => .inl h) (fun _ _ _ => rfl) _ _ (RVs.pure (μ' := noMu) _ _ hc.2 ((h4.drop oo).take (n * z))), fun j hj => ?_⟩
        rw [List.length_take, List.length_drop] at hj
        refine ⟨?_, .inr ⟨b, xs, hm, hx, by omega⟩⟩
        rw [List.getElem?_take, if_pos (by omega), List.getElem?_drop]
        exact h5 _ (by omega)
    · cases h
  · cases h; exact ⟨by simpa only [RV] using hr, by simp, fun T _ n' xs' fl e => (by cases e), by simp, by simp⟩
  · cases h; exact ⟨by simpa only [RV] using hr, by simp, fun T _ n' xs' fl e => (by cases e), by simp, by simp⟩
  · rename_i xs
    split at h
    · rename_i hp
      cases h
      exact ⟨up _ u (by simpa [pureA] using hp) hr, by simp, fun T _ n' xs' fl e => (by cases e), by simp, by simp⟩
    · cases h
  · cases h; exact ⟨by simpa only [RV, RVs] using hr, by simp, fun T _ n' xs' fl e => (by cases e), by simp, by simp⟩
  · cases h

theorem exports_rel (hv : Valid N g σ.box w) (hD : g.D = σ.used) : ∀ {vs : List AV} {us : List Value} {c : Nat} {p : List AV × List (Nat × Id)}, exports σ c vs = some p → RVs g.μ g.G w vs us → (∀ (j : Nat) v u, vs[j]? = some v → us[j]? = some u → Top g v u) →
    RVs noMu (boxG g σ.box) w p.1 us ∧ (∀ q ∈ p.2, c ≤ q.1 ∧ g.D q.2 = false) ∧ (p.2.map (·.1)).Nodup ∧
    ∀ (T : Nat → Option (Nat × Nat × Nat)), (∀ q ∈ p.2, T q.1 = g.T q.2) → ∀ (j : Nat) n xs fl u, p.1[j]? = some (.sl n xs fl) → us[j]? = some u → FlOK (resG (boxG g σ.box) T) fl xs.length u
  | [], us, c, p, h, hr, ht => by
    simp only [exports, Option.some.injEq] at h; subst h
    simp only [RVs] at hr; subst hr
    exact ⟨RVs.nil, by simp, by simp, fun T _ j n xs fl u h => by simp at h⟩
  | v :: vs, us, c, p, h, hr, ht => by
    simp only [exports, Option.bind_eq_some_iff, Option.some.injEq] at h
    obtain ⟨⟨v', oi⟩, h1, rs, h2, rfl⟩ := h
    simp only [RVs] at hr
    obtain ⟨u, us', rfl, r1, r2⟩ := hr
    obtain ⟨e1, e2, e3, _⟩ := export1_rel hv hD r1 (ht 0 _ _ rfl rfl) h1
    obtain ⟨f1, f2, f3, f4⟩ := exports_rel hv hD h2 r2 (fun j v u hv hu => ht (j + 1) v u (by simpa using hv) (by simpa using hu))
    refine ⟨by simp only [RVs]; exact ⟨u, us', rfl, e1, f1⟩, ?_, ?_, ?_⟩
    · intro q hq
      simp only [List.mem_append] at hq
      rcases hq with hq | hq
      · cases oi with
        | none => simp at hq
        | some i =>
          simp at hq; subst hq
          obtain ⟨_, _, _, _, hd⟩ := e2 i rfl
          exact ⟨Nat.le_refl _, hd⟩
      · exact ⟨by have := (f2 q hq).1; omega, (f2 q hq).2⟩
    · cases oi with
      | none => simpa using f3
      | some i =>
        simp only [List.map_append, List.map_cons, List.map_nil, List.singleton_append, List.nodup_cons]
        refine ⟨fun hm => ?_, f3⟩
        obtain ⟨q, hq, he⟩ := List.mem_map.1 hm
        have := (f2 q hq).1
        omega
    · intro T hT j n xs fl u0 hj hu
      cases j with
      | zero =>
        simp at hj hu; subst hu
        exact e3 T (fun i hi => hT (c, i) (by subst hi; simp)) n xs fl hj
      | succ j =>
        exact f4 T (fun q hq => hT q (by simp only [List.mem_append]; exact .inr hq)) j n xs fl u0 (by simpa using hj) (by simpa using hu)
end
end Go.Abs

/- A function's promise out of its body. -/
namespace Go.Abs
set_option linter.unusedSimpArgs false
set_option linter.unusedVariables false
open Go Go.RowKit

/-- how a function begins -/
def start (args : List AV) : AS :=
  { slots := fun i => match args[i]? with | some v => strip v | none => .raw undef
    gen := fun _ => 0
    box := fun _ => none
    used := fun _ => false }

/-- told less of -/
inductive Weak1 : Nat → AV → AV → Prop
  | same (c : Nat) (v : AV) : Weak1 c v v
  | nil (c z : Nat) : Weak1 c (.raw (.slice none 0 0)) (.sl 0 [] (.own ⟨0, 0, c, 0⟩ z))
  | nilb (c : Nat) : Weak1 c (.raw (.slice none 0 0)) (.sl 0 [] .bor)
  | bor (c n : Nat) (xs : List AV) (fl : Fl) : Weak1 c (.sl n xs fl) (.sl n xs .bor)
  | any (c : Nat) (b : Bool) : Weak1 c (.raw (.bool b)) .anyb
inductive Weak : AV → AV → Prop
  | one {v r : AV} (h : Weak1 0 v r) : Weak v r
  | tup {vs rs : List AV} (hl : vs.length = rs.length) (h : ∀ (j : Nat) (v r : AV), vs[j]? = some v → rs[j]? = some r → Weak1 j v r) : Weak (.tup vs) (.tup rs)
def ResQ (o : Option AV) (r : AV) : Prop := ∃ v, o = some v ∧ Weak v r
theorem ResQ.same {v r : AV} (h : v = r) : ResQ (some v) r := ⟨v, rfl, by rw [h]; exact .one (.same 0 r)⟩
theorem ResQ.nil (z : Nat) : ResQ (some (.raw (.slice none 0 0))) (.sl 0 [] (.own ⟨0, 0, 0, 0⟩ z)) := ⟨_, rfl, .one (.nil 0 z)⟩
theorem ResQ.nilb : ResQ (some (.raw (.slice none 0 0))) (.sl 0 [] .bor) := ⟨_, rfl, .one (.nilb 0)⟩
theorem ResQ.bor {n : Nat} {xs : List AV} {fl : Fl} : ResQ (some (.sl n xs fl)) (.sl n xs .bor) := ⟨_, rfl, .one (.bor 0 n xs fl)⟩
theorem ResQ.any (b : Bool) : ResQ (some (.raw (.bool b))) .anyb := ⟨_, rfl, .one (.any 0 b)⟩

theorem Weak1.rel {G : Nat → Nat → Prop} {w : World} {c : Nat} {v r : AV} {u : Value} (h : Weak1 c v r) (hv : RV noMu G w v u) : RV noMu G w r u := by
  cases h with
  | same => exact hv
  | nil => simp only [RV] at hv ⊢; exact .inl (by simpa using hv)
  | nilb => simp only [RV] at hv ⊢; exact .inl (by simpa using hv)
  | bor => simpa only [RV] using hv
  | any => simp only [RV] at hv ⊢; exact ⟨_, hv⟩
theorem Weak1.flok {G : Nat → Nat → Prop} {w : World} {T : Nat → Option (Nat × Nat × Nat)} {c : Nat} {v r : AV} {u : Value} (h : Weak1 c v r) (hv : RV noMu G w v u) (ht : ∀ n xs fl, v = .sl n xs fl → FlOK (resG G T) fl xs.length u) :
    ∀ n xs fl, r = .sl n xs fl → FlOK (resG G T) fl xs.length u := by
  rintro n xs fl rfl
  cases h with
  | same => exact ht _ _ _ rfl
  | nil => simp only [RV] at hv; subst hv; simp [FlOK, resG, made]
  | nilb => simp only [RV] at hv; subst hv; simp [FlOK]
  | bor => simp [FlOK]
theorem PostV.weak {G : Nat → Nat → Prop} {w : World} {v r : AV} {u : Value} {G' : Nat → Nat → Prop} {w' : World} {T : Nat → Option (Nat × Nat × Nat)} (h : PostV G w v u G' w' T) (hw : Weak v r) : PostV G w r u G' w' T := by
  refine { h with rel := ?_, top := ?_ }
  · cases hw with
    | one h1 => exact h1.rel h.rel
    | tup hl h1 =>
      have hr := h.rel
      simp only [RV] at hr ⊢
      obtain ⟨us, h2, h3⟩ := hr
      refine ⟨us, h2, RVs.of_get (by rw [h3.length, hl]) fun j x u hx hu => ?_⟩
      rename_i vs rs
      have hj : j < vs.length := by rw [hl]; exact (List.getElem?_eq_some_iff.1 hx).1
      obtain ⟨u', h5, h6⟩ := h3.get j vs[j] (List.getElem?_eq_getElem hj)
      rw [hu] at h5; cases h5
      exact (h1 j _ _ (List.getElem?_eq_getElem hj) hx).rel h6
  · cases hw with
    | one h1 =>
      have ht := h.top
      have hr := h.rel
      cases h1 with
      | same => exact ht
      | nil => simp only [RV] at hr; subst hr; simp [Top, FlOK, resG, made]
      | nilb => simp only [RV] at hr; subst hr; simp [Top, FlOK]
      | bor => simp [Top, FlOK]
      | any => trivial
    | tup hl h1 =>
      have ht := h.top
      have hr := h.rel
      simp only [Top] at ht ⊢
      simp only [RV] at hr
      obtain ⟨us, h2, h3⟩ := hr
      obtain ⟨us', h4, h5⟩ := ht
      rw [h2] at h4
      cases h4
      refine ⟨_, h2, fun j n xs fl u hx hu => ?_⟩
      rename_i vs rs
      have hj : j < vs.length := by rw [hl]; exact (List.getElem?_eq_some_iff.1 hx).1
      obtain ⟨u', h6, h7⟩ := h3.get j vs[j] (List.getElem?_eq_getElem hj)
      have hu' : us[j]? = some u := by simpa using hu
      rw [hu'] at h6; cases h6
      exact (h1 j _ _ (List.getElem?_eq_getElem hj) hx).flok h7 (fun n xs fl e => h5 j n xs fl u (by rw [List.getElem?_eq_getElem hj, e]) hu) n xs fl rfl

/-- how a function ends -/
def endQ (te : TypeId → Option TI) (rs : List ResultVar) (r : AV) : AX → AS → Prop
  | .exit _, _ => False
  | _, σ => ResQ (resV te rs σ) r

theorem lookup_of {β : Type} : ∀ {l : List (Nat × β)}, (l.map (·.1)).Nodup → ∀ q ∈ l, l.find? (fun p => p.1 == q.1) = some q
  | [], _, q, h => by cases h
  | p :: l, hn, q, h => by
    simp only [List.map_cons, List.nodup_cons] at hn
    rcases List.mem_cons.1 h with rfl | h
    · simp
    · have : p.1 ≠ q.1 := fun e => hn.1 (by rw [e]; exact List.mem_map.2 ⟨q, h, rfl⟩)
      rw [List.find?_cons, show (p.1 == q.1) = false by simpa using this]
      exact lookup_of hn.2 q h

theorem nodup_snd {α β : Type} : ∀ {l : List (α × β)}, (l.map (·.2)).Nodup → ∀ p ∈ l, ∀ q ∈ l, p.2 = q.2 → p = q
  | [], _, p, h, _, _, _ => by cases h
  | x :: l, hn, p, hp, q, hq, e => by
    simp only [List.map_cons, List.nodup_cons] at hn
    rcases List.mem_cons.1 hp with h1 | h1 <;> rcases List.mem_cons.1 hq with h2 | h2
    · rw [h1, h2]
    · exact absurd (List.mem_map.2 ⟨q, h2, by rw [← e, h1]⟩) hn.1
    · exact absurd (List.mem_map.2 ⟨p, h1, by rw [e, h2]⟩) hn.1
    · exact nodup_snd hn.2 p h1 q h2 e

theorem exports_notup {σ : AS} : ∀ {vs : List AV} {c : Nat} {p : List AV × List (Nat × Id)}, exports σ c vs = some p → ∀ v ∈ p.1, ∀ ws, v ≠ .tup ws
  | [], c, p, h, v, hv, ws => by simp only [exports, Option.some.injEq] at h; subst h; cases hv
  | x :: vs, c, p, h, v, hv, ws => by
    simp only [exports, Option.bind_eq_some_iff, Option.some.injEq] at h
    obtain ⟨⟨v', oi⟩, h1, rs, h2, rfl⟩ := h
    rcases List.mem_cons.1 hv with rfl | hv
    · rintro rfl
      unfold export1 at h1
      split at h1 <;> try split at h1
      all_goals (try split at h1)
      all_goals (try (simp only [Option.bind_eq_some_iff] at h1; obtain ⟨_, _, h1⟩ := h1; split at h1))
      all_goals cases h1
    · exact exports_notup h2 v hv ws

variable {P : Program} {E : Env}

theorem SoundV.of {f : FuncId} {fn : Func} {c : Code} {pf : List AV → Option AV} (E : Env) (hE : EnvOK P E) (hf : P.funcs[f]? = some fn) (hb : fn.body = some c)
    (hcall : ∀ (args : Array Value) (w : World), (callFunc f args).run P w = .ok (.enter f args) w)
    (h : ∀ (args : List AV) (r : AV), pf args = some r → args.length ≤ fn.ntmps ∧ ∀ N : Ent, N.N = fn.ntmps → N.lvl = 0 → EntOK E N → AW P N c (endQ E.te fn.results.toList r) (start args)) : SoundV P E.glob f pf := by
  refine ⟨hcall, fun args r hr G w vals hp => ?_⟩
  obtain ⟨hlen, hc⟩ := h args r hr
  have hvl : vals.length = args.length := hp.args.length
  refine calls_of_wp hf hb ?_
  let N : Ent := { lvl := 0, N := fn.ntmps, w0 := w, μ0 := noMu, G0 := G, T0 := fun _ => none, D0 := fun _ => false, K0 := fun _ => False }
  let g : Ghost := { L := 0, K := fun _ => False, μ := noMu, G := G, T := fun _ => none, U := fun _ => 0, D := fun _ => false }
  have hN : EntOK E N := ⟨hp.cell, hp.glob⟩
  have hv0 : Valid N g (start args).box w :=
    { lev := rfl
      kn := rfl
      klow := fun _ h => h.elim
      chg := ⟨rfl, rfl, rfl, Nat.le_refl _, fun _ _ _ => rfl⟩
      sub := fun _ _ h => h
      keep := fun _ _ _ => rfl
      old := fun _ _ h _ => .inl h
      cell := hp.cell
      gmu := fun _ _ _ _ h => by cases h
      ext := fun _ _ h => h
      lv := fun _ _ h => by cases h
      low := fun _ _ h => by cases h
      nz := fun _ _ => rfl
      fresh := fun _ _ _ h => by cases h
      inj := fun _ _ _ h => by cases h
      dom := fun _ => rfl
      cont := fun _ _ _ h => by cases h
      cok := fun _ _ h => by cases h
      ctop := fun _ _ _ h => by cases h
      tail := fun _ _ _ _ h => by cases h
      tnew := fun _ _ h => by cases h
      tkeep := fun _ _ h => by cases h
      dgen := fun _ h => by cases h
      dkeep := fun _ h => by cases h
      tinj := fun _ _ _ _ _ _ _ h => by cases h }
  have hs0 : Sim N (start args) { tmps := vals.toArray ++ Array.replicate (fn.ntmps - vals.toArray.size) undef, defers := [] } w := by
    refine ⟨g, hv0, rfl, rfl, ?_, rfl, fun i => ?_⟩
    · show (vals.toArray ++ Array.replicate _ undef).size = fn.ntmps
      simp; omega
    · have : (vals.toArray ++ Array.replicate (fn.ntmps - vals.toArray.size) undef).getD i undef = vals[i]?.getD undef := by
        rw [Array.getD_eq_getD_getElem?, Array.getElem?_append]
        split
        · simp
        · rename_i hge
          simp only [List.size_toArray, Nat.not_lt] at hge
          rw [List.getElem?_eq_none hge, Array.getElem?_replicate]
          split <;> rfl
      show RV _ _ _ _ ((vals.toArray ++ _).getD i undef) ∧ Top _ _ ((vals.toArray ++ _).getD i undef)
      rw [this]
      simp only [start]
      cases ha : args[i]? with
      | none =>
        have : vals[i]? = none := List.getElem?_eq_none (by rw [hvl]; simpa using ha)
        rw [this]
        exact ⟨by simp only [RV]; rfl, trivial⟩
      | some v =>
        obtain ⟨u, h1, h2⟩ := hp.args.get i v ha
        rw [h1]
        exact ⟨h2.strip, Top.strip _ _⟩
  refine wp_mono (hc N rfl rfl hN _ _ hs0) ?_
  rintro e a' w' ⟨x, σ, rfl, hq, hs⟩
  obtain ⟨r', hq', hweak⟩ : ResQ (resV E.te fn.results.toList σ) r := by cases x <;> first | exact hq | exact hq.elim
  suffices done' : a'.defers = [] ∧ ∃ v, (results fn a'.tmps).run P w' = .ok v w' ∧ ∃ u G' T, Ending.returned v = .returned u ∧ PostV G w r' u G' w' T by
    obtain ⟨d1, v, d2, u, G', T, d3, d4⟩ := done'
    have done : a'.defers = [] ∧ ∃ v, (results fn a'.tmps).run P w' = .ok v w' ∧ ∃ u G' T, Ending.returned v = .returned u ∧ PostV G w r u G' w' T := ⟨d1, v, d2, u, G', T, d3, d4.weak hweak⟩
    cases x with
    | nrm => exact done
    | ret => exact done
    | exit i => exact hq.elim
  clear hweak hq
  generalize r' = r at hq' ⊢
  have done : a'.defers = [] ∧ ∃ v, (results fn a'.tmps).run P w' = .ok v w' ∧ ∃ u G' T, Ending.returned v = .returned u ∧ PostV G w r u G' w' T := by
    obtain ⟨g', hv, hU, hD, hn, hdf, hsl⟩ := hs
    refine ⟨hdf, ?_⟩
    simp only [resV, Option.bind_eq_some_iff] at hq'
    obtain ⟨vs, h1, p, h2, h3⟩ := hq'
    split at h3
    · rename_i hnd
      obtain ⟨us, r1, r2, r3⟩ := rawsRes_rel hE.te hv hsl h1
      obtain ⟨e1, e2, e3, e4⟩ := exports_rel hv hD h2 r2 r3
      have hul := e1.length
      let T : Nat → Option (Nat × Nat × Nat) := fun c => (p.2.find? fun q => q.1 == c).bind fun q => g'.T q.2
      have hT : ∀ q ∈ p.2, T q.1 = g'.T q.2 := fun q hq => by
        show (p.2.find? _).bind _ = _
        rw [lookup_of e3 q hq]; rfl
      have hTm : ∀ c t, T c = some t → ∃ q ∈ p.2, q.1 = c ∧ g'.T q.2 = some t := fun c t ht => by
        simp only [T, Option.bind_eq_some_iff] at ht
        obtain ⟨q, h4, h5⟩ := ht
        exact ⟨q, List.mem_of_find?_eq_some h4, by simpa using List.find?_some h4, h5⟩
      have hres : (results fn a'.tmps).run P w' = .ok (if h : us.length = 1 then us[0] else .tuple us.toArray) w' := by
        generalize hl : fn.results.toList = l at r1
        have hfr : fn.results = l.toArray := by rw [← hl]
        unfold results
        rw [hfr, List.mapM_toArray, map_eq_pure_bind, Sem.run_bind, Sem.run_bind]
        erw [r1]
        simp only [Result.andThen_ok, Sem.run_pure, List.size_toArray]
        rfl
      refine ⟨_, hres, _, boxG g' σ.box, T, rfl, ?_⟩
      have hbelow : Below w.heap.size w w' := ⟨hv.chg.os, hv.chg.tape, hv.chg.output, hv.chg.size, fun k hk => hv.chg.block k hk (fun h => h.elim (fun ⟨b, hb⟩ => by cases hb) (fun ⟨_, _, _, h⟩ => by cases h))⟩
      have hG0 : ∀ k o, boxG g' σ.box k o → (at_ w' k o).isSome := by
        rintro k o (h | ⟨b, xs, h4, h5, h6⟩)
        · exact hv.cell k o h
        · obtain ⟨us, h7, h8, _⟩ := hv.box_cells h4 h5
          rw [h8 o (by rw [h7.length]; exact h6)]
          have : o < us.length := by rw [h7.length]; exact h6
          simp [this]
      have hrt : RV noMu (boxG g' σ.box) w' r (if h : us.length = 1 then us[0] else .tuple us.toArray) ∧ Top (resG (boxG g' σ.box) T) r (if h : us.length = 1 then us[0] else .tuple us.toArray) := by
        split at h3
        · rename_i v hp1
          simp only [Option.some.injEq] at h3; subst h3
          rw [hp1] at e1 e4
          simp only [RVs] at e1
          obtain ⟨u, us', rfl, h6, h7⟩ := e1
          cases h7
          refine ⟨by simpa using h6, ?_⟩
          have e5 := e4 T hT 0
          cases v with
          | sl n xs fl => exact e5 n xs fl u (by simp) (by simp)
          | tup vs' =>
            exact absurd hp1 (by
              intro hp1
              have := exports_notup h2 (.tup vs') (by rw [hp1]; simp)
              exact this _ rfl)
          | _ => trivial
        · rename_i vs' hp1
          simp only [Option.some.injEq] at h3; subst h3
          have hne : ¬ us.length = 1 := by
            rw [hul]
            intro hl
            obtain ⟨v, hv1⟩ := List.length_eq_one_iff.1 hl
            exact hp1 v hv1
          rw [dif_neg hne]
          refine ⟨by simp only [RV]; exact ⟨us, rfl, e1⟩, ?_⟩
          simp only [Top]
          exact ⟨us.toArray, rfl, fun j n xs fl v hj hu => e4 T hT j n xs fl v hj (by simpa using hu)⟩
      refine ⟨hbelow, fun k o h => .inl (hv.sub k o h), ?_, hG0, hrt.1, hrt.2, ?_, ?_⟩
      · rintro k o (h | ⟨b, xs, h4, h5, h6⟩) hk
        · exact (hv.old k o h hk).resolve_right (fun ⟨_, _, _, h, _⟩ => by cases h)
        · rcases hv.lv b k h4 with h | ⟨_, h⟩
          · cases h
          · exact absurd hk (Nat.not_lt.2 h)
      · intro c k lo hi ht
        obtain ⟨q, hq, rfl, hqt⟩ := hTm _ _ ht
        obtain ⟨t1, t2, t3, t4, t5, t6, t7⟩ := hv.tail _ _ _ _ hqt
        refine ⟨t1.resolve_right (fun ⟨_, _, _, h, _⟩ => by cases h), t2, t5, fun o h1 h2 => ?_⟩
        obtain ⟨f1, f2, f3⟩ := t6 o h1 h2
        refine ⟨f1, f2, ?_⟩
        rintro (h | ⟨b, xs, h4, h5, h6⟩)
        · exact f3 h
        · exact t7 b h4
      · intro c c' k lo hi lo' hi' ht ht'
        obtain ⟨q, hq, rfl, hqt⟩ := hTm _ _ ht
        obtain ⟨q', hq', rfl, hqt'⟩ := hTm _ _ ht'
        have := hv.tinj _ _ _ _ _ _ _ hqt hqt'
        rw [nodup_snd hnd q hq q' hq' this]
    · cases h3
  exact done
end Go.Abs
