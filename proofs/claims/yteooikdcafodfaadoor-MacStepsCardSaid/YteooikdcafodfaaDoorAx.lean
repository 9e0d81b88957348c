/- Walking through code by computing. -/
import Derived.Test.YteooikdcafodfaaDoorAw
namespace Go.Abs
set_option linter.unusedSimpArgs false
set_option linter.unusedVariables false
open Go

def bindQ (o : Option AS) (R : AS → Prop) : Prop := ∃ σ, o = some σ ∧ R σ
def condQ (v : AV) (f g : AS → Prop) (σ : AS) : Prop := (v = .raw (.bool true) ∧ f σ) ∨ (v = .raw (.bool false) ∧ g σ) ∨ (v = .anyb ∧ f σ ∧ g σ)
/-- a value told less of -/
inductive WkV : AV → AV → Prop
  | same (v : AV) : WkV v v
  | nil (s z : Nat) : WkV (.raw (.slice none 0 0)) (.sl 0 [] (.own ⟨s, 0, 0⟩ z))
  | nilb : WkV (.raw (.slice none 0 0)) (.sl 0 [] .bor)
  | bor (n : Nat) (xs : List AV) (fl : Fl) : WkV (.sl n xs fl) (.sl n xs .bor)
  | any (b : Bool) : WkV (.raw (.bool b)) .anyb
structure Wk (σ σ' : AS) : Prop where
  gen : σ'.gen = σ.gen
  box : σ'.box = σ.box
  used : σ'.used = σ.used
  slots : ∀ i, WkV (σ.slots i) (σ'.slots i)
theorem Wk.refl (σ : AS) : Wk σ σ := ⟨rfl, rfl, rfl, fun i => .same _⟩
theorem Wk.at {σ : AS} {d : Nat} {v : AV} (h : WkV (σ.slots d) v) : Wk σ { σ with slots := upd σ.slots d v } :=
  ⟨rfl, rfl, rfl, fun i => by
    show WkV _ (if i = d then v else σ.slots i)
    split
    · rename_i e; rw [e]; exact h
    · exact .same _⟩
theorem Wk.trans1 {σ σ' : AS} {d : Nat} {v : AV} (hw : Wk σ σ') (hs : σ'.slots d = σ.slots d) (h : WkV (σ.slots d) v) : Wk σ { σ' with slots := upd σ'.slots d v } :=
  ⟨hw.gen, hw.box, hw.used, fun i => by
    show WkV _ (if i = d then v else σ'.slots i)
    split
    · rename_i e; rw [e]; exact h
    · exact hw.slots i⟩
theorem WkV.rel {g : Ghost} {w : World} {v r : AV} {u : Value} (h : WkV v r) (hv : RV g.μ g.G w v u ∧ Top g v u) : RV g.μ g.G w r u ∧ Top g r u := by
  cases h with
  | same => exact hv
  | nil => obtain ⟨h1, _⟩ := hv; simp only [RV] at h1 ⊢; subst h1; exact ⟨.inl (by simp), by simp [Top, FlOK]⟩
  | nilb => obtain ⟨h1, _⟩ := hv; simp only [RV] at h1 ⊢; subst h1; exact ⟨.inl (by simp), by simp [Top, FlOK]⟩
  | bor => obtain ⟨h1, _⟩ := hv; exact ⟨by simpa only [RV] using h1, by simp [Top, FlOK]⟩
  | any => obtain ⟨h1, _⟩ := hv; simp only [RV] at h1 ⊢; exact ⟨⟨_, h1⟩, trivial⟩
theorem Sim.wk {N : Ent} {σ σ' : AS} {a : Act} {w : World} (h : Sim N σ a w) (hw : Wk σ σ') : Sim N σ' a w := by
  obtain ⟨g, h1, h2, h3, h4, h5, h6⟩ := h
  exact ⟨g, by rw [hw.box]; exact h1, by rw [hw.gen]; exact h2, by rw [hw.used]; exact h3, h4, h5, fun i => (hw.slots i).rel (h6 i)⟩

def loopQ (f : (AX → AS → Prop) → AS → Prop) (Q : AX → AS → Prop) (σ : AS) : Prop := ∃ (I : Nat → AS → Prop) (n : Nat) (σ' : AS), Wk σ σ' ∧ I n σ' ∧ ∀ n σ, I n σ → f (thenQ (fun σ' => ∃ m, m < n ∧ I m σ') Q) σ

/-- what must hold ahead of code -/
def awp (E : Env) (lvl n : Nat) : Code → (AX → AS → Prop) → AS → Prop
  | .skip, Q, σ => Q .nrm σ
  | .label _, Q, σ => Q .nrm σ
  | .exit i, Q, σ => Q (.exit i) σ
  | .ret, Q, σ => Q .ret σ
  | .seq a b, Q, σ => awp E lvl n a (thenQ (awp E lvl n b Q) Q) σ
  | .region _ ops _, Q, σ => bindQ (regs E lvl n ops.toList ops.toList σ) (Q .nrm)
  | .cond c x y, Q, σ => condQ (ev E σ.slots c) (awp E lvl n x Q) (awp E lvl n y Q) σ
  | .block id c, Q, σ => awp E lvl n c (blockQ id Q) σ
  | .scope c, Q, σ => awp E lvl n c Q σ
  | .loop c, Q, σ => loopQ (awp E lvl n c) Q σ
  | _, _, _ => False

/-- The same, sealed: the kernel shall not run it by itself. -/
noncomputable def regsO : Env → Nat → Nat → List Oper → List Oper → AS → Option AS := Classical.choose (⟨regs, rfl⟩ : ∃ f, f = regs)
theorem regsO_eq : regsO = regs := Classical.choose_spec (⟨regs, rfl⟩ : ∃ f, f = regs)
noncomputable def awpO : Env → Nat → Nat → Code → (AX → AS → Prop) → AS → Prop := Classical.choose (⟨awp, rfl⟩ : ∃ f, f = awp)
theorem awpO_eq : awpO = awp := Classical.choose_spec (⟨awp, rfl⟩ : ∃ f, f = awp)
noncomputable def stepO : Env → Nat → Nat → List Oper → AS → Oper → Option AS := Classical.choose (⟨stepV, rfl⟩ : ∃ f, f = stepV)
theorem stepO_eq : stepO = stepV := Classical.choose_spec (⟨stepV, rfl⟩ : ∃ f, f = stepV)

section
variable {E : Env} {lvl n : Nat} {Q R : AX → AS → Prop} {σ : AS}
theorem regsO_nil {ops : List Oper} : regsO E lvl n ops [] σ = some σ := by rw [regsO_eq]; rfl
theorem regsO_cons {ops : List Oper} {o : Oper} {rest : List Oper} : regsO E lvl n ops (o :: rest) σ = match stepO E lvl n ops σ o with | some σ' => regsO E lvl n ops rest σ' | none => none := by rw [regsO_eq, stepO_eq]; rfl
theorem stepO_go {ops : List Oper} {o : Oper} : stepO E lvl n ops σ o =
    match wantedV ops σ o with
    | none => none
    | some false => match o.dst with
      | some d => if d < n then some (σ.put (some d) (.raw undef)) else none
      | none => some σ
    | some true =>
      if isWrite o.op then
        match write E (ev E σ.slots) σ.box o.op with
        | some (v, b) => (match o.dst with
           | some d => if d < n then some { σ.put (some d) v with box := b } else none
           | none => some { σ with box := b })
        | none => none
      else
        match o.dst with
        | some d => if d < n then (match grow E lvl d (σ.gen d + 1) (ev E σ.slots) σ.box σ.used o.op with | some r => some (σ.grown lvl d r) | none => none) else none
        | none => none := by
  rw [stepO_eq]
  unfold stepV
  cases wantedV ops σ o with
  | none => rfl
  | some b =>
    cases b with
    | false => cases o.dst <;> rfl
    | true =>
      simp only
      split
      · cases write E (ev E σ.slots) σ.box o.op with
        | none => rfl
        | some p => cases o.dst <;> rfl
      · cases o.dst with
        | none => rfl
        | some d =>
          simp only
          split
          · cases grow E lvl d (σ.gen d + 1) (ev E σ.slots) σ.box σ.used o.op <;> rfl
          · rfl
theorem awp_skip : awpO E lvl n .skip Q σ = Q .nrm σ := by rw [awpO_eq]; rfl
theorem awp_label {l : Nat} : awpO E lvl n (.label l) Q σ = Q .nrm σ := by rw [awpO_eq]; rfl
theorem awp_exit {i : Nat} : awpO E lvl n (.exit i) Q σ = Q (.exit i) σ := by rw [awpO_eq]; rfl
theorem awp_ret : awpO E lvl n .ret Q σ = Q .ret σ := by rw [awpO_eq]; rfl
theorem awp_seq {a b : Code} : awpO E lvl n (.seq a b) Q σ = awpO E lvl n a (thenQ (awpO E lvl n b Q) Q) σ := by rw [awpO_eq]; rfl
theorem awp_region {i : Nat} {ops : Array Oper} {d : Bool} : awpO E lvl n (.region i ops d) Q σ = bindQ (regsO E lvl n ops.toList ops.toList σ) (Q .nrm) := by rw [awpO_eq, regsO_eq]; rfl
theorem awp_cond {c : Operand} {x y : Code} : awpO E lvl n (.cond c x y) Q σ = condQ (ev E σ.slots c) (awpO E lvl n x Q) (awpO E lvl n y Q) σ := by rw [awpO_eq]; rfl
theorem awp_block {i : Nat} {c : Code} : awpO E lvl n (.block i c) Q σ = awpO E lvl n c (blockQ i Q) σ := by rw [awpO_eq]; rfl
theorem awp_scope {c : Code} : awpO E lvl n (.scope c) Q σ = awpO E lvl n c Q σ := by rw [awpO_eq]; rfl
theorem awp_loop {c : Code} : awpO E lvl n (.loop c) Q σ = loopQ (awpO E lvl n c) Q σ := by rw [awpO_eq]; rfl
theorem thenQ_nrm {T : AS → Prop} : thenQ T Q .nrm σ = T σ := rfl
theorem thenQ_ret {T : AS → Prop} : thenQ T Q .ret σ = Q .ret σ := rfl
theorem thenQ_exit {T : AS → Prop} {i : Nat} : thenQ T Q (.exit i) σ = Q (.exit i) σ := rfl
theorem blockQ_nrm {i : Nat} : blockQ i Q .nrm σ = Q .nrm σ := rfl
theorem blockQ_ret {i : Nat} : blockQ i Q .ret σ = Q .ret σ := rfl
theorem blockQ_exit {i j : Nat} : blockQ i Q (.exit j) σ = if j = i then Q .nrm σ else Q (.exit j) σ := rfl
end

/-- each drawing region comes to the same in whatever order -/
def confC : Code → Bool
  | .region _ ops true => confB ops.toList
  | .seq a b => confC a && confC b
  | .cond _ x y => confC x && confC y
  | .block _ c => confC c
  | .scope c => confC c
  | .loop c => confC c
  | _ => true

section
variable {P : Program} {N : Ent} {E : Env}

theorem awp_sound (hE : EnvOK P E) (hN : EntOK E N) (hP : P.follows .mixedOrders = true) : ∀ (c : Code) (Q : AX → AS → Prop) (σ : AS), confC c = true → awp E N.lvl N.N c Q σ → AW P N c Q σ
  | .skip, Q, σ, _, h => AW_skip h
  | .label _, Q, σ, _, h => AW_label h
  | .exit i, Q, σ, _, h => AW_exit h
  | .ret, Q, σ, _, h => AW_ret h
  | .seq a b, Q, σ, hc, h => by
    simp only [confC, Bool.and_eq_true] at hc
    refine AW_seq (AW_mono (awp_sound hE hN hP a _ σ hc.1 h) ?_)
    intro x σ' hq
    cases x with
    | nrm => exact awp_sound hE hN hP b Q σ' hc.2 hq
    | ret => exact hq
    | exit i => exact hq
  | .region id ops dr, Q, σ, hc, h => by
    obtain ⟨σ', h1, h2⟩ := h
    cases dr with
    | false => have := AW_region (Q := Q) (id := id) E hE hN σ' h1 h2; simpa using this
    | true => have := AW_draw (Q := Q) (id := id) E hE hN hP σ' hc h1 h2; simpa using this
  | .cond c x y, Q, σ, hc, h => by
    simp only [confC, Bool.and_eq_true] at hc
    rcases h with ⟨h1, h2⟩ | ⟨h1, h2⟩ | ⟨h1, h2, h3⟩
    · exact AW_cond E hN h1 (by rw [if_pos rfl]; exact awp_sound hE hN hP x Q σ hc.1 h2)
    · exact AW_cond E hN h1 (by rw [if_neg (by simp)]; exact awp_sound hE hN hP y Q σ hc.2 h2)
    · exact AW_cond_any E hN h1 (awp_sound hE hN hP x Q σ hc.1 h2) (awp_sound hE hN hP y Q σ hc.2 h3)
  | .block id c, Q, σ, hc, h => AW_block (awp_sound hE hN hP c _ σ hc h)
  | .scope c, Q, σ, hc, h => AW_scope (awp_sound hE hN hP c Q σ hc h)
  | .loop c, Q, σ, hc, h => by
    obtain ⟨I, n, σ', hw, h0, h1⟩ := h
    have := AW_loop (P := P) (N := N) I n h0 fun n σ hI => awp_sound hE hN hP c _ σ hc (h1 n σ hI)
    exact fun a w hs => this a w (hs.wk hw)
end

theorem SoundV.walk {P : Program} {f : FuncId} {fn : Func} {c : Code} {pf : List AV → Option AV} (E : Env) (hE : EnvOK P E) (hP : P.follows .mixedOrders = true) (hf : P.funcs[f]? = some fn) (hb : fn.body = some c)
    (hcall : ∀ (args : Array Value) (w : World), (callFunc f args).run P w = .ok (.enter f args) w) (hc : confC c = true)
    (h : ∀ (args : List AV) (r : AV), pf args = some r → args.length ≤ fn.ntmps ∧ awpO E 0 fn.ntmps c (endQ E.te fn.results.toList r) (start args)) : SoundV P E.glob f pf :=
  SoundV.of E hE hf hb hcall fun args r hr => ⟨(h args r hr).1, fun N hn hl hN => by
    have := (h args r hr).2
    rw [awpO_eq, ← hn, ← hl] at this
    exact awp_sound hE hN hP c _ _ hc this⟩

/-- one more function is known -/
def Env.know (E : Env) (f : FuncId) (pf : List AV → Option AV) : Env := { E with tbl := fun i => if i = f then some (.val pf) else E.tbl i }

theorem EnvOK.know {P : Program} {E : Env} (h : EnvOK P E) {f : FuncId} {pf : List AV → Option AV} (hs : SoundV P E.glob f pf) : EnvOK P (E.know f pf) := by
  refine ⟨h.te, fun i p hp => ?_⟩
  change (if i = f then _ else _) = _ at hp
  split at hp
  · rename_i e; cases hp; rw [e]; exact hs
  · exact h.tbl i p hp

def Env.boxed (E : Env) (m : Nat → Bool) : Env := { E with mu := m }
theorem EnvOK.boxed {P : Program} {E : Env} (h : EnvOK P E) (m : Nat → Bool) : EnvOK P (E.boxed m) := ⟨h.te, h.tbl⟩

def stB (P : Program) (t : TypeId) (fs : List (Nat × TypeId)) : Bool :=
  match P.underlying t with
  | some (.struct fields) => decide (fs = fields.toList.map fun f => (f.offset, f.type))
  | _ => false
def stF (P : Program) (t : TypeId) : Bool :=
  match P.underlying t with
  | some (.struct fields) => fields.toList.all fun f => (P.info? f.type).isSome
  | _ => true

theorem st_under {P : Program} {t : TypeId} {fs : List (Nat × TypeId)} (h : stB P t fs = true) : ∃ d, P.underlying t = some d ∧ TKis (.st fs) d := by
  unfold stB at h
  split at h
  · rename_i fields e
    exact ⟨_, e, fields, rfl, by simpa using h⟩
  · cases h

theorem ti_fields {P : Program} {t : TypeId} (h : stF P t = true) : ∀ fs, P.underlying t = some (.struct fs) → fs.toList.all (fun f => (P.info? f.type).isSome) = true := by
  intro fs e
  unfold stF at h
  rw [e] at h
  exact h

theorem bindQ_some (σ : AS) (R : AS → Prop) : bindQ (some σ) R = R σ := by simp [bindQ]
theorem condQ_true (f g : AS → Prop) (σ : AS) : condQ (.raw (.bool true)) f g σ = f σ := by simp [condQ]
theorem condQ_false (f g : AS → Prop) (σ : AS) : condQ (.raw (.bool false)) f g σ = g σ := by simp [condQ]
theorem condQ_any (f g : AS → Prop) (σ : AS) : condQ .anyb f g σ = (f σ ∧ g σ) := by simp [condQ]
theorem condQ_dec {p : Prop} [Decidable p] {f g : AS → Prop} {σ : AS} (h1 : p → f σ) (h2 : ¬p → g σ) : condQ (.raw (.bool (decide p))) f g σ := by
  by_cases h : p <;> simp [condQ, h, h1, h2]
theorem condQ_bool {b : Bool} {f g : AS → Prop} {σ : AS} (h1 : b = true → f σ) (h2 : b = false → g σ) : condQ (.raw (.bool b)) f g σ := by
  cases b <;> simp [condQ, h1, h2]
theorem loopQ_of {f : (AX → AS → Prop) → AS → Prop} {Q : AX → AS → Prop} {σ : AS} (I : Nat → AS → Prop) (n : Nat) (h0 : I n σ) (h : ∀ n σ, I n σ → f (thenQ (fun σ' => ∃ m, m < n ∧ I m σ') Q) σ) : loopQ f Q σ := ⟨I, n, σ, Wk.refl σ, h0, h⟩
/-- the same, from what is told less of -/
theorem loopQ_wk {f : (AX → AS → Prop) → AS → Prop} {Q : AX → AS → Prop} {σ : AS} (σ' : AS) (hw : Wk σ σ') (I : Nat → AS → Prop) (n : Nat) (h0 : I n σ') (h : ∀ n σ, I n σ → f (thenQ (fun σ' => ∃ m, m < n ∧ I m σ') Q) σ) : loopQ f Q σ := ⟨I, n, σ', hw, h0, h⟩
end Go.Abs
