/- The abstract machine: loops walked round by round. -/
import Derived.Test.YtddeffdgldjdjaaDoorM3
import Derived.LoopN
/- Loops that are walked round by round. -/
namespace Go.Abs
set_option linter.unusedSimpArgs false
set_option linter.unusedVariables false
set_option linter.defProp false
open Go Go.RowKit

/-- a loop that ends within n rounds -/
def roundsQ (f : (AX → AS → Prop) → AS → Prop) (Q : AX → AS → Prop) : Nat → AS → Prop
  | 0, _ => False
  | n + 1, σ => f (thenQ (roundsQ f Q n) Q) σ
section
variable {P : Program} {N : Ent} {E : Env} {Q : AX → AS → Prop} {σ : AS}
theorem AW_rounds {c : Code} : ∀ (n : Nat) (σ : AS), roundsQ (AW P N c) Q n σ → AW P N (.loop c) Q σ := by
  have key : ∀ (n : Nat) (σ : AS) (a : Act) (w : World), roundsQ (AW P N c) Q n σ → Sim N σ a w → Code.rounds P c (fun e a' w' => ∃ x σ', e = AX.to x ∧ Q x σ' ∧ Sim N σ' a' w') n a w := by
    intro n
    induction n with
    | zero => intro σ a w h hs; exact h.elim
    | succ n ih =>
      intro σ a w h hs
      refine wp_mono (h a w hs) ?_
      rintro e a' w' ⟨x, σ', rfl, h2, h3⟩
      cases x with
      | nrm => exact ih σ' a' w' h2 h3
      | ret => exact ⟨.ret, σ', rfl, h2, h3⟩
      | exit i => exact ⟨.exit i, σ', rfl, h2, h3⟩
      | pan v => exact ⟨.pan v, σ', rfl, h2, h3⟩
  intro n σ h a w hs
  exact wp_loop_rounds n (key n σ a w h hs)
/-- as awp; ks: which loops (by the block around them) are walked round by round, and how many rounds at most -/
def awpY (E : Env) (ks : List (Nat × Nat)) (lvl n : Nat) : Code → Option Nat → (AX → AS → Prop) → AS → Prop
  | .skip, _, Q, σ => Q .nrm σ
  | .label _, _, Q, σ => Q .nrm σ
  | .exit i, _, Q, σ => Q (.exit i) σ
  | .ret, _, Q, σ => Q .ret σ
  | .seq a b, _, Q, σ => awpY E ks lvl n a none (thenQ (awpY E ks lvl n b none Q) Q) σ
  | .region _ ops _, _, Q, σ => bindQ (regs E lvl n ops.toList ops.toList σ) (Q .nrm)
  | .cond c x y, _, Q, σ => condQ (ev E σ.slots c) (awpY E ks lvl n x none Q) (awpY E ks lvl n y none Q) σ
  | .block id c, _, Q, σ => awpY E ks lvl n c (ks.lookup id) (blockQ id Q) σ
  | .scope c, _, Q, σ => awpY E ks lvl n c none Q σ
  | .loop c, some k, Q, σ => roundsQ (awpY E ks lvl n c none) Q k σ
  | .loop c, none, Q, σ => loopQ lvl (awpY E ks lvl n c none) Q σ
  | _, _, _, _ => False
theorem awpY_sound {ks : List (Nat × Nat)} (hE : EnvOK P E) (hN : EntOK E N) (hP : P.follows .mixedOrders = true) : ∀ (c : Code) (r : Option Nat) (Q : AX → AS → Prop) (σ : AS), confC E c = true → awpY E ks N.lvl N.N c r Q σ → AW P N c Q σ
  | .skip, _, Q, σ, _, h => AW_skip h
  | .label _, _, Q, σ, _, h => AW_label h
  | .exit i, _, Q, σ, _, h => AW_exit h
  | .ret, _, Q, σ, _, h => AW_ret h
  | .seq a b, _, Q, σ, hc, h => by
    simp only [confC, Bool.and_eq_true] at hc
    refine AW_seq (AW_mono (awpY_sound hE hN hP a none _ σ hc.1 h) ?_)
    intro x σ' hq
    cases x with
    | nrm => exact awpY_sound hE hN hP b none Q σ' hc.2 hq
    | ret => exact hq
    | exit i => exact hq
    | pan v => exact hq
  | .region id ops dr, _, Q, σ, hc, h => by
    obtain ⟨σ', h1, h2⟩ := h
    cases dr with
    | false => have := AW_region (Q := Q) (id := id) E hE hN σ' h1 h2; simpa using this
    | true => have := AW_draw (Q := Q) (id := id) E hE hN hP σ' hc h1 h2; simpa using this
  | .cond c x y, _, Q, σ, hc, h => by
    simp only [confC, Bool.and_eq_true] at hc
    rcases h with ⟨h1, h2⟩ | ⟨h1, h2⟩ | ⟨h1, h2, h3⟩
    · exact AW_cond E hN h1 (by rw [if_pos rfl]; exact awpY_sound hE hN hP x none Q σ hc.1 h2)
    · exact AW_cond E hN h1 (by rw [if_neg (by simp)]; exact awpY_sound hE hN hP y none Q σ hc.2 h2)
    · exact AW_cond_any E hN h1 (awpY_sound hE hN hP x none Q σ hc.1 h2) (awpY_sound hE hN hP y none Q σ hc.2 h3)
  | .block id c, _, Q, σ, hc, h => AW_block (awpY_sound hE hN hP c (ks.lookup id) _ σ hc h)
  | .scope c, _, Q, σ, hc, h => AW_scope (awpY_sound hE hN hP c none Q σ hc h)
  | .loop c, none, Q, σ, hc, h => by
    obtain ⟨I, n, σ', hw, h0, h1⟩ := h
    have := AW_loop (P := P) (N := N) I n h0 fun n σ hI => fun a w hs => awpY_sound hE hN hP c none _ σ hc (h1 n σ hI hs.fut) a w hs
    exact fun a w hs => this a w (hs.wk hw)
  | .loop c, some k, Q, σ, hc, h => by
    refine AW_rounds k σ ?_
    have key : ∀ (k : Nat) (σ : AS), roundsQ (awpY E ks N.lvl N.N c none) Q k σ → roundsQ (AW P N c) Q k σ := by
      intro k
      induction k with
      | zero => intro σ h; exact h
      | succ k ih =>
        intro σ h
        refine AW_mono (awpY_sound hE hN hP c none _ σ hc h) ?_
        intro x σ' hq
        cases x with
        | nrm => exact ih σ' hq
        | ret => exact hq
        | exit i => exact hq
        | pan v => exact hq
    exact key k σ h
end
noncomputable def awpYO : Env → List (Nat × Nat) → Nat → Nat → Code → Option Nat → (AX → AS → Prop) → AS → Prop := Classical.choose (⟨awpY, rfl⟩ : ∃ f, f = awpY)
theorem awpYO_eq : awpYO = awpY := Classical.choose_spec (⟨awpY, rfl⟩ : ∃ f, f = awpY)
noncomputable def roundsO : ((AX → AS → Prop) → AS → Prop) → (AX → AS → Prop) → Nat → AS → Prop := Classical.choose (⟨roundsQ, rfl⟩ : ∃ f, f = roundsQ)
theorem roundsO_eq : roundsO = roundsQ := Classical.choose_spec (⟨roundsQ, rfl⟩ : ∃ f, f = roundsQ)
section
variable {E : Env} {ks : List (Nat × Nat)} {lvl n : Nat} {Q : AX → AS → Prop} {σ : AS} {r : Option Nat}
theorem awpY_skip : awpYO E ks lvl n .skip r Q σ = Q .nrm σ := by rw [awpYO_eq]; rfl
theorem awpY_exit {i : Nat} : awpYO E ks lvl n (.exit i) r Q σ = Q (.exit i) σ := by rw [awpYO_eq]; rfl
theorem awpY_ret : awpYO E ks lvl n .ret r Q σ = Q .ret σ := by rw [awpYO_eq]; rfl
theorem awpY_seq {a b : Code} : awpYO E ks lvl n (.seq a b) r Q σ = awpYO E ks lvl n a none (thenQ (awpYO E ks lvl n b none Q) Q) σ := by rw [awpYO_eq]; rfl
theorem awpY_region {i : Nat} {ops : Array Oper} {d : Bool} : awpYO E ks lvl n (.region i ops d) r Q σ = bindQ (regsO E lvl n ops.toList ops.toList σ) (Q .nrm) := by
  rw [awpYO_eq, regsO_eq]; rfl
theorem awpY_cond {c : Operand} {x y : Code} : awpYO E ks lvl n (.cond c x y) r Q σ = condQ (ev E σ.slots c) (awpYO E ks lvl n x none Q) (awpYO E ks lvl n y none Q) σ := by rw [awpYO_eq]; rfl
theorem awpY_block {i : Nat} {c : Code} : awpYO E ks lvl n (.block i c) r Q σ = awpYO E ks lvl n c (ks.lookup i) (blockQ i Q) σ := by rw [awpYO_eq]; rfl
theorem awpY_scope {c : Code} : awpYO E ks lvl n (.scope c) r Q σ = awpYO E ks lvl n c none Q σ := by rw [awpYO_eq]; rfl
theorem awpY_loop {c : Code} : awpYO E ks lvl n (.loop c) none Q σ = loopQ lvl (awpYO E ks lvl n c none) Q σ := by rw [awpYO_eq]; rfl
theorem awpY_rounds {c : Code} {k : Nat} : awpYO E ks lvl n (.loop c) (some k) Q σ = roundsO (awpYO E ks lvl n c none) Q k σ := by rw [awpYO_eq, roundsO_eq]; rfl
theorem rounds_go {f : (AX → AS → Prop) → AS → Prop} {k : Nat} : roundsO f Q (k + 1) σ = f (thenQ (roundsO f Q k) Q) σ := by rw [roundsO_eq]; rfl
theorem lookup_nil {i : Nat} : ([] : List (Nat × Nat)).lookup i = none := rfl
theorem lookup_cons {i j k : Nat} {l : List (Nat × Nat)} : ((j, k) :: l).lookup i = if i = j then some k else l.lookup i := by
  by_cases h : i = j
  · subst h; simp [List.lookup]
  · have h' : (i == j) = false := beq_eq_false_iff_ne.2 h
    rw [List.lookup, h', if_neg h]
end
theorem SoundV.walkY {P : Program} {f : FuncId} {fn : Func} {c : Code} {pf : List AV → Option AV} (E : Env) (ks : List (Nat × Nat)) (hE : EnvOK P E) (hP : P.follows .mixedOrders = true) (hf : P.funcs[f]? = some fn) (hb : fn.body = some c)
    (hcall : ∀ (args : Array Value) (w : World), (callFunc f args).run P w = .ok (.enter f args) w) (hc : confC E c = true)
    (h : ∀ (args : List AV) (r : AV), pf args = some r → args.length ≤ fn.ntmps ∧ awpYO E ks 0 fn.ntmps c none (endQ E.te fn.results.toList r) (start args)) : SoundV P E.glob f pf :=
  SoundV.of E hE hf hb hcall fun args r hr => ⟨(h args r hr).1, fun N hn hl hN => by
    have := (h args r hr).2
    rw [awpYO_eq, ← hn, ← hl] at this
    exact awpY_sound hE hN hP c none _ _ hc this⟩
def evY := And.intro @awpY_skip (And.intro @awpY_exit (And.intro @awpY_ret (And.intro @awpY_seq (And.intro @awpY_region (And.intro @awpY_cond (And.intro @awpY_block (And.intro @awpY_scope (And.intro @awpY_loop (And.intro @awpY_rounds (And.intro @rounds_go (And.intro @lookup_nil @lookup_cons)))))))))))
end Go.Abs

