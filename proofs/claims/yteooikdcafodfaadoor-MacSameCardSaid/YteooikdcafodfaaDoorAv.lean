/- A region whose order is drawn: every order comes to the same. -/
import Derived.Test.YteooikdcafodfaaDoorAu
namespace Go.Abs
set_option linter.unusedSimpArgs false
set_option linter.unusedVariables false
open Go Go.RowKit

def maskOf (acc : List Nat) : List Edge → Nat
  | [] => 0
  | e :: es => (if Region.binds .any e then (acc[e.on]?.getD 0) ||| (1 <<< e.on) else 0) ||| maskOf acc es

def masks : List Oper → List Nat → List Nat
  | [], acc => acc
  | o :: os, acc => masks os (acc ++ [maskOf acc o.after.toList])

/-- o is not before the i-th operation -/
def indepB (ops : List Oper) (x y : Oper) : Bool := !isWrite x.op && !isWrite y.op && x.apart ops.toArray y

def pairB (ops : List Oper) (m : Nat) (y : Oper) : Nat → List Oper → Bool
  | _, [] => true
  | 0, _ => true
  | k + 1, x :: xs => (m.testBit (ops.length - (x :: xs).length) || indepB ops x y) && pairB ops m y k xs

def confAll (ops : List Oper) (ms : List Nat) : Nat → List Oper → Bool
  | _, [] => true
  | i, y :: ys => y.after.toList.all (fun e => !Region.binds .any e || e.on < i) && pairB ops (ms[i]?.getD 0) y i ops && confAll ops ms (i + 1) ys

/-- whatever order: the same -/
def confB (ops : List Oper) : Bool := confAll ops (masks ops []) 0 ops

/-- bits of a mask lead back along edges -/
def GoodM (ops : List Oper) (m : List Nat) : Prop :=
  ∀ (i mi j : Nat), m[i]? = some mi → mi.testBit j = true → ∃ o, ops[i]? = some o ∧ ∃ e ∈ o.after.toList, Region.binds .any e = true ∧ (e.on = j ∨ ∃ mk : Nat, m[e.on]? = some mk ∧ mk.testBit j = true)

theorem maskOf_spec {acc : List Nat} {j : Nat} : ∀ {es : List Edge}, (maskOf acc es).testBit j = true → ∃ e ∈ es, Region.binds .any e = true ∧ (e.on = j ∨ ∃ mk : Nat, acc[e.on]? = some mk ∧ mk.testBit j = true)
  | [], h => by simp [maskOf] at h
  | e :: es, h => by
    simp only [maskOf, Nat.testBit_or, Bool.or_eq_true] at h
    rcases h with h | h
    · split at h
      · rename_i hb
        simp only [Nat.testBit_or, Bool.or_eq_true] at h
        rcases h with h | h
        · cases ha : acc[e.on]? with
          | none => rw [ha] at h; simp at h
          | some mk => rw [ha] at h; exact ⟨e, by simp, hb, .inr ⟨mk, ha, h⟩⟩
        · rw [Nat.one_shiftLeft, Nat.testBit_two_pow] at h
          exact ⟨e, by simp, hb, .inl (by simpa using h)⟩
      · simp at h
    · obtain ⟨e', h1, h2⟩ := maskOf_spec h
      exact ⟨e', by simp [h1], h2⟩

theorem masks_good {ops : List Oper} : ∀ (os : List Oper) (acc : List Nat), (∀ j, os[j]? = ops[acc.length + j]?) → GoodM ops acc → GoodM ops (masks os acc)
  | [], acc, _, h => h
  | o :: os, acc, hl, h => by
    refine masks_good os _ (fun j => ?_) ?_
    · have := hl (j + 1)
      simp only [List.getElem?_cons_succ] at this
      rw [this]; simp only [List.length_append, List.length_singleton]; congr 1; omega
    · intro i mi j hi hj
      have up : ∀ (k mk : Nat), acc[k]? = some mk → (acc ++ [maskOf acc o.after.toList])[k]? = some mk := fun k mk hk => by
        rw [List.getElem?_append_left (List.getElem?_eq_some_iff.1 hk).1]; exact hk
      rcases Nat.lt_or_ge i acc.length with hlt | hge
      · rw [List.getElem?_append_left hlt] at hi
        obtain ⟨o', h1, e, h2, h3, h4⟩ := h i mi j hi hj
        refine ⟨o', h1, e, h2, h3, h4.imp id ?_⟩
        rintro ⟨mk, h5, h6⟩
        exact ⟨mk, up _ _ h5, h6⟩
      · rw [List.getElem?_append_right hge] at hi
        have h0 : i = acc.length := by
          have := (List.getElem?_eq_some_iff.1 hi).1
          simp at this; omega
        subst h0
        simp at hi; subst hi
        obtain ⟨e, h1, h2, h3⟩ := maskOf_spec hj
        refine ⟨o, by have := hl 0; simpa using this.symm, e, h1, h2, h3.imp id ?_⟩
        rintro ⟨mk, h5, h6⟩
        exact ⟨mk, up _ _ h5, h6⟩

/-- what the check comes to -/
structure Conf (ops : List Oper) (ms : List Nat) : Prop where
  good : GoodM ops ms
  down : ∀ i o, ops[i]? = some o → ∀ e ∈ o.after.toList, Region.binds .any e = true → e.on < i
  pair : ∀ i j x y, ops[j]? = some x → ops[i]? = some y → j < i → (ms[i]?.getD 0).testBit j = true ∨ indepB ops x y = true

theorem pairB_spec {ops : List Oper} {m : Nat} {y : Oper} : ∀ (k : Nat) (xs : List Oper) (s : Nat), s + xs.length = ops.length → (∀ j, xs[j]? = ops[s + j]?) → pairB ops m y k xs = true → ∀ j x, xs[j]? = some x → j < k → m.testBit (s + j) = true ∨ indepB ops x y = true
  | _, [], _, _, _, _, j, x, h, _ => by simp at h
  | 0, x :: xs, _, _, _, _, j, x', _, h => by omega
  | k + 1, x :: xs, s, hs, hl, h, j, x', hx, hj => by
    simp only [pairB, Bool.and_eq_true, Bool.or_eq_true] at h
    cases j with
    | zero =>
      simp at hx; subst hx
      have : ops.length - (x :: xs).length = s := by omega
      rw [this] at h
      simpa using h.1
    | succ j =>
      have := pairB_spec k xs (s + 1) (by simp at hs; omega) (fun j => by
        have := hl (j + 1)
        simp only [List.getElem?_cons_succ] at this
        rw [this]; congr 1; omega) h.2 j x' (by simpa using hx) (by omega)
      rw [show s + (j + 1) = s + 1 + j by omega]; exact this

theorem confAll_spec {ops : List Oper} {ms : List Nat} : ∀ (ys : List Oper) (i : Nat), (∀ j, ys[j]? = ops[i + j]?) → confAll ops ms i ys = true → ∀ j y, ys[j]? = some y →
    (∀ e ∈ y.after.toList, Region.binds .any e = true → e.on < i + j) ∧ pairB ops (ms[i + j]?.getD 0) y (i + j) ops = true
  | [], _, _, _, j, y, h => by simp at h
  | y :: ys, i, hl, h, j, y', hy => by
    simp only [confAll, Bool.and_eq_true, List.all_eq_true] at h
    cases j with
    | zero =>
      simp at hy; subst hy
      refine ⟨fun e he hb => ?_, h.1.2⟩
      have := h.1.1 e he
      simpa [hb] using this
    | succ j =>
      have := confAll_spec ys (i + 1) (fun j => by
        have := hl (j + 1)
        simp only [List.getElem?_cons_succ] at this
        rw [this]; congr 1; omega) h.2 j y' (by simpa using hy)
      rw [show i + (j + 1) = i + 1 + j by omega]; exact this

theorem confB_spec {ops : List Oper} (h : confB ops = true) : Conf ops (masks ops []) := by
  have hg : GoodM ops (masks ops []) := masks_good ops [] (by simp) (fun i mi j h => by simp at h)
  refine ⟨hg, fun i o ho e he hb => ?_, fun i j x y hx hy hj => ?_⟩
  · have := (confAll_spec ops 0 (by simp) h i o ho).1 e he hb
    omega
  · have := (confAll_spec ops 0 (by simp) h i y hy).2
    rw [Nat.zero_add] at this
    have := pairB_spec i ops 0 (by simp) (by simp) this j x hx hj
    rwa [Nat.zero_add] at this

section
variable {P : Program} {N : Ent} {E : Env} {ops : List Oper} {σ σ' : AS}

def runI (E : Env) (lvl n : Nat) (ops : List Oper) : List Nat → AS → Option AS
  | [], σ => some σ
  | i :: is, σ => (ops[i]?).bind fun o => (stepV E lvl n ops σ o).bind fun σ' => runI E lvl n ops is σ'

theorem runI_regs {lvl n : Nat} : ∀ (l : List Oper) (k : Nat) (σ : AS), (∀ j, l[j]? = ops[k + j]?) → runI E lvl n ops (List.range' k l.length) σ = regs E lvl n ops l σ
  | [], k, σ, _ => rfl
  | o :: l, k, σ, hl => by
    have h0 : ops[k]? = some o := by simpa using (hl 0).symm
    rw [List.length_cons, List.range'_succ]
    simp only [runI, regs, h0, Option.bind_some]
    cases stepV E lvl n ops σ o with
    | none => rfl
    | some σ1 =>
      exact runI_regs l (k + 1) σ1 (fun j => by
        have := hl (j + 1); simpa [Nat.add_assoc, Nat.add_comm 1 j] using this)

def Fits (N : Ent) (σ : AS) : Prop := ∃ a w, Sim N σ a w

theorem Fits.fresh (h : Fits N σ) : Fresh N.lvl σ := by
  obtain ⟨a, w, g, hv, hU, hD, hn, hdf, hsl⟩ := h
  refine ⟨fun d n hlt => ?_, fun i => RV.men (fun b k hk => ?_) _ _ (hsl i).1⟩
  · have hd := hv.dom (.own N.lvl d n)
    cases hm : g.μ (.own N.lvl d n) with
    | none => rw [hm] at hd; simpa using hd
    | some k => have := hv.fresh d n k hm; rw [hU] at this; omega
  · have hd := hv.dom b
    rw [hk] at hd; simpa using hd

theorem Oper.wp_exists {o : Oper} {a : Act} {w : World} {K : Act → World → Prop} (h : o.wp P a w K (fun _ _ _ => False)) : ∃ a' w', K a' w' := by
  unfold Oper.wp at h
  generalize (execOp a.eval o).run P w = r at h
  cases r with
  | ok n w' =>
    cases n <;> simp only [Oper.upon] at h
    case value v => exact ⟨_, _, h⟩
    case skip => exact ⟨_, _, h⟩
    case defer d => exact ⟨_, _, h⟩
    case enter f args =>
      obtain ⟨e, w'', fr, h, _⟩ := h []
      cases e with
      | returned v => exact ⟨_, _, h⟩
      | panicked c => exact h.elim
      | outgrown => obtain ⟨_, _, h⟩ := h; exact h.elim
    case row row args =>
      obtain ⟨v, w'', h, _⟩ := h default []
      exact ⟨_, _, h⟩
  | halt x w' => cases x <;> simp only [Oper.upon] at h

theorem Fits.step (hE : EnvOK P E) (hN : EntOK E N) {o : Oper} (hf : Fits N σ) (h : stepV E N.lvl N.N ops σ o = some σ') : Fits N σ' := by
  obtain ⟨a, w, hs⟩ := hf
  have := stepV_sound (K := fun a w => Sim N σ' a w) (Q' := fun _ _ _ => False) hE hN h hs (fun a' w' h => h)
  split at this
  · exact Oper.wp_exists this
  · exact ⟨_, _, this⟩

theorem bubble (hE : EnvOK P E) (hN : EntOK E N) {i : Nat} {y : Oper} (hy : ops[i]? = some y) {post : List Nat} {σ' : AS} : ∀ (pre : List Nat) (σ : AS), Fits N σ → (∀ j ∈ pre, ∀ x, ops[j]? = some x → indepB ops x y = true) →
    runI E N.lvl N.N ops (pre ++ i :: post) σ = some σ' → runI E N.lvl N.N ops (i :: (pre ++ post)) σ = some σ'
  | [], σ, _, _, h => h
  | j :: pre, σ, hf, hi, h => by
    rw [List.cons_append] at h
    simp only [runI, Option.bind_eq_some_iff] at h
    obtain ⟨x, hx, σ1, h1, h2⟩ := h
    have h3 := bubble hE hN hy pre σ1 (hf.step hE hN h1) (fun k hk => hi k (by simp [hk])) h2
    simp only [runI, Option.bind_eq_some_iff] at h3
    obtain ⟨y', hy', σ2, h4, h5⟩ := h3
    rw [hy] at hy'; cases hy'
    have hin := hi j (by simp) x hx
    simp only [indepB, Bool.and_eq_true, Bool.not_eq_true'] at hin
    obtain ⟨σ1', h6, h7⟩ := swapV hf.fresh hin.2 hin.1.1 hin.1.2 h1 h4
    simp only [runI, List.cons_append, Option.bind_eq_some_iff]
    exact ⟨y, hy, σ1', h6, x, hx, σ2, h7, h5⟩

/-- with each listed one, those it waits for are listed -/
def Closed (ops : List Oper) (listed : Array Bool) : Prop :=
  ∀ i o, ops[i]? = some o → listed.getD i false = true → ∀ e ∈ o.after.toList, Region.binds .any e = true → listed.getD e.on false = true

theorem mask_listed {ms : List Nat} (hc : Conf ops ms) {listed : Array Bool} (hcl : Closed ops listed) : ∀ (n i mi j : Nat), i < n → ms[i]? = some mi → mi.testBit j = true → (∀ o, ops[i]? = some o → ∀ e ∈ o.after.toList, Region.binds .any e = true → listed.getD e.on false = true) → listed.getD j false = true
  | 0, i, _, _, h, _, _, _ => by omega
  | n + 1, i, mi, j, hi, hmi, hj, hd => by
    obtain ⟨o, ho, e, he, hb, h⟩ := hc.good i mi j hmi hj
    have hl := hd o ho e he hb
    rcases h with rfl | ⟨mk, hk, hkj⟩
    · exact hl
    · exact mask_listed hc hcl n e.on mk j (by have := hc.down i o ho e he hb; omega) hk hkj (fun o' ho' e' he' hb' => hcl e.on o' ho' hl e' he' hb')

def remL (ops : List Oper) (listed : Array Bool) : List Nat := (List.range ops.length).filter fun k => !listed.getD k true

theorem getD_flip {listed : Array Bool} {k : Nat} (h : k < listed.size) : listed.getD k true = listed.getD k false := by
  simp [h]

theorem any_sound (hE : EnvOK P E) (hN : EntOK E N) {ms : List Nat} (hc : Conf ops ms) {Q' : Exit → Act → World → Prop} (hQ : ∀ a w, Sim N σ' a w → Q' .normal a w) :
    ∀ (fuel : Nat) (listed : Array Bool) (σ : AS) (a : Act) (w : World), listed.size = ops.length → Closed ops listed → (remL ops listed).length ≤ fuel → Sim N σ a w →
      runI E N.lvl N.N ops (remL ops listed) σ = some σ' → wpAny P .any ops.toArray Q' fuel listed a w := by
  have mem : ∀ {listed : Array Bool} {k : Nat}, listed.size = ops.length → k ∈ Region.ready .any ops.toArray listed → k ∈ remL ops listed ∧ k < ops.length ∧ ∀ o, ops[k]? = some o → ∀ e ∈ o.after.toList, Region.binds .any e = true → listed.getD e.on false = true := by
    intro listed k hs hk
    obtain ⟨h1, o, h2, h3⟩ := mem_ready.1 hk
    simp only [List.getElem?_toArray] at h2
    have hlt := (List.getElem?_eq_some_iff.1 h2).1
    refine ⟨List.mem_filter.2 ⟨List.mem_range.2 hlt, by rw [h1]; rfl⟩, hlt, fun o' ho' e he hb => ?_⟩
    rw [h2] at ho'; cases ho'
    exact h3 e (by simpa using he) hb
  have nil : ∀ {listed : Array Bool}, listed.size = ops.length → Region.ready .any ops.toArray listed = [] → remL ops listed = [] := by
    intro listed hs hr
    have all : ∀ n k, k < n → k < ops.length → listed.getD k true = true := by
      intro n
      induction n with
      | zero => intro k h; omega
      | succ n ih =>
        intro k hk hlt
        cases hk0 : listed.getD k true with
        | true => rfl
        | false =>
          exfalso
          have : k ∈ Region.ready .any ops.toArray listed := by
            refine mem_ready.2 ⟨hk0, ops[k], by simp [hlt], fun e he hb => ?_⟩
            have hd := hc.down k ops[k] (by simp [hlt]) e (by simpa using he) hb
            rw [← getD_flip (by omega)]
            exact ih e.on (by omega) (by omega)
          rw [hr] at this; cases this
    unfold remL
    rw [List.filter_eq_nil_iff]
    intro k hk
    rw [all (k + 1) k (by omega) (List.mem_range.1 hk)]
    simp
  intro fuel
  induction fuel with
  | zero =>
    intro listed σ a w hs hcl hle hsim hrun
    have hr0 : remL ops listed = [] := List.length_eq_zero_iff.1 (by omega)
    rw [hr0] at hrun
    simp only [runI, Option.some.injEq] at hrun; subst hrun
    refine ⟨?_, hQ a w hsim⟩
    cases hrd : Region.ready .any ops.toArray listed with
    | nil => rfl
    | cons k ks =>
      have := (mem hs (k := k) (by rw [hrd]; simp)).1
      rw [hr0] at this; cases this
  | succ fuel ih =>
    intro listed σ a w hs hcl hle hsim hrun
    refine ⟨fun hr => ?_, fun i hi => ?_⟩
    · rw [nil hs hr] at hrun
      simp only [runI, Option.some.injEq] at hrun; subst hrun
      exact hQ a w hsim
    · obtain ⟨hm, hlt, hd⟩ := mem hs hi
      have hsort : (remL ops listed).Pairwise (· < ·) := List.Pairwise.filter _ List.pairwise_lt_range
      obtain ⟨pre, post, hpp⟩ := List.append_of_mem hm
      have hy : ops[i]? = some ops[i] := by simp [hlt]
      rw [hpp] at hrun hsort
      have hb := bubble hE hN hy pre σ ⟨a, w, hsim⟩ (fun j hj x hx => by
        have hjm : j ∈ remL ops listed := by rw [hpp]; simp [hj]
        have hjl : listed.getD j true = false := by have := (List.mem_filter.1 hjm).2; simpa using this
        have hji : j < i := by
          rw [List.pairwise_append] at hsort
          exact hsort.2.2 j hj i (by simp)
        rcases hc.pair i j x ops[i] hx hy hji with h | h
        · exfalso
          cases hmi : ms[i]? with
          | none => rw [hmi] at h; simp at h
          | some mi =>
            rw [hmi] at h
            have := mask_listed hc hcl (i + 1) i mi j (by omega) hmi h hd
            have hjlt : j < listed.size := by rw [hs]; exact List.mem_range.1 (List.mem_filter.1 hjm).1
            rw [← getD_flip hjlt, hjl] at this
            cases this
        · exact h) hrun
      simp only [runI, Option.bind_eq_some_iff] at hb
      obtain ⟨o, ho, σ1, h1, h2⟩ := hb
      have hrem : remL ops (listed.setIfInBounds i true) = pre ++ post := by
        have : remL ops (listed.setIfInBounds i true) = (remL ops listed).filter fun k => k != i := by
          unfold remL
          rw [List.filter_filter]
          refine List.filter_congr fun k hk => ?_
          by_cases e : k = i
          · subst e
            have : k < listed.size := by rw [hs]; exact hlt
            simp [this]
          · rw [getD_set_ne true (Ne.symm e)]
            simp [e]
        rw [this, hpp]
        rw [List.pairwise_append] at hsort
        obtain ⟨s1, s2, s3⟩ := hsort
        rw [List.pairwise_cons] at s2
        rw [List.filter_append, List.filter_cons]
        simp only [bne_self_eq_false, Bool.false_eq_true, if_false]
        rw [List.filter_eq_self.2, List.filter_eq_self.2]
        · intro k hk; have := s2.1 k hk; simp; omega
        · intro k hk; have := s3 k hk i (by simp); simp; omega
      have step := stepV_sound (K := wpAny P .any ops.toArray Q' fuel (listed.setIfInBounds i true)) (Q' := Q') hE hN h1 hsim (fun a' w' hs' => by
        refine ih (listed.setIfInBounds i true) σ1 a' w' (by simp [hs]) ?_ ?_ hs' (by rw [hrem]; exact h2)
        · intro k o' ho' hk e he hb
          by_cases e' : k = i
          · subst e'; exact getD_set_true (hd o' ho' e he hb)
          · rw [getD_set_ne false (Ne.symm e')] at hk
            exact getD_set_true (hcl k o' ho' hk e he hb)
        · rw [hrem]
          rw [hpp] at hle
          simp at hle ⊢; omega)
      unfold wpOp
      have ho' : ops.toArray[i]? = some o := by simpa using ho
      simp only [ho']
      split
      · rename_i hw; rw [if_pos hw] at step; exact .inl step
      · rename_i hw; rw [if_neg hw] at step; exact step

theorem Sim.drawn {a : Act} {w : World} (h : Sim N σ a w) : Sim N σ a { w with drawn := w.drawn + 1 } := by
  obtain ⟨g, hv, hU, hD, hn, hdf, hsl⟩ := h
  have hb : Below w.heap.size w { w with drawn := w.drawn + 1 } := ⟨rfl, rfl, rfl, Nat.le_refl _, fun _ _ => rfl⟩
  exact ⟨g, hv.world hb, hU, hD, hn, hdf, Slots.le (hv.le_world hb) hsl⟩

theorem AW_draw {Q : AX → AS → Prop} (E : Env) (hE : EnvOK P E) (hN : EntOK E N) (hP : P.follows .mixedOrders = true) {id : Nat} {ops : List Oper} (σ' : AS) (hc : confB ops = true) (h : regs E N.lvl N.N ops ops σ = some σ') (hQ : Q .nrm σ') : AW P N (.region id ops.toArray true) Q σ := by
  intro a w hs
  refine wp_region_any hP ?_
  have hrem : remL ops (Array.replicate ops.toArray.size false) = List.range ops.length := by
    unfold remL
    rw [List.filter_eq_self]
    intro k hk
    have := List.mem_range.1 hk
    simp [this]
  refine any_sound (σ' := σ') hE hN (confB_spec hc) (fun a w h => ⟨.nrm, σ', rfl, hQ, h⟩) _ _ σ _ _ (by simp) ?_ ?_ hs.drawn ?_
  · intro i o ho hl
    exfalso
    rw [Array.getD_eq_getD_getElem?, Array.getElem?_replicate] at hl
    split at hl <;> simp at hl
  · rw [hrem]; simp
  · rw [hrem, List.range_eq_range', runI_regs ops 0 σ (by simp)]
    exact h
end
end Go.Abs
