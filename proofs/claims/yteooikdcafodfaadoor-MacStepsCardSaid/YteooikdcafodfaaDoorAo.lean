/- Calls: what a function that sees no boxes promises, and what it is worth to its caller. -/
import Derived.Test.YteooikdcafodfaaDoorAn
namespace Go.Abs
set_option linter.unusedSimpArgs false
set_option linter.unusedVariables false
open Go Go.RowKit

abbrev noMu : Bx → Option Nat := fun _ => none

/-- what a function finds -/
structure PreV (glob : Nat → Option (List AV)) (G : Nat → Nat → Prop) (w : World) (args : List AV) (vals : List Value) : Prop where
  cell : ∀ k o, G k o → (at_ w k o).isSome
  glob : ∀ gi xs, glob gi = some xs → RV noMu G w (.iptr xs) (.pointer (some ⟨gi, 0, none⟩))
  args : RVs noMu G w args vals

/-- the ghost of a result: only the room behind what is handed over -/
def resG (G' : Nat → Nat → Prop) (T : Nat → Option (Nat × Nat × Nat)) : Ghost :=
  { μ := noMu, G := G', T := fun i => if i.slot = 0 ∧ i.gen = 0 then T i.comp else none, U := fun _ => 0, D := fun _ => false }

/-- what a function leaves -/
structure PostV (G : Nat → Nat → Prop) (w : World) (r : AV) (u : Value) (G' : Nat → Nat → Prop) (w' : World) (T : Nat → Option (Nat × Nat × Nat)) : Prop where
  below : Below w.heap.size w w'
  sub : ∀ k o, G k o → G' k o
  old : ∀ k o, G' k o → k < w.heap.size → G k o
  cell : ∀ k o, G' k o → (at_ w' k o).isSome
  rel : RV noMu G' w' r u
  top : Top (resG G' T) r u
  tail : ∀ c k lo hi, T c = some (k, lo, hi) → w.heap.size ≤ k ∧ k < w'.heap.size ∧ lo ≤ hi ∧ (∀ o, lo ≤ o → o < hi → (at_ w' k o).isSome ∧ w'.frozen? ⟨k, o, none⟩ = false ∧ ¬ G' k o)
  tinj : ∀ c c' k lo hi lo' hi', T c = some (k, lo, hi) → T c' = some (k, lo', hi') → c = c'

def SoundV (P : Program) (glob : Nat → Option (List AV)) (f : FuncId) (pf : List AV → Option AV) : Prop :=
  (∀ (args : Array Value) (w : World), (callFunc f args).run P w = .ok (.enter f args) w) ∧
  ∀ (args : List AV) (r : AV), pf args = some r → ∀ (G : Nat → Nat → Prop) (w : World) (vals : List Value), PreV glob G w args vals →
    Calls P f vals.toArray w fun e w' => ∃ u G' T, e = .returned u ∧ PostV G w r u G' w' T

theorem flat_rel {μ μ' : Bx → Option Nat} {G G' : Nat → Nat → Prop} {w w' : World} : ∀ {xs ys : List AV} {us : List Value}, flatL xs = some ys → RVs μ G w xs us → RVs μ' G' w' xs us ∧ ys = xs
  | [], ys, us, h, hr => by simp [flatL] at h; subst h; exact ⟨hr, rfl⟩
  | x :: xs, ys, us, h, hr => by
    unfold flatL at h
    split at h
    · rename_i heq; cases heq
    · rename_i v xs' heq
      cases heq
      simp only [Option.map_eq_some_iff] at h
      obtain ⟨ys', h1, rfl⟩ := h
      simp only [RVs] at hr ⊢
      obtain ⟨u, us', rfl, h2, h3⟩ := hr
      obtain ⟨h4, h5⟩ := flat_rel (μ' := μ') (G' := G') (w' := w') h1 h3
      exact ⟨⟨u, us', rfl, h2, h4⟩, by rw [h5]⟩
    · cases h

section
variable {P : Program} {N : Ent} {g : Ghost} {box : Boxes} {w : World} {o : Oper} {a : Act} {d : Nat} {ρ : Operand → AV} {te : TypeId → Option TI}

/-- the cells of boxes, for as long as a call lasts -/
def boxG (g : Ghost) (box : Boxes) : Nat → Nat → Prop := fun k o => g.G k o ∨ ∃ b xs, g.μ b = some k ∧ box b = some xs ∧ o < xs.length

theorem up_G (b : Bool) {k o : Nat} (h : g.G k o) : (if b then boxG g box else g.G) k o := by
  cases b
  · exact h
  · exact .inl h

mutual
theorem snap_rel (hv : Valid N g box w) : ∀ (v v' : AV) (u : Value), snap box v = some v' → RV g.μ g.G w v u → RV noMu (if hasView v then boxG g box else g.G) w v' u
  | .dead, v', u, h, _ => by simp [snap] at h; subst h; simp only [RV]
  | .raw x, v', u, h, hr => by simp [snap] at h; subst h; simpa only [RV] using hr
  | .anyb, v', u, h, hr => by simp [snap] at h; subst h; simpa only [RV] using hr
  | .sl n xs fl, v', u, h, hr => by
    simp only [snap, Option.map_eq_some_iff] at h
    obtain ⟨ys, h1, rfl⟩ := h
    simp only [RV, hasView] at hr ⊢
    have hl := snapL_len xs ys h1
    rcases hr with ⟨rfl, h2, h3⟩ | ⟨k, off, c, us, rfl, h2, h3, h4⟩
    · exact .inl ⟨rfl, h2, by rw [h3] at hl; exact List.length_eq_zero_iff.1 hl⟩
    · refine .inr ⟨k, off, c, us, rfl, h2, snapL_rel hv xs ys us h1 h3, fun j hj => ⟨(h4 j hj).1, ?_⟩⟩
      exact up_G _ (h4 j hj).2
  | .view b off n c z, v', u, h, hr => by
    simp only [snap, Option.bind_eq_some_iff] at h
    obtain ⟨xs, hx, h⟩ := h
    split at h
    · rename_i hc
      simp only [Option.map_eq_some_iff] at h
      obtain ⟨ys, h1, rfl⟩ := h
      simp only [RV, hasView, if_true] at hr ⊢
      obtain ⟨k, oo, hm, rfl, hnc, hoo⟩ := hr
      obtain ⟨us, h4, h5, _⟩ := hv.box_cells hm hx
      have hul := h4.length
      right
      by_cases hc0 : c = 0
      · have hn0 : n = 0 := by omega
        subst hn0
        simp [flatL] at h1; subst h1
        exact ⟨k, oo, c, [], rfl, hnc, RVs.nil, fun j hj => by simp at hj⟩
      · have : oo = off := by rcases hoo with h | h; · exact h
                              · exact absurd h hc0
        subst this
        obtain ⟨h6, h7⟩ := flat_rel (μ' := noMu) (G' := boxG g box) (w' := w) h1 ((h4.drop oo).take (n * z))
        rw [h7]
        refine ⟨k, oo, c, _, rfl, hnc, h6, fun j hj => ?_⟩
        rw [List.length_take, List.length_drop] at hj
        refine ⟨?_, .inr ⟨b, xs, hm, hx, by omega⟩⟩
        rw [List.getElem?_take, if_pos (by omega), List.getElem?_drop]
        exact h5 _ (by omega)
    · cases h
  | .agg xs, v', u, h, hr => by
    simp only [snap, Option.map_eq_some_iff] at h
    obtain ⟨ys, h1, rfl⟩ := h
    simp only [RV, hasView] at hr ⊢
    obtain ⟨us, rfl, h2⟩ := hr
    exact ⟨us, rfl, snapL_rel hv xs ys us h1 h2⟩
  | .tup xs, v', u, h, hr => by
    simp only [snap, Option.map_eq_some_iff] at h
    obtain ⟨ys, h1, rfl⟩ := h
    simp only [RV, hasView] at hr ⊢
    obtain ⟨us, rfl, h2⟩ := hr
    exact ⟨us, rfl, snapL_rel hv xs ys us h1 h2⟩
  | .fn f caps, v', u, h, hr => by
    simp only [snap] at h
    split at h
    · rename_i hc
      cases h
      have : caps = [] := by simpa using hc
      subst this
      simp only [RV, RVs] at hr ⊢
      exact hr
    · cases h
  | .ptr _ _, _, _, h, _ => by simp [snap] at h
  | .iptr _, _, _, h, _ => by simp [snap] at h
  | .nptr _, _, _, h, _ => by simp [snap] at h
theorem snapL_rel (hv : Valid N g box w) : ∀ (xs ys : List AV) (us : List Value), snapL box xs = some ys → RVs g.μ g.G w xs us → RVs noMu (if hasViewL xs then boxG g box else g.G) w ys us
  | [], ys, us, h, hr => by simp [snapL] at h; subst h; simpa only [RVs] using hr
  | x :: xs, ys, us, h, hr => by
    simp only [snapL, Option.bind_eq_some_iff, Option.map_eq_some_iff] at h
    obtain ⟨y, h1, ys', h2, rfl⟩ := h
    simp only [RVs] at hr ⊢
    obtain ⟨u, us', rfl, h3, h4⟩ := hr
    have up : ∀ (b b' : Bool) v u, (b = true → b' = true) → RV noMu (if b then boxG g box else g.G) w v u → RV noMu (if b' then boxG g box else g.G) w v u := fun b b' v u hbb h =>
      RV.mono (fun _ _ h => h) (fun k o h => by
        cases b <;> cases b' <;> simp at h hbb ⊢
        · exact h
        · exact .inl h
        · exact h) (fun _ _ _ => rfl) v u h
    have ups : ∀ (b b' : Bool) v u, (b = true → b' = true) → RVs noMu (if b then boxG g box else g.G) w v u → RVs noMu (if b' then boxG g box else g.G) w v u := fun b b' v u hbb h =>
      RVs.mono (fun _ _ h => h) (fun k o h => by
        cases b <;> cases b' <;> simp at h hbb ⊢
        · exact h
        · exact .inl h
        · exact h) (fun _ _ _ => rfl) v u h
    exact ⟨u, us', rfl, up _ _ _ _ (by simp only [hasViewL]; intro h; rw [h]; rfl) (snap_rel hv x y u h1 h3), ups _ _ _ _ (by simp only [hasViewL]; intro h; rw [h]; simp) (snapL_rel hv xs ys' us' h2 h4)⟩
theorem snapL_len : ∀ (xs ys : List AV), snapL box xs = some ys → ys.length = xs.length
  | [], ys, h => by simp [snapL] at h; subst h; rfl
  | x :: xs, ys, h => by
    simp only [snapL, Option.bind_eq_some_iff, Option.map_eq_some_iff] at h
    obtain ⟨y, h1, ys', h2, rfl⟩ := h
    simp [snapL_len xs ys' h2]
end

/-- the model's step of an operation, and what holds behind it -/
def SOut (P : Program) (N : Ent) (g : Ghost) (box : Boxes) (w : World) (o : Oper) (a : Act) (d : Nat) (r : GR) : Prop :=
  ∀ (K : Act → World → Prop) (Q : Exit → Act → World → Prop), (∀ u w' g', Valid N g' (match r.cont with | some c => updB box (.own N.lvl d (g.U d + 1)) c | none => box) w' → Le g w g' w' →
    g'.U = (if r.bump then upd g.U d (g.U d + 1) else g.U) → g'.D = (match r.use with | some i => updI g.D i | none => g.D) → RV g'.μ g'.G w' r.v u → Top g' r.v u → K (a.put o.dst u) w') → o.wp P a w K Q

theorem GOut.step {r : GR} (h : GOut P N g box w o a d r) : SOut P N g box w o a d r := by
  intro K Q hK
  obtain ⟨u, w', g', h1, h2, h3, h4, h5, h6, h7⟩ := h
  unfold Oper.wp
  rw [h1]
  exact hK u w' g' h2 h3 h4 h5 h6 h7

/-- room behind what a call hands over -/
theorem Valid.addTs (h : Valid N g box w) (n : Nat) (hn : g.U d < n) (T : Nat → Option (Nat × Nat × Nat))
    (hT : ∀ c k lo hi, T c = some (k, lo, hi) → N.w0.heap.size ≤ k ∧ k < w.heap.size ∧ lo ≤ hi ∧ (∀ o, lo ≤ o → o < hi → (at_ w k o).isSome ∧ w.frozen? ⟨k, o, none⟩ = false ∧ ¬ g.G k o) ∧ (∀ b, g.μ b ≠ some k) ∧ ∀ j lo hi, g.T j ≠ some (k, lo, hi))
    (hinj : ∀ c c' k lo hi lo' hi', T c = some (k, lo, hi) → T c' = some (k, lo', hi') → c = c') (U : Nat → Nat) (hU : ∀ s, g.U s ≤ U s) (hUd : n ≤ U d) :
    Valid N { g with U, T := fun j => if j.slot = d ∧ j.gen = n then T j.comp else g.T j } box w := by
  have hD : ∀ j : Id, j.slot = d → j.gen = n → g.D j = false := fun j h1 h2 => by
    cases e : g.D j with
    | false => rfl
    | true => have := h.dgen j e; rw [h1, h2] at this; omega
  refine { h with fresh := fun s n k hm => Nat.le_trans (h.fresh s n k hm) (hU s), dgen := fun i hi => Nat.le_trans (h.dgen i hi) (hU _), tail := ?_, tinj := ?_ }
  · intro j k lo hi ht
    change (if _ then _ else _) = _ at ht
    split at ht
    · rename_i e
      obtain ⟨t1, t2, t3, t4, t5, t6⟩ := hT _ _ _ _ ht
      exact ⟨t1, t2, by rw [e.1, e.2]; exact hUd, hD j e.1 e.2, t3, t4, t5⟩
    · obtain ⟨t1, t2, t3, t4⟩ := h.tail j k lo hi ht
      exact ⟨t1, t2, Nat.le_trans t3 (hU _), t4⟩
  · intro j j' k lo hi lo' hi' ht ht'
    change (if _ then _ else _) = _ at ht
    change (if _ then _ else _) = _ at ht'
    split at ht <;> split at ht'
    · rename_i e e'
      have := hinj _ _ _ _ _ _ _ ht ht'
      cases j; cases j'; simp_all
    · exact absurd ht' ((hT _ _ _ _ ht).2.2.2.2.2 _ _ _)
    · exact absurd ht ((hT _ _ _ _ ht').2.2.2.2.2 _ _ _)
    · exact h.tinj _ _ _ _ _ _ _ ht ht'

theorem RV.takeR {μ : Bx → Option Nat} {G : Nat → Nat → Prop} {v : AV} {u : Value} {n : Nat} (h : RV μ G w v u) : RV μ G w (takeR d n v) u := by
  have one : ∀ v u, RV μ G w v u → RV μ G w (match v with | .sl n' xs (.own i z) => .sl n' xs (.own ⟨d, i.comp, n⟩ z) | v => v) u := fun v u h => by
    split
    · simpa only [RV] using h
    · exact h
  cases v with
  | sl n' xs fl => cases fl <;> (simp only [Abs.takeR]; first | exact h | simpa only [RV] using h)
  | tup vs =>
    simp only [Abs.takeR, RV] at h ⊢
    obtain ⟨us, rfl, hr⟩ := h
    refine ⟨us, rfl, RVs.of_get (by simp [hr.length]) fun j x u hx hu => ?_⟩
    simp only [List.getElem?_map, Option.map_eq_some_iff] at hx
    obtain ⟨y, h1, rfl⟩ := hx
    obtain ⟨u', h2, h3⟩ := hr.get j y h1
    rw [hu] at h2; cases h2
    exact one y u h3
  | _ => exact h

theorem FlOK.takeR {G' : Nat → Nat → Prop} {T : Nat → Option (Nat × Nat × Nat)} {g' : Ghost} {n m : Nat} (hT : ∀ c, g'.T ⟨d, c, n⟩ = T c) (hU : n ≤ g'.U d) {i : Id} {z : Nat} {u : Value} (h : FlOK (resG G' T) (.own i z) m u) : FlOK g' (.own ⟨d, i.comp, n⟩ z) m u := by
  cases u with
  | slice A n' c =>
    simp only [FlOK, resG] at h ⊢
    refine ⟨hU, ?_⟩
    rcases h.2 with h1 | h1 | ⟨k, o, lo, hi, e1, e2, e3, e4⟩
    · cases h1
    · exact .inr (.inl h1)
    · split at e3
      · exact .inr (.inr ⟨k, o, lo, hi, e1, e2, by rw [hT]; exact e3, e4⟩)
      · cases e3
  | _ => simp only [FlOK] at h

theorem FlOK.resPlain {G' : Nat → Nat → Prop} {T : Nat → Option (Nat × Nat × Nat)} {g' : Ghost} {m : Nat} {fl : Fl} (hfl : ∀ i z, fl ≠ .own i z) {u : Value} (h : FlOK (resG G' T) fl m u) : FlOK g' fl m u := by
  cases fl with
  | own i z => exact absurd rfl (hfl i z)
  | bor => trivial
  | full => cases u <;> first | exact h | (simp only [FlOK] at h)

theorem Top.takeR {G' : Nat → Nat → Prop} {T : Nat → Option (Nat × Nat × Nat)} {g' : Ghost} {n : Nat} (hT : ∀ c, g'.T ⟨d, c, n⟩ = T c) (hU : n ≤ g'.U d) {v : AV} {u : Value} (h : Top (resG G' T) v u) : Top g' (takeR d n v) u := by
  cases v with
  | sl n' xs fl =>
    cases fl with
    | own i z => simp only [Abs.takeR, Top] at h ⊢; exact h.takeR hT hU
    | bor => trivial
    | full => simp only [Abs.takeR, Top] at h ⊢; exact h.resPlain (by simp)
  | tup vs =>
    simp only [Abs.takeR, Top] at h ⊢
    obtain ⟨us, rfl, h2⟩ := h
    refine ⟨us, rfl, fun j n' xs fl v hj hv => ?_⟩
    simp only [List.getElem?_map, Option.map_eq_some_iff] at hj
    obtain ⟨y, h3, h4⟩ := hj
    split at h4
    · rename_i n'' xs' i z
      cases h4
      exact (h2 j _ _ _ v h3 hv).takeR hT hU
    · rename_i hno
      subst h4
      exact (h2 j _ _ _ v h3 hv).resPlain (fun i z e => hno _ _ i z (by rw [e]))
  | _ => trivial

theorem freshC_rel {G' G1 : Nat → Nat → Prop} {w' : World} {T : Nat → Option (Nat × Nat × Nat)} (hG : ∀ k o, G' k o → w.heap.size ≤ k → G1 k o) (hT : ∀ c k lo hi, T c = some (k, lo, hi) → w.heap.size ≤ k) {v : AV} {u : Value}
    (hf : freshC v = true) (h : RV noMu G' w' v u) (ht : ∀ n xs fl, v = .sl n xs fl → FlOK (resG G' T) fl xs.length u) : RV noMu G1 w' v u := by
  unfold freshC at hf
  split at hf
  · simpa only [RV] using h
  · simpa only [RV] using h
  · simp only [RV]
  · rename_i n xs i z
    obtain ⟨ys, hy⟩ := Option.isSome_iff_exists.1 hf
    have hfl := ht n xs _ rfl
    simp only [RV] at h ⊢
    rcases h with h | ⟨k, o, c, us, rfl, h2, h3, h4⟩
    · exact .inl h
    · refine .inr ⟨k, o, c, us, rfl, h2, (flat_rel (μ' := noMu) (G' := G1) (w' := w') hy h3).1, fun j hj => ⟨(h4 j hj).1, hG _ _ (h4 j hj).2 ?_⟩⟩
      simp only [FlOK, resG] at hfl
      rcases hfl.2 with h1 | ⟨h1, _⟩ | ⟨k', o', lo, hi, e1, e2, e3, e4⟩
      · cases h1
      · cases h1
      · cases e1
        split at e3
        · exact hT _ _ _ _ e3
        · cases e3
  · rename_i xs
    obtain ⟨ys, hy⟩ := Option.isSome_iff_exists.1 hf
    simp only [RV] at h ⊢
    obtain ⟨us, rfl, h2⟩ := h
    exact ⟨us, rfl, (flat_rel (μ' := noMu) (G' := G1) (w' := w') hy h2).1⟩
  · cases hf

theorem snapAll_rel (hv : Valid N g box w) : ∀ (xs ys : List AV) (us : List Value), snapAll box xs = some ys → RVs g.μ g.G w xs us → RVs noMu (if hasViewL xs then boxG g box else g.G) w ys us := by
  intro xs ys us h hr
  have e : ∀ xs, snapAll box xs = snapL box xs := by
    intro xs
    induction xs with
    | nil => rfl
    | cons x xs ih => simp only [snapAll, snapL, ih]
  exact snapL_rel hv xs ys us (by rw [← e]; exact h) hr

theorem out_callV {glob : Nat → Option (List AV)} (hglob : ∀ gi xs, glob gi = some xs → RV noMu g.G w (.iptr xs) (.pointer (some ⟨gi, 0, none⟩))) (hv : Valid N g box w) (hρ : Rel g w a ρ) (f : Operand) (args : Array Operand) (ts : Array TypeId)
    (ho : o.op = .call { callee := .value f, args := args, argTypes := ts }) {fid : FuncId} (hf : ρ f = .fn fid []) {pf : List AV → Option AV} (hs : SoundV P glob fid pf) {as : List AV} (ha : snapAll box (args.toList.map ρ) = some as) {r : AV} (hr : pf as = some r)
    (hc : hasViewL (args.toList.map ρ) = false ∨ freshR r = true) (hd : o.dst = some d) : SOut P N g box w o a d { v := takeR d (g.U d + 1) r, bump := true } := by
  intro K Q hK
  have hfv := (hρ f).1
  rw [hf] at hfv; simp only [RV, RVs] at hfv
  obtain ⟨us0, hfe, rfl⟩ := hfv
  have hargs : RVs g.μ g.G w (args.toList.map ρ) (args.toList.map a.eval) := RVs.of_get (by simp) fun j x u hx hu => by
    simp only [List.getElem?_map, Option.map_eq_some_iff] at hx hu
    obtain ⟨y, h1, rfl⟩ := hx
    obtain ⟨y', h2, rfl⟩ := hu
    rw [h1] at h2; cases h2
    exact (hρ y).1
  have hsn := snapAll_rel hv _ _ _ ha hargs
  generalize hview : hasViewL (args.toList.map ρ) = bv at hsn hc
  have hGc : ∀ k o, (if bv then boxG g box else g.G) k o → (at_ w k o).isSome := by
    intro k o h
    cases bv with
    | false => exact hv.cell k o h
    | true =>
      rcases h with h | ⟨b, xs, h1, h2, h3⟩
      · exact hv.cell k o h
      · obtain ⟨us, h4, h5, _⟩ := hv.box_cells h1 h2
        rw [h5 o (by rw [h4.length]; exact h3)]
        have : o < us.length := by rw [h4.length]; exact h3
        simp [this]
  have hGsub : ∀ k o, g.G k o → (if bv then boxG g box else g.G) k o := by
    intro k o h
    cases bv with
    | false => exact h
    | true => exact .inl h
  have hpre : PreV glob (if bv then boxG g box else g.G) w as (args.toList.map a.eval) :=
    ⟨hGc, fun gi xs h => RV.mono (fun _ _ h => h) hGsub (fun _ _ _ => rfl) _ _ (hglob gi xs h), hsn⟩
  unfold Oper.wp
  have hrun : (execOp a.eval o).run P w = .ok (.enter fid (args.map a.eval)) w := by
    unfold execOp; rw [ho]
    simp only [resolve, hfe, Deferred.ofValue, Sem.run_bind, Sem.run_pure, Result.andThen_ok, invoke]
    have := hs.1 (args.map a.eval) w
    simpa using this
  rw [hrun, Oper.upon_enter]
  have hcall := hs.2 as r hr _ w _ hpre
  rw [show (args.toList.map a.eval).toArray = args.map a.eval by rw [← Array.toList_map, Array.toArray_toList]] at hcall
  refine hcall.mono ?_
  rintro e w' ⟨u, G', T, rfl, hp⟩
  show K (a.put o.dst u) w'
  obtain ⟨hsz⟩ : Nonempty (w.heap.size ≤ w'.heap.size) := ⟨hp.below.size⟩
  have v1 := hv.world hp.below
  have v2 := v1.addG (fun k o => G' k o ∧ w.heap.size ≤ k) (by
    rintro k o ⟨h1, h2⟩
    obtain ⟨n1, n2, n3⟩ := hv.noneAt h2
    exact ⟨hp.cell k o h1, fun h => by have := hv.chg.size; omega, n2, fun i lo hi h => absurd h (n3 i lo hi)⟩)
  have hU : ∀ s, g.U s ≤ upd g.U d (g.U d + 1) s := fun s => by unfold upd; split <;> simp_all
  have v3 := v2.addTs (d := d) (g.U d + 1) (by simp) T (by
    intro c k lo hi ht
    obtain ⟨t1, t2, t3, t4⟩ := hp.tail c k lo hi ht
    obtain ⟨n1, n2, n3⟩ := hv.noneAt t1
    refine ⟨Nat.le_trans hv.chg.size t1, t2, t3, fun o h1 h2 => ?_, n2, fun j lo hi => n3 j lo hi⟩
    obtain ⟨e1, e2, e3⟩ := t4 o h1 h2
    exact ⟨e1, e2, fun h => h.elim (n1 o) (fun h => e3 h.1)⟩) hp.tinj (upd g.U d (g.U d + 1)) hU (by simp [upd])
  have hle : Le g w { μ := g.μ, G := fun k o => g.G k o ∨ (G' k o ∧ w.heap.size ≤ k), T := fun j => if j.slot = d ∧ j.gen = g.U d + 1 then T j.comp else g.T j, U := upd g.U d (g.U d + 1), D := g.D } w' := by
    refine ⟨fun _ _ h => h, fun _ _ h => .inl h, (hv.le_world hp.below).at', hU, fun _ h => h, fun i rr h => .inl ?_⟩
    show (if _ then _ else _) = _
    rw [if_neg]
    · exact h
    · rintro ⟨h1, h2⟩
      obtain ⟨k, lo, hi⟩ := rr
      have := (hv.tail i k lo hi h).2.2.1
      rw [h1, h2] at this; omega
  refine hK u w' _ v3 hle (by simp) rfl ?_ ?_
  · -- the result
    refine RV.takeR ?_
    have h1 : RV noMu (fun k o => g.G k o ∨ (G' k o ∧ w.heap.size ≤ k)) w' r u := by
      cases bv with
      | false =>
        refine RV.mono (fun _ _ h => h) (fun k o h => ?_) (fun _ _ _ => rfl) _ _ hp.rel
        rcases Nat.lt_or_ge k w.heap.size with h' | h'
        · exact .inl (hp.old k o h h')
        · exact .inr ⟨h, h'⟩
      | true =>
        have hfr : freshR r = true := hc.resolve_left (by simp)
        have hG1 : ∀ k o, G' k o → w.heap.size ≤ k → (g.G k o ∨ (G' k o ∧ w.heap.size ≤ k)) := fun k o h1 h2 => .inr ⟨h1, h2⟩
        have hTn : ∀ c k lo hi, T c = some (k, lo, hi) → w.heap.size ≤ k := fun c k lo hi h => (hp.tail c k lo hi h).1
        have hrel := hp.rel
        have htop := hp.top
        cases r with
        | tup vs =>
          simp only [freshR] at hfr
          simp only [RV] at hrel ⊢
          simp only [Top] at htop
          obtain ⟨us, hu, hr2⟩ := hrel
          obtain ⟨us', hu', ht⟩ := htop
          refine ⟨us, hu, RVs.of_get hr2.length fun j x v hx hvv => ?_⟩
          obtain ⟨v', h1, h2⟩ := hr2.get j x hx
          rw [hvv] at h1; cases h1
          refine freshC_rel hG1 hTn (List.all_eq_true.1 hfr x (List.mem_of_getElem? hx)) h2 ?_
          rintro n xs fl rfl
          rw [hu] at hu'; cases hu'
          exact ht j n xs fl v hx (by simpa using hvv)
        | sl n xs fl => exact freshC_rel hG1 hTn hfr hrel (fun n xs fl e => by cases e; exact htop)
        | _ => exact freshC_rel hG1 hTn hfr hrel (fun n xs fl e => by cases e)
    exact RV.mono (fun _ _ h => by cases h) (fun _ _ h => h) (fun _ _ _ => rfl) _ _ h1
  · exact hp.top.takeR (fun c => by simp) (by simp [upd])
end
end Go.Abs
