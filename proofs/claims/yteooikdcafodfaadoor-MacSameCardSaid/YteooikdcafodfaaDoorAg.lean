/- The operations that change no box, one by one. Second part: those that only look. -/
import Derived.Test.YteooikdcafodfaaDoorAf
namespace Go.Abs
set_option linter.unusedSimpArgs false
set_option linter.unusedVariables false
open Go Go.RowKit
section
variable {P : Program} {N : Ent} {g : Ghost} {box : Boxes} {w : World} {o : Oper} {a : Act} {d : Nat} {ρ : Operand → AV} {te : TypeId → Option TI}

theorem Top.strip (v : AV) (u : Value) : Top g (strip v) u := by
  cases v <;> trivial

/-- a part of some cells that lie in a list -/
theorem part_rel (hte : TeOK P te) {t : TypeId} {cs : List AV} {us : List Value} (hr : RVs g.μ g.G w cs us) {off : Nat} {v : AV} (h : partV te t cs off = some v) :
    ∃ ti, te t = some ti ∧ if isAggK ti.kind then off + ti.size ≤ cs.length ∧ v = .agg ((cs.drop off).take ti.size) else ∃ x, cs[off]? = some x ∧ v = strip x := by
  unfold partV at h
  cases e : te t with
  | none => rw [e] at h; simp at h
  | some ti =>
    rw [e] at h
    simp only [Option.bind_some] at h
    refine ⟨ti, rfl, ?_⟩
    split at h
    · rw [if_pos ‹_›]
      split at h
      · cases h; exact ⟨‹_›, rfl⟩
      · cases h
    · rw [if_neg ‹_›]
      simp only [Option.map_eq_some_iff] at h
      obtain ⟨x, h1, h2⟩ := h
      exact ⟨x, h1, h2.symm⟩

/-- a value read out of memory -/
theorem run_loadVar_rel (hte : TeOK P te) {t : TypeId} {cs : List AV} {us : List Value} {k b off : Nat} (hr : RVs g.μ g.G w cs us) (hm : ∀ j, j < us.length → at_ w k (b + j) = us[j]?)
    {v : AV} (h : partV te t cs off = some v) : ∃ u, (loadVar t ⟨k, b + off, none⟩).run P w = .ok u w ∧ RV g.μ g.G w v u ∧ Top g v u := by
  obtain ⟨ti, ht, h1⟩ := part_rel (w := w) (g := g) hte hr h
  have hl := hr.length
  split at h1
  · rename_i hagg
    obtain ⟨h2, rfl⟩ := h1
    obtain ⟨dd, hu, hk⟩ := (hte t ti ht).under
    obtain ⟨i, z, hi, hs, _⟩ := (hte t ti ht).info
    have hrow : dd.isRow = true := by
      cases hkk : ti.kind <;> rw [hkk] at hk hagg <;> simp only [isAggK, TKis] at hk hagg <;> try (cases hagg)
      · subst hk; rfl
      · obtain ⟨f, rfl, _⟩ := hk; rfl
    refine ⟨_, run_loadVar_mid w k (b + off) t ((us.drop off).take ti.size) dd ?_ hu hrow (by simp [hi, hs, hl]; omega), ?_, trivial⟩
    · intro j v hv
      have hj : j < ti.size := by
        rcases Nat.lt_or_ge j ti.size with h | h
        · exact h
        · rw [List.getElem?_eq_none (by simp; omega)] at hv; cases hv
      rw [List.getElem?_take, if_pos hj, List.getElem?_drop] at hv
      have := hm (off + j) (by rcases Nat.lt_or_ge (off + j) us.length with h | h; exact h; rw [List.getElem?_eq_none h] at hv; cases hv)
      rw [Nat.add_assoc]; exact this.trans hv
    · simp only [RV]; exact ⟨_, rfl, (hr.drop off).take ti.size⟩
  · rename_i hagg
    obtain ⟨x, hx, rfl⟩ := h1
    obtain ⟨u, hu, hrv⟩ := hr.get off x hx
    have hlt : off < us.length := by rw [hl]; exact (List.getElem?_eq_some_iff.1 hx).1
    refine ⟨u, ?_, hrv.strip, Top.strip _ _⟩
    have hc : w.cell? ⟨k, b + off, none⟩ = some u := (hm off hlt).trans hu
    simp [loadVar, run_isAgg hte ht, hagg, load, Sem.run, hc]

theorem Valid.box_cells (hv : Valid N g box w) {b : Bx} {k : Nat} {xs : List AV} (hb : g.μ b = some k) (hx : box b = some xs) :
    ∃ us, RVs g.μ g.G w xs us ∧ (∀ j, j < us.length → at_ w k j = us[j]?) ∧ (∀ j, j < us.length → w.frozen? ⟨k, j, none⟩ = false) := by
  obtain ⟨cs, el, us, h1, h2, h3, h4⟩ := hv.cont b k xs hb hx
  exact ⟨us, h4, fun j hj => by rw [at_row h1]; exact h3 j hj, fun j _ => frozen_row h1⟩

theorem out_load (hte : TeOK P te) (hv : Valid N g box w) (hρ : Rel g w a ρ) (t : TypeId) (x : Operand) (ho : o.op = .load t x) {v : AV} (h : loadV te box t (ρ x) = some v) : GOut P N g box w o a d { v } := by
  have hx := (hρ x).1
  have key : ∀ (k off : Nat) (v : AV) (u : Value), a.eval x = .pointer (some ⟨k, off, none⟩) → (loadVar t ⟨k, off, none⟩).run P w = .ok u w → (execOp a.eval o).run P w = .ok (.value u) w := fun k off v u he hl => by
    refine run_value (s := Instr.loadAt t (a.eval x)) ?_ (by unfold execOp; rw [ho])
    simp only [he, Instr.loadAt, Instr.sureAddr, Sem.run_bind, Sem.run_pure, Result.andThen_ok, hl]
  unfold loadV at h
  split at h
  · rename_i b off e
    rw [e] at hx; simp only [RV] at hx
    obtain ⟨k, hk, he⟩ := hx
    simp only [Option.bind_eq_some_iff] at h
    obtain ⟨xs, hxs, h⟩ := h
    obtain ⟨us, h4, h5, _⟩ := hv.box_cells hk hxs
    obtain ⟨u, hu, h6, h7⟩ := run_loadVar_rel (k := k) (b := 0) hte h4 (by simpa using h5) h
    exact .pure hv (key k off v u he (by simpa using hu)) h6 h7
  · rename_i xs e
    rw [e] at hx; simp only [RV] at hx
    obtain ⟨k, off, us, he, h4, h5⟩ := hx
    obtain ⟨u, hu, h6, h7⟩ := run_loadVar_rel (k := k) (b := off) hte h4 (fun j hj => (h5 j hj).1) h
    exact .pure hv (key k off v u he (by simpa using hu)) h6 h7
  · cases h

theorem out_nilCheck (hv : Valid N g box w) (hρ : Rel g w a ρ) (x : Operand) (ho : o.op = .nilCheck x) {v : AV} (h : (match ρ x with | .ptr b o => some (AV.ptr b o) | .iptr xs => some (.iptr xs) | .fn f cs => some (.fn f cs) | _ => none) = some v) :
    GOut P N g box w o a d { v } := by
  have hx := (hρ x).1
  have hvx : v = ρ x := by
    revert h; cases ρ x <;> intro h <;> simp only [reduceCtorEq, Option.some.injEq] at h <;> exact h.symm
  subst hvx
  refine .pure hv (u := a.eval x) ?_ (hρ x).1 (hρ x).2
  have hx := (hρ x).1
  revert h hx
  cases ρ x <;> intro h hx <;> simp only [reduceCtorEq] at h <;> simp only [RV] at hx
  · obtain ⟨k, _, he⟩ := hx; unfold execOp; rw [ho]; simp only [he]; rfl
  · obtain ⟨k, off, us, he, _⟩ := hx; unfold execOp; rw [ho]; simp only [he]; rfl
  · obtain ⟨us, he, _⟩ := hx; unfold execOp; rw [ho]; simp only [he]; rfl

theorem out_unOp (hv : Valid N g box w) (hρ : Rel g w a ρ) (op : UnOp) (t : TypeId) (x : Operand) (ho : o.op = .unOp op t x) {v : AV} (h : unV op (ρ x) = some v) : GOut P N g box w o a d { v } := by
  have hx := (hρ x).1
  have key : ∀ u : Value, (Op.unary op (a.eval x)).run P w = .ok u w → (execOp a.eval o).run P w = .ok (.value u) w := fun u hu => run_value hu (by unfold execOp; rw [ho])
  have fin : ∀ u : Value, (Op.unary op (a.eval x)).run P w = .ok u w → RV g.μ g.G w v u → Top g v u → GOut P N g box w o a d { v } := fun u h1 h2 h3 => .pure hv (key u h1) h2 h3
  clear key hρ
  revert h hx fin
  generalize a.eval x = u0
  generalize ρ x = x0
  intro h hx fin
  unfold unV at h
  split at h
  · cases h; simp only [RV] at hx; subst hx; exact fin _ rfl (by simp only [RV]) trivial
  · cases h; simp only [RV] at hx; subst hx; exact fin _ rfl (by simp only [RV]) trivial
  · cases h; simp only [RV] at hx; subst hx; exact fin _ rfl (by simp only [RV]) trivial
  · cases h; simp only [RV] at hx; obtain ⟨b, rfl⟩ := hx; exact fin (.bool !b) rfl (by simp only [RV]; exact ⟨_, rfl⟩) trivial
  · cases h

theorem out_extract (hv : Valid N g box w) (hρ : Rel g w a ρ) (x : Operand) (i : Nat) (ho : o.op = .extract x i) {vs : List AV} (he : ρ x = .tup vs) {v : AV} (h : vs[i]? = some v) (hnt : ∀ vs, v ≠ .tup vs) : GOut P N g box w o a d { v } := by
  have hx := (hρ x).1
  have ht := (hρ x).2
  rw [he] at hx ht; simp only [RV] at hx; simp only [Top] at ht
  obtain ⟨us, hu, hr⟩ := hx
  obtain ⟨us', hu', ht⟩ := ht
  obtain ⟨u, h1, h2⟩ := hr.get i v h
  refine .pure hv (u := u) ?_ h2 ?_
  · refine run_value (s := Instr.extract (a.eval x) i) ?_ (by unfold execOp; rw [ho])
    rw [hu]; simp [Instr.extract, h1]
  · rw [hu] at hu'; cases hu'
    cases v with
    | sl n xs fl => exact ht i n xs fl u h (by simpa using h1)
    | tup vs => exact absurd rfl (hnt vs)
    | _ => trivial

theorem out_makeFunc (hv : Valid N g box w) (hρ : Rel g w a ρ) (f : FuncId) (first caps : Array Operand) (ho : o.op = .makeFunc (.func f) first caps) (h0 : first.size = 0) :
    GOut P N g box w o a d { v := .fn f (caps.toList.map ρ) } := by
  refine .pure hv (u := .func (.func f) #[] (caps.map a.eval)) ?_ ?_ trivial
  · refine run_value (s := Instr.makeFunc (.func f) (first.map a.eval) (caps.map a.eval)) ?_ (by unfold execOp; rw [ho])
    have : first = #[] := Array.eq_empty_of_size_eq_zero h0
    subst this; simp [Instr.makeFunc]
  · simp only [RV]
    refine ⟨caps.toList.map a.eval, by rw [← Array.toList_map, Array.toArray_toList], RVs.of_get (by simp) fun j x u hx hu => ?_⟩
    simp only [List.getElem?_map, Option.map_eq_some_iff] at hx hu
    obtain ⟨y, h1, rfl⟩ := hx
    obtain ⟨y', h2, rfl⟩ := hu
    rw [h1] at h2; cases h2
    exact (hρ y).1
end
end Go.Abs
