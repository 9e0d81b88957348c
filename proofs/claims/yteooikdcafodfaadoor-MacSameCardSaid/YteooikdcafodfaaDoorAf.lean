/- The operations that change no box, one by one: what the model does is what the abstract machine says. First part. -/
import Derived.Test.YteooikdcafodfaaDoorAe
import Derived.WalkKit
import Derived.Deep.MidRow
namespace Go.Abs
set_option linter.unusedSimpArgs false
set_option linter.unusedVariables false
open Go Go.RowKit

def TKis : TK → TypeDesc → Prop
  | .arr n e, d => d = .array n e
  | .st fs, d => ∃ fields, d = .struct fields ∧ fs = fields.toList.map fun f => (f.offset, f.type)
  | .slice e, d => d = .slice e
  | .str, d => d = .string
  | .int k, d => d = .int k
  | .bool, d => d = .bool
  | .ptr e, d => d = .pointer e
  | .other, d => d.isRow = false

structure TIis (P : Program) (t : TypeId) (ti : TI) : Prop where
  under : ∃ d, P.underlying t = some d ∧ TKis ti.kind d
  info : ∃ i z, P.info? t = some i ∧ i.size = ti.size ∧ i.bytes = ti.bytes ∧ i.zero = some z ∧ z.cells.toList = ti.zero ∧ ti.zero.length = ti.size
  zero1 : ∀ q ∈ ti.zero, q.oneCell' = true
  fields : ∀ fs, P.underlying t = some (.struct fs) → fs.toList.all (fun f => (P.info? f.type).isSome) = true

def TeOK (P : Program) (te : TypeId → Option TI) : Prop := ∀ t ti, te t = some ti → TIis P t ti

section
variable {P : Program} {te : TypeId → Option TI}

theorem kd_some (hte : TeOK P te) {t : TypeId} {k : TK} (h : kd te t = k) (hk : k ≠ .other) : ∃ ti, te t = some ti ∧ ti.kind = k ∧ ∃ d, P.underlying t = some d ∧ TKis k d := by
  unfold kd at h
  cases e : te t with
  | none => rw [e] at h; exact absurd h.symm hk
  | some ti =>
    rw [e] at h
    obtain ⟨d, h1, h2⟩ := (hte t ti e).under
    exact ⟨ti, rfl, h, d, h1, h ▸ h2⟩

theorem run_sizeOf (hte : TeOK P te) {t : TypeId} {ti : TI} (h : te t = some ti) (w : World) : (sizeOf t).run P w = .ok ti.size w := by
  obtain ⟨i, z, h1, h2, _⟩ := (hte t ti h).info
  simp [sizeOf, typeInfo, h1, h2]

theorem run_isAgg (hte : TeOK P te) {t : TypeId} {ti : TI} (h : te t = some ti) (w : World) : (isAgg t).run P w = .ok (isAggK ti.kind) w := by
  obtain ⟨d, h1, h2⟩ := (hte t ti h).under
  unfold isAgg
  rw [Sem.run_bind, run_underlying h1]
  cases hk : ti.kind <;> rw [hk] at h2 <;> simp only [TKis] at h2
  case st => obtain ⟨f, rfl, _⟩ := h2; rfl
  case other => cases d <;> first | rfl | (simp at h2)
  all_goals (subst h2; rfl)

theorem run_zeroValue (hte : TeOK P te) {t : TypeId} {ti : TI} (h : te t = some ti) (w : World) : ∃ z, (zeroValue t).run P w = .ok z w ∧ z.cells.toList = ti.zero := by
  obtain ⟨i, z, h1, h2, h3, h4, h5, _⟩ := (hte t ti h).info
  exact ⟨z, by simp [zeroValue, typeInfo, h1, h4], h5⟩

theorem run_under (hte : TeOK P te) {t : TypeId} {k : TK} (h : kd te t = k) (hk : k ≠ .other) (w : World) : ∃ d, TKis k d ∧ (underlying t).run P w = .ok d w := by
  obtain ⟨_, _, _, d, h1, h2⟩ := kd_some hte h hk
  exact ⟨d, h2, run_underlying h1 w⟩
end

/-- what is asked of an operation -/
def GOut (P : Program) (N : Ent) (g : Ghost) (box : Boxes) (w : World) (o : Oper) (a : Act) (d : Nat) (r : GR) : Prop :=
  ∃ u w' g', (execOp a.eval o).run P w = .ok (.value u) w' ∧
    Valid N g' (match r.cont with | some c => updB box (.own N.lvl d (g.U d + 1)) c | none => box) w' ∧ Le g w g' w' ∧
    g'.U = (if r.bump then upd g.U d (g.U d + 1) else g.U) ∧ g'.D = (match r.use with | some i => updI g.D i | none => g.D) ∧
    RV g'.μ g'.G w' r.v u ∧ Top g' r.v u

/-- operands -/
def Rel (g : Ghost) (w : World) (a : Act) (ρ : Operand → AV) : Prop := ∀ x, RV g.μ g.G w (ρ x) (a.eval x) ∧ Top g (ρ x) (a.eval x)

section
variable {P : Program} {N : Ent} {g : Ghost} {box : Boxes} {w : World} {o : Oper} {a : Act} {d : Nat}

theorem GOut.pure (hv : Valid N g box w) {v : AV} {u : Value} (hr : (execOp a.eval o).run P w = .ok (.value u) w) (h1 : RV g.μ g.G w v u) (h2 : Top g v u) : GOut P N g box w o a d { v } :=
  ⟨u, w, g, hr, hv, Le.refl _ _, by simp, by simp, h1, h2⟩

theorem run_value {s : Sem Value} {u : Value} {w w' : World} (h : s.run P w = .ok u w') (he : execOp a.eval o = (do Pure.pure (Next.value (← s)))) : (execOp a.eval o).run P w = .ok (.value u) w' := by
  rw [he, Sem.run_bind, h]; rfl

variable {ρ : Operand → AV}

theorem out_move (hv : Valid N g box w) (hρ : Rel g w a ρ) (x : Operand) (ho : o.op = .move x ∨ o.op = .assign x) : GOut P N g box w o a d { v := ρ x } :=
  .pure hv (u := a.eval x) (by rcases ho with ho | ho <;> (unfold execOp; rw [ho]; rfl)) (hρ x).1 (hρ x).2

theorem out_pick (hv : Valid N g box w) (hρ : Rel g w a ρ) (c x y : Operand) (ho : o.op = .pick c x y) {t : Bool} (hc : ρ c = .raw (.bool t)) :
    GOut P N g box w o a d { v := if t then ρ x else ρ y } := by
  have h := (hρ c).1
  rw [hc] at h; simp only [RV] at h
  refine .pure hv (u := if t then a.eval x else a.eval y) (by unfold execOp; rw [ho]; simp only [h, asBool]; cases t <;> rfl) ?_ ?_
  · cases t <;> simp only [if_true, if_false, Bool.false_eq_true] <;> exact (hρ _).1
  · cases t <;> simp only [if_true, if_false, Bool.false_eq_true] <;> exact (hρ _).2

/-- a new block of the machine's own: alloc, box -/
theorem below_alloc' (w : World) (ob : Obj) : Below w.heap.size w (w.alloc ob) := (Below.refl _ _).alloc (Nat.le_refl _) ob

theorem alloc_at (w : World) (ob : Obj) : (w.alloc ob).heap[w.heap.size]? = some ob := by show (w.heap.push ob)[w.heap.size]? = _; simp

theorem Valid.noneAt (hv : Valid N g box w) {k : Nat} (hk : w.heap.size ≤ k) : (∀ o, ¬ g.G k o) ∧ (∀ b, g.μ b ≠ some k) ∧ (∀ i lo hi, g.T i ≠ some (k, lo, hi)) :=
  ⟨fun o h => by have := at_lt (hv.cell k o h); omega, fun b h => by have := hv.muLt h; omega, fun i lo hi h => by have := (hv.tail i k lo hi h).2.1; omega⟩

theorem out_newbox (hv : Valid N g box w) {xs : List AV} {us : List Value} {w1 : World} {el : TypeId} {cs : Array Value} {u : Value} (hrel : RVs g.μ g.G w xs us) (hb : Below w.heap.size w w1) (k : Nat) (hk : w.heap.size ≤ k)
    (hc : w1.heap[k]? = some (.cells cs el (0, 0))) (hl : us.length ≤ cs.size) (hcs : ∀ j, j < us.length → cs[j]? = us[j]?)
    (hr : (execOp a.eval o).run P w = .ok (.value u) w1) {v : AV} (hu : RV (fun b => if b = .own N.lvl d (g.U d + 1) then some k else g.μ b) g.G w1 v u) (ht : ∀ g', Top g' v u) :
    GOut P N g box w o a d { v, bump := true, cont := some xs } := by
  have hv1 := hv.world hb
  obtain ⟨n1, n2, n3⟩ := hv.noneAt hk
  have hU : ∀ s, g.U s ≤ upd g.U d (g.U d + 1) s := fun s => by unfold upd; split <;> simp_all
  have hv2 := hv1.bump _ hU
  have hfresh : g.μ (.own N.lvl d (g.U d + 1)) = none := by
    cases e : g.μ (.own N.lvl d (g.U d + 1)) with
    | none => rfl
    | some k => have := hv.fresh _ _ _ e; omega
  have hv3 := hv2.addMu d (g.U d + 1) k xs (by simp [upd]) hfresh (Nat.le_trans hv.chg.size hk) n1 n2 n3 ⟨cs, el, us, hc, hl, hcs, RVs.mono (fun _ _ h => h) (fun _ _ h => h) (hv.le_world hb).at' _ _ hrel⟩
  refine ⟨u, w1, _, hr, hv3, ?_, by simp, by simp, ?_, ht _⟩
  · exact ((hv.le_world hb).trans (Le.bump _ hU)).trans (Le.addMu (g := { g with U := upd g.U d (g.U d + 1) }) _ k hfresh)
  · exact hu

theorem out_alloc {te : TypeId → Option TI} (hte : TeOK P te) (hv : Valid N g box w) (t : TypeId) {ti : TI} (ht : te t = some ti) (ho : o.op = .alloc t) :
    GOut P N g box w o a d { v := .ptr (.own N.lvl d (g.U d + 1)) 0, bump := true, cont := some (ti.zero.map .raw) } := by
  obtain ⟨z, hz, hzc⟩ := run_zeroValue hte ht w
  refine out_newbox hv (us := ti.zero) (w1 := w.alloc (.cells z.cells t)) (u := .pointer (some ⟨w.heap.size, 0, none⟩)) (RVs.raws _) (below_alloc' _ _) w.heap.size (Nat.le_refl _) (alloc_at _ _) ?_ ?_ ?_ ?_ (fun _ => trivial)
  · rw [← hzc]; simp
  · intro j _; rw [← hzc]; simp
  · refine run_value (s := Instr.alloc t true (.tuple #[])) ?_ (by unfold execOp; rw [ho])
    simp [Instr.alloc, hz, newVar, newRow]
  · simp only [RV]; exact ⟨w.heap.size, by simp, rfl⟩

theorem out_box (hv : Valid N g box w) (hρ : Rel g w a ρ) (t : TypeId) (x : Operand) (ho : o.op = .box t x) {cs : List AV} (hc : (ρ x).cells = some cs) :
    GOut P N g box w o a d { v := .ptr (.own N.lvl d (g.U d + 1)) 0, bump := true, cont := some cs } := by
  refine out_newbox hv (us := (a.eval x).cells.toList) (w1 := w.alloc (.cells (a.eval x).cells t)) (u := .pointer (some ⟨w.heap.size, 0, none⟩)) (cells_rel (hρ x).1 hc) (below_alloc' _ _) w.heap.size (Nat.le_refl _) (alloc_at _ _) ?_ ?_ ?_ ?_ (fun _ => trivial)
  · simp
  · intro j _; simp
  · refine run_value (s := Instr.box t (a.eval x)) ?_ (by unfold execOp; rw [ho])
    simp [Instr.box, newVar, newRow]
  · simp only [RV]; exact ⟨w.heap.size, by simp, rfl⟩
end
end Go.Abs
