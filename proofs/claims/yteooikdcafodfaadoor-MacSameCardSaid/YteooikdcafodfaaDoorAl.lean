/- append. -/
import Derived.Test.YteooikdcafodfaaDoorAk
import Derived.Deep.AppendSrc
import Derived.Laws.AppendOwn
import Derived.Lib.EndianMore
import Derived.Deep.Upon
namespace Go.Abs
set_option linter.unusedSimpArgs false
set_option linter.unusedVariables false
open Go Go.RowKit

theorem oneA_rel {μ : Bx → Option Nat} {G : Nat → Nat → Prop} {w : World} {v : AV} {u : Value} (h : RV μ G w v u) (ho : oneA v = true) : u.oneCell' = true := by
  cases v with
  | raw x => simp only [RV] at h; subst h; cases u <;> first | rfl | (simp [oneA] at ho)
  | anyb => simp only [RV] at h; obtain ⟨b, rfl⟩ := h; rfl
  | sl n xs fl => simp only [RV] at h; rcases h with ⟨rfl, _⟩ | ⟨_, _, _, _, rfl, _⟩ <;> rfl
  | ptr b off => simp only [RV] at h; obtain ⟨_, _, rfl⟩ := h; rfl
  | iptr xs => simp only [RV] at h; obtain ⟨_, _, _, rfl, _⟩ := h; rfl
  | view b off n c sz => simp only [RV] at h; obtain ⟨_, _, _, rfl, _⟩ := h; rfl
  | fn f cs => simp only [RV] at h; obtain ⟨_, rfl, _⟩ := h; rfl
  | _ => simp [oneA] at ho

theorem oneAs_rel {μ : Bx → Option Nat} {G : Nat → Nat → Prop} {w : World} {xs : List AV} {us : List Value} (h : RVs μ G w xs us) (ho : xs.all oneA = true) : ∀ u ∈ us, u.oneCell' = true := by
  intro u hu
  obtain ⟨j, hj⟩ := List.getElem?_of_mem hu
  have hl := h.length
  have hjl : j < xs.length := by rw [← hl]; exact (List.getElem?_eq_some_iff.1 hj).1
  obtain ⟨u', h1, h2⟩ := h.get j xs[j] (List.getElem?_eq_getElem hjl)
  rw [hj] at h1; cases h1
  exact oneA_rel h2 (List.all_eq_true.1 ho _ (List.getElem_mem hjl))

section
variable {P : Program} {N : Ent} {g : Ghost} {box : Boxes} {w : World} {o : Oper} {a : Act} {d : Nat} {ρ : Operand → AV} {te : TypeId → Option TI}

/-- what the second argument of an append brings -/
structure App (P : Program) (w : World) (t t1 ty e : TypeId) (i : TypeInfo) (z : Value) (x : Value) (m : Nat) (news : List Value) : Prop where
  len : news.length = m * i.size
  room : ∀ (k off n c : Nat), n + m ≤ c → (∀ j, j < news.length → (at_ w k (off + n * i.size + j)).isSome = true) → (∀ j, j < news.length → w.frozen? ⟨k, off + n * i.size + j, none⟩ = false) →
    (Builtin.append_ #[t, t1] ty #[.slice (some ⟨k, off, none⟩) n c, x]).run P w = .ok (.slice (some ⟨k, off, none⟩) (n + m) c) (w.setCells k (off + n * i.size) news)
  grow : ∀ (A : Option Addr) (n c : Nat) (olds : List Value), (Builtin.firstCells i.size n (.slice A n c)).run P w.drew = .ok olds.toArray w.drew → c < n + m → (n + m) * i.bytes ≤ 140737488355328 → n + m ≤ 140737488355328 →
    (Builtin.append_ #[t, t1] ty #[.slice A n c, x]).run P w = .ok (.slice (some ⟨w.heap.size, 0, none⟩) (n + m) (grownCap w (n + m) c e))
      (w.drew.alloc (.cells ((olds ++ news).toArray ++ Builtin.zeroCells z.cells (grownCap w (n + m) c e - (n + m))) e))
  nil : m = 0 → (Builtin.append_ #[t, t1] ty #[.slice none 0 0, x]).run P w = .ok (.slice none 0 0) w

theorem App.src {t t1 ty e : TypeId} {i : TypeInfo} {z x : Value} {m : Nat} {news : List Value} (ht : P.underlying t = some (.slice e)) (hi : P.info? e = some i) (hz : i.zero = some z) (hs : Src P i.size t1 x m news w) : App P w t t1 ty e i z x m news := by
  refine ⟨hs.newsLen, fun k off n c h1 h2 h3 => run_append_room_src w t t1 ty e i ht hi k off n c x m news hs h1 h2 h3, fun A n c olds h1 h2 h3 h4 => ?_, fun hm => ?_⟩
  · exact run_append_grow_src w t t1 ty e i z ht hi hz A n c olds h1 x m news hs h2 (by omega) (growslice_fits h2 h3)
  · subst hm
    have hn : news = [] := List.length_eq_zero_iff.1 (by rw [hs.newsLen]; simp)
    subst hn
    rcases hs.kind with ⟨e', hk⟩ | hk <;> simp [Builtin.append_, run_underlying ht, run_underlying hk, sizeOf, typeInfo, hi, hs.len, hs.cells]

theorem App.zeros {t t1 ty e : TypeId} {i : TypeInfo} {z : Value} {k1 kx : IntKind} {m : Nat} (ht : P.underlying t = some (.slice e)) (ht1 : P.underlying t1 = some (.int k1)) (hi : P.info? e = some i) (hz : i.zero = some z) (hzs : z.cells.size = i.size)
    (h1 : ∀ u ∈ z.cells.toList, u.oneCell' = true) (hmb : m * i.bytes ≤ 140737488355328) (hm : m ≤ 140737488355328) : App P w t t1 ty e i z (.int kx m) m (rep m z.cells.toList) := by
  have hw : IntKind.i64.wrap (m : Int) = m := by rw [IntKind.wrap_i64]; omega
  have hneg : ¬ ((m : Int) < 0) := by omega
  have hbig : ¬ (281474976710656 < (m : Int) * (i.bytes : Int)) := by rw [← Int.natCast_mul]; omega
  have hzc : Builtin.zeroCells z.cells m = (rep m z.cells.toList).toArray := by
    unfold Builtin.zeroCells
    have := madeCells_rep z.cells z.cells.toList rfl m
    simpa using this
  have hl : (rep m z.cells.toList).length = m * i.size := by rw [rep_length, Array.length_toList, hzs]
  have hmem : ∀ m, ∀ u ∈ rep m z.cells.toList, u.oneCell' = true := by
    intro m
    induction m with
    | zero => intro u hu; simp [rep] at hu
    | succ m ih => intro u hu; simp only [rep, List.mem_append] at hu; exact hu.elim (h1 u) (ih u)
  have hnil0 : m * i.size = 0 → rep m z.cells.toList = [] := fun h0 => List.length_eq_zero_iff.1 (by rw [hl]; exact h0)
  refine ⟨hl, fun k off n c g1 g2 g3 => ?_, fun A n c olds g1 g2 g3 g4 => ?_, fun g1 => ?_⟩
  · have hst := run_storeCells_cells (P := P) k (off + n * i.size) (rep m z.cells.toList) 0 w (by simpa [at_] using g2) (by simpa using g3) (hmem m)
    simp only [Nat.add_zero] at hst
    by_cases h0 : m * i.size = 0
    · have hr := hnil0 h0
      rw [hr] at hst
      simp [Builtin.append_, run_underlying ht, run_underlying ht1, sizeOf, typeInfo, hi, asInt, asIntOf, hw, hneg, hbig, g1, h0, addr_add, hst, hr]
    · simp [Builtin.append_, run_underlying ht, run_underlying ht1, sizeOf, typeInfo, hi, asInt, asIntOf, hw, hneg, hbig, g1, h0, addr_add, hst, zeroValue, hz, hzc]
  · have hn : ¬ (n + m ≤ c) := by omega
    have h63' : ¬ (9223372036854775807 < ((n : Int) + (m : Int))) := by omega
    have hfit := growslice_fits g2 g3
    have h48' : ¬ (281474976710656 < Builtin.nextslicecap (n + m) c * i.bytes) := by omega
    by_cases h0 : m * i.size = 0
    · have hr := hnil0 h0
      simp [Builtin.append_, run_underlying ht, run_underlying ht1, sizeOf, typeInfo, zeroValue, hi, hz, asInt, asIntOf, hw, hneg, hbig, hn, h63', h48', Question.forced, g1, newRow, grownCap, h0, hr]
    · simp [Builtin.append_, run_underlying ht, run_underlying ht1, sizeOf, typeInfo, zeroValue, hi, hz, asInt, asIntOf, hw, hneg, hbig, hn, h63', h48', Question.forced, g1, newRow, grownCap, h0, hzc]
      congr 2
      apply Array.ext'
      simp [List.append_assoc]
  · subst g1
    have hw0 : IntKind.i64.wrap 0 = 0 := by rw [IntKind.wrap_i64]; rfl
    simp [Builtin.append_, run_underlying ht, run_underlying ht1, sizeOf, typeInfo, hi, asInt, asIntOf, hw0]

theorem at_setCells_out {k p : Nat} {vs : List Value} {k' o' : Nat} (h : k' = k → o' < p ∨ p + vs.length ≤ o') : at_ (w.setCells k p vs) k' o' = at_ w k' o' :=
  World.cell?_setCells_out k vs p w ⟨k', o', none⟩ (fun e _ => h e)

/-- room is written -/
theorem Valid.tailwrite (h : Valid N g box w) {i : Id} {k lo hi : Nat} (hT : g.T i = some (k, lo, hi)) {p : Nat} {vs : List Value} (h1 : lo ≤ p) (h2 : p + vs.length ≤ hi) :
    Valid N g box (w.setCells k p vs) ∧ Le g w g (w.setCells k p vs) := by
  obtain ⟨t1, t2, t3, t4, t5, t6, t7⟩ := h.tail i k lo hi hT
  have hb : ∀ k', k' < w.heap.size → k' ≠ k → (w.setCells k p vs).heap[k']? = w.heap[k']? := fun k' h1 h2 => World.heap_setCells_other w k p vs h1 h2
  have hbel : Below k w (w.setCells k p vs) := Lib.below_setCells_w (Nat.le_refl k) vs p w
  have hsize := hbel.size
  have hat : ∀ k' o, g.G k' o → at_ (w.setCells k p vs) k' o = at_ w k' o := fun k' o hg => at_setCells_out (fun e => by
    subst e
    rcases Nat.lt_or_ge o p with h | h
    · exact .inl h
    · rcases Nat.lt_or_ge o hi with h' | h'
      · exact absurd hg (t6 o (by omega) h').2.2
      · exact .inr (by omega))
  have hsome : ∀ o, (at_ w k o).isSome → (at_ (w.setCells k p vs) k o).isSome := fun o ho => World.isSome_setCells k vs p w ⟨k, o, none⟩ ho
  refine ⟨{ h with chg := ?_, cell := ?_, cont := ?_, tail := ?_ }, ⟨fun _ _ h => h, fun _ _ h => h, hat, fun _ => Nat.le_refl _, fun _ h => h, fun _ _ h => .inl h⟩⟩
  · refine ⟨hbel.os.trans h.chg.os, hbel.tape.trans h.chg.tape, hbel.output.trans h.chg.output, Nat.le_trans h.chg.size hsize, fun i hi hn => ?_⟩
    exact (hbel.block i (by omega)).trans (h.chg.block i hi hn)
  · intro k' o hg; rw [hat k' o hg]; exact h.cell k' o hg
  · intro b k' xs hm hx
    exact (h.cont b k' xs hm hx).mono (hb k' (h.muLt hm) (fun e => by subst e; exact t7 b hm)) (fun _ _ h => h) (fun _ _ h => h) hat
  · intro i' k' lo' hi' ht
    obtain ⟨s1, s2, s3, s4, s5, s6, s7⟩ := h.tail i' k' lo' hi' ht
    refine ⟨s1, Nat.lt_of_lt_of_le s2 hsize, s3, s4, s5, fun o ho ho' => ?_, s7⟩
    obtain ⟨e1, e2, e3⟩ := s6 o ho ho'
    refine ⟨?_, by rw [World.frozen?_setCells]; exact e2, e3⟩
    by_cases hk : k' = k
    · subst hk; exact hsome o e1
    · rw [at_setCells_out (fun e => absurd e hk)]; exact e1

/-- the flag of a slice that may be appended to -/
def useOf (u : Option Id) (g : Ghost) : Ghost := match u with
  | some i => { g with T := fun j => if j = i then none else g.T j, D := updI g.D i }
  | none => g

theorem Valid.use (h : Valid N g box w) (u : Option Id) (hu : ∀ i, u = some i → i.gen ≤ g.U i.slot) : Valid N (useOf u g) box w := by
  cases u with
  | none => exact h
  | some i => exact h.dropT i (hu i rfl)

theorem Le.use (u : Option Id) : Le g w (useOf u g) w := by
  cases u with
  | none => exact Le.refl _ _
  | some i => exact Le.dropT i

theorem useOf_mu (u : Option Id) : (useOf u g).μ = g.μ := by cases u <;> rfl
theorem useOf_G (u : Option Id) : (useOf u g).G = g.G := by cases u <;> rfl
theorem useOf_U (u : Option Id) : (useOf u g).U = g.U := by cases u <;> rfl
theorem useOf_D (u : Option Id) : (useOf u g).D = (match u with | some i => updI g.D i | none => g.D) := by cases u <;> rfl

/-- what is done with room taken first -/
theorem GOut.after (u : Option Id) (hu : ∀ i, u = some i → i.gen ≤ g.U i.slot) {v : AV} {b : Bool} {c : Option (List AV)} (h : GOut P N (useOf u g) box w o a d { v, bump := b, cont := c }) : GOut P N g box w o a d { v, bump := b, cont := c, use := u } := by
  obtain ⟨x, w', g', h1, h2, h3, h4, h5, h6, h7⟩ := h
  refine ⟨x, w', g', h1, ?_, (Le.use u).trans h3, ?_, ?_, h6, h7⟩
  · simpa [useOf_U] using h2
  · simpa [useOf_U] using h4
  · simp only at h5 ⊢; rw [h5]; cases u <;> rfl

/-- nothing was appended: the slice as it was -/
theorem out_same (hv : Valid N g box w) {v : AV} {u : Value} (hr : (execOp a.eval o).run P w = .ok (.value u) w) (h1 : RV g.μ g.G w v u) (h2 : ∀ g', g'.U = upd g.U d (g.U d + 1) → Top g' v u) : GOut P N g box w o a d { v, bump := true } := by
  have hU : ∀ s, g.U s ≤ upd g.U d (g.U d + 1) s := fun s => by unfold upd; split <;> simp_all
  exact ⟨u, w, _, hr, hv.bump _ hU, Le.bump _ hU, by simp, by simp, h1, h2 _ rfl⟩

/-- the arm that takes a new block -/
theorem out_grow {t t1 e : TypeId} {ti : TI} {i : TypeInfo} {z : Value} (hs : i.size = ti.size) (hb : i.bytes = ti.bytes) (hzc : z.cells.toList = ti.zero) (hzl : ti.zero.length = ti.size) (hv : Valid N g box w) {x : Value} {m : Nat} {news : List Value} (happ : App P w t t1 o.type e i z x m news)
    {xs ys : List AV} {olds : List Value} {A : Option Addr} {n c : Nat} (key : ∀ r w', (Builtin.append_ #[t, t1] o.type #[.slice A n c, x]).run P w = .ok r w' → (execOp a.eval o).run P w = .ok (.value r) w')
    (hxs : RVs g.μ g.G w xs olds) (hol : olds.length = n * ti.size) (hys : RVs g.μ g.G w ys news) (hf : (Builtin.firstCells i.size n (.slice A n c)).run P w.drew = .ok olds.toArray w.drew) (hc : c < n + m)
    (hbound : (n + m) * ti.bytes ≤ 140737488355328) (hbound2 : n + m ≤ 140737488355328) :
    GOut P N g box w o a d { v := .sl (n + m) (xs ++ ys) (.own ⟨d, 0, g.U d + 1⟩ ti.size), bump := true } := by
  have hg := grownCap_ge w (n + m) c e
  have hr := key _ _ (happ.grow A n c olds hf hc (by rw [hb]; exact hbound) hbound2)
  have hat : (w.drew.alloc (.cells ((olds ++ news).toArray ++ Builtin.zeroCells z.cells (grownCap w (n + m) c e - (n + m))) e)).heap[w.heap.size]? = some (.cells ((olds ++ news).toArray ++ Builtin.zeroCells z.cells (grownCap w (n + m) c e - (n + m))) e) := alloc_at w.drew _
  have hln : news.length = m * ti.size := by rw [happ.len, hs]
  have hl : (olds ++ news).length = (n + m) * ti.size := by rw [List.length_append, hol, hln, Nat.add_mul]
  have hzs : (Builtin.zeroCells z.cells (grownCap w (n + m) c e - (n + m))).size = (grownCap w (n + m) c e - (n + m)) * ti.size := by
    unfold Builtin.zeroCells; rw [Array.size_map, Array.size_range, ← Array.length_toList, hzc, hzl]
  refine (out_newimm (P := P) (o := o) (a := a) (d := d) hv (hxs.append hys) ((Below.refl w.heap.size w).drew.trans (below_alloc' w.drew _ : Below w.drew.heap.size w.drew _)) w.heap.size (Nat.le_refl _) hg ?_ hr).2 ti.size ?_ hl ?_
  · intro j hj
    rw [at_row hat, Array.getElem?_append_left (by simpa using hj)]
    simp
  · show w.heap.size < (w.heap.push _).size; simp
  · intro j h1 h2
    refine ⟨?_, frozen_row hat⟩
    rw [at_row hat]
    have hlt : j < ((olds ++ news).toArray ++ Builtin.zeroCells z.cells (grownCap w (n + m) c e - (n + m))).size := by
      rw [Array.size_append, hzs, List.size_toArray, hl, ← Nat.add_mul]
      rw [show n + m + (grownCap w (n + m) c e - (n + m)) = grownCap w (n + m) c e by omega]; exact h2
    rw [Array.getElem?_eq_getElem hlt]; rfl

theorem out_append_core {t t1 e : TypeId} {ti : TI} {i : TypeInfo} {z : Value} (hs : i.size = ti.size) (hb : i.bytes = ti.bytes) (hzc : z.cells.toList = ti.zero) (hzl : ti.zero.length = ti.size) (hv : Valid N g box w) {x : Value} {m : Nat} {news : List Value}
    (happ : App P w t t1 o.type e i z x m news) {s : AV} {us : Value} (hs0 : RV g.μ g.G w s us) (hst : Top g s us) (key : ∀ r w', (Builtin.append_ #[t, t1] o.type #[us, x]).run P w = .ok r w' → (execOp a.eval o).run P w = .ok (.value r) w')
    {u : Option Id} (hroom : room ti.size m g.D s = some u) {n : Nat} {xs : List AV} (hsl : slCells box ti.size s = some (n, xs)) {ys : List AV} (hys : RVs g.μ g.G w ys news)
    (hbound : (n + m) * ti.bytes ≤ 140737488355328) (hbound2 : n + m ≤ 140737488355328) :
    GOut P N g box w o a d { v := .sl (n + m) (xs ++ ys) (.own ⟨d, 0, g.U d + 1⟩ ti.size), bump := true, use := u } := by
  have hln : news.length = m * ti.size := by rw [happ.len, hs]
  have hyl := hys.length
  have hu : ∀ i, u = some i → i.gen ≤ g.U i.slot := by
    intro i hi; subst hi
    unfold room at hroom
    split at hroom
    · cases hroom
    · split at hroom <;> cases hroom
    · split at hroom
      · cases hroom
        simp only [Top] at hst
        cases us <;> first | exact hst.1 | (simp only [FlOK] at hst)
      · cases hroom
    · cases hroom
  -- a nil slice
  have nilCase : us = .slice none 0 0 → n = 0 → xs = [] → GOut P N g box w o a d { v := .sl (n + m) (xs ++ ys) (.own ⟨d, 0, g.U d + 1⟩ ti.size), bump := true, use := u } := by
    rintro rfl rfl rfl
    refine GOut.after u hu ?_
    have hv' := hv.use u hu
    rw [show g.U d = (useOf u g).U d by rw [useOf_U]]
    by_cases hm : m = 0
    · have hn : ys = [] := List.length_eq_zero_iff.1 (by rw [← hyl, hln, hm]; simp)
      subst hn; subst hm
      refine out_same hv' (key _ _ (happ.nil rfl)) (by simp [RV]) (fun g' hg' => ?_)
      simp only [Top, FlOK]; exact ⟨by rw [hg']; simp [upd], .inr (.inl ⟨by trivial, by trivial, by trivial⟩)⟩
    · exact out_grow hs hb hzc hzl hv' happ key (by rw [useOf_mu, useOf_G]; exact RVs.nil) (by simp) (by rw [useOf_mu, useOf_G]; exact hys) (run_firstCells_none w.drew i.size 0 0 0) (by omega) hbound hbound2
  -- a slice with no room
  have fullCase : ∀ (k off c : Nat) (olds : List Value), us = .slice (some ⟨k, off, none⟩) n c → RVs g.μ g.G w xs olds → (∀ j, j < olds.length → at_ w k (off + j) = olds[j]?) → olds.length = n * ti.size → c < n + m →
      GOut P N g box w o a d { v := .sl (n + m) (xs ++ ys) (.own ⟨d, 0, g.U d + 1⟩ ti.size), bump := true, use := u } := by
    rintro k off c olds rfl hx1 hx2 hx3 hm
    refine GOut.after u hu ?_
    have hv' := hv.use u hu
    rw [show g.U d = (useOf u g).U d by rw [useOf_U]]
    refine out_grow hs hb hzc hzl hv' happ key (by rw [useOf_mu, useOf_G]; exact hx1) hx3 (by rw [useOf_mu, useOf_G]; exact hys) ?_ hm hbound hbound2
    exact run_firstCells_some w.drew i.size n ⟨k, off, none⟩ n c olds (by rw [hx3, hs]) (fun j v hv => by
      have hj : j < olds.length := (List.getElem?_eq_some_iff.1 hv).1
      rw [addr_add]
      exact (show w.drew.cell? ⟨k, off + j, none⟩ = w.cell? ⟨k, off + j, none⟩ from rfl) ▸ (hx2 j hj).trans hv)
  unfold room at hroom
  split at hroom
  · simp [slCells] at hsl
    simp only [RV] at hs0
    exact nilCase hs0 hsl.1.symm hsl.2
  · rename_i n' xs'
    simp only [slCells] at hsl
    split at hsl
    · cases hsl
      simp only [RV] at hs0
      rcases hs0 with ⟨h1, h2, h3⟩ | ⟨k, off, c, olds, h1, h2, h3, h4⟩
      · exact nilCase h1 h2 h3
      · subst h1
        simp only [Top, FlOK] at hst
        split at hroom
        · cases hroom
        · exact fullCase k off c olds rfl h3 (fun j hj => (h4 j hj).1) (by rw [h3.length]; assumption) (by omega)
    · cases hsl
  · rename_i n' xs' i' z'
    split at hroom
    · rename_i hcond
      cases hroom
      simp only [slCells] at hsl
      split at hsl
      · rename_i hxl
        cases hsl
        simp only [RV] at hs0
        rcases hs0 with ⟨h1, h2, h3⟩ | ⟨k, off, c, olds, h1, h2, h3, h4⟩
        · exact nilCase h1 h2 h3
        · subst h1
          simp only [Top, FlOK] at hst
          obtain ⟨hgen, hst⟩ := hst
          have hol : olds.length = n * ti.size := by rw [h3.length, hxl]
          rcases hst with hD | ⟨h, _⟩ | ⟨k', o', lo, hi, e1, e2, e3, e4⟩
          · rw [hcond.1] at hD; cases hD
          · cases h
          · cases e1
            rw [hcond.2] at e4 e2
            have hTn : (if (⟨d, 0, g.U d + 1⟩ : Id) = i' then none else g.T ⟨d, 0, g.U d + 1⟩) = none := by
              split
              · rfl
              · cases e : g.T ⟨d, 0, g.U d + 1⟩ with
                | none => rfl
                | some r => obtain ⟨k', lo, hi⟩ := r; have : g.U d + 1 ≤ g.U d := (hv.tail _ _ _ _ e).2.2.1; omega
            have hne : (⟨d, 0, g.U d + 1⟩ : Id) ≠ i' := fun e => by subst e; have : g.U d + 1 ≤ g.U d := hgen; omega
            have hDn : updI g.D i' ⟨d, 0, g.U d + 1⟩ = false := by
              unfold updI; rw [if_neg hne]
              cases e : g.D ⟨d, 0, g.U d + 1⟩ with
              | false => rfl
              | true => have : g.U d + 1 ≤ g.U d := hv.dgen _ e; omega
            have hU : ∀ s, g.U s ≤ upd g.U d (g.U d + 1) s := fun s => by unfold upd; split <;> simp_all
            obtain ⟨t1', t2, t3, t4, t5, t6, t7⟩ := hv.tail _ _ _ _ e3
            by_cases hc : c < n + m
            · exact fullCase k off c olds rfl h3 (fun j hj => (h4 j hj).1) hol hc
            · rcases e4 with e4 | ⟨e4, e5⟩
              · -- nothing was appended, and there is no room
                have hm0 : m = 0 := by omega
                subst e4; subst hm0
                have hn : ys = [] := List.length_eq_zero_iff.1 (by rw [← hyl, hln]; simp)
                have hn' : news = [] := List.length_eq_zero_iff.1 (by rw [hln]; simp)
                subst hn; subst hn'
                have hr := happ.room k off c c (by omega) (by simp) (by simp)
                simp only [World.setCells, Nat.add_zero] at hr
                have v2 := (hv.dropT i' hgen).bump _ hU
                have v3 := v2.addT ⟨d, 0, g.U d + 1⟩ k lo lo t1' t2 (by simp [upd]) hDn (Nat.le_refl _) (fun j h1 h2 => by omega) t7 (fun i2 lo2 hi2 _ h => by
                  have h' : (if i2 = i' then none else g.T i2) = some (k, lo2, hi2) := h
                  split at h'
                  · cases h'
                  · rename_i hne; exact absurd (hv.tinj _ _ _ _ _ _ _ h' e3) hne)
                have l3 := ((Le.dropT (g := g) (w := w) i').trans (Le.bump _ hU)).trans (Le.addT (w := w) ⟨d, 0, g.U d + 1⟩ (k, lo, lo) hTn)
                refine ⟨_, w, _, key _ _ hr, v3, l3, by simp, rfl, ?_, ?_⟩
                · simp only [RV, Nat.add_zero, List.append_nil]
                  exact .inr ⟨k, off, c, olds, rfl, Nat.le_refl _, RVs.le l3 h3, h4⟩
                · simp only [Top, FlOK]
                  exact ⟨by simp [upd], .inr (.inr ⟨k, off, lo, lo, rfl, by simpa using hxl, by simp, .inl (by simp)⟩)⟩
              -- there is room
              subst e4; subst e5
              have hcm : n + m ≤ c := by omega
              have hmul : (n + m) * ti.size ≤ c * ti.size := Nat.mul_le_mul_right _ hcm
              rw [Nat.add_mul] at hmul
              have hin : ∀ j, j < news.length → (at_ w k (off + n * ti.size + j)).isSome = true ∧ w.frozen? ⟨k, off + n * ti.size + j, none⟩ = false := fun j hj => by
                obtain ⟨q1, q2, _⟩ := t6 (off + n * ti.size + j) (by omega) (by omega)
                exact ⟨q1, q2⟩
              have hr := happ.room k off n c hcm (by rw [hs]; exact fun j hj => (hin j hj).1) (by rw [hs]; exact fun j hj => (hin j hj).2)
              rw [hs] at hr
              obtain ⟨v1, l1⟩ := hv.tailwrite e3 (p := off + n * ti.size) (vs := news) (by omega) (by omega)
              have v2 := v1.dropT i' hgen
              have v3 := v2.addG (fun k' j => k' = k ∧ off + n * ti.size ≤ j ∧ j < off + n * ti.size + news.length) (by
                rintro k' j ⟨rfl, hj1, hj2⟩
                refine ⟨?_, fun h => by omega, t7, fun i2 lo2 hi2 h => ?_⟩
                · have := (hin (j - (off + n * ti.size)) (by omega)).1
                  rw [show off + n * ti.size + (j - (off + n * ti.size)) = j by omega] at this
                  exact World.isSome_setCells k' news _ w ⟨k', j, none⟩ this
                · have h' : (if i2 = i' then none else g.T i2) = some (k', lo2, hi2) := h
                  split at h'
                  · cases h'
                  · rename_i hne; exact absurd (hv.tinj _ _ _ _ _ _ _ h' e3) hne)
              have v4 := v3.bump _ hU
              have v5 := v4.addT ⟨d, 0, g.U d + 1⟩ k (off + (n + m) * ti.size) (off + c * ti.size) t1' (Nat.lt_of_lt_of_le t2 (Lib.below_setCells_w (Nat.le_refl k) news _ w).size) (by simp [upd]) hDn
                (by rw [Nat.add_mul]; omega)
                (fun j h1 h2 => by
                  rw [Nat.add_mul] at h1
                  obtain ⟨q1, q2, q3⟩ := t6 j (by omega) (by omega)
                  refine ⟨World.isSome_setCells k news _ w ⟨k, j, none⟩ q1, by rw [World.frozen?_setCells]; exact q2, ?_⟩
                  rintro (h | ⟨_, h3, h4⟩)
                  · exact q3 h
                  · omega) t7
                (fun i2 lo2 hi2 _ h => by
                  have h' : (if i2 = i' then none else g.T i2) = some (k, lo2, hi2) := h
                  split at h'
                  · cases h'
                  · rename_i hne; exact absurd (hv.tinj _ _ _ _ _ _ _ h' e3) hne)
              have l5 := (((l1.trans (Le.dropT i')).trans (Le.addG (fun k' j => k' = k ∧ off + n * ti.size ≤ j ∧ j < off + n * ti.size + news.length))).trans (Le.bump _ hU)).trans (Le.addT (w := w.setCells k (off + n * ti.size) news) ⟨d, 0, g.U d + 1⟩ (k, off + (n + m) * ti.size, off + c * ti.size) hTn)
              refine ⟨_, _, _, key _ _ hr, v5, l5, by simp, rfl, ?_, ?_⟩
              · simp only [RV]
                refine .inr ⟨k, off, c, olds ++ news, rfl, hcm, RVs.le l5 (h3.append hys), fun j hj => ?_⟩
                by_cases hjo : j < olds.length
                · rw [List.getElem?_append_left hjo]
                  exact ⟨(l5.at' _ _ (h4 j hjo).2).trans (h4 j hjo).1, l5.G _ _ (h4 j hjo).2⟩
                · rw [List.length_append] at hj
                  rw [List.getElem?_append_right (by omega)]
                  have hin2 := World.cell?_setCells_in k news (off + n * ti.size) w (fun j hj => (hin j hj).1) (j - olds.length) (by omega)
                  rw [show off + n * ti.size + (j - olds.length) = off + j by omega] at hin2
                  refine ⟨?_, .inr ⟨rfl, by omega, by omega⟩⟩
                  show (w.setCells k (off + n * ti.size) news).cell? ⟨k, off + j, none⟩ = _
                  rw [hin2]; simp
              · simp only [Top, FlOK]
                refine ⟨by simp [upd], .inr (.inr ⟨k, off, off + (n + m) * ti.size, off + c * ti.size, rfl, ?_, by simp, .inr ⟨?_, rfl⟩⟩)⟩
                · rw [List.length_append, hxl, ← hyl, hln, Nat.add_mul]
                · rw [List.length_append, hxl, ← hyl, hln, ← Nat.add_mul]
      · cases hsl
    · cases hroom
  · cases hroom
end
end Go.Abs
