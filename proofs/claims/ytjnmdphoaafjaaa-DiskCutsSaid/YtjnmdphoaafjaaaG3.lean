/- Operations that make slices, appends. -/
import Derived.Test.YtjnmdphoaafjaaaG2
import Derived.Laws.CopyRow
import Derived.Laws.MakeOwn
import Derived.Laws.BytesString
import Derived.Laws.IdiomStrings
import Derived.Deep.AppendSrc
import Derived.Deep.DeepAppendWide
import Derived.Laws.AppendOwn
import Derived.Lib.EndianMore
import Derived.Deep.Upon
/- The operations that change no box, one by one. Sixth part: literals, conversions, make. -/
namespace Go.Abs
set_option linter.unusedSimpArgs false
set_option linter.unusedVariables false
open Go Go.RowKit
section
variable {P : Program} {N : Ent} {g : Ghost} {box : Boxes} {w : World} {o : Oper} {a : Act} {d : Nat} {ρ : Operand → AV} {te : TypeId → Option TI}

theorem foldl_set : ∀ (vs : List Value) (off j : Nat) (cs : List Value), off + j + vs.length ≤ cs.length →
    (vs.zipIdx j).foldl (fun (cs : Array Value) (p : Value × Nat) => cs.setIfInBounds (off + p.2) p.1) cs.toArray = (cs.take (off + j) ++ vs ++ cs.drop (off + j + vs.length)).toArray
  | [], off, j, cs, _ => by simp
  | v :: vs, off, j, cs, h => by
    rw [List.zipIdx_cons, List.foldl_cons]
    have e : cs.toArray.setIfInBounds (off + j) v = (cs.set (off + j) v).toArray := by simp
    show List.foldl _ (cs.toArray.setIfInBounds (off + j) v) _ = _
    rw [e, foldl_set vs off (j + 1) (cs.set (off + j) v) (by simp at h ⊢; omega)]
    congr 1
    have := list_seg_step cs (off + j) v vs (by simp at h; omega)
    rw [show off + (j + 1) = off + j + 1 by omega]
    simpa [Nat.add_assoc] using this

/-- filling in parts -/
theorem fill_rel {μ : Bx → Option Nat} {G : Nat → Nat → Prop} (pl : Nat → Option (Nat × Nat)) (k : TK) (hpl : ∀ i p, place te k i = some p → pl i = some p) :
    ∀ (ps : List (Nat × AV)) (qs : List (Nat × Value)) (cs cs' : List AV) (us : List Value), ps.length = qs.length → (∀ (j : Nat) p q, ps[j]? = some p → qs[j]? = some q → p.1 = q.1 ∧ RV μ G w p.2 q.2) →
      RVs μ G w cs us → fillV te k cs ps = some cs' → ∃ us', Instr.fill pl us.toArray qs = some us'.toArray ∧ RVs μ G w cs' us' ∧ cs'.length = cs.length
  | [], [], cs, cs', us, _, _, hr, h => by simp [fillV] at h; subst h; exact ⟨us, rfl, hr, rfl⟩
  | [], _ :: _, _, _, _, hl, _, _, _ => by simp at hl
  | _ :: _, [], _, _, _, hl, _, _, _ => by simp at hl
  | (i, v) :: ps, (i', u) :: qs, cs, cs', us, hl, hj, hr, h => by
    obtain ⟨e1, e2⟩ := hj 0 _ _ rfl rfl
    simp only at e1 e2; subst e1
    unfold fillV at h
    split at h
    · cases h
    · rename_i off size hp
      split at h
      · rename_i ys hy
        split at h
        · rename_i hc
          have hyr := cells_rel e2 hy
          have hyl := hyr.length
          have hul := hr.length
          have hsz : u.cells.size = ys.length := by rw [← hyl]; simp
          unfold Instr.fill
          rw [hpl i _ hp]
          have hcond : (u.cells.size != size || decide (off + u.cells.size > us.toArray.size)) = false := by
            simp; omega
          simp only [ne_eq, List.size_toArray] at *
          have hfold : Array.foldl (fun (cs : Array Value) (x : Value × Nat) => match x with | (c, j) => cs.setIfInBounds (off + j) c) us.toArray u.cells.zipIdx = (us.take off ++ u.cells.toList ++ us.drop (off + u.cells.toList.length)).toArray := by
            rw [← Array.foldl_toList, Array.toList_zipIdx]
            have := foldl_set u.cells.toList off 0 us (by simp; omega)
            simpa using this
          have hrel : RVs μ G w (splice cs off ys) (us.take off ++ u.cells.toList ++ us.drop (off + u.cells.toList.length)) := by
            unfold splice
            rw [show u.cells.toList.length = ys.length from hyl]
            exact ((hr.take off).append hyr).append (hr.drop _)
          obtain ⟨us', h1, h2, h3⟩ := fill_rel pl k hpl ps qs _ cs' _ (by simpa using hl) (fun j p q hp hq => hj (j + 1) p q (by simpa using hp) (by simpa using hq)) hrel h
          refine ⟨us', ?_, h2, ?_⟩
          · rw [if_neg (by simp; omega)]
            rw [hfold]; exact h1
          · rw [h3]; unfold splice; simp; omega
        · cases h
      · cases h

theorem parts_rel (hρ : Rel g w a ρ) (ps : Array (Nat × Operand)) : (ps.toList.map fun p => (p.1, ρ p.2)).length = (ps.map fun p => (p.1, a.eval p.2)).toList.length ∧
    ∀ (j : Nat) p q, (ps.toList.map fun p => (p.1, ρ p.2))[j]? = some p → (ps.map fun p => (p.1, a.eval p.2)).toList[j]? = some q → p.1 = q.1 ∧ RV g.μ g.G w p.2 q.2 := by
  refine ⟨by simp, fun j p q hp hq => ?_⟩
  simp only [List.getElem?_map, Option.map_eq_some_iff, Array.toList_map] at hp hq
  obtain ⟨x, h1, rfl⟩ := hp
  obtain ⟨y, h2, rfl⟩ := hq
  rw [h1] at h2; cases h2
  exact ⟨rfl, (hρ _).1⟩

theorem mapM_places : ∀ (l : List Field), l.all (fun f => (P.info? f.type).isSome) = true →
    l.mapM (fun f => (P.info? f.type).map fun i => (f.offset, i.size)) = some (l.map fun f => (f.offset, P.cellsOf f.type))
  | [], _ => rfl
  | f :: l, h => by
    simp only [List.all_cons, Bool.and_eq_true] at h
    obtain ⟨i, hi⟩ := Option.isSome_iff_exists.1 h.1
    have ih := mapM_places l h.2
    simp only [List.mapM_cons, hi, Option.map_some, ih, List.map_cons, Program.cellsOf, Option.getD_some]
    rfl

theorem cellsOf_te (hte : TeOK P te) {t : TypeId} {ti : TI} (h : te t = some ti) : P.cellsOf t = ti.size := by
  obtain ⟨i, z, h1, h2, _⟩ := (hte t ti h).info
  simp [Program.cellsOf, h1, h2]

theorem out_build (hte : TeOK P te) (hv : Valid N g box w) (hρ : Rel g w a ρ) (t : TypeId) (ps : Array (Nat × Operand)) (ho : o.op = .build t ps) {ti : TI} (ht : te t = some ti) (hagg : isAggK ti.kind = true) (harr : arrOK te ti.kind = true) {cs : List AV}
    (h : fillV te ti.kind (ti.zero.map .raw) (ps.toList.map fun p => (p.1, ρ p.2)) = some cs) : GOut P N g box w o a d { v := .agg cs } := by
  obtain ⟨dd, hu, hk⟩ := (hte t ti ht).under
  obtain ⟨it, z, hi, hs, hb, hz, hzc, _⟩ := (hte t ti ht).info
  obtain ⟨p1, p2⟩ := parts_rel hρ ps
  have fin : ∀ us' : List Value, P.built t (ps.map fun p => (p.1, a.eval p.2)).toList = some us'.toArray → RVs g.μ g.G w cs us' → GOut P N g box w o a d { v := .agg cs } := fun us' h1 h2 => by
    refine .pure hv (u := .agg us'.toArray) ?_ (by simp only [RV]; exact ⟨us', rfl, h2⟩) trivial
    exact run_value (run_build w t (ps.map fun p => (p.1, a.eval p.2)) us'.toArray h1) (by unfold execOp; rw [ho])
  have hzz : z.cells = ti.zero.toArray := by rw [← hzc]
  cases hkk : ti.kind with
  | arr n e =>
    rw [hkk] at hk h harr; simp only [TKis] at hk; simp only [arrOK] at harr; subst hk
    obtain ⟨te', hte'⟩ := Option.isSome_iff_exists.1 harr
    obtain ⟨ie, ze, hie, hse, _⟩ := (hte e te' hte').info
    obtain ⟨us', h1, h2, _⟩ := fill_rel (fun i => some (i * ie.size, ie.size)) (.arr n e) (fun i p hp => by
      simp only [place, hte', Option.map_some, Option.some.injEq] at hp
      rw [← hp, hse]) _ _ _ _ ti.zero p1 p2 (RVs.raws _) h
    refine fin us' ?_ h2
    unfold Program.built
    simp only [hi, hu, hz, hie, hzz]
    exact h1
  | st fs =>
    rw [hkk] at hk h; simp only [TKis] at hk
    obtain ⟨fields, rfl, hf⟩ := hk
    have hm := mapM_places (P := P) fields.toList ((hte t ti ht).fields fields hu)
    obtain ⟨us', h1, h2, _⟩ := fill_rel (fun i => (fields.toList.map fun f => (f.offset, P.cellsOf f.type)).toArray[i]?) (.st fs) (fun i p hp => by
      simp only [place, Option.bind_eq_some_iff, Option.map_eq_some_iff] at hp
      obtain ⟨q, hq, ti', ht', rfl⟩ := hp
      rw [hf] at hq
      simp only [List.getElem?_map, Option.map_eq_some_iff] at hq
      obtain ⟨f, hfi, rfl⟩ := hq
      simp only [List.getElem?_toArray, List.getElem?_map, hfi, Option.map_some, cellsOf_te hte ht']) _ _ _ _ ti.zero p1 p2 (RVs.raws _) h
    refine fin us' ?_ h2
    unfold Program.built
    simp only [hi, hu, hz, hm, hzz]
    exact h1
  | _ => rw [hkk] at hagg; simp [isAggK] at hagg

theorem rep_map {α β : Type} (f : α → β) (n : Nat) (xs : List α) : (rep n xs).map f = rep n (xs.map f) := by
  induction n with
  | zero => rfl
  | succ n ih => simp [rep, ih]

theorem rep_length {α : Type} (n : Nat) (xs : List α) : (rep n xs).length = n * xs.length := by
  induction n with
  | zero => simp [rep]
  | succ n ih => simp [rep, ih, Nat.succ_mul]; omega

theorem rep_get {α : Type} [Inhabited α] (xs : List α) : ∀ (n j : Nat), j < n * xs.length → (rep n xs)[j]? = some xs[j % xs.length]!
  | 0, j, h => by simp at h
  | n + 1, j, h => by
    have hx : 0 < xs.length := by
      rcases Nat.eq_zero_or_pos xs.length with h0 | h0
      · rw [h0] at h; simp at h
      · exact h0
    unfold rep
    by_cases hj : j < xs.length
    · rw [List.getElem?_append_left hj, Nat.mod_eq_of_lt hj, List.getElem?_eq_getElem hj, getElem!_pos xs j hj]
    · rw [List.getElem?_append_right (by omega), rep_get xs n (j - xs.length) (by rw [Nat.succ_mul] at h; omega)]
      have : j % xs.length = (j - xs.length) % xs.length := by rw [Nat.mod_eq_sub_mod (by omega)]
      rw [this]

theorem madeCells_rep (z : Array Value) (zs : List Value) (hz : z.toList = zs) (n : Nat) : ((Array.range (n * zs.length)).map (z[· % z.size]!)) = (rep n zs).toArray := by
  subst hz
  apply Array.ext'
  simp only [Array.toList_map, Array.toList_range]
  refine List.ext_getElem? fun j => ?_
  simp only [List.getElem?_map]
  rcases Nat.lt_or_ge j (n * z.toList.length) with h | h
  · rw [rep_get z.toList n j h, List.getElem?_range h]
    simp only [Option.map_some, Array.length_toList, Option.some.injEq]
    simp [getElem!_def]
  · rw [List.getElem?_eq_none (by simpa using h), List.getElem?_eq_none (by rw [rep_length]; exact h)]
    rfl

theorem Valid.unmade (hv : Valid N g box w) {d c n : Nat} (hn : g.U d < n) : ¬ made g ⟨N.lvl, d, c, n⟩ := by
  unfold made
  rw [hv.lev, hv.kn]
  rintro (⟨h, _⟩ | h | ⟨_, h⟩)
  · have h : n = 0 := h
    omega
  · exact absurd (hv.klow _ h) (Nat.lt_irrefl _)
  · exact absurd h (by simp; omega)
theorem Valid.madeLow (hv : Valid N g box w) {i : Id} (h : made g i) : i.lvl ≤ N.lvl := by
  unfold made at h
  rw [hv.lev, hv.kn] at h
  rcases h with ⟨_, h⟩ | h | ⟨h, _⟩
  · exact h
  · exact Nat.le_of_lt (hv.klow _ h)
  · exact Nat.le_of_eq h
theorem Valid.unT (hv : Valid N g box w) {d c n : Nat} (hn : g.U d < n) : g.T ⟨N.lvl, d, c, n⟩ = none := by
  cases e : g.T ⟨N.lvl, d, c, n⟩ with
  | none => rfl
  | some r => obtain ⟨k', lo, hi⟩ := r; exact absurd (hv.tail _ _ _ _ e).2.2.1 (hv.unmade hn)
theorem Valid.unD (hv : Valid N g box w) {d c n : Nat} (hn : g.U d < n) : g.D ⟨N.lvl, d, c, n⟩ = false := by
  cases e : g.D ⟨N.lvl, d, c, n⟩ with
  | false => rfl
  | true => exact absurd (hv.dgen _ e) (hv.unmade hn)
theorem madeNew {g : Ghost} {l d c n : Nat} (h : g.L = l) (hn : n ≤ g.U d) : made g ⟨l, d, c, n⟩ := .inr (.inr ⟨h.symm, hn⟩)

/-- a new block whose first cells nobody writes any more -/
theorem out_newimm (hv : Valid N g box w) {xs : List AV} {us : List Value} {w1 : World} (hrel : RVs g.μ g.G w xs us) (hb : Below w.heap.size w w1) (k : Nat) (hk : w.heap.size ≤ k) {n c : Nat} (hnc : n ≤ c)
    (hcs : ∀ j, j < us.length → at_ w1 k j = us[j]?) (hr : (execOp a.eval o).run P w = .ok (.value (.slice (some ⟨k, 0, none⟩) n c)) w1) :
    (c = n → GOut P N g box w o a d { v := .sl n xs .full }) ∧
    ∀ sz, k < w1.heap.size → us.length = n * sz → (∀ j, us.length ≤ j → j < c * sz → (at_ w1 k j).isSome ∧ w1.frozen? ⟨k, j, none⟩ = false) →
      GOut P N g box w o a d { v := .sl n xs (.own ⟨N.lvl, d, 0, g.U d + 1⟩ sz), bump := true } := by
  have hv1 := hv.world hb
  obtain ⟨n1, n2, n3⟩ := hv.noneAt hk
  have hw0 := hv.chg.size
  have hv2 := hv1.addG (fun k' j => k' = k ∧ j < us.length) (by
    rintro k' j ⟨rfl, hj⟩
    exact ⟨by rw [hcs j hj]; simp [hj], fun h => by omega, n2, fun i lo hi h => absurd h (n3 i lo hi)⟩)
  have hle := (hv.le_world hb).trans (Le.addG (g := g) (w := w1) (fun k' j => k' = k ∧ j < us.length))
  have hread : Read w1 (fun k' j => g.G k' j ∨ (k' = k ∧ j < us.length)) k 0 us := fun j hj => ⟨by rw [Nat.zero_add]; exact hcs j hj, .inr ⟨rfl, by omega⟩⟩
  refine ⟨fun hc => ?_, fun sz hk1 hl hroom => ?_⟩
  · refine ⟨_, w1, _, hr, hv2, hle, rfl, rfl, ?_, ?_⟩
    · simp only [RV]; exact .inr ⟨k, 0, c, us, rfl, hnc, RVs.le hle hrel, hread⟩
    · exact hc
  · have hU : ∀ s, g.U s ≤ upd g.U d (g.U d + 1) s := fun s => by unfold upd; split <;> simp_all
    have hv3 := hv2.bump _ hU
    have hTn : g.T ⟨N.lvl, d, 0, g.U d + 1⟩ = none := hv.unT (Nat.lt_succ_self _)
    have hDn : g.D ⟨N.lvl, d, 0, g.U d + 1⟩ = false := hv.unD (Nat.lt_succ_self _)
    have hv4 := hv3.addT ⟨N.lvl, d, 0, g.U d + 1⟩ k us.length (c * sz) (.inl (by omega)) hk1 (madeNew hv.lev (by simp [upd])) rfl hDn hTn (by rw [hl]; exact Nat.mul_le_mul_right _ hnc)
      (fun j h1 h2 => by
        obtain ⟨e1, e2⟩ := hroom j h1 h2
        refine ⟨e1, e2, ?_⟩
        rintro (h | ⟨_, h⟩)
        · exact n1 _ h
        · omega) n2 (fun j lo hi _ => n3 j lo hi)
    have hle2 := (hle.trans (Le.bump _ hU)).trans (Le.addT (g := { g with G := fun k' j => g.G k' j ∨ (k' = k ∧ j < us.length), U := upd g.U d (g.U d + 1) }) (w := w1) ⟨N.lvl, d, 0, g.U d + 1⟩ (k, us.length, c * sz) hTn)
    refine ⟨_, w1, _, hr, hv4, hle2, by simp, rfl, ?_, ?_⟩
    · simp only [RV]; exact .inr ⟨k, 0, c, us, rfl, hnc, RVs.le hle hrel, hread⟩
    · simp only [Top, FlOK]
      refine ⟨madeNew hv.lev (by simp [upd]), .inr (.inr ⟨k, 0, us.length, c * sz, rfl, ?_, by simp, .inr ⟨?_, ?_⟩⟩)⟩
      · rw [← hrel.length]; exact hl
      · rw [← hrel.length]; simp
      · simp

theorem Top.view (g : Ghost) (b : Bx) (off n c sz : Nat) (u : Value) : Top g (.view b off n c sz) u := trivial

/-- a slice in a new block of its own, that is a box -/
theorem out_newview (hv : Valid N g box w) {xs : List AV} {us : List Value} {w1 : World} {el : TypeId} {cs : Array Value} (hrel : RVs g.μ g.G w xs us) (hb : Below w.heap.size w w1) (k : Nat) (hk : w.heap.size ≤ k)
    (hc : w1.heap[k]? = some (.cells cs el (0, 0))) (hl : us.length ≤ cs.size) (hcs : ∀ j, j < us.length → cs[j]? = us[j]?) {n c c' sz : Nat} (hnc : n ≤ c)
    (hr : (execOp a.eval o).run P w = .ok (.value (.slice (some ⟨k, 0, none⟩) n c')) w1) (hcc : c ≤ c')
    (htop : ∀ (j n : Nat) (ys : List AV) (fl : Fl) (u : Value), xs[j]? = some (.sl n ys fl) → us[j]? = some u → FlOK g fl ys.length u) (hok : CellsOK xs) :
    GOut P N g box w o a d { v := .view (.own N.lvl d (g.U d + 1)) 0 n c sz, bump := true, cont := some xs } :=
  out_newbox hv hrel hb k hk hc hl hcs hr (by simp only [RV]; exact ⟨k, 0, c', by simp, rfl, hcc, hnc, .inl (by trivial)⟩) (fun _ => trivial) htop hok

theorem out_buildSlice {E : Env} (hE : E.te = te) (hte : TeOK P te) (hv : Valid N g box w) (hρ : Rel g w a ρ) (t : TypeId) (n : Nat) (ps : Array (Nat × Operand)) (ho : o.op = .buildSlice t n ps) {e : TypeId} (hk : kd te t = .slice e) {ti : TI} (ht : te e = some ti)
    (hn : n * ti.size ≤ 16777216) {cs : List AV} (h : fillV te (.slice e) (zerosOf ti n) (ps.toList.map fun p => (p.1, ρ p.2)) = some cs) : GOut P N g box w o a d (freshSl E N.lvl d (g.U d + 1) n ti.size cs) := by
  obtain ⟨_, _, _, dd, hd, hk2⟩ := kd_some hte hk (by simp)
  simp only [TKis] at hk2; subst hk2
  obtain ⟨p1, p2⟩ := parts_rel hρ ps
  obtain ⟨it, z, hi, hs, hb, hz, hzc, hzl⟩ := (hte e ti ht).info
  have hzr : zerosOf ti n = (rep n ti.zero).map .raw := by unfold zerosOf; rw [rep_map]
  rw [hzr] at h
  obtain ⟨us', h1, h2, h3⟩ := fill_rel (fun i => some (i * ti.size, ti.size)) (.slice e) (fun i p hp => by
      simp only [place, ht, Option.map_some, Option.some.injEq] at hp
      rw [← hp]) _ _ _ _ (rep n ti.zero) p1 p2 (RVs.raws _) h
  have hrun : (execOp a.eval o).run P w = .ok (.value (.slice (some ⟨w.heap.size, 0, none⟩) n n)) (w.alloc (.cells us'.toArray e)) := by
    refine run_value (s := Instr.buildSlice t n (ps.map fun p => (p.1, a.eval p.2))) ?_ (by unfold execOp; rw [ho])
    have hlt : ¬ (16777216 < n * ti.size) := by omega
    by_cases h0 : n * ti.size = 0
    · have hr0 : rep n ti.zero = [] := List.length_eq_zero_iff.1 (by rw [rep_length, hzl]; exact h0)
      rw [hr0] at h1
      rw [Array.toList_map] at h1
      simp [Instr.buildSlice, run_underlying hd, run_sizeOf hte ht, h0, newRow, Array.range_zero']
      rw [h1]; simp
    · have hm := madeCells_rep z.cells ti.zero hzc n
      rw [hzl] at hm
      simp [Instr.buildSlice, run_underlying hd, run_sizeOf hte ht, hlt, h0, newRow, zeroValue, typeInfo, hi, hz]
      rw [Array.toList_map] at h1
      rw [hm, h1]
      simp
  have hul := h2.length
  unfold freshSl
  split
  · split
    · exact (out_newimm hv h2 (below_alloc' _ _) w.heap.size (Nat.le_refl _) (Nat.le_refl _) (fun j hj => by rw [at_row (alloc_at _ _)]; simp) hrun).1 rfl
    exact out_newview hv h2.strips (below_alloc' _ _) w.heap.size (Nat.le_refl _) (alloc_at _ _) (by simp) (by simp) (Nat.le_refl _) hrun (Nat.le_refl _) (fun j n ys fl u hj _ => by simp only [List.getElem?_map, Option.map_eq_some_iff] at hj; obtain ⟨_, _, hj⟩ := hj; rw [strip_sl hj]; trivial) (cellsOK_strips _)
  · refine (out_newimm hv h2 (below_alloc' _ _) w.heap.size (Nat.le_refl _) (Nat.le_refl _) (fun j hj => by rw [at_row (alloc_at _ _)]; simp) hrun).2 ti.size ?_ ?_ (fun j h1 h2 => ?_)
    · show w.heap.size < (w.heap.push _).size; simp
    · rw [hul, h3, List.length_map, rep_length, hzl]
    · rw [hul, h3, List.length_map, rep_length, hzl] at h1; omega

theorem asBytes_rel {μ : Bx → Option Nat} {G : Nat → Nat → Prop} : ∀ {xs : List AV} {us : List Value} {bs : List UInt8}, RVs μ G w xs us → asBytes xs = some bs →
    ∃ ns : List Int, us = ns.map (Value.int .u8) ∧ bs = ns.map fun n => UInt8.ofNat n.toNat
  | [], us, bs, hr, h => by simp only [RVs] at hr; simp [asBytes] at h; subst h hr; exact ⟨[], rfl, rfl⟩
  | x :: xs, us, bs, hr, h => by
    simp only [RVs] at hr
    obtain ⟨u, us', rfl, h1, h2⟩ := hr
    unfold asBytes at h
    split at h
    · rename_i heq; cases heq
    · rename_i heq
      cases heq
      simp only [Option.map_eq_some_iff] at h
      obtain ⟨bs', h3, rfl⟩ := h
      obtain ⟨ns, rfl, rfl⟩ := asBytes_rel h2 h3
      simp only [RV] at h1
      subst h1
      exact ⟨_ :: ns, rfl, rfl⟩
    · cases h

theorem foldl_push_list : ∀ (ns : List Int) (r : ByteArray), ns.foldl (fun r n => r.push (UInt8.ofNat n.toNat)) r = ⟨r.data ++ (ns.map fun n => UInt8.ofNat n.toNat).toArray⟩
  | [], r => by simp
  | n :: ns, r => by
    rw [List.foldl_cons, foldl_push_list ns]
    simp [ByteArray.push]

/-- what a slice holds lies in memory -/
theorem slCells_rel (hv : Valid N g box w) {sz : Nat} {v : AV} {u : Value} (hr : RV g.μ g.G w v u) {n : Nat} {xs : List AV} (h : slCells box sz v = some (n, xs)) :
    (∃ s, u = .string s ∧ sz = 1 ∧ n = s.size ∧ xs = s.data.toList.map fun b => .raw (.int .u8 b.toNat)) ∨
    (u = .slice none 0 0 ∧ n = 0 ∧ xs = []) ∨ ∃ k off c us, u = .slice (some ⟨k, off, none⟩) n c ∧ n ≤ c ∧ RVs g.μ g.G w xs us ∧ (∀ j, j < us.length → at_ w k (off + j) = us[j]?) ∧ us.length = n * sz := by
  unfold slCells at h
  split at h
  · cases h; simp only [RV] at hr; exact .inr (.inl ⟨hr, rfl, rfl⟩)
  · split at h
    · rename_i hxl
      cases h
      simp only [RV] at hr
      rcases hr with ⟨rfl, rfl, rfl⟩ | ⟨k, off, c, us, rfl, h2, h3, h4⟩
      · exact .inr (.inl ⟨rfl, rfl, rfl⟩)
      · exact .inr (.inr ⟨k, off, c, us, rfl, h2, h3, fun j hj => (h4 j hj).1, by rw [h3.length, hxl]⟩)
    · cases h
  · rename_i b off n' c z
    simp only [RV] at hr
    obtain ⟨k, oo, c', hm, rfl, hcc, hnc, hoo⟩ := hr
    simp only [Option.bind_eq_some_iff] at h
    obtain ⟨ys, hy, h⟩ := h
    split at h
    · rename_i hc
      cases h
      obtain ⟨us, h4, h5, _⟩ := hv.box_cells hm hy
      have hlen := h4.length
      by_cases hc0 : c = 0
      · have hn0 : n = 0 := by omega
        subst hn0
        refine .inr (.inr ⟨k, oo, c', [], rfl, Nat.zero_le _, ?_, fun j hj => by simp at hj, by simp⟩)
        simp; exact RVs.nil
      · have : oo = off := by rcases hoo with h | h; · exact h
                              · exact absurd h hc0
        subst this
        refine .inr (.inr ⟨k, oo, c', _, rfl, Nat.le_trans hnc hcc, (h4.drop oo).take (n * sz), fun j hj => ?_, by rw [List.length_take, List.length_drop]; omega⟩)
        rw [List.length_take, List.length_drop] at hj
        rw [List.getElem?_take, if_pos (by omega), List.getElem?_drop]
        exact h5 _ (by omega)
    · cases h
  · split at h
    · rename_i s hs
      cases h; simp only [RV] at hr
      exact .inl ⟨s, hr, hs, rfl, rfl⟩
    · cases h
  · cases h

theorem out_convert {E : Env} (hE : E.te = te) (hte : TeOK P te) (hv : Valid N g box w) (hρ : Rel g w a ρ) (src dst : TypeId) (x : Operand) (ho : o.op = .convert src dst x) {r : GR} (h : convV E N.lvl d (g.U d + 1) box src dst (ρ x) = some r) :
    GOut P N g box w o a d r := by
  have hx := (hρ x).1
  have key : ∀ (u r : Value) (w' : World), a.eval x = u → (convert src dst u).run P w = .ok r w' → (execOp a.eval o).run P w = .ok (.value r) w' := fun u r w' he hr => run_value (by rw [← he] at hr; exact hr) (by unfold execOp; rw [ho])
  revert h hx key
  generalize ρ x = x0
  generalize a.eval x = u0
  intro h hx key
  unfold convV at h
  rw [hE] at h
  split at h
  · rename_i k1 k2 k3 n hk1 hk2
    obtain ⟨_, _, _, d1, hd1, hk1'⟩ := kd_some hte hk1 (by simp)
    obtain ⟨_, _, _, d2, hd2, hk2'⟩ := kd_some hte hk2 (by simp)
    simp only [TKis] at hk1' hk2'; subst hk1'; subst hk2'
    simp only [RV] at hx; subst hx; cases h
    exact .pure hv (key _ (.int k2 (k2.wrap n)) w rfl (by simp [convert, run_underlying hd1, run_underlying hd2, Conv.intToInt])) (by simp only [RV]) trivial
  · rename_i s hk1 hk2
    obtain ⟨_, _, _, d1, hd1, hk1'⟩ := kd_some hte hk1 (by simp)
    obtain ⟨_, _, _, d2, hd2, hk2'⟩ := kd_some hte hk2 (by simp)
    simp only [TKis] at hk1' hk2'; subst hk1'; subst hk2'
    simp only [RV] at hx; subst hx; cases h
    exact .pure hv (key _ (.string s) w rfl (by simp [convert, run_underlying hd1, run_underlying hd2])) (by simp only [RV]) trivial
  · rename_i e s hk1 hk2
    obtain ⟨_, _, _, d1, hd1, hk1'⟩ := kd_some hte hk1 (by simp)
    obtain ⟨_, _, _, d2, hd2, hk2'⟩ := kd_some hte hk2 (by simp)
    simp only [TKis] at hk1' hk2'; subst hk1'; subst hk2'
    simp only [RV] at hx; subst hx
    split at h
    · rename_i hke
      obtain ⟨_, _, _, d3, hd3, hk3'⟩ := kd_some hte hke (by simp)
      simp only [TKis] at hk3'; subst hk3'
      split at h
      · cases h
      · cases h
        have hsz : (bytesRow s (grownCap w s.size 0 e)).size = grownCap w s.size 0 e := by
          have := grownCap_ge w s.size 0 e
          simp only [bytesRow, Array.size_append, Array.size_map, Array.size_replicate]
          have : s.data.size = s.size := rfl
          omega
        have hg := grownCap_ge w s.size 0 e
        have hat : (w.drew.alloc (.cells (bytesRow s (grownCap w s.size 0 e)) e ((bytesRow s (grownCap w s.size 0 e)).size, (bytesRow s (grownCap w s.size 0 e)).size + 1))).heap[w.heap.size]? = some (.cells (bytesRow s (grownCap w s.size 0 e)) e ((bytesRow s (grownCap w s.size 0 e)).size, (bytesRow s (grownCap w s.size 0 e)).size + 1)) := alloc_at w.drew _
        have hlen : (s.data.toList.map fun b => Value.int .u8 (b.toNat : Int)).length = s.size := by rw [List.length_map]; rfl
        have hp := (out_newimm (P := P) (o := o) (a := a) (d := d) hv (xs := s.data.toList.map fun b => .raw (.int .u8 b.toNat)) (us := s.data.toList.map fun b => .int .u8 b.toNat) (by
            have := RVs.raws (μ := g.μ) (G := g.G) (w := w) (s.data.toList.map fun b => Value.int .u8 (b.toNat : Int))
            rwa [List.map_map] at this)
          ((below_alloc' w.drew _ : Below w.drew.heap.size w.drew _).mono (Nat.le_refl _) |> fun h => (Below.refl w.heap.size w).drew.trans h) w.heap.size (Nat.le_refl _) hg ?_
          (key _ _ _ rfl (run_bytes_of_string w src dst e s hd1 hd2 hd3))).2 1 ?_ ?_ ?_
        · exact hp
        · intro j hj
          rw [hlen] at hj
          rw [at_row hat, bytesRow_at s _ j hj]
          simp [List.getElem?_map, hj]
        · show w.heap.size < (w.heap.push _).size; simp
        · rw [hlen]; omega
        · intro j h1 h2
          rw [hlen] at h1
          refine ⟨?_, ?_⟩
          · rw [at_row hat]
            simp; rw [hsz]; omega
          · unfold World.frozen?
            rw [hat]
            simp; rw [hsz]; omega
    · cases h
  · rename_i e hk1 hk2
    obtain ⟨_, _, _, d1, hd1, hk1'⟩ := kd_some hte hk1 (by simp)
    obtain ⟨_, _, _, d2, hd2, hk2'⟩ := kd_some hte hk2 (by simp)
    simp only [TKis] at hk1' hk2'; subst hk1'; subst hk2'
    split at h
    · rename_i hke
      obtain ⟨_, _, _, d3, hd3, hk3'⟩ := kd_some hte hke (by simp)
      simp only [TKis] at hk3'; subst hk3'
      split at h
      · cases h
      · rename_i hns
        simp only [Option.bind_eq_some_iff, Option.map_eq_some_iff] at h
        obtain ⟨⟨n, xs⟩, h1, bs, h2, rfl⟩ := h
        simp only at h2
        rcases slCells_rel hv hx h1 with ⟨s, rfl, _, _, rfl⟩ | ⟨rfl, rfl, rfl⟩ | ⟨k, off, c, us, rfl, hnc, hr, hm, hl⟩
        · unfold slCells at h1
          split at h1
          · simp only [RV] at hx; cases hx
          · simp only [RV] at hx
            rcases hx with ⟨h, _⟩ | ⟨_, _, _, _, h, _⟩ <;> cases h
          · simp only [RV] at hx
            obtain ⟨_, _, _, _, h, _⟩ := hx; cases h
          · exact absurd rfl (hns _)
          · cases h1
        · simp [asBytes] at h2; subst h2
          refine .pure hv (key _ (.string ⟨#[]⟩) w rfl ?_) (by simp only [RV]) trivial
          rw [run_convert_bytes_string w src dst e none 0 0 hd1 hd3 hd2]; rfl
        · obtain ⟨ns, rfl, rfl⟩ := asBytes_rel hr h2
          refine .pure hv (u := .string ⟨(ns.map fun n => UInt8.ofNat n.toNat).toArray⟩) (key _ _ w rfl ?_) (by simp only [RV]) trivial
          rw [run_convert_bytes_string w src dst e (some ⟨k, off, none⟩) n c hd1 hd3 hd2]
          have hn : (ns.map (Value.int .u8)).length = n := by rw [hl, Nat.mul_one]
          rw [run_bytesToString w ⟨k, off, none⟩ n c ns]
          · rw [foldl_push_list]; simp
          · rw [← hn]
            exact run_loadCells_list w ⟨k, off, none⟩ _ (fun j v hv => by
              have hj : j < (ns.map (Value.int .u8)).length := (List.getElem?_eq_some_iff.1 hv).1
              rw [addr_add]; exact (hm j hj).trans hv)
    · cases h
  · cases h
end
section
variable {P : Program} {N : Ent} {g : Ghost} {box : Boxes} {w : World} {o : Oper} {a : Act} {d : Nat} {ρ : Operand → AV} {te : TypeId → Option TI}
theorem freeze_heap (w : World) (p : Addr) (n k : Nat) (hn : n ≠ 0) : (w.freeze p n).heap[k]? = if p.block = k then (w.heap[k]?).map (fun ob => match ob with
    | .cells c elem (lo, hi) => .cells c elem (if lo == hi then (p.off, p.off + n) else (min lo p.off, max hi (p.off + n)))
    | o => o) else w.heap[k]? := by
  rw [World.freeze, if_neg hn]
  exact Array.getElem?_modify
theorem at_freeze (w : World) (p : Addr) (n k o : Nat) : at_ (w.freeze p n) k o = at_ w k o := by
  by_cases hn : n = 0
  · rw [World.freeze, if_pos hn]
  · unfold at_ World.cell?
    simp only [freeze_heap w p n k hn]
    by_cases e : p.block = k
    · rw [if_pos e]
      cases w.heap[k]? with
      | none => rfl
      | some ob => cases ob <;> rfl
    · rw [if_neg e]

/-- a mark behind a block's cells -/
theorem Valid.mark (h : Valid N g box w) (p : Addr) (n : Nat) (hk : N.w0.heap.size ≤ p.block ∨ N.may p.block) (hT : ∀ i lo hi, g.T i ≠ some (p.block, lo, hi)) (hm : ∀ b, g.μ b ≠ some p.block) : Valid N g box (w.freeze p n) := by
  have hb : ∀ j, j ≠ p.block → (w.freeze p n).heap[j]? = w.heap[j]? := fun j hj => by
    by_cases hn : n = 0
    · rw [World.freeze, if_pos hn]
    · rw [freeze_heap w p n j hn, if_neg (Ne.symm hj)]
  have hsz : (w.freeze p n).heap.size = w.heap.size := by
    unfold World.freeze
    split
    · rfl
    · simp
  have hos : (w.freeze p n).os = w.os ∧ (w.freeze p n).tape = w.tape ∧ (w.freeze p n).output = w.output := by
    unfold World.freeze
    split <;> exact ⟨rfl, rfl, rfl⟩
  have hat : ∀ k o, at_ (w.freeze p n) k o = at_ w k o := fun k o => at_freeze w p n k o
  refine { h with chg := ?_, keep := ?_, cell := ?_, cont := ?_, ctop := ?_, tail := ?_ }
  · exact ⟨hos.1.trans h.chg.os, hos.2.1.trans h.chg.tape, hos.2.2.trans h.chg.output, by rw [hsz]; exact h.chg.size, fun i hi hn => (hb i (fun e => by
      rcases hk with hk | hk
      · omega
      · rw [e] at hn; exact hn hk)).trans (h.chg.block i hi hn)⟩
  · intro k o hg; rw [hat]; exact h.keep k o hg
  · intro k o hg; rw [hat]; exact h.cell k o hg
  · intro b k xs hbk hx
    exact (h.cont b k xs hbk hx).mono (hb k (fun e => hm b (by rw [hbk, e]))) (fun _ _ h => h) (fun _ _ h => h) (fun k o _ => hat k o)
  · intro b k xs hbk hx j n ys fl u hj hu
    rw [hat] at hu
    exact h.ctop b k xs hbk hx j n ys fl u hj hu
  · intro i k lo hi ht
    obtain ⟨s1, s2, s3, s4, s5, s6, s7⟩ := h.tail i k lo hi ht
    refine ⟨s1, by rw [hsz]; exact s2, s3, s4, s5, fun o ho ho' => ?_, s7⟩
    obtain ⟨e1, e2, e3⟩ := s6 o ho ho'
    have hne : k ≠ p.block := fun e => hT i lo hi (by rw [ht, e])
    exact ⟨by rw [hat]; exact e1, by rw [frozen_of_block (hb k hne)]; exact e2, e3⟩

theorem out_convSelf {used : Id → Bool} (hD : g.D = used) (hte : TeOK P te) (hv : Valid N g box w) (hρ : Rel g w a ρ) (src dst : TypeId) (x : Operand) (ho : o.op = .convert src dst x) {r : GR} (h : convSelf te used src dst (ρ x) = some r) :
    GOut P N g box w o a d r := by
  obtain ⟨hx, ht⟩ := hρ x
  have key : ∀ (u r : Value) (w' : World), a.eval x = u → (convert src dst u).run P w = .ok r w' → (execOp a.eval o).run P w = .ok (.value r) w' := fun u r w' he hr => run_value (by rw [← he] at hr; exact hr) (by unfold execOp; rw [ho])
  revert h hx ht key
  generalize ρ x = x0
  generalize a.eval x = u0
  intro h hx ht key
  unfold convSelf at h
  split at h
  · rename_i n xs i z
    split at h
    · rename_i e hk1
      split at h
      · rename_i hk2
        split at h
        · rename_i hc
          obtain ⟨rfl, hu, hn⟩ := hc
          cases h
          obtain ⟨_, _, _, d1, hd1, hk1'⟩ := kd_some hte hk1 (by simp)
          obtain ⟨_, _, _, d2, hd2, hk2'⟩ := kd_some hte hk2 (by simp)
          simp only [TKis] at hk1' hk2'; subst hk1'; subst hk2'
          simp only [RV] at hx
          rcases hx with ⟨_, h0, _⟩ | ⟨k, off, c, us, rfl, h2, h3, h4⟩
          · exact absurd h0 hn
          · simp only [Top, FlOK] at ht
            obtain ⟨hgen, ht⟩ := ht
            rcases ht with ht | ⟨ht, _⟩ | ⟨k', o', lo, hi, e1, _, e3, _⟩
            · rw [hD, hu] at ht; cases ht
            · cases ht
            · cases e1
              obtain ⟨t1, t2, t3, t4, t5, t6, t7⟩ := hv.tail _ _ _ _ e3
              have v1 := hv.dropT i hgen
              have l1 := Le.dropT (g := g) (w := w) i
              have hno : ∀ j lo' hi', ({ g with T := fun j => if j = i then none else g.T j, D := updI g.D i } : Ghost).T j ≠ some (k, lo', hi') := by
                intro j lo' hi' hj
                change (if j = i then none else g.T j) = _ at hj
                split at hj
                · cases hj
                · rename_i hne; exact hne (hv.tinj _ _ _ _ _ _ _ hj e3)
              have rel : ∀ w', (∀ k o, at_ w' k o = at_ w k o) → RV g.μ g.G w' (.sl n xs .bor) (.slice (some ⟨k, off, none⟩) n c) := fun w' hat => by
                simp only [RV]
                refine .inr ⟨k, off, c, us, rfl, h2, RVs.mono (fun _ _ h => h) (fun _ _ h => h) (fun k o _ => hat k o) _ _ h3, fun j hj => ?_⟩
                rw [hat]; exact h4 j hj
              cases hsh : w.shape? k with
              | none =>
                exact ⟨_, w, _, key _ (.slice (some ⟨k, off, none⟩) n c) w rfl (by simp [convert, run_underlying hd1, run_underlying hd2, markStringish, hsh]), v1, l1, by simp, rfl, rel w (fun _ _ => rfl), trivial⟩
              | some p =>
                obtain ⟨el, sz⟩ := p
                refine ⟨_, w.freeze ⟨k, sz, none⟩ 1, _, key _ (.slice (some ⟨k, off, none⟩) n c) _ rfl (by simp [convert, run_underlying hd1, run_underlying hd2, markStringish, hsh]), v1.mark ⟨k, sz, none⟩ 1 (t1.imp id fun ⟨j, lo', hi', h, _⟩ => .inr ⟨j, lo', hi', h⟩) hno t7, l1.trans ⟨rfl, rfl, fun _ _ h => h, fun _ _ h => h, fun k o _ => at_freeze w _ _ k o, fun _ => Nat.le_refl _, fun _ h => h, fun _ _ h => .inl h⟩, by simp, rfl, rel _ (fun k o => at_freeze w _ _ k o), trivial⟩
        · cases h
      · cases h
    · cases h
  · cases h
end
end Go.Abs

/- append. -/
namespace Go.Abs
set_option linter.unusedSimpArgs false
set_option linter.unusedVariables false
open Go Go.RowKit

theorem oneA_rel {μ : Bx → Option Nat} {G : Nat → Nat → Prop} {w : World} {v : AV} {u : Value} (h : RV μ G w v u) (ho : oneA v = true) : u.oneCell' = true := by
  cases v with
  | raw x => simp only [RV] at h; subst h; cases u <;> first | rfl | (simp [oneA] at ho)
  | anyb => simp only [RV] at h; obtain ⟨b, rfl⟩ := h; rfl
  | sl n xs fl => simp only [RV] at h; rcases h with ⟨rfl, _⟩ | ⟨_, _, _, _, rfl, _⟩ <;> rfl
  | ptr b off => simp only [RV] at h; obtain ⟨_, _, rfl⟩ := h; rfl
  | iptr xs => simp only [RV] at h; obtain ⟨_, _, _, rfl, _⟩ := h; rfl
  | view b off n c sz => simp only [RV] at h; obtain ⟨_, _, _, _, rfl, _⟩ := h; rfl
  | fn f cs => simp only [RV] at h; obtain ⟨_, rfl, _⟩ := h; rfl
  | _ => simp [oneA] at ho

theorem oneAs_rel {μ : Bx → Option Nat} {G : Nat → Nat → Prop} {w : World} {xs : List AV} {us : List Value} (h : RVs μ G w xs us) (ho : xs.all oneA = true) : ∀ u ∈ us, u.oneCell' = true := by
  intro u hu
  obtain ⟨j, hj⟩ := List.getElem?_of_mem hu
  have hl := h.length
  have hjl : j < xs.length := by rw [← hl]; exact (List.getElem?_eq_some_iff.1 hj).1
  obtain ⟨u', h1, h2⟩ := h.get j xs[j] (List.getElem?_eq_getElem hjl)
  rw [hj] at h1; cases h1
  exact oneA_rel h2 (List.all_eq_true.1 ho _ (List.getElem_mem hjl))

section
variable {P : Program} {N : Ent} {g : Ghost} {box : Boxes} {w : World} {o : Oper} {a : Act} {d : Nat} {ρ : Operand → AV} {te : TypeId → Option TI}

/-- what the second argument of an append brings -/
structure App (P : Program) (w : World) (t t1 ty e : TypeId) (i : TypeInfo) (z : Value) (x : Value) (m : Nat) (news : List Value) : Prop where
  len : news.length = m * i.size
  room : ∀ (k off n c : Nat), n + m ≤ c → (∀ j, j < news.length → (at_ w k (off + n * i.size + j)).isSome = true) → (∀ j, j < news.length → w.frozen? ⟨k, off + n * i.size + j, none⟩ = false) →
    (Builtin.append_ #[t, t1] ty #[.slice (some ⟨k, off, none⟩) n c, x]).run P w = .ok (.slice (some ⟨k, off, none⟩) (n + m) c) (w.setCells k (off + n * i.size) news)
  grow : ∀ (A : Option Addr) (n c : Nat) (olds : List Value), (Builtin.firstCells i.size n (.slice A n c)).run P w.drew = .ok olds.toArray w.drew → c < n + m → (n + m + (n + m) / 4 + 192) * i.bytes ≤ 281474976710656 → n + m ≤ 225179981368371 →
    (Builtin.append_ #[t, t1] ty #[.slice A n c, x]).run P w = .ok (.slice (some ⟨w.heap.size, 0, none⟩) (n + m) (grownCap w (n + m) c e))
      (w.drew.alloc (.cells ((olds ++ news).toArray ++ Builtin.zeroCells z.cells (grownCap w (n + m) c e - (n + m))) e))
  nil : m = 0 → (Builtin.append_ #[t, t1] ty #[.slice none 0 0, x]).run P w = .ok (.slice none 0 0) w

theorem App.src {t t1 ty e : TypeId} {i : TypeInfo} {z x : Value} {m : Nat} {news : List Value} (ht : P.underlying t = some (.slice e)) (hi : P.info? e = some i) (hz : i.zero = some z) (hs : Src P i.size t1 x m news w) : App P w t t1 ty e i z x m news := by
  refine ⟨hs.newsLen, fun k off n c h1 h2 h3 => run_append_room_src w t t1 ty e i ht hi k off n c x m news hs h1 h2 h3, fun A n c olds h1 h2 h3 h4 => ?_, fun hm => ?_⟩
  · exact run_append_grow_src w t t1 ty e i z ht hi hz A n c olds h1 x m news hs h2 (by omega) (growslice_fits_wide h2 h3)
  · subst hm
    have hn : news = [] := List.length_eq_zero_iff.1 (by rw [hs.newsLen]; simp)
    subst hn
    rcases hs.kind with ⟨e', hk⟩ | hk <;> simp [Builtin.append_, run_underlying ht, run_underlying hk, sizeOf, typeInfo, hi, hs.len, hs.cells]

theorem App.zeros {t t1 ty e : TypeId} {i : TypeInfo} {z : Value} {k1 kx : IntKind} {m : Nat} (ht : P.underlying t = some (.slice e)) (ht1 : P.underlying t1 = some (.int k1)) (hi : P.info? e = some i) (hz : i.zero = some z) (hzs : z.cells.size = i.size)
    (h1 : ∀ u ∈ z.cells.toList, u.oneCell' = true) (hmb : m * i.bytes ≤ 281474976710656) (hm : m ≤ 225179981368371) : App P w t t1 ty e i z (.int kx m) m (rep m z.cells.toList) := by
  have hw : IntKind.i64.wrap (m : Int) = m := by rw [IntKind.wrap_i64]; omega
  have hneg : ¬ ((m : Int) < 0) := by omega
  have hbig : ¬ (281474976710656 < (m : Int) * (i.bytes : Int)) := by rw [← Int.natCast_mul]; omega
  have hzc : Builtin.zeroCells z.cells m = (rep m z.cells.toList).toArray := by
    unfold Builtin.zeroCells
    have := madeCells_rep z.cells z.cells.toList rfl m
    simpa using this
  have hl : (rep m z.cells.toList).length = m * i.size := by rw [rep_length, Array.length_toList, hzs]
  have hmem : ∀ m, ∀ u ∈ rep m z.cells.toList, u.oneCell' = true := by
    intro m
    induction m with
    | zero => intro u hu; simp [rep] at hu
    | succ m ih => intro u hu; simp only [rep, List.mem_append] at hu; exact hu.elim (h1 u) (ih u)
  have hnil0 : m * i.size = 0 → rep m z.cells.toList = [] := fun h0 => List.length_eq_zero_iff.1 (by rw [hl]; exact h0)
  refine ⟨hl, fun k off n c g1 g2 g3 => ?_, fun A n c olds g1 g2 g3 g4 => ?_, fun g1 => ?_⟩
  · have hst := run_storeCells_cells (P := P) k (off + n * i.size) (rep m z.cells.toList) 0 w (by simpa [at_] using g2) (by simpa using g3) (hmem m)
    simp only [Nat.add_zero] at hst
    by_cases h0 : m * i.size = 0
    · have hr := hnil0 h0
      rw [hr] at hst
      simp [Builtin.append_, run_underlying ht, run_underlying ht1, sizeOf, typeInfo, hi, asInt, asIntOf, hw, hneg, hbig, g1, h0, addr_add, hst, hr]
    · simp [Builtin.append_, run_underlying ht, run_underlying ht1, sizeOf, typeInfo, hi, asInt, asIntOf, hw, hneg, hbig, g1, h0, addr_add, hst, zeroValue, hz, hzc]
  · have hn : ¬ (n + m ≤ c) := by omega
    have h63' : ¬ (9223372036854775807 < ((n : Int) + (m : Int))) := by omega
    have hfit := growslice_fits_wide g2 g3
    have h48' : ¬ (281474976710656 < Builtin.nextslicecap (n + m) c * i.bytes) := by omega
    by_cases h0 : m * i.size = 0
    · have hr := hnil0 h0
      simp [Builtin.append_, run_underlying ht, run_underlying ht1, sizeOf, typeInfo, zeroValue, hi, hz, asInt, asIntOf, hw, hneg, hbig, hn, h63', h48', Question.forced, g1, newRow, grownCap, h0, hr]
    · simp [Builtin.append_, run_underlying ht, run_underlying ht1, sizeOf, typeInfo, zeroValue, hi, hz, asInt, asIntOf, hw, hneg, hbig, hn, h63', h48', Question.forced, g1, newRow, grownCap, h0, hzc]
      congr 2
      apply Array.ext'
      simp [List.append_assoc]
  · subst g1
    have hw0 : IntKind.i64.wrap 0 = 0 := by rw [IntKind.wrap_i64]; rfl
    simp [Builtin.append_, run_underlying ht, run_underlying ht1, sizeOf, typeInfo, hi, asInt, asIntOf, hw0]

theorem at_setCells_out {k p : Nat} {vs : List Value} {k' o' : Nat} (h : k' = k → o' < p ∨ p + vs.length ≤ o') : at_ (w.setCells k p vs) k' o' = at_ w k' o' :=
  World.cell?_setCells_out k vs p w ⟨k', o', none⟩ (fun e _ => h e)

/-- room is written -/
theorem Valid.tailwrite (h : Valid N g box w) {i : Id} {k lo hi : Nat} (hT : g.T i = some (k, lo, hi)) {p : Nat} {vs : List Value} (h1 : lo ≤ p) (h2 : p + vs.length ≤ hi) :
    Valid N g box (w.setCells k p vs) ∧ Le g w g (w.setCells k p vs) := by
  obtain ⟨t1, t2, t3, t4, t5, t6, t7⟩ := h.tail i k lo hi hT
  have hb : ∀ k', k' < w.heap.size → k' ≠ k → (w.setCells k p vs).heap[k']? = w.heap[k']? := fun k' h1 h2 => World.heap_setCells_other w k p vs h1 h2
  have hbel : Below k w (w.setCells k p vs) := Lib.below_setCells_w (Nat.le_refl k) vs p w
  have hsize := hbel.size
  have hat : ∀ k' o, g.G k' o → at_ (w.setCells k p vs) k' o = at_ w k' o := fun k' o hg => at_setCells_out (fun e => by
    subst e
    rcases Nat.lt_or_ge o p with h | h
    · exact .inl h
    · rcases Nat.lt_or_ge o hi with h' | h'
      · exact absurd hg (t6 o (by omega) h').2.2
      · exact .inr (by omega))
  have hsome : ∀ o, (at_ w k o).isSome → (at_ (w.setCells k p vs) k o).isSome := fun o ho => World.isSome_setCells k vs p w ⟨k, o, none⟩ ho
  refine ⟨{ h with chg := ?_, keep := ?_, cell := ?_, cont := ?_, ctop := ?_, tail := ?_ }, ⟨rfl, rfl, fun _ _ h => h, fun _ _ h => h, hat, fun _ => Nat.le_refl _, fun _ h => h, fun _ _ h => .inl h⟩⟩
  · refine ⟨hbel.os.trans h.chg.os, hbel.tape.trans h.chg.tape, hbel.output.trans h.chg.output, Nat.le_trans h.chg.size hsize, fun i hi hn => ?_⟩
    refine (hb i (Nat.lt_of_lt_of_le hi h.chg.size) (fun e => ?_)).trans (h.chg.block i hi hn)
    rcases t1 with t1 | ⟨j, lo', hi', t1, _⟩
    · omega
    · exact hn (.inr ⟨j, lo', hi', by rw [e]; exact t1⟩)
  · intro k' o hg; rw [hat k' o (h.sub k' o hg)]; exact h.keep k' o hg
  · intro k' o hg; rw [hat k' o hg]; exact h.cell k' o hg
  · intro b k' xs hm hx
    exact (h.cont b k' xs hm hx).mono (hb k' (h.muLt hm) (fun e => by subst e; exact t7 b hm)) (fun _ _ h => h) (fun _ _ h => h) hat
  · intro b k' xs hm hx j n ys fl u hj hu
    rw [at_of_block (hb k' (h.muLt hm) (fun e => by subst e; exact t7 b hm))] at hu
    exact h.ctop b k' xs hm hx j n ys fl u hj hu
  · intro i' k' lo' hi' ht
    obtain ⟨s1, s2, s3, s4, s5, s6, s7⟩ := h.tail i' k' lo' hi' ht
    refine ⟨s1, Nat.lt_of_lt_of_le s2 hsize, s3, s4, s5, fun o ho ho' => ?_, s7⟩
    obtain ⟨e1, e2, e3⟩ := s6 o ho ho'
    refine ⟨?_, by rw [World.frozen?_setCells]; exact e2, e3⟩
    by_cases hk : k' = k
    · subst hk; exact hsome o e1
    · rw [at_setCells_out (fun e => absurd e hk)]; exact e1

/-- the flag of a slice that may be appended to -/
def useOf (u : Option Id) (g : Ghost) : Ghost := match u with
  | some i => { g with T := fun j => if j = i then none else g.T j, D := updI g.D i }
  | none => g

theorem Valid.use (h : Valid N g box w) (u : Option Id) (hu : ∀ i, u = some i → made g i) : Valid N (useOf u g) box w := by
  cases u with
  | none => exact h
  | some i => exact h.dropT i (hu i rfl)

theorem Le.use (u : Option Id) : Le g w (useOf u g) w := by
  cases u with
  | none => exact Le.refl _ _
  | some i => exact Le.dropT i

theorem useOf_L (u : Option Id) : (useOf u g).L = g.L := by cases u <;> rfl
theorem useOf_K (u : Option Id) : (useOf u g).K = g.K := by cases u <;> rfl
theorem useOf_mu (u : Option Id) : (useOf u g).μ = g.μ := by cases u <;> rfl
theorem useOf_G (u : Option Id) : (useOf u g).G = g.G := by cases u <;> rfl
theorem useOf_U (u : Option Id) : (useOf u g).U = g.U := by cases u <;> rfl
theorem useOf_D (u : Option Id) : (useOf u g).D = (match u with | some i => updI g.D i | none => g.D) := by cases u <;> rfl

/-- what is done with room taken first -/
theorem GOut.after (u : Option Id) (hu : ∀ i, u = some i → made g i) {v : AV} {b : Bool} {c : Option (List AV)} (h : GOut P N (useOf u g) box w o a d { v, bump := b, cont := c }) : GOut P N g box w o a d { v, bump := b, cont := c, use := u } := by
  obtain ⟨x, w', g', h1, h2, h3, h4, h5, h6, h7⟩ := h
  refine ⟨x, w', g', h1, ?_, (Le.use u).trans h3, ?_, ?_, h6, h7⟩
  · simpa [useOf_U] using h2
  · simpa [useOf_U] using h4
  · simp only at h5 ⊢; rw [h5]; cases u <;> rfl

/-- nothing was appended: the slice as it was -/
theorem out_same (hv : Valid N g box w) {v : AV} {u : Value} (hr : (execOp a.eval o).run P w = .ok (.value u) w) (h1 : RV g.μ g.G w v u) (h2 : ∀ g', g'.L = g.L → g'.U = upd g.U d (g.U d + 1) → Top g' v u) : GOut P N g box w o a d { v, bump := true } := by
  have hU : ∀ s, g.U s ≤ upd g.U d (g.U d + 1) s := fun s => by unfold upd; split <;> simp_all
  exact ⟨u, w, _, hr, hv.bump _ hU, Le.bump _ hU, by simp, by simp, h1, h2 _ rfl rfl⟩

/-- the arm that takes a new block -/
theorem out_grow {t t1 e : TypeId} {ti : TI} {i : TypeInfo} {z : Value} (hs : i.size = ti.size) (hb : i.bytes = ti.bytes) (hzc : z.cells.toList = ti.zero) (hzl : ti.zero.length = ti.size) (hv : Valid N g box w) {x : Value} {m : Nat} {news : List Value} (happ : App P w t t1 o.type e i z x m news)
    {xs ys : List AV} {olds : List Value} {A : Option Addr} {n c : Nat} (key : ∀ r w', (Builtin.append_ #[t, t1] o.type #[.slice A n c, x]).run P w = .ok r w' → (execOp a.eval o).run P w = .ok (.value r) w')
    (hxs : RVs g.μ g.G w xs olds) (hol : olds.length = n * ti.size) (hys : RVs g.μ g.G w ys news) (hf : (Builtin.firstCells i.size n (.slice A n c)).run P w.drew = .ok olds.toArray w.drew) (hc : c < n + m)
    (hbound : (n + m + (n + m) / 4 + 192) * ti.bytes ≤ 281474976710656) (hbound2 : n + m ≤ 225179981368371) :
    GOut P N g box w o a d { v := .sl (n + m) (xs ++ ys) (.own ⟨N.lvl, d, 0, g.U d + 1⟩ ti.size), bump := true } := by
  have hg := grownCap_ge w (n + m) c e
  have hr := key _ _ (happ.grow A n c olds hf hc (by rw [hb]; exact hbound) hbound2)
  have hat : (w.drew.alloc (.cells ((olds ++ news).toArray ++ Builtin.zeroCells z.cells (grownCap w (n + m) c e - (n + m))) e)).heap[w.heap.size]? = some (.cells ((olds ++ news).toArray ++ Builtin.zeroCells z.cells (grownCap w (n + m) c e - (n + m))) e) := alloc_at w.drew _
  have hln : news.length = m * ti.size := by rw [happ.len, hs]
  have hl : (olds ++ news).length = (n + m) * ti.size := by rw [List.length_append, hol, hln, Nat.add_mul]
  have hzs : (Builtin.zeroCells z.cells (grownCap w (n + m) c e - (n + m))).size = (grownCap w (n + m) c e - (n + m)) * ti.size := by
    unfold Builtin.zeroCells; rw [Array.size_map, Array.size_range, ← Array.length_toList, hzc, hzl]
  refine (out_newimm (P := P) (o := o) (a := a) (d := d) hv (hxs.append hys) ((Below.refl w.heap.size w).drew.trans (below_alloc' w.drew _ : Below w.drew.heap.size w.drew _)) w.heap.size (Nat.le_refl _) hg ?_ hr).2 ti.size ?_ hl ?_
  · intro j hj
    rw [at_row hat, Array.getElem?_append_left (by simpa using hj)]
    simp
  · show w.heap.size < (w.heap.push _).size; simp
  · intro j h1 h2
    refine ⟨?_, frozen_row hat⟩
    rw [at_row hat]
    have hlt : j < ((olds ++ news).toArray ++ Builtin.zeroCells z.cells (grownCap w (n + m) c e - (n + m))).size := by
      rw [Array.size_append, hzs, List.size_toArray, hl, ← Nat.add_mul]
      rw [show n + m + (grownCap w (n + m) c e - (n + m)) = grownCap w (n + m) c e by omega]; exact h2
    rw [Array.getElem?_eq_getElem hlt]; rfl

/-- the same, in a box -/
theorem out_growview {t t1 e : TypeId} {ti : TI} {i : TypeInfo} {z : Value} (hs : i.size = ti.size) (hb : i.bytes = ti.bytes) (hzc : z.cells.toList = ti.zero) (hzl : ti.zero.length = ti.size) (hv : Valid N g box w) {x : Value} {m : Nat} {news : List Value} (happ : App P w t t1 o.type e i z x m news)
    {xs ys : List AV} {olds : List Value} {A : Option Addr} {n c : Nat} (key : ∀ r w', (Builtin.append_ #[t, t1] o.type #[.slice A n c, x]).run P w = .ok r w' → (execOp a.eval o).run P w = .ok (.value r) w')
    (hxs : RVs g.μ g.G w xs olds) (hol : olds.length = n * ti.size) (hys : RVs g.μ g.G w ys news) (hf : (Builtin.firstCells i.size n (.slice A n c)).run P w.drew = .ok olds.toArray w.drew) (hc : c < n + m)
    (hbound : (n + m + (n + m) / 4 + 192) * ti.bytes ≤ 281474976710656) (hbound2 : n + m ≤ 225179981368371) :
    GOut P N g box w o a d { v := .view (.own N.lvl d (g.U d + 1)) 0 (n + m) (n + m) ti.size, bump := true, cont := some ((xs ++ ys).map strip) } := by
  have hg := grownCap_ge w (n + m) c e
  have hr := key _ _ (happ.grow A n c olds hf hc (by rw [hb]; exact hbound) hbound2)
  refine out_newview (P := P) (o := o) (a := a) (d := d) hv (hxs.append hys).strips ((Below.refl w.heap.size w).drew.trans (below_alloc' w.drew _ : Below w.drew.heap.size w.drew _)) w.heap.size (Nat.le_refl _) (alloc_at w.drew _) ?_ ?_ (Nat.le_refl _) hr hg ?_ (cellsOK_strips _)
  · simp
  · intro j hj
    rw [Array.getElem?_append_left (by simpa using hj)]
    simp
  · intro j n ys fl u hj _
    simp only [List.getElem?_map, Option.map_eq_some_iff] at hj
    obtain ⟨_, _, hj⟩ := hj
    rw [strip_sl hj]; trivial

theorem out_append_view {t t1 e : TypeId} {ti : TI} {i : TypeInfo} {z : Value} (hs : i.size = ti.size) (hb : i.bytes = ti.bytes) (hzc : z.cells.toList = ti.zero) (hzl : ti.zero.length = ti.size) (hv : Valid N g box w) {x : Value} {m : Nat} {news : List Value}
    (happ : App P w t t1 o.type e i z x m news) {s : AV} {us : Value} (hs0 : RV g.μ g.G w s us) (hst : Top g s us) (key : ∀ r w', (Builtin.append_ #[t, t1] o.type #[us, x]).run P w = .ok r w' → (execOp a.eval o).run P w = .ok (.value r) w')
    (hroom : room ti.size m g.D s = some none) (hm0 : m ≠ 0) {n : Nat} {xs : List AV} (hsl : slCells box ti.size s = some (n, xs)) {ys : List AV} (hys : RVs g.μ g.G w ys news)
    (hbound : (n + m + (n + m) / 4 + 192) * ti.bytes ≤ 281474976710656) (hbound2 : n + m ≤ 225179981368371) :
    GOut P N g box w o a d { v := .view (.own N.lvl d (g.U d + 1)) 0 (n + m) (n + m) ti.size, bump := true, cont := some ((xs ++ ys).map strip) } := by
  have nilCase : us = .slice none 0 0 → n = 0 → xs = [] → GOut P N g box w o a d { v := .view (.own N.lvl d (g.U d + 1)) 0 (n + m) (n + m) ti.size, bump := true, cont := some ((xs ++ ys).map strip) } := by
    rintro rfl rfl rfl
    exact out_growview hs hb hzc hzl hv happ key RVs.nil (by simp) hys (run_firstCells_none w.drew i.size 0 0 0) (by omega) hbound hbound2
  have fullCase : ∀ (k off c : Nat) (olds : List Value), us = .slice (some ⟨k, off, none⟩) n c → RVs g.μ g.G w xs olds → (∀ j, j < olds.length → at_ w k (off + j) = olds[j]?) → olds.length = n * ti.size → c < n + m →
      GOut P N g box w o a d { v := .view (.own N.lvl d (g.U d + 1)) 0 (n + m) (n + m) ti.size, bump := true, cont := some ((xs ++ ys).map strip) } := by
    rintro k off c olds rfl hx1 hx2 hx3 hm
    refine out_growview hs hb hzc hzl hv happ key hx1 hx3 hys ?_ hm hbound hbound2
    exact run_firstCells_some w.drew i.size n ⟨k, off, none⟩ n c olds (by rw [hx3, hs]) (fun j v hv => by
      have hj : j < olds.length := (List.getElem?_eq_some_iff.1 hv).1
      rw [addr_add]
      exact (show w.drew.cell? ⟨k, off + j, none⟩ = w.cell? ⟨k, off + j, none⟩ from rfl) ▸ (hx2 j hj).trans hv)
  unfold room at hroom
  split at hroom
  · simp [slCells] at hsl
    simp only [RV] at hs0
    exact nilCase hs0 hsl.1.symm hsl.2
  · rename_i n' xs'
    simp only [slCells] at hsl
    split at hsl
    · cases hsl
      simp only [RV] at hs0
      rcases hs0 with ⟨h1, h2, h3⟩ | ⟨k, off, c, olds, h1, h2, h3, h4⟩
      · exact nilCase h1 h2 h3
      · subst h1
        simp only [Top, FlOK] at hst
        split at hroom
        · cases hroom
        · exact fullCase k off c olds rfl h3 (fun j hj => (h4 j hj).1) (by rw [h3.length]; assumption) (by omega)
    · cases hsl
  · split at hroom <;> cases hroom
  · cases hroom

theorem out_append_core {t t1 e : TypeId} {ti : TI} {i : TypeInfo} {z : Value} (hs : i.size = ti.size) (hb : i.bytes = ti.bytes) (hzc : z.cells.toList = ti.zero) (hzl : ti.zero.length = ti.size) (hv : Valid N g box w) {x : Value} {m : Nat} {news : List Value}
    (happ : App P w t t1 o.type e i z x m news) {s : AV} {us : Value} (hs0 : RV g.μ g.G w s us) (hst : Top g s us) (key : ∀ r w', (Builtin.append_ #[t, t1] o.type #[us, x]).run P w = .ok r w' → (execOp a.eval o).run P w = .ok (.value r) w')
    {u : Option Id} (hroom : room ti.size m g.D s = some u) {n : Nat} {xs : List AV} (hsl : slCells box ti.size s = some (n, xs)) {ys : List AV} (hys : RVs g.μ g.G w ys news)
    (hbound : (n + m + (n + m) / 4 + 192) * ti.bytes ≤ 281474976710656) (hbound2 : n + m ≤ 225179981368371) :
    GOut P N g box w o a d { v := .sl (n + m) (xs ++ ys) (.own ⟨N.lvl, d, 0, g.U d + 1⟩ ti.size), bump := true, use := u } := by
  have hln : news.length = m * ti.size := by rw [happ.len, hs]
  have hyl := hys.length
  have hu : ∀ i, u = some i → made g i := by
    intro i hi; subst hi
    unfold room at hroom
    split at hroom
    · cases hroom
    · split at hroom <;> cases hroom
    · split at hroom
      · cases hroom
        simp only [Top] at hst
        cases us <;> first | exact hst.1 | (simp only [FlOK] at hst)
      · cases hroom
    · cases hroom
  -- a nil slice
  have nilCase : us = .slice none 0 0 → n = 0 → xs = [] → GOut P N g box w o a d { v := .sl (n + m) (xs ++ ys) (.own ⟨N.lvl, d, 0, g.U d + 1⟩ ti.size), bump := true, use := u } := by
    rintro rfl rfl rfl
    refine GOut.after u hu ?_
    have hv' := hv.use u hu
    rw [show g.U d = (useOf u g).U d by rw [useOf_U]]
    by_cases hm : m = 0
    · have hn : ys = [] := List.length_eq_zero_iff.1 (by rw [← hyl, hln, hm]; simp)
      subst hn; subst hm
      refine out_same hv' (key _ _ (happ.nil rfl)) (by simp [RV]) (fun g' hl hg' => ?_)
      simp only [Top, FlOK]; exact ⟨madeNew (by rw [hl, useOf_L]; exact hv.lev) (by rw [hg']; simp [upd]), .inr (.inl ⟨by trivial, by trivial, by trivial⟩)⟩
    · exact out_grow hs hb hzc hzl hv' happ key (by rw [useOf_mu, useOf_G]; exact RVs.nil) (by simp) (by rw [useOf_mu, useOf_G]; exact hys) (run_firstCells_none w.drew i.size 0 0 0) (by omega) hbound hbound2
  -- a slice with no room
  have fullCase : ∀ (k off c : Nat) (olds : List Value), us = .slice (some ⟨k, off, none⟩) n c → RVs g.μ g.G w xs olds → (∀ j, j < olds.length → at_ w k (off + j) = olds[j]?) → olds.length = n * ti.size → c < n + m →
      GOut P N g box w o a d { v := .sl (n + m) (xs ++ ys) (.own ⟨N.lvl, d, 0, g.U d + 1⟩ ti.size), bump := true, use := u } := by
    rintro k off c olds rfl hx1 hx2 hx3 hm
    refine GOut.after u hu ?_
    have hv' := hv.use u hu
    rw [show g.U d = (useOf u g).U d by rw [useOf_U]]
    refine out_grow hs hb hzc hzl hv' happ key (by rw [useOf_mu, useOf_G]; exact hx1) hx3 (by rw [useOf_mu, useOf_G]; exact hys) ?_ hm hbound hbound2
    exact run_firstCells_some w.drew i.size n ⟨k, off, none⟩ n c olds (by rw [hx3, hs]) (fun j v hv => by
      have hj : j < olds.length := (List.getElem?_eq_some_iff.1 hv).1
      rw [addr_add]
      exact (show w.drew.cell? ⟨k, off + j, none⟩ = w.cell? ⟨k, off + j, none⟩ from rfl) ▸ (hx2 j hj).trans hv)
  unfold room at hroom
  split at hroom
  · simp [slCells] at hsl
    simp only [RV] at hs0
    exact nilCase hs0 hsl.1.symm hsl.2
  · rename_i n' xs'
    simp only [slCells] at hsl
    split at hsl
    · cases hsl
      simp only [RV] at hs0
      rcases hs0 with ⟨h1, h2, h3⟩ | ⟨k, off, c, olds, h1, h2, h3, h4⟩
      · exact nilCase h1 h2 h3
      · subst h1
        simp only [Top, FlOK] at hst
        split at hroom
        · cases hroom
        · exact fullCase k off c olds rfl h3 (fun j hj => (h4 j hj).1) (by rw [h3.length]; assumption) (by omega)
    · cases hsl
  · rename_i n' xs' i' z'
    split at hroom
    · rename_i hcond
      cases hroom
      simp only [slCells] at hsl
      split at hsl
      · rename_i hxl
        cases hsl
        simp only [RV] at hs0
        rcases hs0 with ⟨h1, h2, h3⟩ | ⟨k, off, c, olds, h1, h2, h3, h4⟩
        · exact nilCase h1 h2 h3
        · subst h1
          simp only [Top, FlOK] at hst
          obtain ⟨hgen, hst⟩ := hst
          have hol : olds.length = n * ti.size := by rw [h3.length, hxl]
          rcases hst with hD | ⟨h, _⟩ | ⟨k', o', lo, hi, e1, e2, e3, e4⟩
          · rw [hcond.1] at hD; cases hD
          · cases h
          · cases e1
            rw [hcond.2] at e4 e2
            have hne : (⟨N.lvl, d, 0, g.U d + 1⟩ : Id) ≠ i' := fun e => hv.unmade (Nat.lt_succ_self _) (e ▸ hgen)
            have hTn : (if (⟨N.lvl, d, 0, g.U d + 1⟩ : Id) = i' then none else g.T ⟨N.lvl, d, 0, g.U d + 1⟩) = none := by
              rw [if_neg hne]; exact hv.unT (Nat.lt_succ_self _)
            have hDn : updI g.D i' ⟨N.lvl, d, 0, g.U d + 1⟩ = false := by
              unfold updI; rw [if_neg hne]; exact hv.unD (Nat.lt_succ_self _)
            have hU : ∀ s, g.U s ≤ upd g.U d (g.U d + 1) s := fun s => by unfold upd; split <;> simp_all
            obtain ⟨t1', t2, t3, t4, t5, t6, t7⟩ := hv.tail _ _ _ _ e3
            by_cases hc : c < n + m
            · exact fullCase k off c olds rfl h3 (fun j hj => (h4 j hj).1) hol hc
            · rcases e4 with e4 | ⟨e4, e5⟩
              · -- nothing was appended, and there is no room
                have hm0 : m = 0 := by omega
                subst e4; subst hm0
                have hn : ys = [] := List.length_eq_zero_iff.1 (by rw [← hyl, hln]; simp)
                have hn' : news = [] := List.length_eq_zero_iff.1 (by rw [hln]; simp)
                subst hn; subst hn'
                have hr := happ.room k off c c (by omega) (by simp) (by simp)
                simp only [World.setCells, Nat.add_zero] at hr
                have v2 := (hv.dropT i' hgen).bump _ hU
                have v3 := v2.addT ⟨N.lvl, d, 0, g.U d + 1⟩ k lo lo (t1'.imp id fun ⟨j, lo', hi', h1, h2, h3⟩ => ⟨j, lo', hi', h1, h2, by omega⟩) t2 (madeNew hv.lev (by simp [upd])) rfl hDn hTn (Nat.le_refl _) (fun j h1 h2 => by omega) t7 (fun i2 lo2 hi2 _ h => by
                  have h' : (if i2 = i' then none else g.T i2) = some (k, lo2, hi2) := h
                  split at h'
                  · cases h'
                  · rename_i hne; exact absurd (hv.tinj _ _ _ _ _ _ _ h' e3) hne)
                have l3 := ((Le.dropT (g := g) (w := w) i').trans (Le.bump _ hU)).trans (Le.addT (w := w) ⟨N.lvl, d, 0, g.U d + 1⟩ (k, lo, lo) hTn)
                refine ⟨_, w, _, key _ _ hr, v3, l3, by simp, rfl, ?_, ?_⟩
                · simp only [RV, Nat.add_zero, List.append_nil]
                  exact .inr ⟨k, off, c, olds, rfl, Nat.le_refl _, RVs.le l3 h3, h4⟩
                · simp only [Top, FlOK]
                  exact ⟨madeNew hv.lev (by simp [upd]), .inr (.inr ⟨k, off, lo, lo, rfl, by simpa using hxl, by simp, .inl (by simp)⟩)⟩
              -- there is room
              subst e4; subst e5
              have hcm : n + m ≤ c := by omega
              have hmul : (n + m) * ti.size ≤ c * ti.size := Nat.mul_le_mul_right _ hcm
              rw [Nat.add_mul] at hmul
              have hin : ∀ j, j < news.length → (at_ w k (off + n * ti.size + j)).isSome = true ∧ w.frozen? ⟨k, off + n * ti.size + j, none⟩ = false := fun j hj => by
                obtain ⟨q1, q2, _⟩ := t6 (off + n * ti.size + j) (by omega) (by omega)
                exact ⟨q1, q2⟩
              have hr := happ.room k off n c hcm (by rw [hs]; exact fun j hj => (hin j hj).1) (by rw [hs]; exact fun j hj => (hin j hj).2)
              rw [hs] at hr
              obtain ⟨v1, l1⟩ := hv.tailwrite e3 (p := off + n * ti.size) (vs := news) (by omega) (by omega)
              have v2 := v1.dropT i' hgen
              have v3 := v2.addG (fun k' j => k' = k ∧ off + n * ti.size ≤ j ∧ j < off + n * ti.size + news.length) (by
                rintro k' j ⟨rfl, hj1, hj2⟩
                refine ⟨?_, fun h => (t1'.resolve_left (by omega)).elim fun j ⟨lo', hi', h1, h2, h3⟩ => .inr ⟨j, lo', hi', h1, by omega, by omega⟩, t7, fun i2 lo2 hi2 h => ?_⟩
                · have := (hin (j - (off + n * ti.size)) (by omega)).1
                  rw [show off + n * ti.size + (j - (off + n * ti.size)) = j by omega] at this
                  exact World.isSome_setCells k' news _ w ⟨k', j, none⟩ this
                · have h' : (if i2 = i' then none else g.T i2) = some (k', lo2, hi2) := h
                  split at h'
                  · cases h'
                  · rename_i hne; exact absurd (hv.tinj _ _ _ _ _ _ _ h' e3) hne)
              have v4 := v3.bump _ hU
              have v5 := v4.addT ⟨N.lvl, d, 0, g.U d + 1⟩ k (off + (n + m) * ti.size) (off + c * ti.size) (t1'.imp id fun ⟨j, lo', hi', h1, h2, h3⟩ => ⟨j, lo', hi', h1, by rw [Nat.add_mul]; omega, by omega⟩) (Nat.lt_of_lt_of_le t2 (Lib.below_setCells_w (Nat.le_refl k) news _ w).size) (madeNew hv.lev (by simp [upd])) rfl hDn hTn
                (by rw [Nat.add_mul]; omega)
                (fun j h1 h2 => by
                  rw [Nat.add_mul] at h1
                  obtain ⟨q1, q2, q3⟩ := t6 j (by omega) (by omega)
                  refine ⟨World.isSome_setCells k news _ w ⟨k, j, none⟩ q1, by rw [World.frozen?_setCells]; exact q2, ?_⟩
                  rintro (h | ⟨_, h3, h4⟩)
                  · exact q3 h
                  · omega) t7
                (fun i2 lo2 hi2 _ h => by
                  have h' : (if i2 = i' then none else g.T i2) = some (k, lo2, hi2) := h
                  split at h'
                  · cases h'
                  · rename_i hne; exact absurd (hv.tinj _ _ _ _ _ _ _ h' e3) hne)
              have l5 := (((l1.trans (Le.dropT i')).trans (Le.addG (fun k' j => k' = k ∧ off + n * ti.size ≤ j ∧ j < off + n * ti.size + news.length))).trans (Le.bump _ hU)).trans (Le.addT (w := w.setCells k (off + n * ti.size) news) ⟨N.lvl, d, 0, g.U d + 1⟩ (k, off + (n + m) * ti.size, off + c * ti.size) hTn)
              refine ⟨_, _, _, key _ _ hr, v5, l5, by simp, rfl, ?_, ?_⟩
              · simp only [RV]
                refine .inr ⟨k, off, c, olds ++ news, rfl, hcm, RVs.le l5 (h3.append hys), fun j hj => ?_⟩
                by_cases hjo : j < olds.length
                · rw [List.getElem?_append_left hjo]
                  exact ⟨(l5.at' _ _ (h4 j hjo).2).trans (h4 j hjo).1, l5.G _ _ (h4 j hjo).2⟩
                · rw [List.length_append] at hj
                  rw [List.getElem?_append_right (by omega)]
                  have hin2 := World.cell?_setCells_in k news (off + n * ti.size) w (fun j hj => (hin j hj).1) (j - olds.length) (by omega)
                  rw [show off + n * ti.size + (j - olds.length) = off + j by omega] at hin2
                  refine ⟨?_, .inr ⟨rfl, by omega, by omega⟩⟩
                  show (w.setCells k (off + n * ti.size) news).cell? ⟨k, off + j, none⟩ = _
                  rw [hin2]; simp
              · simp only [Top, FlOK]
                refine ⟨madeNew hv.lev (by simp [upd]), .inr (.inr ⟨k, off, off + (n + m) * ti.size, off + c * ti.size, rfl, ?_, by simp, .inr ⟨?_, rfl⟩⟩)⟩
                · rw [List.length_append, hxl, ← hyl, hln, Nat.add_mul]
                · rw [List.length_append, hxl, ← hyl, hln, ← Nat.add_mul]
      · cases hsl
    · cases hroom
  · cases hroom
end
end Go.Abs
