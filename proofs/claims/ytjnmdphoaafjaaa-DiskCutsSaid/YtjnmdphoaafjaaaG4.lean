/- Loads, stores, calls. -/
import Derived.Test.YtjnmdphoaafjaaaG3
/- append, make; what a slot or an operand is. -/
namespace Go.Abs
set_option linter.unusedSimpArgs false
set_option linter.unusedVariables false
open Go Go.RowKit
section
variable {P : Program} {N : Ent} {g : Ghost} {box : Boxes} {w : World} {o : Oper} {a : Act} {d : Nat} {ρ : Operand → AV} {te : TypeId → Option TI}

theorem Src.of (hv : Valid N g box w) {t1 : TypeId} (hk : (∃ e', P.underlying t1 = some (.slice e')) ∨ P.underlying t1 = some .string) {sz : Nat} {x : AV} {u : Value} (hx : RV g.μ g.G w x u) {m : Nat} {ys : List AV}
    (h : slCells box sz x = some (m, ys)) (h1 : ys.all oneA = true) : ∃ news, Src P sz t1 u m news w ∧ RVs g.μ g.G w ys news := by
  rcases slCells_rel hv hx h with ⟨s, rfl, rfl, rfl, rfl⟩ | ⟨rfl, rfl, rfl⟩ | ⟨k, off, c, us, rfl, hnc, hr, hm, hl⟩
  · refine ⟨byteCells s, ⟨hk, fun _ => rfl, firstCells_string s w, firstCells_string s w.drew, by rw [byteCells_length, Nat.mul_one], fun u hu => ?_⟩, ?_⟩
    · obtain ⟨_, _, rfl⟩ := List.mem_map.1 hu; rfl
    · have := RVs.raws (μ := g.μ) (G := g.G) (w := w) (byteCells s)
      unfold byteCells at this ⊢
      rwa [List.map_map] at this
  · exact ⟨[], ⟨hk, fun _ => rfl, run_firstCells_none w sz 0 0 0, run_firstCells_none w.drew sz 0 0 0, by simp, fun _ h => by cases h⟩, RVs.nil⟩
  · have hc : ∀ j v, us[j]? = some v → w.cell? ((⟨k, off, none⟩ : Addr).add j) = some v := fun j v hv => by
      have hj : j < us.length := (List.getElem?_eq_some_iff.1 hv).1
      rw [addr_add]; exact (hm j hj).trans hv
    exact ⟨us, ⟨hk, fun _ => rfl, run_firstCells_some w sz m ⟨k, off, none⟩ m c us hl hc, run_firstCells_some w.drew sz m ⟨k, off, none⟩ m c us hl (fun j v hv => (hc j v hv)), hl, oneAs_rel hr h1⟩, hr⟩

theorem out_append {E : Env} (hE : E.te = te) (hte : TeOK P te) (hv : Valid N g box w) (hρ : Rel g w a ρ) (s x : Operand) (args : Array Operand) (ts : Array TypeId) (ho : o.op = .call { callee := .builtin .append, args := args, argTypes := ts })
    (ha : args.toList = [s, x]) {r : GR} (h : appendV E N.lvl d (g.U d + 1) box g.D ts.toList (ρ s) (ρ x) = some r) : GOut P N g box w o a d r := by
  have ha' : args = #[s, x] := by rw [← Array.toArray_toList (xs := args), ha]
  unfold appendV at h
  rw [hE] at h
  split at h
  · rename_i t0 t1 hts
    have hts' : ts = #[t0, t1] := by rw [← Array.toArray_toList (xs := ts), hts]
    split at h
    · rename_i e hk
      obtain ⟨_, _, _, d0, hd0, hk0⟩ := kd_some hte hk (by simp)
      simp only [TKis] at hk0; subst hk0
      simp only [Option.bind_eq_some_iff] at h
      obtain ⟨ti, ht, ⟨n, xs⟩, hsl, ⟨m, ys⟩, hsrc, h⟩ := h
      have hsrc0 := hsrc
      split at h
      · rename_i hfn
        cases h
        obtain ⟨i, z, hi, hs, hb, hz, hzc, hzl⟩ := (hte e ti ht).info
        have key : ∀ r w', (Builtin.append_ #[t0, t1] o.type #[a.eval s, a.eval x]).run P w = .ok r w' → (execOp a.eval o).run P w = .ok (.value r) w' := fun r w' hr => by
          subst ha'
          unfold execOp; rw [ho]
          simp only [resolve, Sem.run_bind, Sem.run_pure, Result.andThen_ok, invoke, builtin]
          simp [hts', hr]
        obtain ⟨n', xs', hse, hm0⟩ : ∃ n' xs', ρ s = .sl n' xs' .full ∧ m = 0 := by
          unfold fullNil at hfn
          split at hfn
          · rename_i n' xs' h1 h2; exact ⟨_, _, h1, h2⟩
          · cases hfn
        subst hm0
        have hsr := (hρ s).1
        have hst := (hρ s).2
        rw [hse] at hsr hst hsl
        simp only [slCells] at hsl
        split at hsl
        · cases hsl
          have fin : ∀ news, App P w t0 t1 o.type e i z (a.eval x) 0 news → GOut P N g box w o a d { v := ρ s } := fun news h1 => by
            have hnews : news = [] := List.length_eq_zero_iff.1 (by rw [h1.len]; simp)
            subst hnews
            simp only [RV] at hsr
            rcases hsr with ⟨h2, h3, h4⟩ | ⟨k, off, c, us, h2, h3, h4, h5⟩
            · refine .pure hv (u := .slice none 0 0) (key _ _ (by rw [h2]; exact h1.nil rfl)) ?_ ?_
              · rw [hse]; simp only [RV]; exact .inl ⟨trivial, h3, h4⟩
              · rw [hse]; simp only [Top, FlOK]
            · have hc : c = n := by rw [h2] at hst; simpa only [Top, FlOK] using hst
              have hr := h1.room k off n c (by omega) (by simp) (by simp)
              simp only [World.setCells, Nat.add_zero] at hr
              refine .pure hv (u := .slice (some ⟨k, off, none⟩) n c) (key _ _ (by rw [h2]; exact hr)) ?_ ?_
              · rw [hse]; simp only [RV]; exact .inr ⟨k, off, c, us, rfl, h3, h4, h5⟩
              · rw [hse]; simp only [Top, FlOK]; exact hc
          unfold srcV at hsrc
          split at hsrc
          · rename_i k0 k1 mm hk1 hxe
            obtain ⟨_, _, _, d1, hd1, hk1'⟩ := kd_some hte hk1 (by simp)
            simp only [TKis] at hk1'; subst hk1'
            have hx := (hρ x).1
            rw [hxe] at hx; simp only [RV] at hx
            split at hsrc
            · rename_i hm
              have hm1 : mm.toNat = 0 := by injection hsrc with h; injection h
              have hm2 : mm = ((0 : Nat) : Int) := by omega
              have hone : ∀ q ∈ z.cells.toList, q.oneCell' = true := by
                rw [hzc]; exact (hte e ti ht).zero1
              have happ := App.zeros (P := P) (w := w) (ty := o.type) (kx := k1) (m := 0) hd0 hd1 hi hz (by rw [← Array.length_toList, hzc, hzl, hs]) hone (by simp) (by omega)
              rw [← hm2, ← hx] at happ
              exact fin _ happ
            · cases hsrc
          · rename_i e1 hk1
            obtain ⟨_, _, _, d1, hd1, hk1'⟩ := kd_some hte hk1 (by simp)
            simp only [TKis] at hk1'; subst hk1'
            have hys : ys = [] := by
              rcases slCells_rel hv (hρ x).1 hsrc with ⟨s', _, _, h1, h2⟩ | ⟨_, _, h2⟩ | ⟨k, off, c, us, _, _, h3, _, h5⟩
              · rw [h2]
                have h1 : s'.data.size = 0 := h1.symm
                have : s'.data.toList = [] := by
                  apply List.length_eq_zero_iff.1
                  rw [Array.length_toList]; exact h1
                rw [this]; rfl
              · exact h2
              · have := h3.length
                exact List.length_eq_zero_iff.1 (by omega)
            obtain ⟨news, h1, h2⟩ := Src.of (P := P) hv (.inl ⟨_, hd1⟩) (hρ x).1 hsrc (by rw [hys]; rfl)
            exact fin news (App.src hd0 hi hz (by rw [hs]; exact h1))
          · rename_i hk1
            obtain ⟨_, _, _, d1, hd1, hk1'⟩ := kd_some hte hk1 (by simp)
            simp only [TKis] at hk1'; subst hk1'
            have hys : ys = [] := by
              rcases slCells_rel hv (hρ x).1 hsrc with ⟨s', _, _, h1, h2⟩ | ⟨_, _, h2⟩ | ⟨k, off, c, us, _, _, h3, _, h5⟩
              · rw [h2]
                have h1 : s'.data.size = 0 := h1.symm
                have : s'.data.toList = [] := by
                  apply List.length_eq_zero_iff.1
                  rw [Array.length_toList]; exact h1
                rw [this]; rfl
              · exact h2
              · have := h3.length
                exact List.length_eq_zero_iff.1 (by omega)
            obtain ⟨news, h1, h2⟩ := Src.of (P := P) hv (.inr hd1) (hρ x).1 hsrc (by rw [hys]; rfl)
            exact fin news (App.src hd0 hi hz (by rw [hs]; exact h1))
          · cases hsrc
        · cases hsl
      simp only [Option.bind_eq_some_iff] at h
      obtain ⟨u, hroom, h⟩ := h
      split at h
      · rename_i hc
        obtain ⟨c1, c2, c3⟩ := hc
        try simp only at c1 c2 c3 hroom
        obtain ⟨i, z, hi, hs, hb, hz, hzc, hzl⟩ := (hte e ti ht).info
        have key : ∀ r w', (Builtin.append_ #[t0, t1] o.type #[a.eval s, a.eval x]).run P w = .ok r w' → (execOp a.eval o).run P w = .ok (.value r) w' := fun r w' hr => by
          subst ha'
          unfold execOp; rw [ho]
          simp only [resolve, Sem.run_bind, Sem.run_pure, Result.andThen_ok, invoke, builtin]
          simp [hts', hr]
        have fin : ∀ news, App P w t0 t1 o.type e i z (a.eval x) m news → RVs g.μ g.G w ys news → GOut P N g box w o a d r := fun news h1 h2 => by
          split at h
          · cases h
            exact out_append_core hs hb hzc hzl hv h1 (hρ s).1 (hρ s).2 key hroom hsl h2 c1 c2
          · split at h
            · rename_i hcc
              obtain ⟨hcu, hcm⟩ := hcc
              cases h; subst hcu
              exact out_append_view hs hb hzc hzl hv h1 (hρ s).1 (hρ s).2 key hroom hcm hsl h2 c1 c2
            · cases h
        unfold srcV at hsrc
        split at hsrc
        · rename_i k0 k1 mm hk1 hxe
          obtain ⟨_, _, _, d1, hd1, hk1'⟩ := kd_some hte hk1 (by simp)
          simp only [TKis] at hk1'; subst hk1'
          have hx := (hρ x).1
          rw [hxe] at hx; simp only [RV] at hx
          split at hsrc
          · rename_i hm
            cases hsrc
            obtain ⟨mn, rfl⟩ := Int.eq_ofNat_of_zero_le hm.1
            simp only [Int.toNat_natCast] at *
            have hone : ∀ q ∈ z.cells.toList, q.oneCell' = true := by
              rw [hzc]; exact (hte e ti ht).zero1
            have hmb : mn * i.bytes ≤ 281474976710656 := by
              rw [hb]
              have : mn * ti.bytes ≤ (n + mn + (n + mn) / 4 + 192) * ti.bytes := Nat.mul_le_mul_right _ (by omega)
              omega
            have happ := App.zeros (P := P) (w := w) (ty := o.type) (kx := k1) hd0 hd1 hi hz (by rw [← Array.length_toList, hzc, hzl, hs]) hone hmb (by omega)
            rw [← hx] at happ
            refine fin _ happ ?_
            unfold zerosOf; rw [← hzc, ← rep_map]; exact RVs.raws _
          · cases hsrc
        · rename_i e1 hk1
          obtain ⟨_, _, _, d1, hd1, hk1'⟩ := kd_some hte hk1 (by simp)
          simp only [TKis] at hk1'; subst hk1'
          obtain ⟨news, h1, h2⟩ := Src.of (P := P) hv (.inl ⟨_, hd1⟩) (hρ x).1 hsrc c3
          exact fin news (App.src hd0 hi hz (by rw [hs]; exact h1)) h2
        · rename_i hk1
          obtain ⟨_, _, _, d1, hd1, hk1'⟩ := kd_some hte hk1 (by simp)
          simp only [TKis] at hk1'; subst hk1'
          obtain ⟨news, h1, h2⟩ := Src.of (P := P) hv (.inr hd1) (hρ x).1 hsrc c3
          exact fin news (App.src hd0 hi hz (by rw [hs]; exact h1)) h2
        · cases hsrc
      · cases h
    · cases h
  · cases h

theorem raws_top (g : Ghost) (zs : List Value) : ∀ (j n : Nat) (ys : List AV) (fl : Fl) (u : Value), (zs.map AV.raw)[j]? = some (.sl n ys fl) → zs[j]? = some u → FlOK g fl ys.length u := by
  intro j n ys fl u hj _
  simp only [List.getElem?_map, Option.map_eq_some_iff] at hj
  obtain ⟨_, _, hj⟩ := hj
  cases hj

theorem out_make {E : Env} (hE : E.te = te) (hte : TeOK P te) (hv : Valid N g box w) (hρ : Rel g w a ρ) (t : TypeId) (l c : Operand) (ho : o.op = .makeSlice t l c) {r : GR} (h : makeV E N.lvl d (g.U d + 1) t (ρ l) (ρ c) = some r) : GOut P N g box w o a d r := by
  have hl := (hρ l).1
  have hc := (hρ c).1
  unfold makeV at h
  rw [hE] at h
  split at h
  · rename_i e k1 li k2 ci hk hle hce
    rw [hle] at hl; rw [hce] at hc
    simp only [RV] at hl hc
    obtain ⟨_, _, _, d0, hd0, hk0⟩ := kd_some hte hk (by simp)
    simp only [TKis] at hk0; subst hk0
    simp only [Option.bind_eq_some_iff] at h
    obtain ⟨ti, ht, h⟩ := h
    obtain ⟨i, z, hi, hs, hb, hz, hzc, hzl⟩ := (hte e ti ht).info
    split at h
    · rename_i hcond
      obtain ⟨c1, c2, c3, c4⟩ := hcond
      have hbytes : (i.bytes : Int) * ci ≤ 281474976710656 := by rw [hb, Int.mul_comm]; exact c3
      have hrun : (execOp a.eval o).run P w = .ok (.value (.slice (some ⟨w.heap.size, 0, none⟩) li.toNat ci.toNat)) (w.alloc (.cells (madeCells z.cells (ci.toNat * i.size)) e)) :=
        run_value (s := Instr.makeSlice t (a.eval l) (a.eval c)) (by rw [hl, hc]; exact run_make w t e i z hd0 hi hz k1 k2 li ci c1 c2 hbytes (by omega)) (by unfold execOp; rw [ho])
      have hmc : madeCells z.cells (ci.toNat * i.size) = (rep ci.toNat ti.zero).toArray := by
        unfold madeCells
        have := madeCells_rep z.cells ti.zero hzc ci.toNat
        rw [hzl, ← hs] at this; exact this
      rw [hmc] at hrun
      have hzr : ∀ n, zerosOf ti n = (rep n ti.zero).map .raw := fun n => by unfold zerosOf; rw [rep_map]
      split at h
      · cases h
        rw [hzr]
        exact out_newview hv (RVs.raws _) (below_alloc' _ _) w.heap.size (Nat.le_refl _) (alloc_at _ _) (by simp) (by simp) (by omega) hrun (Nat.le_refl _) (raws_top _ _) (cellsOK_raws _)
      · cases h
        rw [hzr]
        have hat := alloc_at w (.cells (rep ci.toNat ti.zero).toArray e)
        have hpre : ∀ n m j, n ≤ m → j < (rep n ti.zero).length → (rep m ti.zero)[j]? = (rep n ti.zero)[j]? := by
          intro n m j hnm hj
          rw [rep_length] at hj
          rw [rep_get ti.zero n j hj, rep_get ti.zero m j (Nat.lt_of_lt_of_le hj (Nat.mul_le_mul_right _ hnm))]
        refine (out_newimm (P := P) hv (xs := (rep li.toNat ti.zero).map .raw) (us := rep li.toNat ti.zero) (RVs.raws _) (below_alloc' _ _) w.heap.size (Nat.le_refl _) (by omega) ?_ hrun).2 ti.size ?_ ?_ ?_
        · intro j hj
          rw [at_row hat, List.getElem?_toArray]
          exact hpre _ _ j (by omega) hj
        · show w.heap.size < (w.heap.push _).size; simp
        · rw [rep_length, hzl]
        · intro j h1 h2
          refine ⟨?_, frozen_row hat⟩
          rw [at_row hat, List.getElem?_toArray, List.getElem?_eq_getElem (by rw [rep_length, hzl]; exact h2)]; rfl
    · cases h
  · cases h
end
end Go.Abs

/- The operations that write to a box. -/
namespace Go.Abs
set_option linter.unusedSimpArgs false
set_option linter.unusedVariables false
open Go Go.RowKit
section
variable {P : Program} {N : Ent} {g : Ghost} {box : Boxes} {w : World} {o : Oper} {a : Act} {d : Nat} {ρ : Operand → AV} {te : TypeId → Option TI}

/-- what is asked of an operation that writes -/
def WOut (P : Program) (N : Ent) (g : Ghost) (w : World) (o : Oper) (a : Act) (v : AV) (box' : Boxes) : Prop :=
  ∃ u w', ((execOp a.eval o).run P w = .ok (.value u) w' ∨ ((execOp a.eval o).run P w = .ok .skip w' ∧ u = undef)) ∧ Valid N g box' w' ∧ Le g w g w' ∧ RV g.μ g.G w' v u ∧ Top g v u

theorem take_drop_get {α : Type} (cur vs : List α) (off : Nat) (h : off + vs.length ≤ cur.length) (j : Nat) :
    (cur.take off ++ vs ++ cur.drop (off + vs.length))[j]? = if j < off then cur[j]? else if j < off + vs.length then vs[j - off]? else cur[j]? := by
  rw [List.append_assoc]
  by_cases h1 : j < off
  · rw [if_pos h1, List.getElem?_append_left (by rw [List.length_take]; omega), List.getElem?_take, if_pos h1]
  · rw [if_neg h1, List.getElem?_append_right (by rw [List.length_take]; omega), List.length_take, Nat.min_eq_left (by omega)]
    by_cases h2 : j < off + vs.length
    · rw [if_pos h2, List.getElem?_append_left (by omega)]
    · rw [if_neg h2, List.getElem?_append_right (by omega), List.getElem?_drop]
      congr 1; omega

theorem Valid.write (hv : Valid N g box w) {b : Bx} {k : Nat} {xs ys : List AV} {vs : List Value} {off : Nat} (hb : g.μ b = some k) (hx : box b = some xs) (hy : RVs g.μ g.G w ys vs) (hoff : off + ys.length ≤ xs.length)
    (hytop : ∀ (j n : Nat) (zs : List AV) (fl : Fl) (u : Value), ys[j]? = some (.sl n zs fl) → vs[j]? = some u → FlOK g fl zs.length u) (hyok : CellsOK ys) :
    ∃ cur el, w.heap[k]? = some (.cells cur el (0, 0)) ∧ off + vs.length ≤ cur.size ∧
      Valid N g (updB box b (splice xs off ys)) (w.setRow k (cur.toList.take off ++ vs ++ cur.toList.drop (off + vs.length)).toArray) ∧
      Le g w g (w.setRow k (cur.toList.take off ++ vs ++ cur.toList.drop (off + vs.length)).toArray) := by
  obtain ⟨cur, el, us, h1, h2, h3, h4⟩ := hv.cont b k xs hb hx
  have hul := h4.length
  have hvl := hy.length
  have hle : off + vs.length ≤ cur.size := by omega
  refine ⟨cur, el, h1, hle, ?_⟩
  generalize hnew : (cur.toList.take off ++ vs ++ cur.toList.drop (off + vs.length)).toArray = new
  have hget : ∀ j, new[j]? = if j < off then cur[j]? else if j < off + vs.length then vs[j - off]? else cur[j]? := fun j => by
    rw [← hnew, List.getElem?_toArray, take_drop_get _ _ _ (by simpa using hle)]
    simp
  have hsz : new.size = cur.size := by rw [← hnew]; simp; omega
  have hat : ∀ k' o, g.G k' o → at_ (w.setRow k new) k' o = at_ w k' o := fun k' o hg => cell_setRow_other w k new ⟨k', o, none⟩ (fun e => by
    have e' : k' = k := e
    subst e'; exact hv.gmu k' o b hg hb)
  have hrow := setRow_heap w k cur new el (0, 0) h1
  have hoth : ∀ k', k' ≠ k → (w.setRow k new).heap[k']? = w.heap[k']? := fun k' h => setRow_other w k k' new h
  refine ⟨{ hv with chg := ?_, keep := ?_, cell := ?_, dom := ?_, cont := ?_, cok := ?_, ctop := ?_, tail := ?_ }, ⟨rfl, rfl, fun _ _ h => h, fun _ _ h => h, hat, fun _ => Nat.le_refl _, fun _ h => h, fun _ _ h => .inl h⟩⟩
  · refine ⟨hv.chg.os, hv.chg.tape, hv.chg.output, by rw [size_setRow]; exact hv.chg.size, fun i hi hn => ?_⟩
    rw [hoth i (fun e => by
      subst e
      rcases hv.lv b i hb with h | ⟨_, h⟩
      · exact hn (.inl ⟨b, h⟩)
      · omega)]
    exact hv.chg.block i hi hn
  · intro k' o hg; rw [hat k' o (hv.sub k' o hg)]; exact hv.keep k' o hg
  · intro k' o hg; rw [hat k' o hg]; exact hv.cell k' o hg
  · intro b'
    unfold updB
    split
    · rename_i e; subst e; rw [hb]; rfl
    · exact hv.dom b'
  · intro b' k' xs' hm hx'
    by_cases hbb : b' = b
    · subst hbb
      rw [hb] at hm; cases hm
      unfold updB at hx'; rw [if_pos rfl] at hx'; cases hx'
      refine ⟨new, el, us.take off ++ vs ++ us.drop (off + vs.length), hrow, ?_, ?_, ?_⟩
      · rw [hsz]; simp; omega
      · intro j hj
        rw [hget, take_drop_get _ _ _ (by omega)]
        have hj' : j < us.length := by simp at hj; omega
        split
        · exact h3 j hj'
        · split
          · rfl
          · exact h3 j hj'
      · have h4' := RVs.mono (w' := w.setRow k new) (fun _ _ h => h) (fun _ _ h => h) hat _ _ h4
        have hy' := RVs.mono (w' := w.setRow k new) (fun _ _ h => h) (fun _ _ h => h) hat _ _ hy
        unfold splice
        rw [hvl]
        exact ((h4'.take off).append hy').append (h4'.drop _)
    · have hk : k' ≠ k := fun e => hbb (hv.inj b' b k (by rw [← e]; exact hm) hb)
      unfold updB at hx'; rw [if_neg hbb] at hx'
      exact (hv.cont b' k' xs' hm hx').mono (hoth k' hk) (fun _ _ h => h) (fun _ _ h => h) hat
  · intro b' xs' hx'
    by_cases hbb : b' = b
    · subst hbb
      unfold updB at hx'; rw [if_pos rfl] at hx'; cases hx'
      intro x hxm
      have h0 := hv.cok b' xs hx
      unfold splice at hxm
      rcases List.mem_append.1 hxm with h | h
      · rcases List.mem_append.1 h with h | h
        · exact h0 x (List.mem_of_mem_take h)
        · exact hyok x h
      · exact h0 x (List.mem_of_mem_drop h)
    · unfold updB at hx'; rw [if_neg hbb] at hx'
      exact hv.cok b' xs' hx'
  · intro b' k' xs' hm hx' j n zs fl u hj hu
    by_cases hbb : b' = b
    · subst hbb
      rw [hb] at hm; cases hm
      unfold updB at hx'; rw [if_pos rfl] at hx'; cases hx'
      have hjx : j < xs.length := by
        have := (List.getElem?_eq_some_iff.1 hj).1
        simp only [splice, List.length_append, List.length_take, List.length_drop] at this
        omega
      rw [at_row hrow, hget] at hu
      unfold splice at hj
      rw [take_drop_get _ _ _ hoff] at hj
      have hold : at_ w k j = cur[j]? := at_row h1
      by_cases c1 : j < off
      · rw [if_pos c1] at hj hu
        exact hv.ctop b' k xs hb hx j n zs fl u hj (by rw [hold]; exact hu)
      · rw [if_neg c1] at hj hu
        by_cases c2 : j < off + ys.length
        · rw [if_pos c2] at hj
          rw [if_pos (by omega)] at hu
          exact hytop _ n zs fl u hj hu
        · rw [if_neg c2] at hj
          rw [if_neg (by omega)] at hu
          exact hv.ctop b' k xs hb hx j n zs fl u hj (by rw [hold]; exact hu)
    · have hk : k' ≠ k := fun e => hbb (hv.inj b' b k (by rw [← e]; exact hm) hb)
      unfold updB at hx'; rw [if_neg hbb] at hx'
      rw [at_of_block (hoth k' hk)] at hu
      exact hv.ctop b' k' xs' hm hx' j n zs fl u hj hu
  · intro i k' lo hi ht
    obtain ⟨s1, s2, s3, s4, s5, s6, s7⟩ := hv.tail i k' lo hi ht
    have hk : k' ≠ k := fun e => s7 b (by rw [e]; exact hb)
    refine ⟨s1, by rw [size_setRow]; exact s2, s3, s4, s5, fun o h1 h2 => ?_, s7⟩
    obtain ⟨e1, e2, e3⟩ := s6 o h1 h2
    exact ⟨by rw [at_of_block (hoth k' hk)]; exact e1, by rw [frozen_of_block (hoth k' hk)]; exact e2, e3⟩

theorem out_store (hte : TeOK P te) (hv : Valid N g box w) (hρ : Rel g w a ρ) (t : TypeId) (x y : Operand) (ho : o.op = .store t x y) {box' : Boxes} (h : storeV te box t (ρ x) (ρ y) = some box') : WOut P N g w o a .dead box' := by
  have hx := (hρ x).1
  have hy := (hρ y).1
  unfold storeV at h
  split at h
  · rename_i b off e1
    rw [e1] at hx; simp only [RV] at hx
    obtain ⟨k, hk, he⟩ := hx
    simp only [Option.bind_eq_some_iff] at h
    obtain ⟨ti, ht, xs, hxs, ys, hys, h⟩ := h
    split at h
    · rename_i hc
      cases h
      obtain ⟨hyr, hyt, hyo⟩ := laid_rel (hρ y) hys
      obtain ⟨cur, el, h1, h2, h3, h4⟩ := hv.write (vs := (a.eval y).cells.toList) (off := off) hk hxs hyr (by omega) hyt hyo
      have hyl := hyr.length
      refine ⟨undef, _, .inr ⟨?_, rfl⟩, h3, h4, by simp only [RV], trivial⟩
      have hst := run_storeCells_at P k off el (a.eval y).cells.toList 0 cur w h1 (by simpa using h2) (oneAs_rel hyr hc.2.2)
      have hrun : (Instr.storeAt t (a.eval x) (a.eval y)).run P w = .ok () (w.setRow k (cur.toList.take off ++ (a.eval y).cells.toList ++ cur.toList.drop (off + (a.eval y).cells.toList.length)).toArray) := by
        rw [he]
        have hsz : (a.eval y).cells.size = ti.size := by rw [← Array.length_toList, hyl, hc.1]
        simp only [Instr.storeAt, Instr.sureAddr, storeVar, Sem.run_bind, Sem.run_pure, Result.andThen_ok, run_sizeOf hte ht, hsz]
        simpa using hst
      unfold execOp; rw [ho]
      simp only [Sem.run_bind, hrun, Result.andThen_ok, Sem.run_pure]
    · cases h
  · cases h

theorem out_copy (hte : TeOK P te) (hv : Valid N g box w) (hρ : Rel g w a ρ) (x y : Operand) (args : Array Operand) (ts : Array TypeId) (t : TypeId) (rest : List TypeId) (ho : o.op = .call { callee := .builtin .copy, args := args, argTypes := ts })
    (ha : args.toList = [x, y]) (hts : ts.toList = t :: rest) {n : Nat} {box' : Boxes} (h : copyV te box t (ρ x) (ρ y) = some (n, box')) : WOut P N g w o a (.raw (.int .i64 n)) box' := by
  have hx := (hρ x).1
  have hy := (hρ y).1
  have ha' : args = #[x, y] := by rw [← Array.toArray_toList (xs := args), ha]
  have hts' : ts[0]? = some t := by rw [← Array.toArray_toList (xs := ts), hts]; simp
  unfold copyV at h
  split at h
  · rename_i e b off nd cd z hk e1
    rw [e1] at hx; simp only [RV] at hx
    obtain ⟨k, oo, cd', hb, he, hcc, hnc, hoo⟩ := hx
    obtain ⟨_, _, _, d0, hd0, hk0⟩ := kd_some hte hk (by simp)
    simp only [TKis] at hk0; subst hk0
    split at h
    · cases h
    rename_i hnstr
    simp only [Option.bind_eq_some_iff] at h
    obtain ⟨ti, ht, h⟩ := h
    split at h
    · rename_i hz
      simp only [Option.bind_eq_some_iff] at h
      obtain ⟨⟨m, ys⟩, hsl, xs, hxs, h⟩ := h
      split at h
      · rename_i hc
        cases h
        obtain ⟨c1, c2⟩ := hc
        simp only at c2
        obtain ⟨i, zz, hi, hs, _⟩ := (hte e ti ht).info
        -- what is copied
        have hsrc : ∃ vs : List Value, RVs g.μ g.G w (ys.take (min m nd * z)) vs ∧ (Builtin.firstCells ti.size (min m nd) (a.eval y)).run P w = .ok vs.toArray w ∧ (∀ w', (Builtin.lenOf (a.eval y)).run P w' = .ok m w') ∧ vs.length = min m nd * z := by
          rcases slCells_rel hv hy hsl with ⟨s, hs1, hs2, hs3, hs4⟩ | ⟨h1, h2, h3⟩ | ⟨k2, off2, c2', us, h1, h2, h3, h4, h5⟩
          · obtain ⟨y0, hy0⟩ : ∃ y0, ρ y = y0 := ⟨_, rfl⟩
            rw [hy0] at hsl hy hnstr
            rw [hs1] at hy
            unfold slCells at hsl
            split at hsl
            · simp only [RV] at hy; cases hy
            · simp only [RV] at hy
              rcases hy with ⟨h, _⟩ | ⟨_, _, _, _, h, _⟩ <;> cases h
            · simp only [RV] at hy
              obtain ⟨_, _, _, _, h, _⟩ := hy; cases h
            · exact absurd rfl hnstr
            · cases hsl
          · subst h2; subst h3
            refine ⟨[], ?_, ?_, ?_, by simp⟩
            · simp; exact RVs.nil
            · rw [h1]; simp [Builtin.firstCells]
            · rw [h1]; exact fun _ => rfl
          · refine ⟨us.take (min m nd * z), h3.take _, ?_, ?_, ?_⟩
            · rw [h1]
              have hml : min m nd * z ≤ m * z := Nat.mul_le_mul_right _ (Nat.min_le_left _ _)
              refine run_firstCells_some w ti.size (min m nd) ⟨k2, off2, none⟩ m c2' _ ?_ (fun j v hv => ?_)
              · rw [List.length_take, h5, hz]; rw [hz] at hml; omega
              · have hj : j < us.length := by
                  have := (List.getElem?_eq_some_iff.1 hv).1
                  rw [List.length_take] at this; omega
                rw [List.getElem?_take] at hv
                split at hv
                · rw [addr_add]; exact (h4 j hj).trans hv
                · cases hv
            · rw [h1]; exact fun _ => rfl
            · have hml : min m nd * z ≤ m * z := Nat.mul_le_mul_right _ (Nat.min_le_left _ _)
              rw [List.length_take, h5]; omega
        obtain ⟨vs, v1, v2, v3, v4⟩ := hsrc
        have v1l := v1.length
        have hmn : min m nd * z ≤ nd * z := Nat.mul_le_mul_right _ (Nat.min_le_right _ _)
        obtain ⟨cur, el, h1, h2, h3, h4⟩ := hv.write (ys := (ys.take (min m nd * z)).map strip) (off := off) hb hxs v1.strips (by rw [List.length_map]; omega) (fun j n zs fl u hj _ => by
          simp only [List.getElem?_map, Option.map_eq_some_iff] at hj
          obtain ⟨_, _, hj⟩ := hj
          rw [strip_sl hj]; trivial) (cellsOK_strips _)
        have hst := run_storeCells_at P k off el vs 0 cur w h1 (by simpa using h2) (oneAs_rel v1 c2)
        refine ⟨_, _, .inl ?_, h3, h4, by simp only [RV]; rfl, trivial⟩
        subst ha'
        unfold execOp; rw [ho]
        simp only [resolve, Sem.run_bind, Sem.run_pure, Result.andThen_ok, invoke, builtin]
        have hz0 : oo = off ∨ vs = [] := by
          rcases hoo with h | h
          · exact .inl h
          · right; exact List.length_eq_zero_iff.1 (by rw [v4, show nd = 0 by omega]; simp)
        have hrun : (Builtin.copy_ ts o.type #[a.eval x, a.eval y]).run P w = .ok (.int .i64 (min m nd : Nat)) (w.setRow k (cur.toList.take off ++ vs ++ cur.toList.drop (off + vs.length)).toArray) := by
          rw [he]
          have hst' : (storeCells ⟨k, oo, none⟩ vs 0).run P w = .ok () (w.setRow k (cur.toList.take off ++ vs ++ cur.toList.drop (off + vs.length)).toArray) := by
            rcases hz0 with h | h
            · rw [h]; simpa using hst
            · subst h
              have hself : (cur.toList.take off ++ [] ++ cur.toList.drop (off + 0)).toArray = cur := by simp
              simp only [storeCells, List.length_nil]
              rw [hself, setRow_self w k cur el (0, 0) h1]; rfl
          have hmin : Nat.min m nd = min m nd := rfl
          simp [Builtin.copy_, hts', run_underlying hd0, v3, sizeOf, typeInfo, hi, hs, hmin, v2, hst', goInt]
        simp [hrun]
      · cases h
    · cases h
  · cases h
end
end Go.Abs

/- Calls: what a function that sees no boxes promises, and what it is worth to its caller. -/
namespace Go.Abs
set_option linter.unusedSimpArgs false
set_option linter.unusedVariables false
open Go Go.RowKit

abbrev noMu : Bx → Option Nat := fun _ => none

/-- what a function finds -/
structure PreV (glob : Nat → Option (List AV)) (G : Nat → Nat → Prop) (w : World) (args : List AV) (vals : List Value) : Prop where
  cell : ∀ k o, G k o → (at_ w k o).isSome
  glob : ∀ gi xs, glob gi = some xs → RV noMu G w (.iptr xs) (.pointer (some ⟨gi, 0, none⟩))
  args : RVs noMu G w args vals

/-- the ghost of a result: only the room behind what is handed over -/
def resG (G' : Nat → Nat → Prop) (T : Nat → Option (Nat × Nat × Nat)) : Ghost :=
  { L := 0, K := fun _ => False, μ := noMu, G := G', T := fun i => if i.lvl = 0 ∧ i.slot = 0 ∧ i.gen = 0 then T i.comp else none, U := fun _ => 0, D := fun _ => false }

/-- what a function leaves -/
structure PostV (G : Nat → Nat → Prop) (w : World) (r : AV) (u : Value) (G' : Nat → Nat → Prop) (w' : World) (T : Nat → Option (Nat × Nat × Nat)) : Prop where
  below : Below w.heap.size w w'
  sub : ∀ k o, G k o → G' k o
  old : ∀ k o, G' k o → k < w.heap.size → G k o
  cell : ∀ k o, G' k o → (at_ w' k o).isSome
  rel : RV noMu G' w' r u
  top : Top (resG G' T) r u
  tail : ∀ c k lo hi, T c = some (k, lo, hi) → w.heap.size ≤ k ∧ k < w'.heap.size ∧ lo ≤ hi ∧ (∀ o, lo ≤ o → o < hi → (at_ w' k o).isSome ∧ w'.frozen? ⟨k, o, none⟩ = false ∧ ¬ G' k o)
  tinj : ∀ c c' k lo hi lo' hi', T c = some (k, lo, hi) → T c' = some (k, lo', hi') → c = c'

def SoundV (P : Program) (glob : Nat → Option (List AV)) (f : FuncId) (pf : List AV → Option AV) : Prop :=
  (∀ (args : Array Value) (w : World), (callFunc f args).run P w = .ok (.enter f args) w) ∧
  ∀ (args : List AV) (r : AV), pf args = some r → ∀ (G : Nat → Nat → Prop) (w : World) (vals : List Value), PreV glob G w args vals →
    Calls P f vals.toArray w fun e w' => ∃ u G' T, e = .returned u ∧ PostV G w r u G' w' T

mutual
theorem RV.pure {μ μ' : Bx → Option Nat} {G : Nat → Nat → Prop} {w : World} : ∀ (v : AV) (u : Value), pureA v = true → RV μ G w v u → RV μ' G w v u
  | .dead, _, _, _ => by simp only [RV]
  | .raw _, _, _, h => by simpa only [RV] using h
  | .anyb, _, _, h => by simpa only [RV] using h
  | .sl n xs fl, u, hp, h => by
    simp only [RV, pureA] at h hp ⊢
    rcases h with h | ⟨k, o, c, us, h1, h2, h3, h4⟩
    · exact .inl h
    · exact .inr ⟨k, o, c, us, h1, h2, RVs.pure xs us hp h3, h4⟩
  | .iptr xs, u, hp, h => by
    simp only [RV, pureA] at h hp ⊢
    obtain ⟨k, o, us, h1, h3, h4⟩ := h
    exact ⟨k, o, us, h1, RVs.pure xs us hp h3, h4⟩
  | .agg xs, u, hp, h => by
    simp only [RV, pureA] at h hp ⊢
    obtain ⟨us, h1, h2⟩ := h
    exact ⟨us, h1, RVs.pure xs us hp h2⟩
  | .tup xs, u, hp, h => by
    simp only [RV, pureA] at h hp ⊢
    obtain ⟨us, h1, h2⟩ := h
    exact ⟨us, h1, RVs.pure xs us hp h2⟩
  | .fn f xs, u, hp, h => by
    simp only [RV, pureA] at h hp ⊢
    obtain ⟨us, h1, h2⟩ := h
    exact ⟨us, h1, RVs.pure xs us hp h2⟩
  | .ptr _ _, _, hp, _ => by simp [pureA] at hp
  | .view .., _, hp, _ => by simp [pureA] at hp
  | .nptr _, _, hp, _ => by simp [pureA] at hp
theorem RVs.pure {μ μ' : Bx → Option Nat} {G : Nat → Nat → Prop} {w : World} : ∀ (xs : List AV) (us : List Value), pureL xs = true → RVs μ G w xs us → RVs μ' G w xs us
  | [], _, _, h => by simpa only [RVs] using h
  | x :: xs, us, hp, h => by
    simp only [RVs, pureL, Bool.and_eq_true] at h hp ⊢
    obtain ⟨u, us', h1, h2, h3⟩ := h
    exact ⟨u, us', h1, RV.pure x u hp.1 h2, RVs.pure xs us' hp.2 h3⟩
end

theorem flat_rel {μ μ' : Bx → Option Nat} {G G' : Nat → Nat → Prop} {w w' : World} : ∀ {xs ys : List AV} {us : List Value}, flatL xs = some ys → RVs μ G w xs us → RVs μ' G' w' xs us ∧ ys = xs
  | [], ys, us, h, hr => by simp [flatL] at h; subst h; exact ⟨hr, rfl⟩
  | x :: xs, ys, us, h, hr => by
    unfold flatL at h
    split at h
    · rename_i heq; cases heq
    · rename_i v xs' heq
      cases heq
      simp only [Option.map_eq_some_iff] at h
      obtain ⟨ys', h1, rfl⟩ := h
      simp only [RVs] at hr ⊢
      obtain ⟨u, us', rfl, h2, h3⟩ := hr
      obtain ⟨h4, h5⟩ := flat_rel (μ' := μ') (G' := G') (w' := w') h1 h3
      exact ⟨⟨u, us', rfl, h2, h4⟩, by rw [h5]⟩
    · cases h

section
variable {P : Program} {N : Ent} {g : Ghost} {box : Boxes} {w : World} {o : Oper} {a : Act} {d : Nat} {ρ : Operand → AV} {te : TypeId → Option TI}

/-- the cells of boxes, for as long as a call lasts -/
def boxG (g : Ghost) (box : Boxes) : Nat → Nat → Prop := fun k o => g.G k o ∨ ∃ b xs, g.μ b = some k ∧ box b = some xs ∧ o < xs.length

theorem up_G (b : Bool) {k o : Nat} (h : g.G k o) : (if b then boxG g box else g.G) k o := by
  cases b
  · exact h
  · exact .inl h

mutual
theorem snap_rel (hv : Valid N g box w) : ∀ (v v' : AV) (u : Value), snap box v = some v' → RV g.μ g.G w v u → RV noMu (if hasView v then boxG g box else g.G) w v' u
  | .dead, v', u, h, _ => by simp [snap] at h; subst h; simp only [RV]
  | .raw x, v', u, h, hr => by simp [snap] at h; subst h; simpa only [RV] using hr
  | .anyb, v', u, h, hr => by simp [snap] at h; subst h; simpa only [RV] using hr
  | .sl n xs fl, v', u, h, hr => by
    simp only [snap, Option.map_eq_some_iff] at h
    obtain ⟨ys, h1, rfl⟩ := h
    simp only [RV, hasView] at hr ⊢
    have hl := snapL_len xs ys h1
    rcases hr with ⟨rfl, h2, h3⟩ | ⟨k, off, c, us, rfl, h2, h3, h4⟩
    · exact .inl ⟨rfl, h2, by rw [h3] at hl; exact List.length_eq_zero_iff.1 hl⟩
    · refine .inr ⟨k, off, c, us, rfl, h2, snapL_rel hv xs ys us h1 h3, fun j hj => ⟨(h4 j hj).1, ?_⟩⟩
      exact up_G _ (h4 j hj).2
  | .view b off n c z, v', u, h, hr => by
    simp only [snap, Option.bind_eq_some_iff] at h
    obtain ⟨xs, hx, h⟩ := h
    split at h
    · rename_i hc
      simp only [Option.map_eq_some_iff] at h
      obtain ⟨ys, h1, rfl⟩ := h
      simp only [RV, hasView, if_true] at hr ⊢
      obtain ⟨k, oo, c', hm, rfl, hcc, hnc, hoo⟩ := hr
      obtain ⟨us, h4, h5, _⟩ := hv.box_cells hm hx
      have hul := h4.length
      right
      by_cases hc0 : c = 0
      · have hn0 : n = 0 := by omega
        subst hn0
        simp [flatL] at h1; subst h1
        exact ⟨k, oo, c', [], rfl, Nat.zero_le _, RVs.nil, fun j hj => by simp at hj⟩
      · have : oo = off := by rcases hoo with h | h; · exact h
                              · exact absurd h hc0
        subst this
        obtain ⟨h6, h7⟩ := flat_rel (μ' := noMu) (G' := boxG g box) (w' := w) h1 ((h4.drop oo).take (n * z))
        rw [h7]
        refine ⟨k, oo, c', _, rfl, Nat.le_trans hnc hcc, h6, fun j hj => ?_⟩
        rw [List.length_take, List.length_drop] at hj
        refine ⟨?_, .inr ⟨b, xs, hm, hx, by omega⟩⟩
        rw [List.getElem?_take, if_pos (by omega), List.getElem?_drop]
        exact h5 _ (by omega)
    · cases h
  | .agg xs, v', u, h, hr => by
    simp only [snap, Option.map_eq_some_iff] at h
    obtain ⟨ys, h1, rfl⟩ := h
    simp only [RV, hasView] at hr ⊢
    obtain ⟨us, rfl, h2⟩ := hr
    exact ⟨us, rfl, snapL_rel hv xs ys us h1 h2⟩
  | .tup xs, v', u, h, hr => by
    simp only [snap, Option.map_eq_some_iff] at h
    obtain ⟨ys, h1, rfl⟩ := h
    simp only [RV, hasView] at hr ⊢
    obtain ⟨us, rfl, h2⟩ := hr
    exact ⟨us, rfl, snapL_rel hv xs ys us h1 h2⟩
  | .fn f caps, v', u, h, hr => by
    simp only [snap] at h
    split at h
    · rename_i hc
      cases h
      have : caps = [] := by simpa using hc
      subst this
      simp only [RV, RVs] at hr ⊢
      exact hr
    · cases h
  | .ptr b off, v', u, h, hr => by
    simp only [snap, Option.bind_eq_some_iff] at h
    obtain ⟨xs, hx, h⟩ := h
    split at h
    · rename_i hp
      cases h
      simp only [RV, hasView, if_true] at hr ⊢
      obtain ⟨k, hm, rfl⟩ := hr
      obtain ⟨us, h4, h5, _⟩ := hv.box_cells hm hx
      have hul := h4.length
      have h6 := RVs.strips (RVs.mono (fun _ _ h => h) (fun k o h => Or.inl h) (fun _ _ _ => rfl) _ _ (RVs.pure (μ' := noMu) _ _ hp (h4.drop off)) : RVs noMu (boxG g box) w _ _)
      refine ⟨k, off, _, rfl, h6, fun j hj => ?_⟩
      rw [List.length_drop] at hj
      refine ⟨?_, .inr ⟨b, xs, hm, hx, by omega⟩⟩
      rw [List.getElem?_drop]
      exact h5 _ (by omega)
    · cases h
  | .iptr _, _, _, h, _ => by simp [snap] at h
  | .nptr _, _, _, h, _ => by simp [snap] at h
theorem snapL_rel (hv : Valid N g box w) : ∀ (xs ys : List AV) (us : List Value), snapL box xs = some ys → RVs g.μ g.G w xs us → RVs noMu (if hasViewL xs then boxG g box else g.G) w ys us
  | [], ys, us, h, hr => by simp [snapL] at h; subst h; simpa only [RVs] using hr
  | x :: xs, ys, us, h, hr => by
    simp only [snapL, Option.bind_eq_some_iff, Option.map_eq_some_iff] at h
    obtain ⟨y, h1, ys', h2, rfl⟩ := h
    simp only [RVs] at hr ⊢
    obtain ⟨u, us', rfl, h3, h4⟩ := hr
    have up : ∀ (b b' : Bool) v u, (b = true → b' = true) → RV noMu (if b then boxG g box else g.G) w v u → RV noMu (if b' then boxG g box else g.G) w v u := fun b b' v u hbb h =>
      RV.mono (fun _ _ h => h) (fun k o h => by
        cases b <;> cases b' <;> simp at h hbb ⊢
        · exact h
        · exact .inl h
        · exact h) (fun _ _ _ => rfl) v u h
    have ups : ∀ (b b' : Bool) v u, (b = true → b' = true) → RVs noMu (if b then boxG g box else g.G) w v u → RVs noMu (if b' then boxG g box else g.G) w v u := fun b b' v u hbb h =>
      RVs.mono (fun _ _ h => h) (fun k o h => by
        cases b <;> cases b' <;> simp at h hbb ⊢
        · exact h
        · exact .inl h
        · exact h) (fun _ _ _ => rfl) v u h
    exact ⟨u, us', rfl, up _ _ _ _ (by simp only [hasViewL]; intro h; rw [h]; rfl) (snap_rel hv x y u h1 h3), ups _ _ _ _ (by simp only [hasViewL]; intro h; rw [h]; simp) (snapL_rel hv xs ys' us' h2 h4)⟩
theorem snapL_len : ∀ (xs ys : List AV), snapL box xs = some ys → ys.length = xs.length
  | [], ys, h => by simp [snapL] at h; subst h; rfl
  | x :: xs, ys, h => by
    simp only [snapL, Option.bind_eq_some_iff, Option.map_eq_some_iff] at h
    obtain ⟨y, h1, ys', h2, rfl⟩ := h
    simp [snapL_len xs ys' h2]
end

/-- the model's step of an operation, and what holds behind it -/
def SOut (P : Program) (N : Ent) (g : Ghost) (box : Boxes) (w : World) (o : Oper) (a : Act) (d : Nat) (r : GR) : Prop :=
  ∀ (K : Act → World → Prop) (Q : Exit → Act → World → Prop), (∀ u w' g', Valid N g' (applyW (match r.cont with | some c => updB box (.own N.lvl d (g.U d + 1)) c | none => box) r.wr) w' → Le g w g' w' →
    g'.U = (if r.bump then upd g.U d (g.U d + 1) else g.U) → g'.D = useL (match r.use with | some i => updI g.D i | none => g.D) r.uses → RV g'.μ g'.G w' r.v u → Top g' r.v u → K (a.put o.dst u) w') → o.wp P a w K Q

theorem GOut.step {r : GR} (h : GOut P N g box w o a d r) (hp : r.wr = [] ∧ r.uses = []) : SOut P N g box w o a d r := by
  intro K Q hK
  obtain ⟨u, w', g', h1, h2, h3, h4, h5, h6, h7⟩ := h
  unfold Oper.wp
  rw [h1]
  exact hK u w' g' (by rw [hp.1]; exact h2) h3 h4 (by rw [hp.2]; exact h5) h6 h7

/-- room behind what a call hands over -/
theorem Valid.addTs (h : Valid N g box w) (n : Nat) (hn : g.U d < n) (T : Nat → Option (Nat × Nat × Nat))
    (hT : ∀ c k lo hi, T c = some (k, lo, hi) → (N.w0.heap.size ≤ k ∨ ∃ j lo' hi', N.T0 j = some (k, lo', hi') ∧ lo' ≤ lo ∧ hi ≤ hi') ∧ k < w.heap.size ∧ lo ≤ hi ∧ (∀ o, lo ≤ o → o < hi → (at_ w k o).isSome ∧ w.frozen? ⟨k, o, none⟩ = false ∧ ¬ g.G k o) ∧ (∀ b, g.μ b ≠ some k) ∧ ∀ j lo hi, g.T j ≠ some (k, lo, hi))
    (hinj : ∀ c c' k lo hi lo' hi', T c = some (k, lo, hi) → T c' = some (k, lo', hi') → c = c') (U : Nat → Nat) (hU : ∀ s, g.U s ≤ U s) (hUd : n ≤ U d) :
    Valid N { g with U, T := fun j => if j.lvl = N.lvl ∧ j.slot = d ∧ j.gen = n then T j.comp else g.T j } box w ∧ Le g w { g with U, T := fun j => if j.lvl = N.lvl ∧ j.slot = d ∧ j.gen = n then T j.comp else g.T j } w := by
  have hun : ∀ j : Id, j.lvl = N.lvl → j.slot = d → j.gen = n → ¬ made g j := fun j h0 h1 h2 => by
    cases j; simp only at h0 h1 h2; subst h0; subst h1; subst h2; exact h.unmade hn
  have hD : ∀ j : Id, j.lvl = N.lvl → j.slot = d → j.gen = n → g.D j = false := fun j h0 h1 h2 => by
    cases e : g.D j with
    | false => rfl
    | true => exact absurd (h.dgen j e) (hun j h0 h1 h2)
  have hle : Le g w { g with U, T := fun j => if j.lvl = N.lvl ∧ j.slot = d ∧ j.gen = n then T j.comp else g.T j } w := by
    refine ⟨rfl, rfl, fun _ _ h => h, fun _ _ h => h, fun _ _ _ => rfl, hU, fun _ h => h, fun i r hr => .inl ?_⟩
    show (if _ then _ else _) = _
    rw [if_neg]
    · exact hr
    · rintro ⟨h0, h1, h2⟩
      obtain ⟨k, lo, hi⟩ := r
      exact hun i h0 h1 h2 (h.tail i k lo hi hr).2.2.1
  refine ⟨{ h with fresh := fun s n k hm => Nat.le_trans (h.fresh s n k hm) (hU s), dgen := fun i hi => (h.dgen i hi).le hle, ctop := fun b k xs hm hx j n ys fl u hj hu => FlOK.le hle (h.ctop b k xs hm hx j n ys fl u hj hu), tail := ?_, tnew := ?_, tkeep := fun i r hr => (h.tkeep i r hr).elim (fun h1 => hle.T i r h1) .inr, tinj := ?_ }, hle⟩
  · intro j k lo hi ht
    change (if _ then _ else _) = _ at ht
    split at ht
    · rename_i e
      obtain ⟨t1, t2, t3, t4, t5, t6⟩ := hT _ _ _ _ ht
      refine ⟨t1, t2, .inr (.inr ⟨by rw [e.1]; exact h.lev.symm, ?_⟩), hD j e.1 e.2.1 e.2.2, t3, t4, t5⟩
      show j.gen ≤ U j.slot
      rw [e.2.1, e.2.2]; exact hUd
    · obtain ⟨t1, t2, t3, t4⟩ := h.tail j k lo hi ht
      exact ⟨t1, t2, t3.le hle, t4⟩
  · intro j r ht
    change (if _ then _ else _) = _ at ht
    split at ht
    · rename_i e; exact .inl e.1
    · exact h.tnew j r ht
  · intro j j' k lo hi lo' hi' ht ht'
    change (if _ then _ else _) = _ at ht
    change (if _ then _ else _) = _ at ht'
    split at ht <;> split at ht'
    · rename_i e e'
      have := hinj _ _ _ _ _ _ _ ht ht'
      cases j; cases j'; simp_all
    · exact absurd ht' ((hT _ _ _ _ ht).2.2.2.2.2 _ _ _)
    · exact absurd ht ((hT _ _ _ _ ht').2.2.2.2.2 _ _ _)
    · exact h.tinj _ _ _ _ _ _ _ ht ht'

theorem RV.ren1 {l n : Nat} {G : Nat → Nat → Prop} {v : AV} {u : Value} (h : RV noMu G w v u) : RV noMu G w (ren1 l d n v) u := by
  cases v with
  | sl n' xs fl => simpa only [Abs.ren1, RV] using h
  | ptr b o => simp only [RV] at h; obtain ⟨k, h, _⟩ := h; cases h
  | view b o n c z => simp only [RV] at h; obtain ⟨k, _, _, h, _⟩ := h; cases h
  | _ => exact h

theorem RV.takeR {l n : Nat} {G : Nat → Nat → Prop} {v : AV} {u : Value} (h : RV noMu G w v u) : RV noMu G w (takeR l d n v) u := by
  cases v with
  | tup vs =>
    simp only [Abs.takeR, RV] at h ⊢
    obtain ⟨us, rfl, hr⟩ := h
    refine ⟨us, rfl, RVs.of_get (by simp [hr.length]) fun j x u hx hu => ?_⟩
    simp only [List.getElem?_map, Option.map_eq_some_iff] at hx
    obtain ⟨y, h1, rfl⟩ := hx
    obtain ⟨u', h2, h3⟩ := hr.get j y h1
    rw [hu] at h2; cases h2
    exact RV.ren1 (l := l) (n := n) (d := d) h3
  | _ => exact RV.ren1 (l := l) (n := n) (d := d) h

theorem FlOK.takeR {G' : Nat → Nat → Prop} {T : Nat → Option (Nat × Nat × Nat)} {g' : Ghost} {l n m : Nat} (hL : g'.L = l) (hT : ∀ c, g'.T ⟨l, d, c, n⟩ = T c) (hU : n ≤ g'.U d) {fl : Fl} {u : Value} (h : FlOK (resG G' T) fl m u) : FlOK g' (renF l d n fl) m u := by
  cases fl with
  | bor => trivial
  | full => cases u <;> first | exact h | (simp only [FlOK] at h)
  | own i z =>
    cases u with
    | slice A n' c =>
      simp only [FlOK, resG, made, renF] at h ⊢
      obtain ⟨h0, h⟩ := h
      have hi : i.gen = 0 := by rcases h0 with ⟨h0, _⟩ | h0 | ⟨h0, h1⟩ <;> first | exact h0.elim | omega
      rw [if_pos hi]
      simp only [FlOK]
      refine ⟨madeNew (c := i.comp) hL hU, ?_⟩
      rcases h with h1 | h1 | ⟨k, o, lo, hi, e1, e2, e3, e4⟩
      · cases h1
      · exact .inr (.inl h1)
      · split at e3
        · exact .inr (.inr ⟨k, o, lo, hi, e1, e2, by rw [hT]; exact e3, e4⟩)
        · cases e3
    | _ => simp only [FlOK] at h

theorem Top.ren1 {G' : Nat → Nat → Prop} {T : Nat → Option (Nat × Nat × Nat)} {g' : Ghost} {l n : Nat} (hL : g'.L = l) (hT : ∀ c, g'.T ⟨l, d, c, n⟩ = T c) (hU : n ≤ g'.U d) {v : AV} {u : Value} (h : Top (resG G' T) v u) (hn : ∀ vs, v ≠ .tup vs) : Top g' (ren1 l d n v) u := by
  cases v with
  | sl n' xs fl => exact FlOK.takeR hL hT hU h
  | tup vs => exact absurd rfl (hn vs)
  | _ => trivial

theorem Top.takeR {G' : Nat → Nat → Prop} {T : Nat → Option (Nat × Nat × Nat)} {g' : Ghost} {l n : Nat} (hL : g'.L = l) (hT : ∀ c, g'.T ⟨l, d, c, n⟩ = T c) (hU : n ≤ g'.U d) {v : AV} {u : Value} (h : Top (resG G' T) v u) : Top g' (takeR l d n v) u := by
  cases v with
  | tup vs =>
    simp only [Abs.takeR, Top] at h ⊢
    obtain ⟨us, rfl, h2⟩ := h
    refine ⟨us, rfl, fun j n' xs fl v hj hv => ?_⟩
    simp only [List.getElem?_map, Option.map_eq_some_iff] at hj
    obtain ⟨y, h3, h4⟩ := hj
    cases y <;> simp only [Abs.ren1] at h4 <;> cases h4
    exact FlOK.takeR hL hT hU (h2 j _ _ _ v h3 hv)
  | sl n' xs fl => exact Top.ren1 hL hT hU h (fun _ h => by cases h)
  | _ => trivial

theorem freshC_rel {G' G1 : Nat → Nat → Prop} {w' : World} {T : Nat → Option (Nat × Nat × Nat)} (hG : ∀ k o, G' k o → w.heap.size ≤ k → G1 k o) (hT : ∀ c k lo hi, T c = some (k, lo, hi) → w.heap.size ≤ k) {v : AV} {u : Value}
    (hf : freshC v = true) (h : RV noMu G' w' v u) (ht : ∀ n xs fl, v = .sl n xs fl → FlOK (resG G' T) fl xs.length u) : RV noMu G1 w' v u := by
  unfold freshC at hf
  split at hf
  · simpa only [RV] using h
  · simpa only [RV] using h
  · simp only [RV]
  · rename_i n xs i z
    obtain ⟨ys, hy⟩ := Option.isSome_iff_exists.1 hf
    have hfl := ht n xs _ rfl
    simp only [RV] at h ⊢
    rcases h with h | ⟨k, o, c, us, rfl, h2, h3, h4⟩
    · exact .inl h
    · refine .inr ⟨k, o, c, us, rfl, h2, (flat_rel (μ' := noMu) (G' := G1) (w' := w') hy h3).1, fun j hj => ⟨(h4 j hj).1, hG _ _ (h4 j hj).2 ?_⟩⟩
      simp only [FlOK, resG] at hfl
      rcases hfl.2 with h1 | ⟨h1, _⟩ | ⟨k', o', lo, hi, e1, e2, e3, e4⟩
      · cases h1
      · cases h1
      · cases e1
        split at e3
        · exact hT _ _ _ _ e3
        · cases e3
  · rename_i xs
    obtain ⟨ys, hy⟩ := Option.isSome_iff_exists.1 hf
    simp only [RV] at h ⊢
    obtain ⟨us, rfl, h2⟩ := h
    exact ⟨us, rfl, (flat_rel (μ' := noMu) (G' := G1) (w' := w') hy h2).1⟩
  · cases hf

theorem snapAll_rel (hv : Valid N g box w) : ∀ (xs ys : List AV) (us : List Value), snapAll box xs = some ys → RVs g.μ g.G w xs us → RVs noMu (if hasViewL xs then boxG g box else g.G) w ys us := by
  intro xs ys us h hr
  have e : ∀ xs, snapAll box xs = snapL box xs := by
    intro xs
    induction xs with
    | nil => rfl
    | cons x xs ih => simp only [snapAll, snapL, ih]
  exact snapL_rel hv xs ys us (by rw [← e]; exact h) hr

/-- a call of a function value: what the model does first -/
theorem run_call (hv : Valid N g box w) (hρ : Rel g w a ρ) (f : Operand) (args : Array Operand) (ts : Array TypeId)
    (ho : o.op = .call { callee := .value f, args := args, argTypes := ts }) {fid : FuncId} {caps : List AV} (hf : ρ f = .fn fid caps) (hc : ∀ (args : Array Value) (w : World), (callFunc fid args).run P w = .ok (.enter fid args) w) :
    ∃ vals : List Value, RVs g.μ g.G w (args.toList.map ρ ++ caps) vals ∧ (∀ (j : Nat) v u, (args.toList.map ρ)[j]? = some v → vals[j]? = some u → Top g v u) ∧ (execOp a.eval o).run P w = .ok (.enter fid vals.toArray) w := by
  have hfv := (hρ f).1
  rw [hf] at hfv; simp only [RV] at hfv
  obtain ⟨us0, hfe, hcaps⟩ := hfv
  have hargs : RVs g.μ g.G w (args.toList.map ρ) (args.toList.map a.eval) := RVs.of_get (by simp) fun j x u hx hu => by
    simp only [List.getElem?_map, Option.map_eq_some_iff] at hx hu
    obtain ⟨y, h1, rfl⟩ := hx
    obtain ⟨y', h2, rfl⟩ := hu
    rw [h1] at h2; cases h2
    exact (hρ y).1
  refine ⟨args.toList.map a.eval ++ us0, hargs.append hcaps, fun j v u hj hu => ?_, ?_⟩
  · have hjl := (List.getElem?_eq_some_iff.1 hj).1
    rw [List.getElem?_append_left (by simpa using hjl)] at hu
    simp only [List.getElem?_map, Option.map_eq_some_iff] at hj hu
    obtain ⟨y, h1, rfl⟩ := hj
    obtain ⟨y', h2, rfl⟩ := hu
    rw [h1] at h2; cases h2
    exact (hρ y).2
  · unfold execOp; rw [ho]
    simp only [resolve, hfe, Deferred.ofValue, Sem.run_bind, Sem.run_pure, Result.andThen_ok, invoke]
    have := hc (args.map a.eval ++ us0.toArray) w
    have e : (args.toList.map a.eval ++ us0).toArray = args.map a.eval ++ us0.toArray := by
      apply Array.ext'
      simp
    rw [e]
    simpa using this

theorem out_callV {glob : Nat → Option (List AV)} (hglob : ∀ gi xs, glob gi = some xs → RV noMu g.G w (.iptr xs) (.pointer (some ⟨gi, 0, none⟩))) (hv : Valid N g box w) (hρ : Rel g w a ρ) (f : Operand) (args : Array Operand) (ts : Array TypeId)
    (ho : o.op = .call { callee := .value f, args := args, argTypes := ts }) {fid : FuncId} {caps : List AV} (hf : ρ f = .fn fid caps) {pf : List AV → Option AV} (hs : SoundV P glob fid pf) {as : List AV} (ha : snapAll box (args.toList.map ρ ++ caps) = some as) {r : AV} (hr : pf as = some r)
    (hc : hasViewL (args.toList.map ρ ++ caps) = false ∨ freshR r = true) : SOut P N g box w o a d { v := takeR N.lvl d (g.U d + 1) r, bump := true } := by
  intro K Q hK
  obtain ⟨vals, hargs, _, hrun⟩ := run_call hv hρ f args ts ho hf hs.1
  have hsn := snapAll_rel hv _ _ _ ha hargs
  generalize hview : hasViewL (args.toList.map ρ ++ caps) = bv at hsn hc
  have hGc : ∀ k o, (if bv then boxG g box else g.G) k o → (at_ w k o).isSome := by
    intro k o h
    cases bv with
    | false => exact hv.cell k o h
    | true =>
      rcases h with h | ⟨b, xs, h1, h2, h3⟩
      · exact hv.cell k o h
      · obtain ⟨us, h4, h5, _⟩ := hv.box_cells h1 h2
        rw [h5 o (by rw [h4.length]; exact h3)]
        have : o < us.length := by rw [h4.length]; exact h3
        simp [this]
  have hGsub : ∀ k o, g.G k o → (if bv then boxG g box else g.G) k o := by
    intro k o h
    cases bv with
    | false => exact h
    | true => exact .inl h
  have hpre : PreV glob (if bv then boxG g box else g.G) w as vals :=
    ⟨hGc, fun gi xs h => RV.mono (fun _ _ h => h) hGsub (fun _ _ _ => rfl) _ _ (hglob gi xs h), hsn⟩
  unfold Oper.wp
  rw [hrun, Oper.upon_enter]
  have hcall := hs.2 as r hr _ w _ hpre
  refine hcall.mono ?_
  rintro e w' ⟨u, G', T, rfl, hp⟩
  show K (a.put o.dst u) w'
  have v1 := hv.world hp.below
  have v2 := v1.addG (fun k o => G' k o ∧ w.heap.size ≤ k) (by
    rintro k o ⟨h1, h2⟩
    obtain ⟨n1, n2, n3⟩ := hv.noneAt h2
    exact ⟨hp.cell k o h1, fun h => by have := hv.chg.size; omega, n2, fun i lo hi h => absurd h (n3 i lo hi)⟩)
  have hU : ∀ s, g.U s ≤ upd g.U d (g.U d + 1) s := fun s => by unfold upd; split <;> simp_all
  obtain ⟨v3, l3⟩ := v2.addTs (d := d) (g.U d + 1) (by simp) T (by
    intro c k lo hi ht
    obtain ⟨t1, t2, t3, t4⟩ := hp.tail c k lo hi ht
    obtain ⟨n1, n2, n3⟩ := hv.noneAt t1
    refine ⟨.inl (Nat.le_trans hv.chg.size t1), t2, t3, fun o h1 h2 => ?_, n2, fun j lo hi => n3 j lo hi⟩
    obtain ⟨e1, e2, e3⟩ := t4 o h1 h2
    exact ⟨e1, e2, fun h => h.elim (n1 o) (fun h => e3 h.1)⟩) hp.tinj (upd g.U d (g.U d + 1)) hU (by simp [upd])
  have hle := ((hv.le_world hp.below).trans (Le.addG (g := g) (w := w') (fun k o => G' k o ∧ w.heap.size ≤ k))).trans l3
  refine hK u w' _ v3 hle (by simp) rfl ?_ ?_
  · -- the result
    have h1 : RV noMu (fun k o => g.G k o ∨ (G' k o ∧ w.heap.size ≤ k)) w' r u := by
      cases bv with
      | false =>
        refine RV.mono (fun _ _ h => h) (fun k o h => ?_) (fun _ _ _ => rfl) _ _ hp.rel
        rcases Nat.lt_or_ge k w.heap.size with h' | h'
        · exact .inl (hp.old k o h h')
        · exact .inr ⟨h, h'⟩
      | true =>
        have hfr : freshR r = true := hc.resolve_left (by simp)
        have hG1 : ∀ k o, G' k o → w.heap.size ≤ k → (g.G k o ∨ (G' k o ∧ w.heap.size ≤ k)) := fun k o h1 h2 => .inr ⟨h1, h2⟩
        have hTn : ∀ c k lo hi, T c = some (k, lo, hi) → w.heap.size ≤ k := fun c k lo hi h => (hp.tail c k lo hi h).1
        have hrel := hp.rel
        have htop := hp.top
        cases r with
        | tup vs =>
          simp only [freshR] at hfr
          simp only [RV] at hrel ⊢
          simp only [Top] at htop
          obtain ⟨us, hu, hr2⟩ := hrel
          obtain ⟨us', hu', ht⟩ := htop
          refine ⟨us, hu, RVs.of_get hr2.length fun j x v hx hvv => ?_⟩
          obtain ⟨v', h1, h2⟩ := hr2.get j x hx
          rw [hvv] at h1; cases h1
          refine freshC_rel hG1 hTn (List.all_eq_true.1 hfr x (List.mem_of_getElem? hx)) h2 ?_
          rintro n xs fl rfl
          rw [hu] at hu'; cases hu'
          exact ht j n xs fl v hx (by simpa using hvv)
        | sl n xs fl => exact freshC_rel hG1 hTn hfr hrel (fun n xs fl e => by cases e; exact htop)
        | _ => exact freshC_rel hG1 hTn hfr hrel (fun n xs fl e => by cases e)
    have h2 := RV.takeR (d := d) (l := N.lvl) (n := g.U d + 1) h1
    exact RV.mono (fun _ _ h => by cases h) (fun _ _ h => h) (fun _ _ _ => rfl) _ _ h2
  · refine Top.takeR (T := T) (G' := G') ?_ ?_ ?_ hp.top
    · exact hv.lev
    · intro c; simp
    · simp [upd]

/-- what a function that sees boxes promises: whoever calls it, at whatever place -/
def SoundG (P : Program) (glob : Nat → Option (List AV)) (f : FuncId) (gf : List AV → Boxes → (Id → Bool) → Option CR) : Prop :=
  (∀ (args : Array Value) (w : World), (callFunc f args).run P w = .ok (.enter f args) w) ∧
  ∀ (N : Ent) (g : Ghost) (box : Boxes) (w : World), Valid N g box w → (∀ gi xs, glob gi = some xs → RV noMu g.G w (.iptr xs) (.pointer (some ⟨gi, 0, none⟩))) →
    ∀ (args : List AV) (vals : List Value) (cr : CR) (v : AV) (d : Nat), RVs g.μ g.G w args vals → (∀ (j : Nat) v u, args[j]? = some v → vals[j]? = some u → Top g v u) → gf args box g.D = some cr → cr.v = .ret v →
      Calls P f vals.toArray w fun e w' => ∃ u g', e = .returned u ∧
        Valid N g' (applyW (match (cr.gr N.lvl d (g.U d + 1) v).cont with | some c => updB box (.own N.lvl d (g.U d + 1)) c | none => box) (cr.gr N.lvl d (g.U d + 1) v).wr) w' ∧ Le g w g' w' ∧
        g'.U = upd g.U d (g.U d + 1) ∧ g'.D = useL g.D cr.use ∧ RV g'.μ g'.G w' (takeR N.lvl d (g.U d + 1) v) u ∧ Top g' (takeR N.lvl d (g.U d + 1) v) u

theorem out_callG {glob : Nat → Option (List AV)} (hglob : ∀ gi xs, glob gi = some xs → RV noMu g.G w (.iptr xs) (.pointer (some ⟨gi, 0, none⟩))) (hv : Valid N g box w) (hρ : Rel g w a ρ) (f : Operand) (args : Array Operand) (ts : Array TypeId)
    (ho : o.op = .call { callee := .value f, args := args, argTypes := ts }) {fid : FuncId} {caps : List AV} (hf : ρ f = .fn fid caps) {gf : List AV → Boxes → (Id → Bool) → Option CR} (hs : SoundG P glob fid gf) {cr : CR} {v : AV}
    (hr : gf (args.toList.map ρ ++ caps.map strip) box g.D = some cr) (hcv : cr.v = .ret v) : SOut P N g box w o a d (cr.gr N.lvl d (g.U d + 1) v) := by
  intro K Q hK
  obtain ⟨vals, hargs, htops, hrun⟩ := run_call hv hρ f args ts ho hf hs.1
  unfold Oper.wp
  rw [hrun, Oper.upon_enter]
  have hargs' : RVs g.μ g.G w (args.toList.map ρ ++ caps.map strip) vals := RVs.of_get (by rw [hargs.length]; simp) fun j v u hj hu => by
    by_cases hlt : j < (args.toList.map ρ).length
    · rw [List.getElem?_append_left hlt] at hj
      obtain ⟨u', h1, h2⟩ := hargs.get j v (by rw [List.getElem?_append_left hlt]; exact hj)
      rw [hu] at h1; cases h1; exact h2
    · rw [List.getElem?_append_right (by omega), List.getElem?_map, Option.map_eq_some_iff] at hj
      obtain ⟨y, hy, rfl⟩ := hj
      obtain ⟨u', h1, h2⟩ := hargs.get j y (by rw [List.getElem?_append_right (by omega)]; exact hy)
      rw [hu] at h1; cases h1; exact h2.strip
  have hcall := hs.2 N g box w hv hglob (args.toList.map ρ ++ caps.map strip) vals cr v d hargs' (fun j v u hj hu => by
    by_cases hlt : j < (args.toList.map ρ).length
    · rw [List.getElem?_append_left hlt] at hj
      exact htops j v u hj hu
    · rw [List.getElem?_append_right (by omega), List.getElem?_map, Option.map_eq_some_iff] at hj
      obtain ⟨y, hy, rfl⟩ := hj
      exact Top.strip _ _) hr hcv
  refine hcall.mono ?_
  rintro e w' ⟨u, g', rfl, h1, h2, h3, h4, h5, h6⟩
  exact hK u w' g' h1 h2 h3 h4 h5 h6
end
end Go.Abs

/- One operation; a region in the order of the text; a function's body. -/
namespace Go.Abs
set_option linter.unusedSimpArgs false
set_option linter.unusedVariables false
open Go Go.RowKit

/-- the environment says of the program what is so -/
structure EnvOK (P : Program) (E : Env) : Prop where
  te : TeOK P E.te
  tbl : ∀ f pf, E.tbl f = some (.val pf) → SoundV P E.glob f pf
  gen : ∀ f gf, E.tbl f = some (.gen gf) → SoundG P E.glob f gf

/-- a function's entry: its globals are there -/
structure EntOK (E : Env) (N : Ent) : Prop where
  cell : ∀ k o, N.G0 k o → (at_ N.w0 k o).isSome
  glob : ∀ gi xs, E.glob gi = some xs → RV noMu N.G0 N.w0 (.iptr xs) (.pointer (some ⟨gi, 0, none⟩))

section
variable {P : Program} {N : Ent} {g : Ghost} {box : Boxes} {w : World} {o : Oper} {a : Act} {d : Nat} {ρ : Operand → AV} {E : Env}

theorem Valid.globs (hv : Valid N g box w) (hN : EntOK E N) : ∀ gi xs, E.glob gi = some xs → RV noMu g.G w (.iptr xs) (.pointer (some ⟨gi, 0, none⟩)) := fun gi xs h =>
  RV.mono (fun _ _ h => h) hv.sub (fun k o h0 => hv.keep k o h0) _ _ (hN.glob gi xs h)

theorem ev_rel (hv : Valid N g box w) (hN : EntOK E N) {sl : Nat → AV} (hs : Slots g w sl a) : Rel g w a (ev E sl) := by
  intro x
  cases x with
  | tmp t => exact hs t
  | const v =>
    refine ⟨RV.ofV v, ?_⟩
    cases v <;> trivial
  | global gi =>
    simp only [ev, Act.eval]
    split
    · rename_i xs h
      exact ⟨RV.mono (fun _ _ h => by cases h) (fun _ _ h => h) (fun _ _ _ => rfl) _ _ (hv.globs hN gi xs h), trivial⟩
    · exact ⟨by simp only [RV], trivial⟩
  | func f =>
    simp only [ev, Act.eval]
    exact ⟨by simp only [RV, RVs]; exact ⟨[], rfl, rfl⟩, trivial⟩

theorem map_plain {α : Type} {x : Option α} {f : α → GR} {r : GR} (h : x.map f = some r) (hf : ∀ v, (f v).wr = [] ∧ (f v).uses = []) : r.wr = [] ∧ r.uses = [] := by
  obtain ⟨v, _, rfl⟩ := Option.map_eq_some_iff.1 h
  exact hf v
theorem freshSl_plain {E : Env} {lvl d g n sz : Nat} {xs : List AV} : (freshSl E lvl d g n sz xs).wr = [] ∧ (freshSl E lvl d g n sz xs).uses = [] := by unfold freshSl; split <;> (try split) <;> exact ⟨rfl, rfl⟩

theorem grow_plain {lvl n : Nat} {bx : Boxes} {used : Id → Bool} {op : Op} {r : GR} (h : grow E lvl d n ρ bx used op = some r) (hg : isGen E op = false) : r.wr = [] ∧ r.uses = [] := by
  have pl : ∀ {v : AV} {b : Bool} {c : Option (List AV)} {u : Option Id}, ({ v, bump := b, cont := c, use := u } : GR).wr = [] ∧ ({ v, bump := b, cont := c, use := u } : GR).uses = [] := ⟨rfl, rfl⟩
  cases op with
  | call c =>
    obtain ⟨callee, args, ts⟩ := c
    cases callee with
    | builtin b =>
      cases b with
      | append =>
        simp only [grow] at h
        split at h
        · unfold appendV at h
          split at h
          · split at h
            · simp only [Option.bind_eq_some_iff] at h
              obtain ⟨ti, h1, p, h2, q, h3, h⟩ := h
              split at h
              · cases h; exact pl
              simp only [Option.bind_eq_some_iff] at h
              obtain ⟨u, h4, h5⟩ := h
              split at h5
              · split at h5
                · cases h5; exact pl
                · split at h5
                  · cases h5; exact pl
                  · cases h5
              · cases h5
            · cases h
          · cases h
        · cases h
      | len =>
        simp only [grow] at h
        split at h
        · exact map_plain h fun _ => pl
        · cases h
      | min =>
        simp only [grow] at h
        split at h
        · exact map_plain h fun _ => pl
        · cases h
      | _ => simp only [grow] at h; cases h
    | value f =>
      simp only [grow] at h
      split at h
      · split at h
        · simp only [Option.bind_eq_some_iff] at h
          obtain ⟨_, _, _, _, h⟩ := h
          split at h
          · cases h; exact pl
          · cases h
        · rw [if_neg (by rw [hg]; simp)] at h; cases h
        · cases h
      · cases h
    | invoke x m => simp only [grow] at h; cases h
  | move x => simp only [grow] at h; cases h; exact pl
  | assign x => simp only [grow] at h; cases h; exact pl
  | pick c x y =>
    simp only [grow] at h
    split at h
    · cases h; exact pl
    · cases h
  | alloc t => simp only [grow] at h; exact map_plain h fun _ => pl
  | box t x =>
    simp only [grow, Option.bind_eq_some_iff] at h
    obtain ⟨ti, ht, cs, hc, h⟩ := h
    split at h
    · cases h; exact pl
    · cases h
  | build t ps =>
    simp only [grow, Option.bind_eq_some_iff] at h
    obtain ⟨ti, ht, h⟩ := h
    split at h
    · exact map_plain h fun _ => pl
    · cases h
  | buildSlice t n ps =>
    simp only [grow] at h
    split at h
    · simp only [Option.bind_eq_some_iff] at h
      obtain ⟨ti, ht, h⟩ := h
      split at h
      · exact map_plain h fun _ => freshSl_plain
      · cases h
    · cases h
  | load t x => simp only [grow] at h; exact map_plain h fun _ => pl
  | nilCheck x =>
    simp only [grow] at h
    split at h
    · cases h; exact pl
    · cases h; exact pl
    · cases h; exact pl
    · cases h
  | binOp op t x y ty => simp only [grow] at h; exact map_plain h fun _ => pl
  | unOp op t x => simp only [grow] at h; exact map_plain h fun _ => pl
  | convert s t x =>
    simp only [grow] at h
    split at h
    · unfold convSelf at h
      split at h
      · split at h
        · split at h
          · split at h
            · cases h; exact pl
            · cases h
          · cases h
        · cases h
      · cases h
    · unfold convV at h
      split at h
      · cases h; exact pl
      · cases h; exact pl
      · split at h
        · split at h
          · cases h
          · cases h; exact pl
        · cases h
      · split at h
        · split at h
          · cases h
          · simp only [Option.bind_eq_some_iff] at h
            obtain ⟨_, _, h⟩ := h
            exact map_plain h fun _ => pl
        · cases h
      · cases h
  | sliceToArrayPointer t x =>
    simp only [grow] at h
    split at h
    · split at h
      · cases h; exact pl
      · cases h
    · split at h
      · cases h; exact pl
      · cases h
    · cases h
  | makeFunc fn first caps =>
    simp only [grow] at h
    split at h
    · split at h
      · cases h; exact pl
      · cases h
    · cases h
  | makeSlice t l c =>
    simp only [grow, makeV] at h
    split at h
    · simp only [Option.bind_eq_some_iff] at h
      obtain ⟨_, _, h⟩ := h
      split at h
      · split at h
        · cases h; exact pl
        · cases h; exact pl
      · cases h
    · cases h
  | slice t x lo hi mx => simp only [grow] at h; exact map_plain h fun _ => pl
  | fieldAddr s x f => simp only [grow] at h; exact map_plain h fun _ => pl
  | field t x f => simp only [grow] at h; exact map_plain h fun _ => pl
  | indexAddr t x i => simp only [grow] at h; exact map_plain h fun _ => pl
  | index t x i => simp only [grow] at h; exact map_plain h fun _ => pl
  | extract x i =>
    simp only [grow] at h
    split at h
    · split at h
      · cases h
      · cases h; exact pl
      · cases h
    · cases h
  | _ => simp only [grow] at h; cases h

theorem grow_sound (hE : EnvOK P E) (hN : EntOK E N) (hv : Valid N g box w) (hρ : Rel g w a ρ) {r : GR} (h : grow E N.lvl d (g.U d + 1) ρ box g.D o.op = some r) : SOut P N g box w o a d r := by
  have hte := hE.te
  have hpl := grow_plain h
  cases hop : o.op with
  | move x => rw [hop] at h; simp only [grow] at h; cases h; exact (out_move hv hρ x (.inl hop)).step (hpl (by rw [hop]; rfl))
  | assign x => rw [hop] at h; simp only [grow] at h; cases h; exact (out_move hv hρ x (.inr hop)).step (hpl (by rw [hop]; rfl))
  | pick c x y =>
    rw [hop] at h; simp only [grow] at h
    split at h
    · cases h; exact (out_pick hv hρ c x y hop ‹_›).step (hpl (by rw [hop]; rfl))
    · cases h
  | alloc t =>
    rw [hop] at h; simp only [grow, Option.map_eq_some_iff] at h
    obtain ⟨ti, ht, rfl⟩ := h
    exact (out_alloc hte hv t ht hop).step (hpl (by rw [hop]; rfl))
  | box t x =>
    rw [hop] at h; simp only [grow, Option.bind_eq_some_iff] at h
    obtain ⟨ti, ht, cs, hc, h⟩ := h
    split at h
    · cases h; exact (out_box hv hρ t x hop hc).step (hpl (by rw [hop]; rfl))
    · cases h
  | build t ps =>
    rw [hop] at h; simp only [grow, Option.bind_eq_some_iff] at h
    obtain ⟨ti, ht, h⟩ := h
    split at h
    · rename_i hc
      simp only [Option.map_eq_some_iff] at h
      obtain ⟨cs, h1, rfl⟩ := h
      exact (out_build hte hv hρ t ps hop ht hc.1 hc.2 h1).step (hpl (by rw [hop]; rfl))
    · cases h
  | buildSlice t n ps =>
    rw [hop] at h; simp only [grow] at h
    split at h
    · rename_i e hk
      simp only [Option.bind_eq_some_iff] at h
      obtain ⟨ti, ht, h⟩ := h
      split at h
      · rename_i hn
        simp only [Option.map_eq_some_iff] at h
        obtain ⟨cs, h1, rfl⟩ := h
        exact (out_buildSlice rfl hte hv hρ t n ps hop hk ht hn h1).step (hpl (by rw [hop]; rfl))
      · cases h
    · cases h
  | load t x =>
    rw [hop] at h; simp only [grow, Option.map_eq_some_iff] at h
    obtain ⟨v, h1, rfl⟩ := h
    exact (out_load hte hv hρ t x hop h1).step (hpl (by rw [hop]; rfl))
  | nilCheck x =>
    rw [hop] at h; simp only [grow] at h
    refine (GOut.step ?_ (hpl (by rw [hop]; rfl)))
    have : ∃ v, r = { v } ∧ (match ρ x with | .ptr b o => some (AV.ptr b o) | .iptr xs => some (.iptr xs) | .fn f cs => some (.fn f cs) | _ => none) = some v := by
      revert h; cases ρ x <;> intro h <;> simp only [reduceCtorEq, Option.some.injEq] at h <;> exact ⟨_, h.symm, rfl⟩
    obtain ⟨v, rfl, h1⟩ := this
    exact out_nilCheck hv hρ x hop h1
  | binOp op t x y ty =>
    rw [hop] at h; simp only [grow, Option.map_eq_some_iff] at h
    obtain ⟨v, h1, rfl⟩ := h
    exact (out_binOp hte hv hρ op t x y ty hop h1).step (hpl (by rw [hop]; rfl))
  | unOp op t x =>
    rw [hop] at h; simp only [grow, Option.map_eq_some_iff] at h
    obtain ⟨v, h1, rfl⟩ := h
    exact (out_unOp hv hρ op t x hop h1).step (hpl (by rw [hop]; rfl))
  | convert s t x =>
    rw [hop] at h; simp only [grow] at h
    split at h
    · exact (out_convSelf rfl hte hv hρ s t x hop h).step (hpl (by rw [hop]; rfl))
    · exact (out_convert rfl hte hv hρ s t x hop h).step (hpl (by rw [hop]; rfl))
  | sliceToArrayPointer t x =>
    rw [hop] at h; simp only [grow] at h
    refine (GOut.step ?_ (hpl (by rw [hop]; rfl)))
    have : ∃ v, r = { v } ∧ (match kd E.te t, ρ x with | .arr n _, .sl m xs _ => if n ≤ m ∧ 0 < n then some (AV.iptr xs) else none | .arr n _, .view b off m _ _ => if n ≤ m ∧ 0 < n then some (.ptr b off) else none | _, _ => none) = some v := by
      split at h
      · split at h
        · cases h; exact ⟨_, rfl, by simp only [*]; simp⟩
        · cases h
      · split at h
        · cases h; exact ⟨_, rfl, by simp only [*]; simp⟩
        · cases h
      · cases h
    obtain ⟨v, rfl, h1⟩ := this
    exact out_toArray hte hv hρ t x hop h1
  | makeFunc fn first caps =>
    rw [hop] at h; simp only [grow] at h
    split at h
    · split at h
      · cases h; exact (out_makeFunc hv hρ _ first caps hop ‹_›).step (hpl (by rw [hop]; rfl))
      · cases h
    · cases h
  | makeSlice t l c => rw [hop] at h; simp only [grow] at h; exact (out_make rfl hte hv hρ t l c hop h).step (hpl (by rw [hop]; rfl))
  | slice t x lo hi mx =>
    rw [hop] at h; simp only [grow, Option.map_eq_some_iff] at h
    obtain ⟨v, h1, rfl⟩ := h
    exact (out_slice hte hv hρ t x lo hi mx hop h1).step (hpl (by rw [hop]; rfl))
  | fieldAddr s x f =>
    rw [hop] at h; simp only [grow, Option.map_eq_some_iff] at h
    obtain ⟨v, h1, rfl⟩ := h
    exact (out_fieldAddr hte hv hρ s x f hop h1).step (hpl (by rw [hop]; rfl))
  | field t x f =>
    rw [hop] at h; simp only [grow, Option.map_eq_some_iff] at h
    obtain ⟨v, h1, rfl⟩ := h
    exact (out_field hte hv hρ t x f hop h1).step (hpl (by rw [hop]; rfl))
  | indexAddr t x i =>
    rw [hop] at h; simp only [grow, Option.map_eq_some_iff] at h
    obtain ⟨v, h1, rfl⟩ := h
    exact (out_indexAddr hte hv hρ t x i hop h1).step (hpl (by rw [hop]; rfl))
  | index t x i =>
    rw [hop] at h; simp only [grow, Option.map_eq_some_iff] at h
    obtain ⟨v, h1, rfl⟩ := h
    exact (out_index hte hv hρ t x i hop h1).step (hpl (by rw [hop]; rfl))
  | extract x i =>
    rw [hop] at h; simp only [grow] at h
    split at h
    · rename_i vs hx
      split at h
      · cases h
      · rename_i v hnt hvi
        cases h
        exact (out_extract hv hρ x i hop hx hvi (fun vs e => by subst e; exact hnt vs rfl)).step (hpl (by rw [hop]; rfl))
      · cases h
    · cases h
  | call c =>
    obtain ⟨callee, args, ts⟩ := c
    rw [hop] at h
    cases callee with
    | builtin b =>
      cases b with
      | append =>
        simp only [grow] at h
        split at h
        · exact (out_append rfl hte hv hρ _ _ args ts hop ‹_› h).step (hpl (by rw [hop]; rfl))
        · cases h
      | len =>
        simp only [grow] at h
        split at h
        · simp only [Option.map_eq_some_iff] at h
          obtain ⟨v, h1, rfl⟩ := h
          exact (out_len hte hv hρ _ _ args ts hop ‹_› _ ‹_› h1).step (hpl (by rw [hop]; rfl))
        · cases h
      | min =>
        simp only [grow] at h
        split at h
        · simp only [Option.map_eq_some_iff] at h
          obtain ⟨v, h1, rfl⟩ := h
          exact (out_min hv hρ _ _ args ts hop ‹_› h1).step (hpl (by rw [hop]; rfl))
        · cases h
      | _ => simp only [grow] at h; cases h
    | value f =>
      simp only [grow] at h
      split at h
      · rename_i fid hf
        split at h
        · rename_i pf hp
          simp only [Option.bind_eq_some_iff] at h
          obtain ⟨as, h1, r', h2, h3⟩ := h
          split at h3
          · rename_i hc
            cases h3
            exact out_callV (hv.globs hN) hv hρ f args ts hop hf (hE.tbl _ _ hp) h1 h2 hc.2
          · cases h3
        · rename_i gf hp
          split at h
          · simp only [Option.bind_eq_some_iff] at h
            obtain ⟨cr, h1, h2⟩ := h
            split at h2
            · rename_i v hcv
              cases h2
              exact out_callG (hv.globs hN) hv hρ f args ts hop hf (hE.gen _ _ hp) h1 hcv
            · cases h2
          · cases h
        · cases h
      · cases h
    | invoke r m => simp only [grow] at h; cases h
  | _ => rw [hop] at h; simp only [grow] at h; cases h

/-- an operation that writes -/
theorem write_sound (hE : EnvOK P E) (hv : Valid N g box w) (hρ : Rel g w a ρ) {v : AV} {box' : Boxes} (h : write E ρ box o.op = some (v, box')) : WOut P N g w o a v box' := by
  have hte := hE.te
  cases hop : o.op with
  | store t x y =>
    rw [hop] at h; simp only [write, Option.map_eq_some_iff] at h
    obtain ⟨b, h1, h2⟩ := h
    cases h2
    exact out_store hte hv hρ t x y hop h1
  | call c =>
    obtain ⟨callee, args, ts⟩ := c
    rw [hop] at h
    cases callee with
    | builtin b =>
      cases b with
      | copy =>
        simp only [write] at h
        split at h
        · simp only [Option.map_eq_some_iff] at h
          obtain ⟨⟨n, b⟩, h1, h2⟩ := h
          cases h2
          exact out_copy hte hv hρ _ _ args ts _ _ hop ‹_› ‹_› h1
        · cases h
      | _ => simp only [write] at h; cases h
    | _ => simp only [write] at h; cases h
  | _ => rw [hop] at h; simp only [write] at h; cases h
end
end Go.Abs
