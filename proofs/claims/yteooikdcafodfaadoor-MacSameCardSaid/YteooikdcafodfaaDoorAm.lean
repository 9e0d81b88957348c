/- append, make; what a slot or an operand is. -/
import Derived.Test.YteooikdcafodfaaDoorAl
namespace Go.Abs
set_option linter.unusedSimpArgs false
set_option linter.unusedVariables false
open Go Go.RowKit
section
variable {P : Program} {N : Ent} {g : Ghost} {box : Boxes} {w : World} {o : Oper} {a : Act} {d : Nat} {ρ : Operand → AV} {te : TypeId → Option TI}

theorem Src.of (hv : Valid N g box w) {t1 : TypeId} (hk : (∃ e', P.underlying t1 = some (.slice e')) ∨ P.underlying t1 = some .string) {sz : Nat} {x : AV} {u : Value} (hx : RV g.μ g.G w x u) {m : Nat} {ys : List AV}
    (h : slCells box sz x = some (m, ys)) (h1 : ys.all oneA = true) : ∃ news, Src P sz t1 u m news w ∧ RVs g.μ g.G w ys news := by
  rcases slCells_rel hv hx h with ⟨s, rfl, rfl, rfl, rfl⟩ | ⟨rfl, rfl, rfl⟩ | ⟨k, off, c, us, rfl, hnc, hr, hm, hl⟩
  · refine ⟨byteCells s, ⟨hk, fun _ => rfl, firstCells_string s w, firstCells_string s w.drew, by rw [byteCells_length, Nat.mul_one], fun u hu => ?_⟩, ?_⟩
    · obtain ⟨_, _, rfl⟩ := List.mem_map.1 hu; rfl
    · have := RVs.raws (μ := g.μ) (G := g.G) (w := w) (byteCells s)
      unfold byteCells at this ⊢
      rwa [List.map_map] at this
  · exact ⟨[], ⟨hk, fun _ => rfl, run_firstCells_none w sz 0 0 0, run_firstCells_none w.drew sz 0 0 0, by simp, fun _ h => by cases h⟩, RVs.nil⟩
  · have hc : ∀ j v, us[j]? = some v → w.cell? ((⟨k, off, none⟩ : Addr).add j) = some v := fun j v hv => by
      have hj : j < us.length := (List.getElem?_eq_some_iff.1 hv).1
      rw [addr_add]; exact (hm j hj).trans hv
    exact ⟨us, ⟨hk, fun _ => rfl, run_firstCells_some w sz m ⟨k, off, none⟩ m c us hl hc, run_firstCells_some w.drew sz m ⟨k, off, none⟩ m c us hl (fun j v hv => (hc j v hv)), hl, oneAs_rel hr h1⟩, hr⟩

theorem out_append {E : Env} (hE : E.te = te) (hte : TeOK P te) (hv : Valid N g box w) (hρ : Rel g w a ρ) (s x : Operand) (args : Array Operand) (ts : Array TypeId) (ho : o.op = .call { callee := .builtin .append, args := args, argTypes := ts })
    (ha : args.toList = [s, x]) {r : GR} (h : appendV E d (g.U d + 1) box g.D ts.toList (ρ s) (ρ x) = some r) : GOut P N g box w o a d r := by
  have ha' : args = #[s, x] := by rw [← Array.toArray_toList (xs := args), ha]
  unfold appendV at h
  rw [hE] at h
  split at h
  · rename_i t0 t1 hts
    have hts' : ts = #[t0, t1] := by rw [← Array.toArray_toList (xs := ts), hts]
    split at h
    · rename_i e hk
      obtain ⟨_, _, _, d0, hd0, hk0⟩ := kd_some hte hk (by simp)
      simp only [TKis] at hk0; subst hk0
      simp only [Option.bind_eq_some_iff] at h
      obtain ⟨ti, ht, ⟨n, xs⟩, hsl, ⟨m, ys⟩, hsrc, u, hroom, h⟩ := h
      split at h
      · rename_i hc
        cases h
        obtain ⟨c1, c2, c3, c4⟩ := hc
        simp only at c1 c2 c3 hroom
        obtain ⟨i, z, hi, hs, hb, hz, hzc, hzl⟩ := (hte e ti ht).info
        have key : ∀ r w', (Builtin.append_ #[t0, t1] o.type #[a.eval s, a.eval x]).run P w = .ok r w' → (execOp a.eval o).run P w = .ok (.value r) w' := fun r w' hr => by
          subst ha'
          unfold execOp; rw [ho]
          simp only [resolve, Sem.run_bind, Sem.run_pure, Result.andThen_ok, invoke, builtin]
          simp [hts', hr]
        have fin : ∀ news, App P w t0 t1 o.type e i z (a.eval x) m news → RVs g.μ g.G w ys news → GOut P N g box w o a d { v := .sl (n + m) (xs ++ ys) (.own ⟨d, 0, g.U d + 1⟩ ti.size), bump := true, use := u } := fun news h1 h2 =>
          out_append_core hs hb hzc hzl hv h1 (hρ s).1 (hρ s).2 key hroom hsl h2 c1 c2
        unfold srcV at hsrc
        split at hsrc
        · rename_i k0 k1 mm hk1 hxe
          obtain ⟨_, _, _, d1, hd1, hk1'⟩ := kd_some hte hk1 (by simp)
          simp only [TKis] at hk1'; subst hk1'
          have hx := (hρ x).1
          rw [hxe] at hx; simp only [RV] at hx
          split at hsrc
          · rename_i hm
            cases hsrc
            obtain ⟨mn, rfl⟩ := Int.eq_ofNat_of_zero_le hm.1
            simp only [Int.toNat_natCast] at *
            have hone : ∀ q ∈ z.cells.toList, q.oneCell' = true := by
              rw [hzc]; exact (hte e ti ht).zero1
            have hmb : mn * i.bytes ≤ 140737488355328 := by
              rw [hb]
              have : mn * ti.bytes ≤ (n + mn) * ti.bytes := Nat.mul_le_mul_right _ (by omega)
              omega
            have happ := App.zeros (P := P) (w := w) (ty := o.type) (kx := k1) hd0 hd1 hi hz (by rw [← Array.length_toList, hzc, hzl, hs]) hone hmb (by omega)
            rw [← hx] at happ
            refine fin _ happ ?_
            unfold zerosOf; rw [← hzc, ← rep_map]; exact RVs.raws _
          · cases hsrc
        · rename_i e1 hk1
          obtain ⟨_, _, _, d1, hd1, hk1'⟩ := kd_some hte hk1 (by simp)
          simp only [TKis] at hk1'; subst hk1'
          obtain ⟨news, h1, h2⟩ := Src.of (P := P) hv (.inl ⟨_, hd1⟩) (hρ x).1 hsrc c3
          exact fin news (App.src hd0 hi hz (by rw [hs]; exact h1)) h2
        · rename_i hk1
          obtain ⟨_, _, _, d1, hd1, hk1'⟩ := kd_some hte hk1 (by simp)
          simp only [TKis] at hk1'; subst hk1'
          obtain ⟨news, h1, h2⟩ := Src.of (P := P) hv (.inr hd1) (hρ x).1 hsrc c3
          exact fin news (App.src hd0 hi hz (by rw [hs]; exact h1)) h2
        · cases hsrc
      · cases h
    · cases h
  · cases h

theorem out_make {E : Env} (hE : E.te = te) (hte : TeOK P te) (hv : Valid N g box w) (hρ : Rel g w a ρ) (t : TypeId) (l c : Operand) (ho : o.op = .makeSlice t l c) {r : GR} (h : makeV E N.lvl d (g.U d + 1) t (ρ l) (ρ c) = some r) : GOut P N g box w o a d r := by
  have hl := (hρ l).1
  have hc := (hρ c).1
  unfold makeV at h
  rw [hE] at h
  split at h
  · rename_i e k1 li k2 ci hk hle hce
    rw [hle] at hl; rw [hce] at hc
    simp only [RV] at hl hc
    obtain ⟨_, _, _, d0, hd0, hk0⟩ := kd_some hte hk (by simp)
    simp only [TKis] at hk0; subst hk0
    simp only [Option.bind_eq_some_iff] at h
    obtain ⟨ti, ht, h⟩ := h
    obtain ⟨i, z, hi, hs, hb, hz, hzc, hzl⟩ := (hte e ti ht).info
    split at h
    · rename_i hcond
      obtain ⟨c1, c2, c3, c4⟩ := hcond
      have hbytes : (i.bytes : Int) * ci ≤ 281474976710656 := by rw [hb, Int.mul_comm]; exact c3
      have hrun : (execOp a.eval o).run P w = .ok (.value (.slice (some ⟨w.heap.size, 0, none⟩) li.toNat ci.toNat)) (w.alloc (.cells (madeCells z.cells (ci.toNat * i.size)) e)) :=
        run_value (s := Instr.makeSlice t (a.eval l) (a.eval c)) (by rw [hl, hc]; exact run_make w t e i z hd0 hi hz k1 k2 li ci c1 c2 hbytes (by omega)) (by unfold execOp; rw [ho])
      have hmc : madeCells z.cells (ci.toNat * i.size) = (rep ci.toNat ti.zero).toArray := by
        unfold madeCells
        have := madeCells_rep z.cells ti.zero hzc ci.toNat
        rw [hzl, ← hs] at this; exact this
      rw [hmc] at hrun
      have hzr : ∀ n, zerosOf ti n = (rep n ti.zero).map .raw := fun n => by unfold zerosOf; rw [rep_map]
      split at h
      · cases h
        rw [hzr]
        exact out_newview hv (RVs.raws _) (below_alloc' _ _) w.heap.size (Nat.le_refl _) (alloc_at _ _) (by simp) (by simp) (by omega) hrun
      · cases h
        rw [hzr]
        have hat := alloc_at w (.cells (rep ci.toNat ti.zero).toArray e)
        have hpre : ∀ n m j, n ≤ m → j < (rep n ti.zero).length → (rep m ti.zero)[j]? = (rep n ti.zero)[j]? := by
          intro n m j hnm hj
          rw [rep_length] at hj
          rw [rep_get ti.zero n j hj, rep_get ti.zero m j (Nat.lt_of_lt_of_le hj (Nat.mul_le_mul_right _ hnm))]
        refine (out_newimm (P := P) hv (xs := (rep li.toNat ti.zero).map .raw) (us := rep li.toNat ti.zero) (RVs.raws _) (below_alloc' _ _) w.heap.size (Nat.le_refl _) (by omega) ?_ hrun).2 ti.size ?_ ?_ ?_
        · intro j hj
          rw [at_row hat, List.getElem?_toArray]
          exact hpre _ _ j (by omega) hj
        · show w.heap.size < (w.heap.push _).size; simp
        · rw [rep_length, hzl]
        · intro j h1 h2
          refine ⟨?_, frozen_row hat⟩
          rw [at_row hat, List.getElem?_toArray, List.getElem?_eq_getElem (by rw [rep_length, hzl]; exact h2)]; rfl
    · cases h
  · cases h
end
end Go.Abs
