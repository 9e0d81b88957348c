/- The operations that change no box, one by one. Fourth part: places. -/
import Derived.Test.YteooikdcafodfaaDoorAh
import Derived.Laws.Slices
namespace Go.Abs
set_option linter.unusedSimpArgs false
set_option linter.unusedVariables false
open Go Go.RowKit
section
variable {P : Program} {N : Ent} {g : Ghost} {box : Boxes} {w : World} {o : Oper} {a : Act} {d : Nat} {ρ : Operand → AV} {te : TypeId → Option TI}

theorem addr_add (k o j : Nat) : (⟨k, o, none⟩ : Addr).add j = ⟨k, o + j, none⟩ := by unfold Addr.add; split <;> simp_all

theorem st_fields {fs : List (Nat × TypeId)} {dd : TypeDesc} (h : TKis (.st fs) dd) : ∃ fields : Array Field, dd = .struct fields ∧ ∀ (i : Nat) (p : Nat × TypeId), fs[i]? = some p → ∃ f : Field, fields[i]? = some f ∧ f.offset = p.1 ∧ f.type = p.2 := by
  obtain ⟨fields, rfl, rfl⟩ := h
  refine ⟨fields, rfl, fun i p hp => ?_⟩
  simp only [List.getElem?_map, Option.map_eq_some_iff] at hp
  obtain ⟨f, h1, rfl⟩ := hp
  exact ⟨f, by simpa using h1, rfl, rfl⟩

theorem run_fieldAt (hte : TeOK P te) {s : TypeId} {fs : List (Nat × TypeId)} (hk : kd te s = .st fs) {i : Nat} {p : Nat × TypeId} (hp : fs[i]? = some p) {ti : TI} (ht : te p.2 = some ti) (h0 : ti.size ≠ 0) (k off : Nat) :
    (Instr.fieldAt s (.pointer (some ⟨k, off, none⟩)) i).run P w = .ok (.pointer (some ⟨k, off + p.1, none⟩)) w := by
  obtain ⟨_, _, _, dd, hd, hk2⟩ := kd_some hte hk (by simp)
  obtain ⟨fields, rfl, hf⟩ := st_fields hk2
  obtain ⟨f, h1, h2, h3⟩ := hf i p hp
  rw [← h3] at ht
  simp [Instr.fieldAt, run_underlying hd, h1, Instr.sureAddr, fieldPlace, run_sizeOf hte ht, h0, addr_add, h2]

theorem Read.dropAll {G : Nat → Nat → Prop} {k o : Nat} {us : List Value} (h : Read w G k o us) (n : Nat) : Read w G k (o + n) (us.drop n) := Read.drop h n

theorem out_fieldAddr (hte : TeOK P te) (hv : Valid N g box w) (hρ : Rel g w a ρ) (s : TypeId) (x : Operand) (i : Nat) (ho : o.op = .fieldAddr s x i) {v : AV} (h : fieldAddrV te s i (ρ x) = some v) : GOut P N g box w o a d { v } := by
  have hx := (hρ x).1
  have key : ∀ u r : Value, a.eval x = u → (Instr.fieldAt s u i).run P w = .ok r w → (execOp a.eval o).run P w = .ok (.value r) w := fun u r he hr => run_value (by rw [← he] at hr; exact hr) (by unfold execOp; rw [ho])
  revert h hx key
  generalize ρ x = x0
  generalize a.eval x = u0
  intro h hx key
  unfold fieldAddrV at h
  split at h
  · rename_i fs b off hk
    simp only [RV] at hx
    obtain ⟨k, hb, rfl⟩ := hx
    simp only [Option.bind_eq_some_iff] at h
    obtain ⟨p, hp, ti, ht, h⟩ := h
    split at h
    · cases h
    · cases h
      exact .pure hv (key _ _ rfl (run_fieldAt hte hk hp ht ‹_› k off)) (by simp only [RV]; exact ⟨k, hb, rfl⟩) trivial
  · rename_i fs xs hk
    simp only [RV] at hx
    obtain ⟨k, off, us, rfl, hr, hd⟩ := hx
    simp only [Option.bind_eq_some_iff] at h
    obtain ⟨p, hp, ti, ht, h⟩ := h
    split at h
    · cases h
    · cases h
      exact .pure hv (key _ _ rfl (run_fieldAt hte hk hp ht ‹_› k off)) (by simp only [RV]; exact ⟨k, off + p.1, us.drop p.1, rfl, hr.drop _, hd.drop _⟩) trivial
  · cases h

theorem run_part (hte : TeOK P te) {t : TypeId} {cs : List AV} {us : List Value} (hr : RVs g.μ g.G w cs us) {off : Nat} {v : AV} (h : partV te t cs off = some v) :
    ∃ u, (part t us.toArray off).run P w = .ok u w ∧ RV g.μ g.G w v u ∧ Top g v u := by
  obtain ⟨ti, ht, h1⟩ := part_rel (w := w) (g := g) hte hr h
  have hl := hr.length
  split at h1
  · rename_i hagg
    obtain ⟨h2, rfl⟩ := h1
    refine ⟨.agg ((us.drop off).take ti.size).toArray, ?_, ?_, trivial⟩
    · simp only [part, Sem.run_bind, run_isAgg hte ht, Result.andThen_ok, hagg, if_true, run_sizeOf hte ht, Sem.run_pure]
      congr 2
      apply Array.ext'
      simp [List.take_drop, Nat.add_comm]
    · simp only [RV]; exact ⟨_, rfl, (hr.drop off).take ti.size⟩
  · rename_i hagg
    obtain ⟨x, hx, rfl⟩ := h1
    obtain ⟨u, hu, hrv⟩ := hr.get off x hx
    refine ⟨u, ?_, hrv.strip, Top.strip _ _⟩
    simp [part, run_isAgg hte ht, hagg, hu]

theorem out_field (hte : TeOK P te) (hv : Valid N g box w) (hρ : Rel g w a ρ) (t : TypeId) (x : Operand) (i : Nat) (ho : o.op = .field t x i) {v : AV} (h : fieldV te t i (ρ x) = some v) : GOut P N g box w o a d { v } := by
  have hx := (hρ x).1
  have key : ∀ u r : Value, a.eval x = u → (Instr.field t u i).run P w = .ok r w → (execOp a.eval o).run P w = .ok (.value r) w := fun u r he hr => run_value (by rw [← he] at hr; exact hr) (by unfold execOp; rw [ho])
  revert h hx key
  generalize ρ x = x0
  generalize a.eval x = u0
  intro h hx key
  unfold fieldV at h
  split at h
  · rename_i fs cs hk
    simp only [RV] at hx
    obtain ⟨us, rfl, hr⟩ := hx
    simp only [Option.bind_eq_some_iff] at h
    obtain ⟨p, hp, h⟩ := h
    obtain ⟨_, _, _, dd, hd, hk2⟩ := kd_some hte hk (by simp)
    obtain ⟨fields, rfl, hf⟩ := st_fields hk2
    obtain ⟨f, h1, h2, h3⟩ := hf i p hp
    obtain ⟨u, hu, h4, h5⟩ := run_part (P := P) (w := w) (g := g) hte hr h
    refine .pure hv (key _ u rfl ?_) h4 h5
    simp only [Instr.field, Sem.run_bind, run_underlying hd, Result.andThen_ok, h1, asAgg, Sem.run_pure, h2, h3, hu]
  · cases h

theorem out_index (hte : TeOK P te) (hv : Valid N g box w) (hρ : Rel g w a ρ) (t : TypeId) (x ix : Operand) (ho : o.op = .index t x ix) {v : AV} (h : indexV te t (ρ x) (ρ ix) = some v) : GOut P N g box w o a d { v } := by
  have hx := (hρ x).1
  have hi := (hρ ix).1
  have key : ∀ u1 u2 r : Value, a.eval x = u1 → a.eval ix = u2 → (Instr.index t u1 u2).run P w = .ok r w → (execOp a.eval o).run P w = .ok (.value r) w := fun u1 u2 r e1 e2 hr => run_value (by rw [← e1, ← e2] at hr; exact hr) (by unfold execOp; rw [ho])
  revert h hx hi key
  generalize ρ x = x0
  generalize ρ ix = i0
  generalize a.eval x = u1
  generalize a.eval ix = u2
  intro h hx hi key
  unfold indexV at h
  split at h
  · rename_i k i
    simp only [RV] at hi; subst hi
    split at h
    · rename_i n e cs hk
      simp only [RV] at hx
      obtain ⟨us, rfl, hr⟩ := hx
      simp only [Option.bind_eq_some_iff] at h
      obtain ⟨ti, ht, h⟩ := h
      obtain ⟨_, _, _, dd, hd, hk2⟩ := kd_some hte hk (by simp)
      simp only [TKis] at hk2; subst hk2
      split at h
      · rename_i hb
        obtain ⟨u, hu, h4, h5⟩ := run_part (P := P) (w := w) (g := g) hte hr h
        refine .pure hv (key _ _ u rfl rfl ?_) h4 h5
        simp only [Instr.index, asIntOf, Sem.run_bind, Sem.run_pure, Result.andThen_ok, run_underlying hd, hb, and_self, if_true, run_sizeOf hte ht, hu]
      · cases h
    · rename_i s hk
      simp only [RV] at hx; subst hx
      obtain ⟨_, _, _, dd, hd, hk2⟩ := kd_some hte hk (by simp)
      simp only [TKis] at hk2; subst hk2
      split at h
      · rename_i hb
        simp only [Option.map_eq_some_iff] at h
        obtain ⟨b, hb2, rfl⟩ := h
        refine .pure hv (key _ _ (.int .u8 b.toNat) rfl rfl ?_) (by simp only [RV]) trivial
        have hs : s[i.toNat]? = some b := by
          obtain ⟨⟨l⟩⟩ := s
          have hl : i.toNat < l.length := (List.getElem?_eq_some_iff.1 hb2).1
          have := (List.getElem?_eq_some_iff.1 hb2).2
          have h2 : l[i.toNat]'hl = b := by simpa using this
          rw [getElem?_pos _ _ (by simpa [ByteArray.size] using hl)]
          exact congrArg some h2
        simp [Instr.index, asIntOf, run_underlying hd, hb, hs]
      · cases h
    · cases h
  · cases h

theorem out_indexAddr (hte : TeOK P te) (hv : Valid N g box w) (hρ : Rel g w a ρ) (t : TypeId) (x ix : Operand) (ho : o.op = .indexAddr t x ix) {v : AV} (h : indexAddrV te t (ρ x) (ρ ix) = some v) : GOut P N g box w o a d { v } := by
  have hx := (hρ x).1
  have hi := (hρ ix).1
  have key : ∀ u1 u2 r : Value, a.eval x = u1 → a.eval ix = u2 → (Instr.indexAt t u1 u2).run P w = .ok r w → (execOp a.eval o).run P w = .ok (.value r) w := fun u1 u2 r e1 e2 hr => run_value (by rw [← e1, ← e2] at hr; exact hr) (by unfold execOp; rw [ho])
  revert h hx hi key
  generalize ρ x = x0
  generalize ρ ix = i0
  generalize a.eval x = u1
  generalize a.eval ix = u2
  intro h hx hi key
  unfold indexAddrV at h
  split at h
  · rename_i k i
    simp only [RV] at hi; subst hi
    have hrun : ∀ (A : Addr) (n : Nat) (e : TypeId) (ti : TI), A.spot = none → te e = some ti → (0 ≤ i ∧ i < n) → P.underlying t = some (.array n e) →
        (Instr.indexAt t (.pointer (some A)) (.int k i)).run P w = .ok (.pointer (some (A.add (i.toNat * ti.size)))) w := fun A n e ti hA ht hb hd => by
      simp [Instr.indexAt, asIntOf, run_underlying hd, Instr.sureAddr, hb, run_sizeOf hte ht]
    have hrun2 : ∀ (A : Addr) (n c : Nat) (e : TypeId) (ti : TI), te e = some ti → (0 ≤ i ∧ i < n) → P.underlying t = some (.slice e) →
        (Instr.indexAt t (.slice (some A) n c) (.int k i)).run P w = .ok (.pointer (some (A.add (i.toNat * ti.size)))) w := fun A n c e ti ht hb hd => by
      simp [Instr.indexAt, asIntOf, run_underlying hd, hb, run_sizeOf hte ht]
    split at h
    · rename_i n e b off hk
      simp only [RV] at hx
      obtain ⟨kk, hb, rfl⟩ := hx
      simp only [Option.bind_eq_some_iff] at h
      obtain ⟨ti, ht, h⟩ := h
      obtain ⟨_, _, _, dd, hd, hk2⟩ := kd_some hte hk (by simp)
      simp only [TKis] at hk2; subst hk2
      split at h
      · cases h
        exact .pure hv (key _ _ _ rfl rfl (hrun _ n e ti rfl ht ‹_› hd)) (by simp only [RV]; exact ⟨kk, hb, by rw [addr_add]⟩) trivial
      · cases h
    · rename_i n e xs hk
      simp only [RV] at hx
      obtain ⟨kk, off, us, rfl, hr, hdd⟩ := hx
      simp only [Option.bind_eq_some_iff] at h
      obtain ⟨ti, ht, h⟩ := h
      obtain ⟨_, _, _, dd, hd, hk2⟩ := kd_some hte hk (by simp)
      simp only [TKis] at hk2; subst hk2
      split at h
      · cases h
        exact .pure hv (key _ _ _ rfl rfl (hrun _ n e ti rfl ht ‹_› hd)) (by simp only [RV]; exact ⟨kk, _, us.drop (i.toNat * ti.size), by rw [addr_add], hr.drop _, hdd.drop _⟩) trivial
      · cases h
    · rename_i e n xs fl hk
      simp only [Option.bind_eq_some_iff] at h
      obtain ⟨ti, ht, h⟩ := h
      obtain ⟨_, _, _, dd, hd, hk2⟩ := kd_some hte hk (by simp)
      simp only [TKis] at hk2; subst hk2
      split at h
      · rename_i hb
        cases h
        simp only [RV] at hx
        rcases hx with ⟨_, rfl, _⟩ | ⟨kk, off, c, us, rfl, _, hr, hdd⟩
        · omega
        · exact .pure hv (key _ _ _ rfl rfl (hrun2 _ n c e ti ht hb hd)) (by simp only [RV]; exact ⟨kk, _, us.drop (i.toNat * ti.size), by rw [addr_add], hr.drop _, hdd.drop _⟩) trivial
      · cases h
    · rename_i e b off n c z hk
      simp only [Option.bind_eq_some_iff] at h
      obtain ⟨ti, ht, h⟩ := h
      obtain ⟨_, _, _, dd, hd, hk2⟩ := kd_some hte hk (by simp)
      simp only [TKis] at hk2; subst hk2
      split at h
      · rename_i hb
        cases h
        simp only [RV] at hx
        obtain ⟨kk, oo, hm, rfl, hnc, hoo⟩ := hx
        have : oo = off := by rcases hoo with h | h; · exact h
                              · omega
        subst this
        exact .pure hv (key _ _ _ rfl rfl (hrun2 _ n c e ti ht ⟨hb.1, hb.2.1⟩ hd)) (by simp only [RV]; exact ⟨kk, hm, by rw [addr_add]⟩) trivial
      · cases h
    · cases h
  · cases h

theorem out_len (hte : TeOK P te) (hv : Valid N g box w) (hρ : Rel g w a ρ) (x : Operand) (t : TypeId) (args : Array Operand) (ts : Array TypeId) (ho : o.op = .call { callee := .builtin .len, args := args, argTypes := ts })
    (h1 : args.toList = [x]) (rest : List TypeId) (h2 : ts.toList = t :: rest) {v : AV} (h : lenV te t (ρ x) = some v) : GOut P N g box w o a d { v } := by
  have hx := (hρ x).1
  have ha : args = #[x] := by rw [← Array.toArray_toList (xs := args), h1]
  have hts : ts[0]? = some t := by rw [← Array.toArray_toList (xs := ts), h2]; simp
  have key : ∀ u r : Value, a.eval x = u → (Builtin.len_ ts o.type #[u]).run P w = .ok r w → (execOp a.eval o).run P w = .ok (.value r) w := fun u r he hr => by
    subst ha
    unfold execOp; rw [ho]
    simp only [resolve, Sem.run_bind, Sem.run_pure, Result.andThen_ok, invoke, builtin]
    simp [he, hr]
  revert h hx key
  generalize ρ x = x0
  generalize a.eval x = u0
  intro h hx key
  have fin : ∀ r : Value, (Builtin.len_ ts o.type #[u0]).run P w = .ok r w → v = .raw r → GOut P N g box w o a d { v } := fun r h1 h2 => by subst h2; exact .pure hv (key _ _ rfl h1) (by simp only [RV]) trivial
  unfold lenV at h
  split at h
  · rename_i s hk
    obtain ⟨_, _, _, dd, hd, hk2⟩ := kd_some hte hk (by simp)
    simp only [TKis] at hk2; subst hk2; cases h
    simp only [RV] at hx; subst hx
    exact fin _ (by simp [Builtin.len_, hts, run_underlying hd, goInt]) rfl
  · rename_i n e hk
    obtain ⟨_, _, _, dd, hd, hk2⟩ := kd_some hte hk (by simp)
    simp only [TKis] at hk2; subst hk2; cases h
    exact fin _ (by simp [Builtin.len_, hts, run_underlying hd, goInt]) rfl
  · rename_i e hk
    obtain ⟨_, _, _, dd, hd, hk2⟩ := kd_some hte hk (by simp)
    simp only [TKis] at hk2; subst hk2; cases h
    simp only [RV] at hx; subst hx
    exact fin _ (by simp [Builtin.len_, hts, run_underlying hd, goInt]) rfl
  · rename_i e n xs fl hk
    obtain ⟨_, _, _, dd, hd, hk2⟩ := kd_some hte hk (by simp)
    simp only [TKis] at hk2; subst hk2; cases h
    simp only [RV] at hx
    rcases hx with ⟨rfl, rfl, _⟩ | ⟨kk, off, c, us, rfl, _, hr, hdd⟩
    · exact fin _ (by simp [Builtin.len_, hts, run_underlying hd, goInt]) rfl
    · exact fin _ (by simp [Builtin.len_, hts, run_underlying hd, goInt]) rfl
  · rename_i e b off n c z hk
    obtain ⟨_, _, _, dd, hd, hk2⟩ := kd_some hte hk (by simp)
    simp only [TKis] at hk2; subst hk2; cases h
    simp only [RV] at hx
    obtain ⟨kk, oo, hm, rfl, hnc, hoo⟩ := hx
    exact fin _ (by simp [Builtin.len_, hts, run_underlying hd, goInt]) rfl
  · cases h

theorem out_min (hv : Valid N g box w) (hρ : Rel g w a ρ) (x y : Operand) (args : Array Operand) (ts : Array TypeId) (ho : o.op = .call { callee := .builtin .min, args := args, argTypes := ts })
    (h1 : args.toList = [x, y]) {v : AV} (h : min2V (ρ x) (ρ y) = some v) : GOut P N g box w o a d { v } := by
  have hx := (hρ x).1
  have hy := (hρ y).1
  have ha : args = #[x, y] := by rw [← Array.toArray_toList (xs := args), h1]
  have key : ∀ u1 u2 r : Value, a.eval x = u1 → a.eval y = u2 → (Builtin.min_ ts o.type #[u1, u2]).run P w = .ok r w → (execOp a.eval o).run P w = .ok (.value r) w := fun u1 u2 r e1 e2 hr => by
    subst ha
    unfold execOp; rw [ho]
    simp only [resolve, Sem.run_bind, Sem.run_pure, Result.andThen_ok, invoke, builtin]
    simp [e1, e2, hr]
  revert h hx hy key
  generalize ρ x = x0
  generalize a.eval x = u0
  generalize ρ y = y0
  generalize a.eval y = u1
  intro h hx hy key
  unfold min2V at h
  split at h
  · cases h
    simp only [RV] at hx hy; subst hx; subst hy
    rename_i k x k' y
    exact .pure hv (key _ _ (.int k (if y < x then y else x)) rfl rfl (by simp [Builtin.min_, Builtin.min2])) (by simp only [RV]) trivial
  · cases h

theorem out_toArray (hte : TeOK P te) (hv : Valid N g box w) (hρ : Rel g w a ρ) (t : TypeId) (x : Operand) (ho : o.op = .sliceToArrayPointer t x) {v : AV}
    (h : (match kd te t, ρ x with | .arr n _, .sl m xs _ => if n ≤ m ∧ 0 < n then some (AV.iptr xs) else none | .arr n _, .view b off m _ _ => if n ≤ m ∧ 0 < n then some (.ptr b off) else none | _, _ => none) = some v) : GOut P N g box w o a d { v } := by
  have hx := (hρ x).1
  have key : ∀ u r : Value, a.eval x = u → (Instr.arrayAt t u).run P w = .ok r w → (execOp a.eval o).run P w = .ok (.value r) w := fun u r he hr => run_value (by rw [← he] at hr; exact hr) (by unfold execOp; rw [ho])
  revert h hx key
  generalize ρ x = x0
  generalize a.eval x = u0
  intro h hx key
  split at h
  · rename_i n e m xs fl hk
    obtain ⟨_, _, _, dd, hd, hk2⟩ := kd_some hte hk (by simp)
    simp only [TKis] at hk2; subst hk2
    split at h
    · rename_i hn
      cases h
      simp only [RV] at hx
      rcases hx with ⟨_, rfl, _⟩ | ⟨kk, off, c, us, rfl, _, hr, hdd⟩
      · omega
      · refine .pure hv (key _ (.pointer (some ⟨kk, off, none⟩)) rfl ?_) (by simp only [RV]; exact ⟨kk, off, us, rfl, hr, hdd⟩) trivial
        simp [Instr.arrayAt, run_underlying hd, hn.1, Nat.not_lt.2 hn.1]
    · cases h
  · rename_i n e b off m c z hk
    obtain ⟨_, _, _, dd, hd, hk2⟩ := kd_some hte hk (by simp)
    simp only [TKis] at hk2; subst hk2
    split at h
    · rename_i hn
      cases h
      simp only [RV] at hx
      obtain ⟨kk, oo, hm, rfl, hnc, hoo⟩ := hx
      have : oo = off := by rcases hoo with h | h; · exact h
                            · omega
      subst this
      refine .pure hv (key _ (.pointer (some ⟨kk, oo, none⟩)) rfl ?_) (by simp only [RV]; exact ⟨kk, hm, rfl⟩) trivial
      simp [Instr.arrayAt, run_underlying hd, Nat.not_lt.2 hn.1]
    · cases h
  · cases h
end
end Go.Abs
