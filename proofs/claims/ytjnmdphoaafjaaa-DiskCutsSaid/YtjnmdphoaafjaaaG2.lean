/- Plain operations. -/
import Derived.Test.YtjnmdphoaafjaaaG1
import Derived.WalkLawsBesides
import Derived.Laws.Cover3
import Derived.Laws.Pointers
import Derived.DeepKeys
import Derived.Laws.Slices
/- The operations that change no box, one by one. Third part: arithmetic, comparing, addresses. -/
namespace Go.Abs
set_option linter.unusedSimpArgs false
set_option linter.unusedVariables false
open Go Go.RowKit
section
variable {P : Program} {N : Ent} {g : Ghost} {box : Boxes} {w : World} {o : Oper} {a : Act} {d : Nat} {ρ : Operand → AV} {te : TypeId → Option TI}

theorem run_eqGuard_plain (op : BinOp) (t : TypeId) (x y : Operand) (u v : Value) (h1 : ∀ cs, u ≠ .agg cs) (h2 : u ≠ .nilIface) : (eqGuard op t x y u v).run P w = .ok () w := by
  unfold eqGuard
  cases op <;> simp <;> (cases u <;> first | rfl | exact absurd rfl (h1 _) | exact absurd rfl h2)

theorem run_shift {op : BinOp} {k k' : IntKind} {x y : Int} {v : AV} (h : shiftV op k x y = some v) : ∃ u, v = .raw u ∧ (Op.shift op k x k' y).run P w = .ok u w := by
  unfold shiftV at h
  split at h
  · cases h
  · rename_i hy
    split at h
    · cases h; exact ⟨_, rfl, by simp [Op.shift, hy]⟩
    · cases h; exact ⟨_, rfl, by simp [Op.shift, hy]⟩
    · cases h

theorem run_int {op : BinOp} {t : TypeId} {k : IntKind} {x y : Int} {v : AV} (h : intV op k x y = some v) : ∃ u, v = .raw u ∧ (binOp op t (.int k x) (.int k y)).run P w = .ok u w := by
  unfold intV at h
  split at h
  case h_4 => split at h; · cases h
              · rename_i hy; cases h; exact ⟨_, rfl, by simp [binOp, Op.intDiv, hy]⟩
  case h_5 => split at h; · cases h
              · rename_i hy; cases h; exact ⟨_, rfl, by simp [binOp, Op.intDiv, hy]⟩
  all_goals first
    | (cases h; exact ⟨_, rfl, by simp [binOp, Op.intArith, Op.intBits, Op.intCmp]⟩)
    | (cases h)

theorem asInts_rel {μ : Bx → Option Nat} {G : Nat → Nat → Prop} : ∀ {xs : List AV} {us : List Value} {zs : List (IntKind × Int)}, RVs μ G w xs us → asInts xs = some zs → us = zs.map fun z => .int z.1 z.2
  | [], us, zs, hr, h => by simp only [RVs] at hr; simp [asInts] at h; subst h hr; rfl
  | x :: xs, us, zs, hr, h => by
    simp only [RVs] at hr
    obtain ⟨u, us', rfl, h1, h2⟩ := hr
    unfold asInts at h
    split at h
    · rename_i heq; cases heq
    · rename_i heq
      cases heq
      simp only [Option.map_eq_some_iff] at h
      obtain ⟨zs', h3, rfl⟩ := h
      simp only [RV] at h1
      subst h1
      rw [asInts_rel h2 h3]; rfl
    · cases h

theorem run_eqItems_int {P : Program} {w : World} (D : Nat) {e : TypeId} {k : IntKind} (he : P.underlying e = some (.int k)) (us vs : List (IntKind × Int)) (hu : ∀ z ∈ us, z.1 = k) (hv : ∀ z ∈ vs, z.1 = k) :
    ∀ (is : List Nat), (∀ i ∈ is, i < us.length ∧ i < vs.length) → (Op.eqItems (D + 1) e 1 (us.map fun z => Value.int z.1 z.2).toArray (vs.map fun z => Value.int z.1 z.2).toArray is).run P w
      = .ok (is.all fun i => (us[i]?).map (·.2) == (vs[i]?).map (·.2)) w
  | [], _ => rfl
  | i :: is, h => by
    obtain ⟨h1, h2⟩ := h i (by simp)
    have ih := run_eqItems_int (w := w) D he us vs hu hv is (fun j hj => h j (by simp [hj]))
    have hp : ∀ (zs : List (IntKind × Int)) (hz : ∀ z ∈ zs, z.1 = k) (hi : i < zs.length), (part e (zs.map fun z => Value.int z.1 z.2).toArray (i * 1)).run P w = .ok (.int k zs[i].2) w := fun zs hz hi => by
      have hk : zs[i].1 = k := hz _ (List.getElem_mem hi)
      simp [part, isAgg, run_underlying he, hi, hk]
    simp only [Op.eqItems, Sem.run_bind, hp us hu h1, hp vs hv h2, Result.andThen_ok, run_equalIn_int w D e k k _ _ he, List.all_cons, List.getElem?_eq_getElem h1, List.getElem?_eq_getElem h2, Option.map_some]
    by_cases hx : us[i].2 = vs[i].2
    · simp [hx, ih]
    · simp [hx]

theorem all_eq_iff (us vs : List Int) (h : us.length = vs.length) : ((List.range us.length).all fun i => us[i]? == vs[i]?) = (us == vs) := by
  rw [Bool.eq_iff_iff, List.all_eq_true, beq_iff_eq]
  constructor
  · intro h1
    refine List.ext_getElem? fun i => ?_
    rcases Nat.lt_or_ge i us.length with hi | hi
    · simpa using h1 i (by simpa using hi)
    · rw [List.getElem?_eq_none hi, List.getElem?_eq_none (by omega)]
  · rintro rfl i _; simp

theorem run_equal_ints {t e : TypeId} {n : Nat} {k : IntKind} {ti : TI} (hte : TeOK P te) (h1 : P.underlying t = some (.array n e)) (h2 : te e = some ti) (h3 : ti.kind = .int k) (h4 : ti.size = 1)
    (us vs : List (IntKind × Int)) (hu : us.length = n) (hv : vs.length = n) (ku : ∀ z ∈ us, z.1 = k) (kv : ∀ z ∈ vs, z.1 = k) :
    (Op.equal t (.agg (us.map fun z => Value.int z.1 z.2).toArray) (.agg (vs.map fun z => Value.int z.1 z.2).toArray)).run P w = .ok (us.map (·.2) == vs.map (·.2)) w := by
  obtain ⟨d, hd, hk⟩ := (hte e ti h2).under
  obtain ⟨i, z, hi, hs, _⟩ := (hte e ti h2).info
  rw [h3] at hk; simp only [TKis] at hk; subst hk
  have := run_equalIn_array (P := P) w 9999 (us.map fun z => Value.int z.1 z.2).toArray (vs.map fun z => Value.int z.1 z.2).toArray h1 hi
  have hc : P.cellsOf e = 1 := by simp [Program.cellsOf, hi, hs, h4]
  unfold Op.equal
  rw [show Op.maxDepth = 9999 + 1 from rfl, this, hc, run_eqItems_int 9998 hd us vs ku kv (List.range n) (fun i hi => by simp at hi; omega)]
  congr 1
  have := all_eq_iff (us.map (·.2)) (vs.map (·.2)) (by simp [hu, hv])
  rw [← this]
  simp [hu]

theorem run_eqGuard_array {op : BinOp} {t e : TypeId} {n : Nat} {k : IntKind} (h1 : P.underlying t = some (.array n e)) (h2 : P.underlying e = some (.int k)) (x y : Operand) (xs ys : Array Value) :
    (eqGuard op t x y (.agg xs) (.agg ys)).run P w = .ok () w := by
  have hg : P.eqGuardType P.depth t = false := by
    have hd : ∃ m, P.depth = m + 2 := ⟨2 * (P.types.size + Made.depth), rfl⟩
    obtain ⟨m, hm⟩ := hd
    rw [hm]; simp [Program.eqGuardType, h1, h2]
  unfold eqGuard
  cases op <;> simp [hg]

theorem run_binop_plain {op : BinOp} {t : TypeId} {xo yo : Operand} {u v r : Value} {ty : TypeId} (ho : o.op = .binOp op t xo yo ty) (hu : a.eval xo = u) (hv : a.eval yo = v)
    (hg : (eqGuard op t xo yo u v).run P w = .ok () w) (hb : (binOp op t u v).run P w = .ok r w) : (execOp a.eval o).run P w = .ok (.value r) w := by
  refine run_value (s := do eqGuard op t xo yo (a.eval xo) (a.eval yo); binOp op t (a.eval xo) (a.eval yo)) ?_ (by unfold execOp; rw [ho])
  rw [hu, hv, Sem.run_bind, hg]; exact hb

theorem run_eql {op : BinOp} {t : TypeId} {u v : Value} {b : Bool} {r : AV} (he : (Op.equal t u v).run P w = .ok b w) (h : eqNeg op b = some r)
    (hbin : ∀ op', op' = .eql ∨ op' = .neq → binOp op' t u v = (match op' with | .eql => (do pure (.bool (← Op.equal t u v))) | _ => (do pure (.bool (!(← Op.equal t u v)))))) :
    ∃ x, r = .raw x ∧ (binOp op t u v).run P w = .ok x w := by
  unfold eqNeg at h
  split at h
  · cases h; refine ⟨_, rfl, ?_⟩; rw [hbin _ (.inl rfl)]; simp [he]
  · cases h; refine ⟨_, rfl, ?_⟩; rw [hbin _ (.inr rfl)]; simp [he]
  · cases h

theorem run_equal_ptr_nil {t e : TypeId} (h : P.underlying t = some (.pointer e)) (p : Option Addr) : (Op.equal t (.pointer p) (.pointer none)).run P w = .ok p.isNone w := by
  have hp : P.pointee t = e := by simp [Program.pointee, h]
  rw [run_equal_pointer_nil w t p (by rw [hp]; exact h)]

theorem run_equal_slice_nil' {t e : TypeId} (h : P.underlying t = some (.slice e)) (x : Option Addr) (n c : Nat) : (Op.equal t (.slice x n c) (.slice none 0 0)).run P w = .ok x.isNone w := run_equal_slice_nil w t e x n c h

theorem out_binOp (hte : TeOK P te) (hv : Valid N g box w) (hρ : Rel g w a ρ) (op : BinOp) (t : TypeId) (x y : Operand) (ty : TypeId) (ho : o.op = .binOp op t x y ty) {v : AV} (h : binV te op t (ρ x) (ρ y) = some v) :
    GOut P N g box w o a d { v } := by
  have hx := (hρ x).1
  have hy := (hρ y).1
  have fin : ∀ u1 u2 r : Value, a.eval x = u1 → a.eval y = u2 → (eqGuard op t x y u1 u2).run P w = .ok () w → (binOp op t u1 u2).run P w = .ok r w → RV g.μ g.G w v r → Top g v r → GOut P N g box w o a d { v } :=
    fun u1 u2 r e1 e2 e3 e4 e5 e6 => .pure hv (run_binop_plain ho e1 e2 e3 e4) e5 e6
  have pl : ∀ u v : Value, (∀ cs, u ≠ .agg cs) → u ≠ .nilIface → (eqGuard op t x y u v).run P w = .ok () w := fun u v h1 h2 => run_eqGuard_plain op t x y u v h1 h2
  revert h hx hy fin pl
  generalize ρ x = x0
  generalize ρ y = y0
  generalize a.eval x = u1
  generalize a.eval y = u2
  intro h hx hy fin pl
  unfold binV at h
  split at h
  · -- whole numbers
    simp only [RV] at hx hy; subst hx; subst hy
    rename_i k aa k' bb
    split at h
    · obtain ⟨u, rfl, hr⟩ := run_shift (P := P) (w := w) (k' := k') h
      exact fin _ _ u rfl rfl (pl _ _ (by simp) (by simp)) (by simpa [binOp] using hr) (by simp only [RV]) trivial
    · obtain ⟨u, rfl, hr⟩ := run_shift (P := P) (w := w) (k' := k') h
      exact fin _ _ u rfl rfl (pl _ _ (by simp) (by simp)) (by simpa [binOp] using hr) (by simp only [RV]) trivial
    · split at h
      · rename_i hk; subst hk
        obtain ⟨u, rfl, hr⟩ := run_int (P := P) (w := w) (t := t) h
        exact fin _ _ u rfl rfl (pl _ _ (by simp) (by simp)) hr (by simp only [RV]) trivial
      · cases h
  · -- bools
    simp only [RV] at hx hy; subst hx; subst hy
    split at h
    · rename_i hk
      obtain ⟨_, _, _, dd, hd, hk2⟩ := kd_some hte hk (by simp)
      simp only [TKis] at hk2; subst hk2
      obtain ⟨r, rfl, hr⟩ := run_eql (run_equal_bool w t _ _ hd) h (by rintro op' (rfl | rfl) <;> rfl)
      exact fin _ _ r rfl rfl (pl _ _ (by simp) (by simp)) hr (by simp only [RV]) trivial
    · cases h
  · -- strings
    simp only [RV] at hx hy; subst hx; subst hy
    rename_i sa sb
    split at h
    · cases h
      refine fin _ _ (.bool (sa.data.toList == sb.data.toList)) rfl rfl (pl _ _ (by simp) (by simp)) ?_ (by simp only [RV]) trivial
      rw [← ByteArray.toList_eq, ← ByteArray.toList_eq]; simp [binOp, Op.stringOp]
    · cases h
      refine fin _ _ (.bool !(sa.data.toList == sb.data.toList)) rfl rfl (pl _ _ (by simp) (by simp)) ?_ (by simp only [RV]) trivial
      rw [← ByteArray.toList_eq, ← ByteArray.toList_eq]; simp [binOp, Op.stringOp]
    · split at h
      · rename_i hsz
        cases h
        refine fin _ _ (.string (sa ++ sb)) rfl rfl (pl _ _ (by simp) (by simp)) ?_ (by simp only [RV]) trivial
        have h2 : IntKind.i64.max = 9223372036854775807 := rfl
        have : ¬ ((sa.size : Int) + (sb.size : Int) > IntKind.i64.max) := by omega
        simp [binOp, Op.stringOp, this]
        omega
      · cases h
    · cases h
  · simp only [RV] at hx hy; subst hx; subst hy
    split at h
    · rename_i e hk
      obtain ⟨_, _, _, dd, hd, hk2⟩ := kd_some hte hk (by simp)
      simp only [TKis] at hk2; subst hk2
      obtain ⟨r, rfl, hr⟩ := run_eql (run_equal_slice_nil' hd none 0 0) h (by rintro op' (rfl | rfl) <;> rfl)
      exact fin _ _ r rfl rfl (pl _ _ (by simp) (by simp)) hr (by simp only [RV]) trivial
    · cases h
  · -- a slice and nil
    simp only [RV] at hy; subst hy
    rename_i n xs fl
    have hsl : ∃ A c, u1 = .slice A n c ∧ (n ≠ 0 → A ≠ none) := by
      simp only [RV] at hx
      rcases hx with ⟨rfl, rfl, _⟩ | ⟨k, off, c, us, rfl, _⟩
      · exact ⟨none, 0, rfl, fun h => absurd rfl h⟩
      · exact ⟨_, c, rfl, fun _ => by simp⟩
    obtain ⟨A, c, rfl, hA⟩ := hsl
    split at h
    · rename_i e hk
      obtain ⟨_, _, _, dd, hd, hk2⟩ := kd_some hte hk (by simp)
      simp only [TKis] at hk2; subst hk2
      cases h
      refine fin _ _ (.bool A.isNone) rfl rfl (pl _ _ (by simp) (by simp)) (by simp [binOp, run_equal_slice_nil' hd]) ?_ (by split <;> trivial)
      split
      · simp only [RV]; exact ⟨_, rfl⟩
      · rename_i hn; have := hA hn; simp only [RV]; cases A <;> simp_all
    · rename_i e hk
      obtain ⟨_, _, _, dd, hd, hk2⟩ := kd_some hte hk (by simp)
      simp only [TKis] at hk2; subst hk2
      cases h
      refine fin _ _ (.bool !A.isNone) rfl rfl (pl _ _ (by simp) (by simp)) (by simp [binOp, run_equal_slice_nil' hd]) ?_ (by split <;> trivial)
      split
      · simp only [RV]; exact ⟨_, rfl⟩
      · rename_i hn; have := hA hn; simp only [RV]; cases A <;> simp_all
    · cases h
  · simp only [RV] at hx hy; subst hy
    obtain ⟨k, off, _, _, rfl, _⟩ := hx
    split at h
    · rename_i e hk
      obtain ⟨_, _, _, dd, hd, hk2⟩ := kd_some hte hk (by simp)
      simp only [TKis] at hk2; subst hk2
      obtain ⟨r, rfl, hr⟩ := run_eql (b := false) (run_equal_slice_nil' hd (some ⟨k, off, none⟩) _ _) h (by rintro op' (rfl | rfl) <;> rfl)
      exact fin _ _ r rfl rfl (pl _ _ (by simp) (by simp)) hr (by simp only [RV]) trivial
    · cases h
  · -- pointers and nil
    simp only [RV] at hx hy; subst hy
    obtain ⟨k, _, rfl⟩ := hx
    split at h
    · rename_i e hk
      obtain ⟨_, _, _, dd, hd, hk2⟩ := kd_some hte hk (by simp)
      simp only [TKis] at hk2; subst hk2
      obtain ⟨r, rfl, hr⟩ := run_eql (P := P) (w := w) (u := .pointer (some ⟨k, _, none⟩)) (v := .pointer none) (b := false) (by rw [run_equal_ptr_nil hd]; rfl) h (by rintro op' (rfl | rfl) <;> rfl)
      exact fin _ _ r rfl rfl (pl _ _ (by simp) (by simp)) hr (by simp only [RV]) trivial
    · cases h
  · simp only [RV] at hx hy; subst hy
    obtain ⟨k, off, _, rfl, _⟩ := hx
    split at h
    · rename_i e hk
      obtain ⟨_, _, _, dd, hd, hk2⟩ := kd_some hte hk (by simp)
      simp only [TKis] at hk2; subst hk2
      obtain ⟨r, rfl, hr⟩ := run_eql (P := P) (w := w) (u := .pointer (some ⟨k, off, none⟩)) (v := .pointer none) (b := false) (by rw [run_equal_ptr_nil hd]; rfl) h (by rintro op' (rfl | rfl) <;> rfl)
      exact fin _ _ r rfl rfl (pl _ _ (by simp) (by simp)) hr (by simp only [RV]) trivial
    · cases h
  · simp only [RV] at hx hy; subst hx; subst hy
    split at h
    · rename_i e hk
      obtain ⟨_, _, _, dd, hd, hk2⟩ := kd_some hte hk (by simp)
      simp only [TKis] at hk2; subst hk2
      obtain ⟨r, rfl, hr⟩ := run_eql (P := P) (w := w) (u := .pointer none) (v := .pointer none) (b := true) (by rw [run_equal_ptr_nil hd]; rfl) h (by rintro op' (rfl | rfl) <;> rfl)
      exact fin _ _ r rfl rfl (pl _ _ (by simp) (by simp)) hr (by simp only [RV]) trivial
    · cases h
  · -- arrays of whole numbers
    simp only [RV] at hx hy
    obtain ⟨us, rfl, hx⟩ := hx
    obtain ⟨vs, rfl, hy⟩ := hy
    split at h
    · rename_i n e zx zy hk hzx hzy
      obtain ⟨_, _, _, dd, hd, hk2⟩ := kd_some hte hk (by simp)
      simp only [TKis] at hk2; subst hk2
      split at h
      · rename_i k bts z hte'
        split at h
        · rename_i hc
          obtain ⟨c1, c2, c3, c4⟩ := hc
          obtain ⟨d', hd', hk'⟩ := (hte _ _ hte').under
          simp only [TKis] at hk'; subst hk'
          rw [asInts_rel hx hzx, asInts_rel hy hzy] at *
          obtain ⟨r, rfl, hr⟩ := run_eql (run_equal_ints (w := w) hte hd hte' rfl rfl zx zy c1 c2 (by simpa using c3) (by simpa using c4)) h (by rintro op' (rfl | rfl) <;> rfl)
          exact fin _ _ r rfl rfl (run_eqGuard_array hd hd' _ _ _ _) hr (by simp only [RV]) trivial
        · cases h
      · cases h
    · cases h
  · cases h
end
end Go.Abs

/- The operations that change no box, one by one. Fourth part: places. -/
namespace Go.Abs
set_option linter.unusedSimpArgs false
set_option linter.unusedVariables false
open Go Go.RowKit
section
variable {P : Program} {N : Ent} {g : Ghost} {box : Boxes} {w : World} {o : Oper} {a : Act} {d : Nat} {ρ : Operand → AV} {te : TypeId → Option TI}

theorem addr_add (k o j : Nat) : (⟨k, o, none⟩ : Addr).add j = ⟨k, o + j, none⟩ := by unfold Addr.add; split <;> simp_all

theorem st_fields {fs : List (Nat × TypeId)} {dd : TypeDesc} (h : TKis (.st fs) dd) : ∃ fields : Array Field, dd = .struct fields ∧ ∀ (i : Nat) (p : Nat × TypeId), fs[i]? = some p → ∃ f : Field, fields[i]? = some f ∧ f.offset = p.1 ∧ f.type = p.2 := by
  obtain ⟨fields, rfl, rfl⟩ := h
  refine ⟨fields, rfl, fun i p hp => ?_⟩
  simp only [List.getElem?_map, Option.map_eq_some_iff] at hp
  obtain ⟨f, h1, rfl⟩ := hp
  exact ⟨f, by simpa using h1, rfl, rfl⟩

theorem run_fieldAt (hte : TeOK P te) {s : TypeId} {fs : List (Nat × TypeId)} (hk : kd te s = .st fs) {i : Nat} {p : Nat × TypeId} (hp : fs[i]? = some p) {ti : TI} (ht : te p.2 = some ti) (h0 : ti.size ≠ 0) (k off : Nat) :
    (Instr.fieldAt s (.pointer (some ⟨k, off, none⟩)) i).run P w = .ok (.pointer (some ⟨k, off + p.1, none⟩)) w := by
  obtain ⟨_, _, _, dd, hd, hk2⟩ := kd_some hte hk (by simp)
  obtain ⟨fields, rfl, hf⟩ := st_fields hk2
  obtain ⟨f, h1, h2, h3⟩ := hf i p hp
  rw [← h3] at ht
  simp [Instr.fieldAt, run_underlying hd, h1, Instr.sureAddr, fieldPlace, run_sizeOf hte ht, h0, addr_add, h2]

theorem Read.dropAll {G : Nat → Nat → Prop} {k o : Nat} {us : List Value} (h : Read w G k o us) (n : Nat) : Read w G k (o + n) (us.drop n) := Read.drop h n

theorem out_fieldAddr (hte : TeOK P te) (hv : Valid N g box w) (hρ : Rel g w a ρ) (s : TypeId) (x : Operand) (i : Nat) (ho : o.op = .fieldAddr s x i) {v : AV} (h : fieldAddrV te s i (ρ x) = some v) : GOut P N g box w o a d { v } := by
  have hx := (hρ x).1
  have key : ∀ u r : Value, a.eval x = u → (Instr.fieldAt s u i).run P w = .ok r w → (execOp a.eval o).run P w = .ok (.value r) w := fun u r he hr => run_value (by rw [← he] at hr; exact hr) (by unfold execOp; rw [ho])
  revert h hx key
  generalize ρ x = x0
  generalize a.eval x = u0
  intro h hx key
  unfold fieldAddrV at h
  split at h
  · rename_i fs b off hk
    simp only [RV] at hx
    obtain ⟨k, hb, rfl⟩ := hx
    simp only [Option.bind_eq_some_iff] at h
    obtain ⟨p, hp, ti, ht, h⟩ := h
    split at h
    · cases h
    · cases h
      exact .pure hv (key _ _ rfl (run_fieldAt hte hk hp ht ‹_› k off)) (by simp only [RV]; exact ⟨k, hb, rfl⟩) trivial
  · rename_i fs xs hk
    simp only [RV] at hx
    obtain ⟨k, off, us, rfl, hr, hd⟩ := hx
    simp only [Option.bind_eq_some_iff] at h
    obtain ⟨p, hp, ti, ht, h⟩ := h
    split at h
    · cases h
    · cases h
      exact .pure hv (key _ _ rfl (run_fieldAt hte hk hp ht ‹_› k off)) (by simp only [RV]; exact ⟨k, off + p.1, us.drop p.1, rfl, hr.drop _, hd.drop _⟩) trivial
  · cases h

theorem run_part (hte : TeOK P te) {t : TypeId} {cs : List AV} {us : List Value} (hr : RVs g.μ g.G w cs us) {off : Nat} {v : AV} (h : partV te t cs off = some v) :
    ∃ u, (part t us.toArray off).run P w = .ok u w ∧ RV g.μ g.G w v u ∧ Top g v u := by
  obtain ⟨ti, ht, h1⟩ := part_rel (w := w) (g := g) hte hr h
  have hl := hr.length
  split at h1
  · rename_i hagg
    obtain ⟨h2, rfl⟩ := h1
    refine ⟨.agg ((us.drop off).take ti.size).toArray, ?_, ?_, trivial⟩
    · simp only [part, Sem.run_bind, run_isAgg hte ht, Result.andThen_ok, hagg, if_true, run_sizeOf hte ht, Sem.run_pure]
      congr 2
      apply Array.ext'
      simp [List.take_drop, Nat.add_comm]
    · simp only [RV]; exact ⟨_, rfl, (hr.drop off).take ti.size⟩
  · rename_i hagg
    obtain ⟨x, hx, rfl⟩ := h1
    obtain ⟨u, hu, hrv⟩ := hr.get off x hx
    refine ⟨u, ?_, hrv.strip, Top.strip _ _⟩
    simp [part, run_isAgg hte ht, hagg, hu]

theorem out_field (hte : TeOK P te) (hv : Valid N g box w) (hρ : Rel g w a ρ) (t : TypeId) (x : Operand) (i : Nat) (ho : o.op = .field t x i) {v : AV} (h : fieldV te t i (ρ x) = some v) : GOut P N g box w o a d { v } := by
  have hx := (hρ x).1
  have key : ∀ u r : Value, a.eval x = u → (Instr.field t u i).run P w = .ok r w → (execOp a.eval o).run P w = .ok (.value r) w := fun u r he hr => run_value (by rw [← he] at hr; exact hr) (by unfold execOp; rw [ho])
  revert h hx key
  generalize ρ x = x0
  generalize a.eval x = u0
  intro h hx key
  unfold fieldV at h
  split at h
  · rename_i fs cs hk
    simp only [RV] at hx
    obtain ⟨us, rfl, hr⟩ := hx
    simp only [Option.bind_eq_some_iff] at h
    obtain ⟨p, hp, h⟩ := h
    obtain ⟨_, _, _, dd, hd, hk2⟩ := kd_some hte hk (by simp)
    obtain ⟨fields, rfl, hf⟩ := st_fields hk2
    obtain ⟨f, h1, h2, h3⟩ := hf i p hp
    obtain ⟨u, hu, h4, h5⟩ := run_part (P := P) (w := w) (g := g) hte hr h
    refine .pure hv (key _ u rfl ?_) h4 h5
    simp only [Instr.field, Sem.run_bind, run_underlying hd, Result.andThen_ok, h1, asAgg, Sem.run_pure, h2, h3, hu]
  · cases h

theorem out_index (hte : TeOK P te) (hv : Valid N g box w) (hρ : Rel g w a ρ) (t : TypeId) (x ix : Operand) (ho : o.op = .index t x ix) {v : AV} (h : indexV te t (ρ x) (ρ ix) = some v) : GOut P N g box w o a d { v } := by
  have hx := (hρ x).1
  have hi := (hρ ix).1
  have key : ∀ u1 u2 r : Value, a.eval x = u1 → a.eval ix = u2 → (Instr.index t u1 u2).run P w = .ok r w → (execOp a.eval o).run P w = .ok (.value r) w := fun u1 u2 r e1 e2 hr => run_value (by rw [← e1, ← e2] at hr; exact hr) (by unfold execOp; rw [ho])
  revert h hx hi key
  generalize ρ x = x0
  generalize ρ ix = i0
  generalize a.eval x = u1
  generalize a.eval ix = u2
  intro h hx hi key
  unfold indexV at h
  split at h
  · rename_i k i
    simp only [RV] at hi; subst hi
    split at h
    · rename_i n e cs hk
      simp only [RV] at hx
      obtain ⟨us, rfl, hr⟩ := hx
      simp only [Option.bind_eq_some_iff] at h
      obtain ⟨ti, ht, h⟩ := h
      obtain ⟨_, _, _, dd, hd, hk2⟩ := kd_some hte hk (by simp)
      simp only [TKis] at hk2; subst hk2
      split at h
      · rename_i hb
        obtain ⟨u, hu, h4, h5⟩ := run_part (P := P) (w := w) (g := g) hte hr h
        refine .pure hv (key _ _ u rfl rfl ?_) h4 h5
        simp only [Instr.index, asIntOf, Sem.run_bind, Sem.run_pure, Result.andThen_ok, run_underlying hd, hb, and_self, if_true, run_sizeOf hte ht, hu]
      · cases h
    · rename_i s hk
      simp only [RV] at hx; subst hx
      obtain ⟨_, _, _, dd, hd, hk2⟩ := kd_some hte hk (by simp)
      simp only [TKis] at hk2; subst hk2
      split at h
      · rename_i hb
        simp only [Option.map_eq_some_iff] at h
        obtain ⟨b, hb2, rfl⟩ := h
        refine .pure hv (key _ _ (.int .u8 b.toNat) rfl rfl ?_) (by simp only [RV]) trivial
        have hs : s[i.toNat]? = some b := by
          obtain ⟨⟨l⟩⟩ := s
          have hl : i.toNat < l.length := (List.getElem?_eq_some_iff.1 hb2).1
          have := (List.getElem?_eq_some_iff.1 hb2).2
          have h2 : l[i.toNat]'hl = b := by simpa using this
          rw [getElem?_pos _ _ (by simpa [ByteArray.size] using hl)]
          exact congrArg some h2
        simp [Instr.index, asIntOf, run_underlying hd, hb, hs]
      · cases h
    · cases h
  · cases h

theorem out_indexAddr (hte : TeOK P te) (hv : Valid N g box w) (hρ : Rel g w a ρ) (t : TypeId) (x ix : Operand) (ho : o.op = .indexAddr t x ix) {v : AV} (h : indexAddrV te t (ρ x) (ρ ix) = some v) : GOut P N g box w o a d { v } := by
  have hx := (hρ x).1
  have hi := (hρ ix).1
  have key : ∀ u1 u2 r : Value, a.eval x = u1 → a.eval ix = u2 → (Instr.indexAt t u1 u2).run P w = .ok r w → (execOp a.eval o).run P w = .ok (.value r) w := fun u1 u2 r e1 e2 hr => run_value (by rw [← e1, ← e2] at hr; exact hr) (by unfold execOp; rw [ho])
  revert h hx hi key
  generalize ρ x = x0
  generalize ρ ix = i0
  generalize a.eval x = u1
  generalize a.eval ix = u2
  intro h hx hi key
  unfold indexAddrV at h
  split at h
  · rename_i k i
    simp only [RV] at hi; subst hi
    have hrun : ∀ (A : Addr) (n : Nat) (e : TypeId) (ti : TI), A.spot = none → te e = some ti → (0 ≤ i ∧ i < n) → P.underlying t = some (.array n e) →
        (Instr.indexAt t (.pointer (some A)) (.int k i)).run P w = .ok (.pointer (some (A.add (i.toNat * ti.size)))) w := fun A n e ti hA ht hb hd => by
      simp [Instr.indexAt, asIntOf, run_underlying hd, Instr.sureAddr, hb, run_sizeOf hte ht]
    have hrun2 : ∀ (A : Addr) (n c : Nat) (e : TypeId) (ti : TI), te e = some ti → (0 ≤ i ∧ i < n) → P.underlying t = some (.slice e) →
        (Instr.indexAt t (.slice (some A) n c) (.int k i)).run P w = .ok (.pointer (some (A.add (i.toNat * ti.size)))) w := fun A n c e ti ht hb hd => by
      simp [Instr.indexAt, asIntOf, run_underlying hd, hb, run_sizeOf hte ht]
    split at h
    · rename_i n e b off hk
      simp only [RV] at hx
      obtain ⟨kk, hb, rfl⟩ := hx
      simp only [Option.bind_eq_some_iff] at h
      obtain ⟨ti, ht, h⟩ := h
      obtain ⟨_, _, _, dd, hd, hk2⟩ := kd_some hte hk (by simp)
      simp only [TKis] at hk2; subst hk2
      split at h
      · cases h
        exact .pure hv (key _ _ _ rfl rfl (hrun _ n e ti rfl ht ‹_› hd)) (by simp only [RV]; exact ⟨kk, hb, by rw [addr_add]⟩) trivial
      · cases h
    · rename_i n e xs hk
      simp only [RV] at hx
      obtain ⟨kk, off, us, rfl, hr, hdd⟩ := hx
      simp only [Option.bind_eq_some_iff] at h
      obtain ⟨ti, ht, h⟩ := h
      obtain ⟨_, _, _, dd, hd, hk2⟩ := kd_some hte hk (by simp)
      simp only [TKis] at hk2; subst hk2
      split at h
      · cases h
        exact .pure hv (key _ _ _ rfl rfl (hrun _ n e ti rfl ht ‹_› hd)) (by simp only [RV]; exact ⟨kk, _, us.drop (i.toNat * ti.size), by rw [addr_add], hr.drop _, hdd.drop _⟩) trivial
      · cases h
    · rename_i e n xs fl hk
      simp only [Option.bind_eq_some_iff] at h
      obtain ⟨ti, ht, h⟩ := h
      obtain ⟨_, _, _, dd, hd, hk2⟩ := kd_some hte hk (by simp)
      simp only [TKis] at hk2; subst hk2
      split at h
      · rename_i hb
        cases h
        simp only [RV] at hx
        rcases hx with ⟨_, rfl, _⟩ | ⟨kk, off, c, us, rfl, _, hr, hdd⟩
        · omega
        · exact .pure hv (key _ _ _ rfl rfl (hrun2 _ n c e ti ht hb hd)) (by simp only [RV]; exact ⟨kk, _, us.drop (i.toNat * ti.size), by rw [addr_add], hr.drop _, hdd.drop _⟩) trivial
      · cases h
    · rename_i e b off n c z hk
      simp only [Option.bind_eq_some_iff] at h
      obtain ⟨ti, ht, h⟩ := h
      obtain ⟨_, _, _, dd, hd, hk2⟩ := kd_some hte hk (by simp)
      simp only [TKis] at hk2; subst hk2
      split at h
      · rename_i hb
        cases h
        simp only [RV] at hx
        obtain ⟨kk, oo, c', hm, rfl, _, hnc, hoo⟩ := hx
        have : oo = off := by rcases hoo with h | h; · exact h
                              · omega
        subst this
        exact .pure hv (key _ _ _ rfl rfl (hrun2 _ n _ e ti ht ⟨hb.1, hb.2.1⟩ hd)) (by simp only [RV]; exact ⟨kk, hm, by rw [addr_add]⟩) trivial
      · cases h
    · cases h
  · cases h

theorem out_len (hte : TeOK P te) (hv : Valid N g box w) (hρ : Rel g w a ρ) (x : Operand) (t : TypeId) (args : Array Operand) (ts : Array TypeId) (ho : o.op = .call { callee := .builtin .len, args := args, argTypes := ts })
    (h1 : args.toList = [x]) (rest : List TypeId) (h2 : ts.toList = t :: rest) {v : AV} (h : lenV te t (ρ x) = some v) : GOut P N g box w o a d { v } := by
  have hx := (hρ x).1
  have ha : args = #[x] := by rw [← Array.toArray_toList (xs := args), h1]
  have hts : ts[0]? = some t := by rw [← Array.toArray_toList (xs := ts), h2]; simp
  have key : ∀ u r : Value, a.eval x = u → (Builtin.len_ ts o.type #[u]).run P w = .ok r w → (execOp a.eval o).run P w = .ok (.value r) w := fun u r he hr => by
    subst ha
    unfold execOp; rw [ho]
    simp only [resolve, Sem.run_bind, Sem.run_pure, Result.andThen_ok, invoke, builtin]
    simp [he, hr]
  revert h hx key
  generalize ρ x = x0
  generalize a.eval x = u0
  intro h hx key
  have fin : ∀ r : Value, (Builtin.len_ ts o.type #[u0]).run P w = .ok r w → v = .raw r → GOut P N g box w o a d { v } := fun r h1 h2 => by subst h2; exact .pure hv (key _ _ rfl h1) (by simp only [RV]) trivial
  unfold lenV at h
  split at h
  · rename_i s hk
    obtain ⟨_, _, _, dd, hd, hk2⟩ := kd_some hte hk (by simp)
    simp only [TKis] at hk2; subst hk2; cases h
    simp only [RV] at hx; subst hx
    exact fin _ (by simp [Builtin.len_, hts, run_underlying hd, goInt]) rfl
  · rename_i n e hk
    obtain ⟨_, _, _, dd, hd, hk2⟩ := kd_some hte hk (by simp)
    simp only [TKis] at hk2; subst hk2; cases h
    exact fin _ (by simp [Builtin.len_, hts, run_underlying hd, goInt]) rfl
  · rename_i e hk
    obtain ⟨_, _, _, dd, hd, hk2⟩ := kd_some hte hk (by simp)
    simp only [TKis] at hk2; subst hk2; cases h
    simp only [RV] at hx; subst hx
    exact fin _ (by simp [Builtin.len_, hts, run_underlying hd, goInt]) rfl
  · rename_i e n xs fl hk
    obtain ⟨_, _, _, dd, hd, hk2⟩ := kd_some hte hk (by simp)
    simp only [TKis] at hk2; subst hk2; cases h
    simp only [RV] at hx
    rcases hx with ⟨rfl, rfl, _⟩ | ⟨kk, off, c, us, rfl, _, hr, hdd⟩
    · exact fin _ (by simp [Builtin.len_, hts, run_underlying hd, goInt]) rfl
    · exact fin _ (by simp [Builtin.len_, hts, run_underlying hd, goInt]) rfl
  · rename_i e b off n c z hk
    obtain ⟨_, _, _, dd, hd, hk2⟩ := kd_some hte hk (by simp)
    simp only [TKis] at hk2; subst hk2; cases h
    simp only [RV] at hx
    obtain ⟨kk, oo, c', hm, rfl, _, hnc, hoo⟩ := hx
    exact fin _ (by simp [Builtin.len_, hts, run_underlying hd, goInt]) rfl
  · cases h

theorem out_min (hv : Valid N g box w) (hρ : Rel g w a ρ) (x y : Operand) (args : Array Operand) (ts : Array TypeId) (ho : o.op = .call { callee := .builtin .min, args := args, argTypes := ts })
    (h1 : args.toList = [x, y]) {v : AV} (h : min2V (ρ x) (ρ y) = some v) : GOut P N g box w o a d { v } := by
  have hx := (hρ x).1
  have hy := (hρ y).1
  have ha : args = #[x, y] := by rw [← Array.toArray_toList (xs := args), h1]
  have key : ∀ u1 u2 r : Value, a.eval x = u1 → a.eval y = u2 → (Builtin.min_ ts o.type #[u1, u2]).run P w = .ok r w → (execOp a.eval o).run P w = .ok (.value r) w := fun u1 u2 r e1 e2 hr => by
    subst ha
    unfold execOp; rw [ho]
    simp only [resolve, Sem.run_bind, Sem.run_pure, Result.andThen_ok, invoke, builtin]
    simp [e1, e2, hr]
  revert h hx hy key
  generalize ρ x = x0
  generalize a.eval x = u0
  generalize ρ y = y0
  generalize a.eval y = u1
  intro h hx hy key
  unfold min2V at h
  split at h
  · cases h
    simp only [RV] at hx hy; subst hx; subst hy
    rename_i k x k' y
    exact .pure hv (key _ _ (.int k (if y < x then y else x)) rfl rfl (by simp [Builtin.min_, Builtin.min2])) (by simp only [RV]) trivial
  · cases h

theorem out_toArray (hte : TeOK P te) (hv : Valid N g box w) (hρ : Rel g w a ρ) (t : TypeId) (x : Operand) (ho : o.op = .sliceToArrayPointer t x) {v : AV}
    (h : (match kd te t, ρ x with | .arr n _, .sl m xs _ => if n ≤ m ∧ 0 < n then some (AV.iptr xs) else none | .arr n _, .view b off m _ _ => if n ≤ m ∧ 0 < n then some (.ptr b off) else none | _, _ => none) = some v) : GOut P N g box w o a d { v } := by
  have hx := (hρ x).1
  have key : ∀ u r : Value, a.eval x = u → (Instr.arrayAt t u).run P w = .ok r w → (execOp a.eval o).run P w = .ok (.value r) w := fun u r he hr => run_value (by rw [← he] at hr; exact hr) (by unfold execOp; rw [ho])
  revert h hx key
  generalize ρ x = x0
  generalize a.eval x = u0
  intro h hx key
  split at h
  · rename_i n e m xs fl hk
    obtain ⟨_, _, _, dd, hd, hk2⟩ := kd_some hte hk (by simp)
    simp only [TKis] at hk2; subst hk2
    split at h
    · rename_i hn
      cases h
      simp only [RV] at hx
      rcases hx with ⟨_, rfl, _⟩ | ⟨kk, off, c, us, rfl, _, hr, hdd⟩
      · omega
      · refine .pure hv (key _ (.pointer (some ⟨kk, off, none⟩)) rfl ?_) (by simp only [RV]; exact ⟨kk, off, us, rfl, hr, hdd⟩) trivial
        simp [Instr.arrayAt, run_underlying hd, hn.1, Nat.not_lt.2 hn.1]
    · cases h
  · rename_i n e b off m c z hk
    obtain ⟨_, _, _, dd, hd, hk2⟩ := kd_some hte hk (by simp)
    simp only [TKis] at hk2; subst hk2
    split at h
    · rename_i hn
      cases h
      simp only [RV] at hx
      obtain ⟨kk, oo, c', hm, rfl, _, hnc, hoo⟩ := hx
      have : oo = off := by rcases hoo with h | h; · exact h
                            · omega
      subst this
      refine .pure hv (key _ (.pointer (some ⟨kk, oo, none⟩)) rfl ?_) (by simp only [RV]; exact ⟨kk, hm, rfl⟩) trivial
      simp [Instr.arrayAt, run_underlying hd, Nat.not_lt.2 hn.1]
    · cases h
  · cases h
end
end Go.Abs

/- The operations that change no box, one by one. Fifth part: slices of slices, conversions, literals. -/
namespace Go.Abs
set_option linter.unusedSimpArgs false
set_option linter.unusedVariables false
open Go Go.RowKit
section
variable {P : Program} {N : Ent} {g : Ghost} {box : Boxes} {w : World} {o : Oper} {a : Act} {d : Nat} {ρ : Operand → AV} {te : TypeId → Option TI}

theorem bound_rel {m : Nat} {v : AV} {n : Nat} (h : bound m v = some n) {μ : Bx → Option Nat} {G : Nat → Nat → Prop} {u : Value} (hr : RV μ G w v u) :
    ∃ k : IntKind, ∃ i : Int, u = .int k i ∧ 0 ≤ i ∧ i ≤ m ∧ n = i.toNat := by
  unfold bound at h
  split at h
  · split at h
    · rename_i k i hb
      cases h; simp only [RV] at hr
      exact ⟨k, i, hr, hb.1, hb.2, rfl⟩
    · cases h
  · cases h

theorem run_sliceBound' {k : IntKind} {i : Int} {y : Nat} {c : BoundsCode} (h0 : 0 ≤ i) (h1 : i ≤ y) : (Instr.sliceBound (.int k i) y c).run P w = .ok i.toNat w := by
  simp [Instr.sliceBound, asIntOf, h0, h1]

/-- operands that may be there -/
def ORel (g : Ghost) (w : World) (x : Option AV) (u : Option Value) : Prop :=
  match x, u with
  | none, none => True
  | some v, some u => RV g.μ g.G w v u
  | _, _ => False

theorem ORel.of (hρ : Rel g w a ρ) (x : Option Operand) : ORel g w (x.map ρ) (x.map a.eval) := by
  cases x with
  | none => trivial
  | some x => exact (hρ x).1

/-- the three bounds of a slice expression -/
theorem run_sliceBounds {isS : Bool} {len cap cap' : Nat} (hlc : len ≤ cap) (hc : cap' ≤ cap) {lo hi mx : Option AV} {lo' hi' mx' : Option Value} (hl : ORel g w lo lo') (hh : ORel g w hi hi') (hm : ORel g w mx mx')
    {l h m : Nat} (hb : bounds len cap' lo hi mx = some (l, h, m)) :
    (Instr.sliceBounds isS len cap lo' hi' mx').run P w = .ok (l, h, if mx.isSome then m else cap) w ∧ l ≤ h ∧ (hi ≠ none ∨ h = len) ∧ (mx.isSome = true → h ≤ m ∧ m ≤ cap') ∧ (mx.isSome = false → hi ≠ none → h ≤ cap') := by
  unfold bounds at hb
  simp only [Option.bind_eq_some_iff, Option.map_eq_some_iff] at hb
  obtain ⟨m', h1, h'', h2, l', h3, h4⟩ := hb
  cases h4
  have hlo : (lo' = none ∧ l = 0) ∨ ∃ k i, lo' = some (.int k i) ∧ 0 ≤ i ∧ i ≤ h ∧ l = i.toNat := by
    cases lo with
    | none => cases lo' with
      | none => cases h3; exact .inl ⟨rfl, rfl⟩
      | some _ => exact hl.elim
    | some v => cases lo' with
      | none => exact hl.elim
      | some u =>
        obtain ⟨k, i, rfl, i0, i1, rfl⟩ := bound_rel h3 hl
        exact .inr ⟨k, i, rfl, i0, i1, rfl⟩
  have hhi : (hi = none ∧ hi' = none ∧ mx = none ∧ h = len) ∨ ∃ k i, hi ≠ none ∧ hi' = some (.int k i) ∧ 0 ≤ i ∧ i ≤ m ∧ h = i.toNat := by
    cases hi with
    | none => cases hi' with
      | some _ => exact hh.elim
      | none => cases mx with
        | none => cases h2; exact .inl ⟨rfl, rfl, rfl, rfl⟩
        | some _ => cases h2
    | some v => cases hi' with
      | none => exact hh.elim
      | some u =>
        have h2' : bound m v = some h := by cases mx <;> exact h2
        obtain ⟨k, i, rfl, i0, i1, rfl⟩ := bound_rel h2' hh
        exact .inr ⟨k, i, by simp, rfl, i0, i1, rfl⟩
  have hmx : (mx = none ∧ mx' = none ∧ m = cap') ∨ ∃ k i, mx.isSome = true ∧ mx' = some (.int k i) ∧ 0 ≤ i ∧ i ≤ cap' ∧ m = i.toNat := by
    cases mx with
    | none => cases mx' with
      | none => cases h1; exact .inl ⟨rfl, rfl, rfl⟩
      | some _ => exact hm.elim
    | some v => cases mx' with
      | none => exact hm.elim
      | some u =>
        obtain ⟨k, i, rfl, i0, i1, rfl⟩ := bound_rel h1 hm
        exact .inr ⟨k, i, rfl, rfl, i0, i1, rfl⟩
  clear h1 h2 h3 hl hh hm
  have hlh : l ≤ h := by rcases hlo with ⟨_, e⟩ | ⟨_, i, _, e1, e2, e3⟩ <;> omega
  refine ⟨?_, hlh, ?_, ?_, ?_⟩
  · rcases hmx with ⟨rfl, rfl, e⟩ | ⟨km, im, e1, rfl, m0, m1, rfl⟩
    · rcases hhi with ⟨rfl, rfl, _, rfl⟩ | ⟨kh, ih, _, rfl, h0, h1, rfl⟩
      · rcases hlo with ⟨rfl, rfl⟩ | ⟨kl, il, rfl, l0, l1, rfl⟩
        · simp [Instr.sliceBounds]
        · simp [Instr.sliceBounds, Instr.sliceBound, asIntOf, l0, l1]
      · have h1' : ih ≤ cap := by omega
        rcases hlo with ⟨rfl, rfl⟩ | ⟨kl, il, rfl, l0, l1, rfl⟩
        · simp [Instr.sliceBounds, Instr.sliceBound, asIntOf, h0, h1']
        · simp [Instr.sliceBounds, run_sliceBound' l0 l1, run_sliceBound' h0 h1']
    · have m1' : im ≤ cap := by omega
      rcases hhi with ⟨_, _, e2, _⟩ | ⟨kh, ih, _, rfl, h0, h1, rfl⟩
      · rw [e2] at e1; cases e1
      · rcases hlo with ⟨rfl, rfl⟩ | ⟨kl, il, rfl, l0, l1, rfl⟩
        · simp [Instr.sliceBounds, run_sliceBound' h0 h1, run_sliceBound' m0 m1', e1]
        · simp [Instr.sliceBounds, run_sliceBound' l0 l1, run_sliceBound' h0 h1, run_sliceBound' m0 m1', e1]
  · rcases hhi with ⟨_, _, _, e⟩ | ⟨_, _, e, _⟩
    · exact .inr e
    · exact .inl e
  · intro hs
    rcases hmx with ⟨rfl, _⟩ | ⟨km, im, e1, rfl, m0, m1, e4⟩
    · cases hs
    · rcases hhi with ⟨_, _, e2, _⟩ | ⟨kh, ih, _, _, h0, h1, e5⟩
      · rw [e2] at e1; cases e1
      · exact ⟨by omega, by omega⟩
  · intro hs hne
    rcases hmx with ⟨rfl, _, e⟩ | ⟨km, im, e1, _⟩
    · rcases hhi with ⟨e2, _⟩ | ⟨kh, ih, _, _, h0, h1, e5⟩
      · exact absurd e2 hne
      · omega
    · rw [hs] at e1; cases e1
end
section
variable {P : Program} {N : Ent} {g : Ghost} {box : Boxes} {w : World} {o : Oper} {a : Act} {d : Nat} {ρ : Operand → AV} {te : TypeId → Option TI}

theorem FlOK.cut {g : Ghost} {fl : Fl} {xs : List AV} {n c sz l h m M : Nat} {full : Bool} {k o : Nat} (hn : n ≤ c) (hf : FlOK g fl xs.length (.slice (some ⟨k, o, none⟩) n c)) (hlh : l ≤ h) (hM : M = if full then m else c)
    (hmh : full = true → h ≤ m ∧ m ≤ n) (hhn : h ≤ M) (A : Option Addr) (hA : A = some ⟨k, if M = l then o else o + l * sz, none⟩) :
    FlOK g (cutFl sz n l h m full fl) ((xs.drop (l * sz)).take ((h - l) * sz)).length (.slice A (h - l) (M - l)) := by
  subst hA
  cases full with
  | true =>
    simp only [if_true] at hM
    subst hM
    have : cutFl sz n l h M true fl = if M = h then .full else .bor := by cases fl <;> rfl
    rw [this]
    split
    · simp only [FlOK]; omega
    · trivial
  | false =>
    simp only [Bool.false_eq_true, if_false] at hM
    subst hM
    cases fl with
    | bor => trivial
    | full =>
      simp only [cutFl, Bool.false_eq_true, if_false]
      simp only [FlOK] at hf
      split
      · simp only [FlOK]; omega
      · trivial
    | own i z =>
      simp only [cutFl, Bool.false_eq_true, if_false]
      simp only [FlOK] at hf
      split
      · rename_i hh
        obtain ⟨rfl, rfl⟩ := hh
        simp only [FlOK]
        refine ⟨hf.1, ?_⟩
        rcases hf.2 with h1 | ⟨h1, _⟩ | ⟨k', o', lo', hi', e1, e2, e3, e4⟩
        · exact .inl h1
        · cases h1
        · cases e1
          have h1 : (h - l) * z = h * z - l * z := Nat.sub_mul _ _ _
          have h2 : (M - l) * z = M * z - l * z := Nat.sub_mul _ _ _
          have h3 : l * z ≤ h * z := Nat.mul_le_mul_right _ hlh
          have h4 : h * z ≤ M * z := Nat.mul_le_mul_right _ hn
          have h5 : ((xs.drop (l * z)).take ((h - l) * z)).length = (h - l) * z := by simp only [List.length_take, List.length_drop]; omega
          refine .inr (.inr ⟨k, _, lo', hi', rfl, h5, e3, ?_⟩)
          rcases e4 with e4 | ⟨e4, e5⟩
          · exact .inl (by omega)
          · by_cases hcl : M = l
            · exact .inl (by omega)
            · rw [if_neg hcl, h5]
              exact .inr ⟨by omega, by omega⟩
      · trivial

theorem out_slice (hte : TeOK P te) (hv : Valid N g box w) (hρ : Rel g w a ρ) (t : TypeId) (x : Operand) (lo hi mx : Option Operand) (ho : o.op = .slice t x lo hi mx) {v : AV}
    (h : sliceV te t (ρ x) (lo.map ρ) (hi.map ρ) (mx.map ρ) = some v) : GOut P N g box w o a d { v } := by
  have hx := (hρ x)
  have key : ∀ u r : Value, a.eval x = u → (Instr.sliceAt t u (lo.map a.eval) (hi.map a.eval) (mx.map a.eval)).run P w = .ok r w → (execOp a.eval o).run P w = .ok (.value r) w := fun u r he hr => run_value (by rw [← he] at hr; exact hr) (by unfold execOp; rw [ho])
  have hl := ORel.of hρ lo
  have hh := ORel.of hρ hi
  have hm := ORel.of hρ mx
  revert h hx key hl hh hm
  generalize ρ x = x0
  generalize a.eval x = u0
  generalize lo.map ρ = lo0
  generalize hi.map ρ = hi0
  generalize mx.map ρ = mx0
  generalize lo.map a.eval = lo1
  generalize hi.map a.eval = hi1
  generalize mx.map a.eval = mx1
  intro h hx key hl hh hm
  unfold sliceV at h
  split at h
  · rename_i s hk
    obtain ⟨_, _, _, dd, hd, hk2⟩ := kd_some hte hk (by simp)
    simp only [TKis] at hk2; subst hk2
    have hx := hx.1
    simp only [RV] at hx; subst hx
    split at h
    · cases h
    · rename_i hmn
      simp only [Option.map_eq_some_iff] at h
      obtain ⟨⟨l, hi', m⟩, hb, rfl⟩ := h
      cases mx0 with
      | some _ => simp at hmn
      | none =>
        cases mx1 with
        | some _ => exact hm.elim
        | none =>
          obtain ⟨r1, r2, _⟩ := run_sliceBounds (P := P) (isS := false) (Nat.le_refl s.size) (Nat.le_refl _) hl hh hm hb
          refine .pure hv (key _ (.string (s.extract l hi')) rfl ?_) (by simp only [RV]) trivial
          simp [Instr.sliceAt, run_underlying hd, Instr.slice, r1]
  · rename_i e hk
    obtain ⟨_, _, _, dd, hd, hk2⟩ := kd_some hte hk (by simp)
    simp only [TKis] at hk2; subst hk2
    have hx := hx.1
    simp only [RV] at hx; subst hx
    simp only [Option.bind_eq_some_iff, Option.map_eq_some_iff] at h
    obtain ⟨ti, ht, ⟨l, hi', m⟩, hb, rfl⟩ := h
    obtain ⟨r1, r2, r3, r4, r5⟩ := run_sliceBounds (P := P) (isS := true) (Nat.le_refl 0) (Nat.le_refl _) hl hh hm hb
    have z0 : (if mx0.isSome then m else 0) = 0 ∧ hi' = 0 := by
      rcases r3 with r3 | r3
      · cases hs : mx0.isSome with
        | true => have := r4 hs; simp; omega
        | false => have := r5 hs r3; simp; omega
      · cases hs : mx0.isSome with
        | true => have := r4 hs; simp; omega
        | false => simp; omega
    have z3 : l = 0 := by omega
    rw [z0.1, z0.2, z3] at r1
    refine .pure hv (key _ (.slice none 0 0) rfl ?_) (by simp only [RV]) trivial
    simp [Instr.sliceAt, run_underlying hd, Instr.slice, r1, run_sizeOf hte ht]
  · -- a slice by value
    rename_i e n xs fl hk
    obtain ⟨_, _, _, dd, hd, hk2⟩ := kd_some hte hk (by simp)
    simp only [TKis] at hk2; subst hk2
    simp only [Option.bind_eq_some_iff, Option.map_eq_some_iff] at h
    obtain ⟨ti, ht, ⟨l, h', m⟩, hb, rfl⟩ := h
    obtain ⟨hx, htop⟩ := hx
    simp only [RV] at hx
    rcases hx with ⟨rfl, rfl, rfl⟩ | ⟨k, off, c, us, rfl, hnc, hr, hdd⟩
    · obtain ⟨r1, r2, r3, r4, r5⟩ := run_sliceBounds (P := P) (isS := true) (Nat.le_refl 0) (Nat.le_refl _) hl hh hm hb
      have z0 : (if mx0.isSome then m else 0) = 0 ∧ h' = 0 := by
        rcases r3 with r3 | r3
        · cases hs : mx0.isSome with
          | true => have := r4 hs; simp; omega
          | false => have := r5 hs r3; simp; omega
        · cases hs : mx0.isSome with
          | true => have := r4 hs; simp; omega
          | false => simp; omega
      have z3 : l = 0 := by omega
      rw [z0.1, z0.2, z3] at r1
      refine .pure hv (u := .slice none 0 0) (key _ (.slice none 0 0) rfl ?_) ?_ ?_
      · simp [Instr.sliceAt, run_underlying hd, Instr.slice, r1, run_sizeOf hte ht]
      · simp only [RV]; exact .inl ⟨trivial, by omega, by simp⟩
      · simp only [Top] at htop ⊢
        have e2 := z0.2
        cases fl with
        | bor => simp only [cutFl]; repeat' split
                 all_goals simp only [FlOK]
        | full => simp only [cutFl]; repeat' split
                  all_goals simp only [FlOK]
        | own i z =>
          simp only [cutFl]; repeat' split
          all_goals simp only [FlOK] at htop ⊢
          exact ⟨htop.1, .inr (.inl ⟨trivial, by first | trivial | omega, trivial⟩)⟩
    · obtain ⟨r1, r2, r3, r4, r5⟩ := run_sliceBounds (P := P) (isS := true) (cap := c) hnc hnc hl hh hm hb
      have hM : h' ≤ (if mx0.isSome then m else c) := by
        cases hs : mx0.isSome with
        | true => exact (r4 hs).1
        | false =>
          rcases r3 with r3 | r3
          · have := r5 hs r3; simp; omega
          · simp; omega
      generalize hMe : (if mx0.isSome then m else c) = M at r1 hM
      refine .pure hv (key _ (.slice (some ⟨k, if M = l then off else off + l * ti.size, none⟩) (h' - l) (M - l)) rfl ?_) ?_ ?_
      · simp only [Instr.sliceAt, Sem.run_bind, run_underlying hd, Result.andThen_ok, Instr.slice, r1, run_sizeOf hte ht, Sem.run_pure, Option.map_some, addr_add]
        by_cases hq : M = l <;> simp [hq]
      · simp only [RV]
        refine .inr ⟨k, _, _, (us.drop (l * ti.size)).take ((h' - l) * ti.size), rfl, by omega, (hr.drop _).take _, ?_⟩
        split
        · have : h' - l = 0 := by omega
          rw [this]; intro j hj; simp at hj
        · exact (hdd.drop _).take _
      · simp only [Top] at htop ⊢
        exact htop.cut hnc r2 hMe.symm (fun hs => r4 hs) hM _ rfl
  · -- a view
    rename_i e b off n c z hk
    obtain ⟨_, _, _, dd, hd, hk2⟩ := kd_some hte hk (by simp)
    simp only [TKis] at hk2; subst hk2
    simp only [Option.bind_eq_some_iff] at h
    obtain ⟨ti, ht, h⟩ := h
    split at h
    · rename_i hz
      simp only [Option.map_eq_some_iff] at h
      obtain ⟨⟨l, h', m⟩, hb, rfl⟩ := h
      have hx := hx.1
      simp only [RV] at hx
      obtain ⟨k, oo, c', hmu, rfl, hcc, hnc, hoo⟩ := hx
      obtain ⟨r1, r2, r3, r4, r5⟩ := run_sliceBounds (P := P) (isS := true) (Nat.le_trans hnc hcc) hcc hl hh hm hb
      have hMe : (if mx0.isSome then m else c) = m := by
        cases hs : mx0 with
        | some _ => simp
        | none =>
          unfold bounds at hb
          rw [hs] at hb
          simp only [Option.bind_eq_some_iff, Option.map_eq_some_iff] at hb
          obtain ⟨m', h1, h'', h2, l', h3, h4⟩ := hb
          cases h4; cases h1; simp
      have hM : h' ≤ m := by
        cases hs : mx0.isSome with
        | true => exact (r4 hs).1
        | false =>
          rw [hs] at hMe; simp at hMe
          rcases r3 with r3 | r3
          · have := r5 hs r3; omega
          · omega
      have hmc : m ≤ c := by
        cases hs : mx0.isSome with
        | true => exact (r4 hs).2
        | false => rw [hs] at hMe; simp at hMe; omega
      have hMM : m ≤ (if mx0.isSome then m else c') := by
        split
        · exact Nat.le_refl _
        · omega
      generalize (if mx0.isSome then m else c') = M at r1 hMM
      refine .pure hv (key _ (.slice (some ⟨k, if M = l then oo else oo + l * ti.size, none⟩) (h' - l) (M - l)) rfl ?_) ?_ ?_
      · simp only [Instr.sliceAt, Sem.run_bind, run_underlying hd, Result.andThen_ok, Instr.slice, r1, run_sizeOf hte ht, Sem.run_pure, Option.map_some, addr_add]
        by_cases hq : M = l <;> simp [hq]
      · by_cases hml : m = l
        · simp only [if_pos hml, RV]
          exact ⟨k, _, _, hmu, by rw [show h' - l = 0 by omega], Nat.zero_le _, Nat.le_refl _, .inr (by trivial)⟩
        · simp only [if_neg hml, RV]
          rw [if_neg (show ¬ M = l by omega)]
          exact ⟨k, _, _, hmu, rfl, by omega, by omega, .inl (by rw [hz]; rcases hoo with h | h <;> omega)⟩
      · show Top g (if m = l then _ else _) _
        split <;> trivial
    · cases h
  · -- an array in a box
    rename_i n e b off hk
    obtain ⟨_, _, _, dd, hd, hk2⟩ := kd_some hte hk (by simp)
    simp only [TKis] at hk2; subst hk2
    simp only [Option.bind_eq_some_iff, Option.map_eq_some_iff] at h
    obtain ⟨ti, ht, ⟨l, h', m⟩, hb, rfl⟩ := h
    have hx := hx.1
    simp only [RV] at hx
    obtain ⟨k, hmu, rfl⟩ := hx
    obtain ⟨r1, r2, r3, r4, r5⟩ := run_sliceBounds (P := P) (isS := false) (Nat.le_refl n) (Nat.le_refl n) hl hh hm hb
    have hMe : (if mx0.isSome then m else n) = m := by
      cases hs : mx0 with
      | some _ => simp
      | none =>
        unfold bounds at hb
        rw [hs] at hb
        simp only [Option.bind_eq_some_iff, Option.map_eq_some_iff] at hb
        obtain ⟨m', h1, h'', h2, l', h3, h4⟩ := hb
        cases h4; cases h1; simp
    rw [hMe] at r1
    have hM : h' ≤ m := by
      cases hs : mx0.isSome with
      | true => exact (r4 hs).1
      | false =>
        rw [hs] at hMe; simp at hMe
        rcases r3 with r3 | r3
        · have := r5 hs r3; omega
        · omega
    refine .pure hv (key _ (.slice (some ⟨k, if m = l then off else off + l * ti.size, none⟩) (h' - l) (m - l)) rfl ?_) ?_ ?_
    · simp only [Instr.sliceAt, Instr.sureAddr, Sem.run_bind, run_underlying hd, Result.andThen_ok, r1, run_sizeOf hte ht, Sem.run_pure, addr_add]
      by_cases hq : m = l <;> simp [hq]
    · by_cases hml : m = l
      · simp only [if_pos hml, RV]
        exact ⟨k, _, _, hmu, by rw [show h' - l = 0 by omega], Nat.zero_le _, Nat.le_refl _, .inr (by trivial)⟩
      · simp only [if_neg hml, RV]
        exact ⟨k, _, _, hmu, rfl, Nat.le_refl _, by omega, .inl rfl⟩
    · show Top g (if m = l then _ else _) _
      split <;> trivial
  · cases h
end
end Go.Abs
