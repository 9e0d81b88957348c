/- The operations that change no box, one by one. Third part: arithmetic, comparing, addresses. -/
import Derived.Test.YteooikdcafodfaaDoorAg
import Derived.WalkLawsBesides
import Derived.Laws.Cover3
import Derived.Laws.Pointers
import Derived.DeepKeys
namespace Go.Abs
set_option linter.unusedSimpArgs false
set_option linter.unusedVariables false
open Go Go.RowKit
section
variable {P : Program} {N : Ent} {g : Ghost} {box : Boxes} {w : World} {o : Oper} {a : Act} {d : Nat} {ρ : Operand → AV} {te : TypeId → Option TI}

theorem run_eqGuard_plain (op : BinOp) (t : TypeId) (x y : Operand) (u v : Value) (h1 : ∀ cs, u ≠ .agg cs) (h2 : u ≠ .nilIface) : (eqGuard op t x y u v).run P w = .ok () w := by
  unfold eqGuard
  cases op <;> simp <;> (cases u <;> first | rfl | exact absurd rfl (h1 _) | exact absurd rfl h2)

theorem run_shift {op : BinOp} {k k' : IntKind} {x y : Int} {v : AV} (h : shiftV op k x y = some v) : ∃ u, v = .raw u ∧ (Op.shift op k x k' y).run P w = .ok u w := by
  unfold shiftV at h
  split at h
  · cases h
  · rename_i hy
    split at h
    · cases h; exact ⟨_, rfl, by simp [Op.shift, hy]⟩
    · cases h; exact ⟨_, rfl, by simp [Op.shift, hy]⟩
    · cases h

theorem run_int {op : BinOp} {t : TypeId} {k : IntKind} {x y : Int} {v : AV} (h : intV op k x y = some v) : ∃ u, v = .raw u ∧ (binOp op t (.int k x) (.int k y)).run P w = .ok u w := by
  unfold intV at h
  split at h
  case h_4 => split at h; · cases h
              · rename_i hy; cases h; exact ⟨_, rfl, by simp [binOp, Op.intDiv, hy]⟩
  case h_5 => split at h; · cases h
              · rename_i hy; cases h; exact ⟨_, rfl, by simp [binOp, Op.intDiv, hy]⟩
  all_goals first
    | (cases h; exact ⟨_, rfl, by simp [binOp, Op.intArith, Op.intBits, Op.intCmp]⟩)
    | (cases h)

theorem asInts_rel {μ : Bx → Option Nat} {G : Nat → Nat → Prop} : ∀ {xs : List AV} {us : List Value} {zs : List (IntKind × Int)}, RVs μ G w xs us → asInts xs = some zs → us = zs.map fun z => .int z.1 z.2
  | [], us, zs, hr, h => by simp only [RVs] at hr; simp [asInts] at h; subst h hr; rfl
  | x :: xs, us, zs, hr, h => by
    simp only [RVs] at hr
    obtain ⟨u, us', rfl, h1, h2⟩ := hr
    unfold asInts at h
    split at h
    · rename_i heq; cases heq
    · rename_i heq
      cases heq
      simp only [Option.map_eq_some_iff] at h
      obtain ⟨zs', h3, rfl⟩ := h
      simp only [RV] at h1
      subst h1
      rw [asInts_rel h2 h3]; rfl
    · cases h

theorem run_eqItems_int {P : Program} {w : World} (D : Nat) {e : TypeId} {k : IntKind} (he : P.underlying e = some (.int k)) (us vs : List (IntKind × Int)) (hu : ∀ z ∈ us, z.1 = k) (hv : ∀ z ∈ vs, z.1 = k) :
    ∀ (is : List Nat), (∀ i ∈ is, i < us.length ∧ i < vs.length) → (Op.eqItems (D + 1) e 1 (us.map fun z => Value.int z.1 z.2).toArray (vs.map fun z => Value.int z.1 z.2).toArray is).run P w
      = .ok (is.all fun i => (us[i]?).map (·.2) == (vs[i]?).map (·.2)) w
  | [], _ => rfl
  | i :: is, h => by
    obtain ⟨h1, h2⟩ := h i (by simp)
    have ih := run_eqItems_int (w := w) D he us vs hu hv is (fun j hj => h j (by simp [hj]))
    have hp : ∀ (zs : List (IntKind × Int)) (hz : ∀ z ∈ zs, z.1 = k) (hi : i < zs.length), (part e (zs.map fun z => Value.int z.1 z.2).toArray (i * 1)).run P w = .ok (.int k zs[i].2) w := fun zs hz hi => by
      have hk : zs[i].1 = k := hz _ (List.getElem_mem hi)
      simp [part, isAgg, run_underlying he, hi, hk]
    simp only [Op.eqItems, Sem.run_bind, hp us hu h1, hp vs hv h2, Result.andThen_ok, run_equalIn_int w D e k k _ _ he, List.all_cons, List.getElem?_eq_getElem h1, List.getElem?_eq_getElem h2, Option.map_some]
    by_cases hx : us[i].2 = vs[i].2
    · simp [hx, ih]
    · simp [hx]

theorem all_eq_iff (us vs : List Int) (h : us.length = vs.length) : ((List.range us.length).all fun i => us[i]? == vs[i]?) = (us == vs) := by
  rw [Bool.eq_iff_iff, List.all_eq_true, beq_iff_eq]
  constructor
  · intro h1
    refine List.ext_getElem? fun i => ?_
    rcases Nat.lt_or_ge i us.length with hi | hi
    · simpa using h1 i (by simpa using hi)
    · rw [List.getElem?_eq_none hi, List.getElem?_eq_none (by omega)]
  · rintro rfl i _; simp

theorem run_equal_ints {t e : TypeId} {n : Nat} {k : IntKind} {ti : TI} (hte : TeOK P te) (h1 : P.underlying t = some (.array n e)) (h2 : te e = some ti) (h3 : ti.kind = .int k) (h4 : ti.size = 1)
    (us vs : List (IntKind × Int)) (hu : us.length = n) (hv : vs.length = n) (ku : ∀ z ∈ us, z.1 = k) (kv : ∀ z ∈ vs, z.1 = k) :
    (Op.equal t (.agg (us.map fun z => Value.int z.1 z.2).toArray) (.agg (vs.map fun z => Value.int z.1 z.2).toArray)).run P w = .ok (us.map (·.2) == vs.map (·.2)) w := by
  obtain ⟨d, hd, hk⟩ := (hte e ti h2).under
  obtain ⟨i, z, hi, hs, _⟩ := (hte e ti h2).info
  rw [h3] at hk; simp only [TKis] at hk; subst hk
  have := run_equalIn_array (P := P) w 9999 (us.map fun z => Value.int z.1 z.2).toArray (vs.map fun z => Value.int z.1 z.2).toArray h1 hi
  have hc : P.cellsOf e = 1 := by simp [Program.cellsOf, hi, hs, h4]
  unfold Op.equal
  rw [show Op.maxDepth = 9999 + 1 from rfl, this, hc, run_eqItems_int 9998 hd us vs ku kv (List.range n) (fun i hi => by simp at hi; omega)]
  congr 1
  have := all_eq_iff (us.map (·.2)) (vs.map (·.2)) (by simp [hu, hv])
  rw [← this]
  simp [hu]

theorem run_eqGuard_array {op : BinOp} {t e : TypeId} {n : Nat} {k : IntKind} (h1 : P.underlying t = some (.array n e)) (h2 : P.underlying e = some (.int k)) (x y : Operand) (xs ys : Array Value) :
    (eqGuard op t x y (.agg xs) (.agg ys)).run P w = .ok () w := by
  have hg : P.eqGuardType P.depth t = false := by
    have hd : ∃ m, P.depth = m + 2 := ⟨2 * (P.types.size + Made.depth), rfl⟩
    obtain ⟨m, hm⟩ := hd
    rw [hm]; simp [Program.eqGuardType, h1, h2]
  unfold eqGuard
  cases op <;> simp [hg]

theorem run_binop_plain {op : BinOp} {t : TypeId} {xo yo : Operand} {u v r : Value} {ty : TypeId} (ho : o.op = .binOp op t xo yo ty) (hu : a.eval xo = u) (hv : a.eval yo = v)
    (hg : (eqGuard op t xo yo u v).run P w = .ok () w) (hb : (binOp op t u v).run P w = .ok r w) : (execOp a.eval o).run P w = .ok (.value r) w := by
  refine run_value (s := do eqGuard op t xo yo (a.eval xo) (a.eval yo); binOp op t (a.eval xo) (a.eval yo)) ?_ (by unfold execOp; rw [ho])
  rw [hu, hv, Sem.run_bind, hg]; exact hb

theorem run_eql {op : BinOp} {t : TypeId} {u v : Value} {b : Bool} {r : AV} (he : (Op.equal t u v).run P w = .ok b w) (h : eqNeg op b = some r)
    (hbin : ∀ op', op' = .eql ∨ op' = .neq → binOp op' t u v = (match op' with | .eql => (do pure (.bool (← Op.equal t u v))) | _ => (do pure (.bool (!(← Op.equal t u v)))))) :
    ∃ x, r = .raw x ∧ (binOp op t u v).run P w = .ok x w := by
  unfold eqNeg at h
  split at h
  · cases h; refine ⟨_, rfl, ?_⟩; rw [hbin _ (.inl rfl)]; simp [he]
  · cases h; refine ⟨_, rfl, ?_⟩; rw [hbin _ (.inr rfl)]; simp [he]
  · cases h

theorem run_equal_ptr_nil {t e : TypeId} (h : P.underlying t = some (.pointer e)) (p : Option Addr) : (Op.equal t (.pointer p) (.pointer none)).run P w = .ok p.isNone w := by
  have hp : P.pointee t = e := by simp [Program.pointee, h]
  rw [run_equal_pointer_nil w t p (by rw [hp]; exact h)]

theorem run_equal_slice_nil' {t e : TypeId} (h : P.underlying t = some (.slice e)) (x : Option Addr) (n c : Nat) : (Op.equal t (.slice x n c) (.slice none 0 0)).run P w = .ok x.isNone w := run_equal_slice_nil w t e x n c h

theorem out_binOp (hte : TeOK P te) (hv : Valid N g box w) (hρ : Rel g w a ρ) (op : BinOp) (t : TypeId) (x y : Operand) (ty : TypeId) (ho : o.op = .binOp op t x y ty) {v : AV} (h : binV te op t (ρ x) (ρ y) = some v) :
    GOut P N g box w o a d { v } := by
  have hx := (hρ x).1
  have hy := (hρ y).1
  have fin : ∀ u1 u2 r : Value, a.eval x = u1 → a.eval y = u2 → (eqGuard op t x y u1 u2).run P w = .ok () w → (binOp op t u1 u2).run P w = .ok r w → RV g.μ g.G w v r → Top g v r → GOut P N g box w o a d { v } :=
    fun u1 u2 r e1 e2 e3 e4 e5 e6 => .pure hv (run_binop_plain ho e1 e2 e3 e4) e5 e6
  have pl : ∀ u v : Value, (∀ cs, u ≠ .agg cs) → u ≠ .nilIface → (eqGuard op t x y u v).run P w = .ok () w := fun u v h1 h2 => run_eqGuard_plain op t x y u v h1 h2
  revert h hx hy fin pl
  generalize ρ x = x0
  generalize ρ y = y0
  generalize a.eval x = u1
  generalize a.eval y = u2
  intro h hx hy fin pl
  unfold binV at h
  split at h
  · -- whole numbers
    simp only [RV] at hx hy; subst hx; subst hy
    rename_i k aa k' bb
    split at h
    · obtain ⟨u, rfl, hr⟩ := run_shift (P := P) (w := w) (k' := k') h
      exact fin _ _ u rfl rfl (pl _ _ (by simp) (by simp)) (by simpa [binOp] using hr) (by simp only [RV]) trivial
    · obtain ⟨u, rfl, hr⟩ := run_shift (P := P) (w := w) (k' := k') h
      exact fin _ _ u rfl rfl (pl _ _ (by simp) (by simp)) (by simpa [binOp] using hr) (by simp only [RV]) trivial
    · split at h
      · rename_i hk; subst hk
        obtain ⟨u, rfl, hr⟩ := run_int (P := P) (w := w) (t := t) h
        exact fin _ _ u rfl rfl (pl _ _ (by simp) (by simp)) hr (by simp only [RV]) trivial
      · cases h
  · -- bools
    simp only [RV] at hx hy; subst hx; subst hy
    split at h
    · rename_i hk
      obtain ⟨_, _, _, dd, hd, hk2⟩ := kd_some hte hk (by simp)
      simp only [TKis] at hk2; subst hk2
      obtain ⟨r, rfl, hr⟩ := run_eql (run_equal_bool w t _ _ hd) h (by rintro op' (rfl | rfl) <;> rfl)
      exact fin _ _ r rfl rfl (pl _ _ (by simp) (by simp)) hr (by simp only [RV]) trivial
    · cases h
  · -- strings
    simp only [RV] at hx hy; subst hx; subst hy
    rename_i sa sb
    split at h
    · cases h
      refine fin _ _ (.bool (sa.data.toList == sb.data.toList)) rfl rfl (pl _ _ (by simp) (by simp)) ?_ (by simp only [RV]) trivial
      rw [← ByteArray.toList_eq, ← ByteArray.toList_eq]; simp [binOp, Op.stringOp]
    · cases h
      refine fin _ _ (.bool !(sa.data.toList == sb.data.toList)) rfl rfl (pl _ _ (by simp) (by simp)) ?_ (by simp only [RV]) trivial
      rw [← ByteArray.toList_eq, ← ByteArray.toList_eq]; simp [binOp, Op.stringOp]
    · cases h
  · simp only [RV] at hx hy; subst hx; subst hy
    split at h
    · rename_i e hk
      obtain ⟨_, _, _, dd, hd, hk2⟩ := kd_some hte hk (by simp)
      simp only [TKis] at hk2; subst hk2
      obtain ⟨r, rfl, hr⟩ := run_eql (run_equal_slice_nil' hd none 0 0) h (by rintro op' (rfl | rfl) <;> rfl)
      exact fin _ _ r rfl rfl (pl _ _ (by simp) (by simp)) hr (by simp only [RV]) trivial
    · cases h
  · -- a slice and nil
    simp only [RV] at hy; subst hy
    rename_i n xs fl
    have hsl : ∃ A c, u1 = .slice A n c ∧ (n ≠ 0 → A ≠ none) := by
      simp only [RV] at hx
      rcases hx with ⟨rfl, rfl, _⟩ | ⟨k, off, c, us, rfl, _⟩
      · exact ⟨none, 0, rfl, fun h => absurd rfl h⟩
      · exact ⟨_, c, rfl, fun _ => by simp⟩
    obtain ⟨A, c, rfl, hA⟩ := hsl
    split at h
    · rename_i e hk
      obtain ⟨_, _, _, dd, hd, hk2⟩ := kd_some hte hk (by simp)
      simp only [TKis] at hk2; subst hk2
      cases h
      refine fin _ _ (.bool A.isNone) rfl rfl (pl _ _ (by simp) (by simp)) (by simp [binOp, run_equal_slice_nil' hd]) ?_ (by split <;> trivial)
      split
      · simp only [RV]; exact ⟨_, rfl⟩
      · rename_i hn; have := hA hn; simp only [RV]; cases A <;> simp_all
    · rename_i e hk
      obtain ⟨_, _, _, dd, hd, hk2⟩ := kd_some hte hk (by simp)
      simp only [TKis] at hk2; subst hk2
      cases h
      refine fin _ _ (.bool !A.isNone) rfl rfl (pl _ _ (by simp) (by simp)) (by simp [binOp, run_equal_slice_nil' hd]) ?_ (by split <;> trivial)
      split
      · simp only [RV]; exact ⟨_, rfl⟩
      · rename_i hn; have := hA hn; simp only [RV]; cases A <;> simp_all
    · cases h
  · simp only [RV] at hx hy; subst hy
    obtain ⟨k, off, _, rfl, _⟩ := hx
    split at h
    · rename_i e hk
      obtain ⟨_, _, _, dd, hd, hk2⟩ := kd_some hte hk (by simp)
      simp only [TKis] at hk2; subst hk2
      obtain ⟨r, rfl, hr⟩ := run_eql (b := false) (run_equal_slice_nil' hd (some ⟨k, off, none⟩) _ _) h (by rintro op' (rfl | rfl) <;> rfl)
      exact fin _ _ r rfl rfl (pl _ _ (by simp) (by simp)) hr (by simp only [RV]) trivial
    · cases h
  · -- pointers and nil
    simp only [RV] at hx hy; subst hy
    obtain ⟨k, _, rfl⟩ := hx
    split at h
    · rename_i e hk
      obtain ⟨_, _, _, dd, hd, hk2⟩ := kd_some hte hk (by simp)
      simp only [TKis] at hk2; subst hk2
      obtain ⟨r, rfl, hr⟩ := run_eql (P := P) (w := w) (u := .pointer (some ⟨k, _, none⟩)) (v := .pointer none) (b := false) (by rw [run_equal_ptr_nil hd]; rfl) h (by rintro op' (rfl | rfl) <;> rfl)
      exact fin _ _ r rfl rfl (pl _ _ (by simp) (by simp)) hr (by simp only [RV]) trivial
    · cases h
  · simp only [RV] at hx hy; subst hy
    obtain ⟨k, off, _, rfl, _⟩ := hx
    split at h
    · rename_i e hk
      obtain ⟨_, _, _, dd, hd, hk2⟩ := kd_some hte hk (by simp)
      simp only [TKis] at hk2; subst hk2
      obtain ⟨r, rfl, hr⟩ := run_eql (P := P) (w := w) (u := .pointer (some ⟨k, off, none⟩)) (v := .pointer none) (b := false) (by rw [run_equal_ptr_nil hd]; rfl) h (by rintro op' (rfl | rfl) <;> rfl)
      exact fin _ _ r rfl rfl (pl _ _ (by simp) (by simp)) hr (by simp only [RV]) trivial
    · cases h
  · simp only [RV] at hx hy; subst hx; subst hy
    split at h
    · rename_i e hk
      obtain ⟨_, _, _, dd, hd, hk2⟩ := kd_some hte hk (by simp)
      simp only [TKis] at hk2; subst hk2
      obtain ⟨r, rfl, hr⟩ := run_eql (P := P) (w := w) (u := .pointer none) (v := .pointer none) (b := true) (by rw [run_equal_ptr_nil hd]; rfl) h (by rintro op' (rfl | rfl) <;> rfl)
      exact fin _ _ r rfl rfl (pl _ _ (by simp) (by simp)) hr (by simp only [RV]) trivial
    · cases h
  · -- arrays of whole numbers
    simp only [RV] at hx hy
    obtain ⟨us, rfl, hx⟩ := hx
    obtain ⟨vs, rfl, hy⟩ := hy
    split at h
    · rename_i n e zx zy hk hzx hzy
      obtain ⟨_, _, _, dd, hd, hk2⟩ := kd_some hte hk (by simp)
      simp only [TKis] at hk2; subst hk2
      split at h
      · rename_i k bts z hte'
        split at h
        · rename_i hc
          obtain ⟨c1, c2, c3, c4⟩ := hc
          obtain ⟨d', hd', hk'⟩ := (hte _ _ hte').under
          simp only [TKis] at hk'; subst hk'
          rw [asInts_rel hx hzx, asInts_rel hy hzy] at *
          obtain ⟨r, rfl, hr⟩ := run_eql (run_equal_ints (w := w) hte hd hte' rfl rfl zx zy c1 c2 (by simpa using c3) (by simpa using c4)) h (by rintro op' (rfl | rfl) <;> rfl)
          exact fin _ _ r rfl rfl (run_eqGuard_array hd hd' _ _ _ _) hr (by simp only [RV]) trivial
        · cases h
      · cases h
    · cases h
  · cases h
end
end Go.Abs
