/- From the functions' promises to the rows: what all of the seat's rows need. -/
import Derived.Test.YtjnmdphoaafjaaaRows
import Derived.Test.YtjnmdphoaafjaaaM2
import Derived.Test.YtjnmdphoaafjaaaM3
import Derived.Test.YtjnmdphoaafjaaaUo
import Derived.SizedLaws
namespace Go.Proofs.Ytjnmdphoaafjaaa
set_option linter.unusedSimpArgs false
set_option linter.unusedVariables false
set_option linter.defProp false
open Go Go.Abs Go.ChangeShapes Go.WideShapes Go.ChangeAt Go.RowKit

theorem own : ownKnob Try.prog.godebug = none := by kernel_rfl
theorem laidOut : laidOutB Try.prog = true := by kernel_rfl
theorem cells5 : Try.prog.cellsOf 5 = 1 := by kernel_rfl
theorem cells3 : Try.prog.cellsOf 3 = 1 := by kernel_rfl
theorem bytes5 : Try.prog.bytesOf 5 = 1 := by kernel_rfl
theorem bytes3 : Try.prog.bytesOf 3 = 8 := by kernel_rfl
theorem glob_none {W : World} : ∀ gi xs, glob gi = some xs → RV noMu (allG W) W (.iptr xs) (.pointer (some ⟨gi, 0, none⟩)) := by
  intro gi xs hx
  cases hx
theorem u8_wf : ∀ z, (Lit.int .u8 z).wf = true → 0 ≤ z ∧ z < 2 ^ 8 := fun z h => by
  have h1 : IntKind.u8.min = 0 := rfl
  have h2 : IntKind.u8.max = 255 := rfl
  simp only [Lit.wf, Bool.and_eq_true, decide_eq_true_eq] at h
  omega
theorem slLen {μ : Bx → Option Nat} {G : Nat → Nat → Prop} {W : World} {n : Nat} {xs : List AV} {fl : Fl} {v : Value} (h : RV μ G W (.sl n xs fl) v) : ∃ a c, v = .slice a n c := by
  simp only [RV] at h
  rcases h with ⟨⟨A, h1⟩, h2, _⟩ | ⟨k, o, c, us, h1, _⟩
  · exact ⟨_, _, by rw [h1, h2]⟩
  · exact ⟨_, _, h1⟩
theorem sizedLen {H : Type} {enc : TypeId × Value → H} {P : Program} {W : World} {t e : TypeId} {k : IntKind} {v : Value} {d : DataW H} {p : List MemPlace} {n : Nat} (ht : P.underlying t = some (.slice e)) (he : P.underlying e = some (.int k)) (hc : P.cellsOf e = 1)
    (h0 : DataW.Trod enc P W 0 (fun _ => true) true t v d p) (hv : ∃ a c, v = .slice a n c) {ts : List TypeId} {ds : List (DataW H)} {j : Nat} (hz : (DataW.weightsEach P ts ds).all (· ≤ reachBytes) = true) (hts : ts[j]? = some t) (hds : ds[j]? = some d) : n * P.bytesOf e ≤ reachBytes := by
  obtain ⟨a, c, rfl⟩ := hv
  obtain ⟨fuel, hf⟩ := h0
  rcases open_ints ht he hc hf with ⟨hcs, _⟩ | ⟨a', len', cap', zs, hcs, _, hl, hm, hzl, hx, _, _⟩
  · simp [Value.cells] at hcs
    rw [hcs.2.1]; simp
  · simp [Value.cells] at hcs
    obtain ⟨rfl, rfl, rfl⟩ := hcs
    simp only [Prod.mk.injEq] at hx
    rw [hx.1] at hds
    have := sized_slice hz hts hds ht
    simp only [lits, List.length_map, List.length_take, List.length_drop] at this
    simp only [if_true] at hzl
    refine Nat.le_trans (Nat.mul_le_mul_right _ ?_) this
    omega
theorem preNone {H : Type} {enc : TypeId × Value → H} {P : Program} {fn : Func} {c : OpenClaim} {s : ChangeSpec} (hl : c.laid = []) : c.pre enc P fn (OpenSpec.ofChange s) = fun w args => (s.pre enc P fn c.domain c.apart w args ∧ True) ∧ sizedMet enc P fn (OpenSpec.ofChange s) c.apart w args := by
  funext w args
  unfold OpenClaim.pre OpenClaim.preLaid
  rw [hl, and_true]
  rfl
/-- a text's signs, without its bytes -/
theorem toList_lit {s : String} {cs : List Char} (h : s = String.ofList cs) : s.toList = cs := by rw [h, String.toList_ofList]
def mayB (P : Program) (cs : List Char) : (b : Bool) ×' (P.initOrder.toList = cs → P.mayEnter = b) := by
  refine ⟨?_, fun h => ?_⟩
  rotate_left
  · unfold Program.mayEnter
    rw [h]
def liftB (P : Program) (cs : List Char) : (b : Bool) ×' (P.initOrder.toList = cs → P.liftsFinal = b) := by
  refine ⟨?_, fun h => ?_⟩
  rotate_left
  · unfold Program.liftsFinal Program.headLifts
    rw [h]
def makeB (P : Program) (cs : List Char) : (b : Option Make) ×' (P.initOrder.toList = cs → P.make = b) := by
  refine ⟨?_, fun h => ?_⟩
  rotate_left
  · unfold Program.make
    rw [h]
set_option maxRecDepth 100000 in
theorem may : Try.prog.mayEnter = true := ((mayB Try.prog _).2 (toList_lit rfl)).trans (by kernel_rfl)
set_option maxRecDepth 100000 in
theorem lifts : Try.prog.liftsFinal = false := ((liftB Try.prog _).2 (toList_lit rfl)).trans (by kernel_rfl)
set_option maxRecDepth 100000 in
theorem makes : Try.prog.make = some .cut := ((makeB Try.prog _).2 (toList_lit rfl)).trans (by kernel_rfl)
theorem u8_has : ∀ z, IntKind.u8.has z → 0 ≤ z ∧ z < 2 ^ 8 := fun z h => by
  have h1 : IntKind.u8.min = 0 := rfl
  have h2 : IntKind.u8.max = 255 := rfl
  unfold IntKind.has at h
  omega
def byteOf : Value → BitVec 8
  | .int _ z => BitVec.ofInt 8 z
  | _ => 0#8
theorem byteOf_is {z : Int} (h : 0 ≤ z ∧ z < 2 ^ 8) : (.int .u8 z : Value) = .int .u8 ((byteOf (.int .u8 z)).toNat : Int) := by
  simp only [byteOf, BitVec.toNat_ofInt]
  congr 1
  omega
section
variable {H : Type} {enc : TypeId × Value → H} {W : World} {base : Nat} {v : Value} {d : DataW H} {p : List MemPlace}
theorem u8_cell {P : Program} {e : TypeId} {x : Value} (he : P.underlying e = some (.int .u8)) (h : Cell.okWide P W .any base e x) : x = .int .u8 ((byteOf x).toNat : Int) := by
  simp only [Cell.okWide, he] at h
  cases hx : x <;> rw [hx] at h <;> simp only [Cell.ok, he] at h
  rename_i k' z
  obtain ⟨rfl, h2⟩ := h
  exact byteOf_is (u8_has z h2)
theorem u8_cells {P : Program} {e : TypeId} {l : List Value} (he : P.underlying e = some (.int .u8)) (h : ∀ x ∈ l, Cell.okWide P W .any base e x) : RVs noMu (allG W) W (nums .u8 (l.map byteOf)) l := by
  refine RVs.of_get (by rw [nums_len, List.length_map]) fun j x u hx hu => ?_
  rw [nums, List.getElem?_map, List.getElem?_map, hu] at hx
  cases hx
  simp only [RV]
  exact u8_cell he (h u (List.mem_of_getElem? hu))
set_option maxRecDepth 100000 in
/-- a box: a key, a nonce, what stands beside -/
theorem open_bk (hv : Value.okWide Try.prog W .any base 70 v) (h0 : DataW.Trod enc Try.prog W 0 (fun _ => true) true 70 v d p) : ∃ c : Bk, okB c ∧ RV noMu (allG W) W (.agg (bkA c)) v := by
  simp only [Value.okWide, Try.underlying70] at hv
  obtain ⟨cs, rfl, hsz, ts, hts', _, hrow⟩ := hv
  have hts : Try.prog.cellTypes Try.prog.depth 70 = some (List.replicate 44 5 ++ [29]) := by kernel_rfl
  have hct : Try.prog.cellsOf 70 = 45 := by kernel_rfl
  rw [hts] at hts'
  cases hts'
  rw [hct] at hsz
  have hl : cs.toList.length = 45 := by simp [hsz]
  have each : ∀ i x, i < 44 → cs.toList[i]? = some x → Cell.okWide Try.prog W .any base 5 x := fun i x hi hx => by
    obtain ⟨u, hu, hc⟩ := hrow i x (by simpa using hx)
    rw [show (List.replicate 44 5 ++ [29] : List TypeId).length = 45 by simp, Nat.mod_eq_of_lt (by omega), List.getElem?_append_left (by simp; omega)] at hu
    have := List.mem_of_getElem? hu
    rw [(List.mem_replicate.1 this).2] at hc
    exact hc
  have hlt : 44 < cs.toList.length := by omega
  obtain ⟨x, hx⟩ : ∃ x, cs.toList[44]? = some x := ⟨_, List.getElem?_eq_getElem hlt⟩
  have hcx : Cell.okWide Try.prog W .any base 29 x := by
    obtain ⟨u, hu, hc⟩ := hrow 44 x (by simpa using hx)
    cases hu
    exact hc
  obtain ⟨fuel, hf⟩ := h0
  obtain ⟨xs, n, _, _, _, hxl, hxs⟩ := DataW.trod_struct Try.underlying70 hf
  have h2 := hxs 2 _ rfl
  have hc29 : Try.prog.cellsOf 29 = 1 := by kernel_rfl
  have e2 : ((Value.agg cs).cells.toList.drop 44).take 1 = [x] := by
    have e : (Value.agg cs).cells = cs := rfl
    rw [e, List.drop_eq_getElem_cons hlt]
    rw [List.getElem?_eq_getElem hlt] at hx
    cases hx
    rfl
  have h2 : DataW.trod enc Try.prog W 0 (fun _ => true) true n 29 (((Value.agg cs).cells.toList.drop 44).take (Try.prog.cellsOf 29)) = xs[2]? := h2
  rw [hc29, e2] at h2
  have hxl' : 2 < xs.length := by rw [hxl]; decide
  rw [List.getElem?_eq_getElem hxl'] at h2
  obtain ⟨m, hm, rm⟩ := fld_row (enc := enc) (w := 8) Try.underlying29 Try.underlying5 cells5 u8_wf hcx ⟨n, _, h2⟩
  have hk : ∀ y ∈ cs.toList.take 32, Cell.okWide Try.prog W .any base 5 y := fun y hy => by
    obtain ⟨i, hi⟩ := List.mem_iff_getElem?.1 hy
    have hi2 : i < 32 := by
      have := (List.getElem?_eq_some_iff.1 hi).1
      simp at this; omega
    exact each i y (by omega) (by rw [← hi, List.getElem?_take_of_lt hi2])
  have hn : ∀ y ∈ (cs.toList.drop 32).take 12, Cell.okWide Try.prog W .any base 5 y := fun y hy => by
    obtain ⟨i, hi⟩ := List.mem_iff_getElem?.1 hy
    have hi2 : i < 12 := by
      have := (List.getElem?_eq_some_iff.1 hi).1
      simp at this; omega
    exact each (32 + i) y (by omega) (by rw [← hi, List.getElem?_take_of_lt hi2, List.getElem?_drop])
  refine ⟨⟨(cs.toList.take 32).map byteOf, ((cs.toList.drop 32).take 12).map byteOf, m⟩, ⟨by simp [hsz], by simp [hsz], hm⟩, ?_⟩
  simp only [RV]
  refine ⟨cs.toList, by simp, ?_⟩
  have e3 : cs.toList = cs.toList.take 32 ++ ((cs.toList.drop 32).take 12 ++ [x]) := by
    have e4 : cs.toList.drop 44 = [x] := by
      rw [List.drop_eq_getElem_cons hlt]
      rw [List.getElem?_eq_getElem hlt] at hx
      cases hx
      rw [List.drop_of_length_le (by omega)]
    have e5 : (cs.toList.drop 32).drop 12 = [x] := by rw [List.drop_drop]; exact e4
    rw [← e5, List.take_append_drop, List.take_append_drop]
  have key : RVs noMu (allG W) W (bkA ⟨(cs.toList.take 32).map byteOf, ((cs.toList.drop 32).take 12).map byteOf, m⟩) (cs.toList.take 32 ++ ((cs.toList.drop 32).take 12 ++ [x])) := by
    simp only [bkA]
    refine RVs.append (u8_cells Try.underlying5 hk) (RVs.append (u8_cells Try.underlying5 hn) ?_)
    simp only [RVs]
    exact ⟨_, _, rfl, rm, rfl⟩
  rw [← e3] at key
  exact key
theorem open_u32 {P : Program} {t : TypeId} (ht : P.underlying t = some (.int .u32)) (hv : Value.okWide P W .any base t v) : ∃ m : BitVec 32, RV noMu (allG W) W (.raw (.int .u32 (m.toNat : Int))) v := by
  simp only [Value.okWide, ht, Cell.okWide] at hv
  cases v <;> simp only [Cell.ok, ht] at hv
  rename_i k n
  obtain ⟨rfl, h⟩ := hv
  have h1 : IntKind.u32.min = 0 := rfl
  have h2 : IntKind.u32.max = 4294967295 := rfl
  unfold IntKind.has at h
  refine ⟨BitVec.ofInt 32 n, ?_⟩
  simp only [RV, BitVec.toNat_ofInt]
  congr 1
  omega
theorem list2 {α : Type} {l : List α} (h : l.length = 2) : ∃ a b, l = [a, b] := by
  match l, h with
  | [a, b], _ => exact ⟨a, b, rfl⟩
set_option maxRecDepth 100000 in
/-- bytes, and where they are cut -/
theorem open_cut (hv : Value.okWide Try.prog W .any base 83 v) (h0 : DataW.Trod enc Try.prog W 0 (fun _ => true) true 83 v d p) : ∃ (c : List (BitVec 8)) (z : Int), c.length ≤ 9223372036854775807 ∧ i64ok z ∧ RV noMu (allG W) W (.agg [.sl c.length (nums .u8 c) .bor, .raw (.int .i64 z)]) v := by
  obtain ⟨vs, rfl, hl, hf⟩ := open_struct Try.underlying83 (by kernel_rfl) (by kernel_rfl) (by kernel_rfl) hv h0
  obtain ⟨x0, x1, rfl⟩ := list2 hl
  obtain ⟨n0, h0, r0⟩ := fld_row (enc := enc) (w := 8) Try.underlying29 Try.underlying5 cells5 u8_wf (hf 0 _ x0 rfl rfl).1 (hf 0 _ x0 rfl rfl).2
  obtain ⟨n1, h1, r1⟩ := fld_i64 Try.underlying3 (hf 1 _ x1 rfl rfl).1
  refine ⟨n0, n1, h0, h1, ?_⟩
  simp only [RV, RVs]
  exact ⟨_, rfl, _, _, rfl, by simpa only [RV] using r0, _, _, rfl, r1, rfl⟩
end
end Go.Proofs.Ytjnmdphoaafjaaa
