/- From the functions' promises to the rows: what all of the seat's rows need. -/
import Derived.Test.YtjnmdphoaafjaaaRows
import Derived.Test.YtjnmdphoaafjaaaM3
import Derived.Test.YtjnmdphoaafjaaaQo
import Derived.SizedLaws
namespace Go.Proofs.Ytjnmdphoaafjaaa
set_option linter.unusedSimpArgs false
set_option linter.unusedVariables false
set_option linter.defProp false
open Go Go.Abs Go.ChangeShapes Go.WideShapes Go.ChangeAt Go.RowKit

theorem own : ownKnob Try.prog.godebug = none := by kernel_rfl
theorem laidOut : laidOutB Try.prog = true := by kernel_rfl
theorem cells5 : Try.prog.cellsOf 5 = 1 := by kernel_rfl
theorem cells3 : Try.prog.cellsOf 3 = 1 := by kernel_rfl
theorem bytes5 : Try.prog.bytesOf 5 = 1 := by kernel_rfl
theorem bytes3 : Try.prog.bytesOf 3 = 8 := by kernel_rfl
theorem glob_none {W : World} : ∀ gi xs, glob gi = some xs → RV noMu (allG W) W (.iptr xs) (.pointer (some ⟨gi, 0, none⟩)) := by
  intro gi xs hx
  cases hx
theorem u8_wf : ∀ z, (Lit.int .u8 z).wf = true → 0 ≤ z ∧ z < 2 ^ 8 := fun z h => by
  have h1 : IntKind.u8.min = 0 := rfl
  have h2 : IntKind.u8.max = 255 := rfl
  simp only [Lit.wf, Bool.and_eq_true, decide_eq_true_eq] at h
  omega
theorem slLen {μ : Bx → Option Nat} {G : Nat → Nat → Prop} {W : World} {n : Nat} {xs : List AV} {fl : Fl} {v : Value} (h : RV μ G W (.sl n xs fl) v) : ∃ a c, v = .slice a n c := by
  simp only [RV] at h
  rcases h with ⟨h1, h2, _⟩ | ⟨k, o, c, us, h1, _⟩
  · exact ⟨_, _, by rw [h1, h2]⟩
  · exact ⟨_, _, h1⟩
theorem sizedLen {H : Type} {enc : TypeId × Value → H} {P : Program} {W : World} {t e : TypeId} {k : IntKind} {v : Value} {d : DataW H} {p : List MemPlace} {n : Nat} (ht : P.underlying t = some (.slice e)) (he : P.underlying e = some (.int k)) (hc : P.cellsOf e = 1)
    (h0 : DataW.Trod enc P W 0 (fun _ => true) true t v d p) (hv : ∃ a c, v = .slice a n c) {ts : List TypeId} {ds : List (DataW H)} {j : Nat} (hz : (DataW.weightsEach P ts ds).all (· ≤ reachBytes) = true) (hts : ts[j]? = some t) (hds : ds[j]? = some d) : n * P.bytesOf e ≤ reachBytes := by
  obtain ⟨a, c, rfl⟩ := hv
  obtain ⟨fuel, hf⟩ := h0
  rcases open_ints ht he hc hf with ⟨hcs, _⟩ | ⟨a', len', cap', zs, hcs, _, hl, hm, hzl, hx, _, _⟩
  · simp [Value.cells] at hcs
    rw [hcs.2.1]; simp
  · simp [Value.cells] at hcs
    obtain ⟨rfl, rfl, rfl⟩ := hcs
    simp only [Prod.mk.injEq] at hx
    rw [hx.1] at hds
    have := sized_slice hz hts hds ht
    simp only [lits, List.length_map, List.length_take, List.length_drop] at this
    simp only [if_true] at hzl
    refine Nat.le_trans (Nat.mul_le_mul_right _ ?_) this
    omega
theorem preNone {H : Type} {enc : TypeId × Value → H} {P : Program} {fn : Func} {c : OpenClaim} {s : ChangeSpec} (hl : c.laid = []) : c.pre enc P fn (OpenSpec.ofChange s) = fun w args => (s.pre enc P fn c.domain c.apart w args ∧ True) ∧ sizedMet enc P fn (OpenSpec.ofChange s) c.apart w args := by
  funext w args
  unfold OpenClaim.pre OpenClaim.preLaid
  rw [hl, and_true]
  rfl
/-- a text's signs, without its bytes -/
theorem toList_lit {s : String} {cs : List Char} (h : s = String.ofList cs) : s.toList = cs := by rw [h, String.toList_ofList]
def mayB (P : Program) (cs : List Char) : (b : Bool) ×' (P.initOrder.toList = cs → P.mayEnter = b) := by
  refine ⟨?_, fun h => ?_⟩
  rotate_left
  · unfold Program.mayEnter
    rw [h]
def liftB (P : Program) (cs : List Char) : (b : Bool) ×' (P.initOrder.toList = cs → P.liftsFinal = b) := by
  refine ⟨?_, fun h => ?_⟩
  rotate_left
  · unfold Program.liftsFinal Program.headLifts
    rw [h]
def makeB (P : Program) (cs : List Char) : (b : Option Make) ×' (P.initOrder.toList = cs → P.make = b) := by
  refine ⟨?_, fun h => ?_⟩
  rotate_left
  · unfold Program.make
    rw [h]
set_option maxRecDepth 100000 in
theorem may : Try.prog.mayEnter = true := ((mayB Try.prog _).2 (toList_lit rfl)).trans (by kernel_rfl)
set_option maxRecDepth 100000 in
theorem lifts : Try.prog.liftsFinal = false := ((liftB Try.prog _).2 (toList_lit rfl)).trans (by kernel_rfl)
set_option maxRecDepth 100000 in
theorem makes : Try.prog.make = some .cut := ((makeB Try.prog _).2 (toList_lit rfl)).trans (by kernel_rfl)
theorem list7 {α : Type} {l : List α} (h : l.length = 7) : ∃ a b c d e f g, l = [a, b, c, d, e, f, g] := by
  match l, h with
  | [a, b, c, d, e, f, g], _ => exact ⟨a, b, c, d, e, f, g, rfl⟩
theorem list4 {α : Type} {l : List α} (h : l.length = 4) : ∃ a b c d, l = [a, b, c, d] := by
  match l, h with
  | [a, b, c, d], _ => exact ⟨a, b, c, d, rfl⟩
section
variable {H : Type} {enc : TypeId × Value → H} {W : World} {base : Nat} {v : Value} {d : DataW H} {p : List MemPlace}
set_option maxRecDepth 100000 in
/-- an argument that is a command -/
theorem open_cmd (hv : Value.okWide Try.prog W .any base 57 v) (h0 : DataW.Trod enc Try.prog W 0 (fun _ => true) true 57 v d p) : ∃ c : Cmd, c.n ≤ 9223372036854775807 ∧ RV noMu (allG W) W (.agg (cmdA c)) v := by
  obtain ⟨vs, rfl, hl, hf⟩ := open_struct Try.underlying57 (by kernel_rfl) (by kernel_rfl) (by kernel_rfl) hv h0
  obtain ⟨x0, x1, x2, x3, x4, x5, x6, rfl⟩ := list7 hl
  obtain ⟨n0, h0, r0⟩ := fld_i64 Try.underlying3 (hf 0 _ x0 rfl rfl).1
  obtain ⟨n1, h1, r1⟩ := fld_i64 Try.underlying3 (hf 1 _ x1 rfl rfl).1
  obtain ⟨n2, h2, r2⟩ := fld_i64 Try.underlying3 (hf 2 _ x2 rfl rfl).1
  obtain ⟨n3, h3, r3⟩ := fld_i64 Try.underlying3 (hf 3 _ x3 rfl rfl).1
  obtain ⟨n4, h4, r4⟩ := fld_i64 Try.underlying3 (hf 4 _ x4 rfl rfl).1
  obtain ⟨n5, h5, r5⟩ := fld_row (enc := enc) (w := 8) Try.underlying29 Try.underlying5 cells5 u8_wf (hf 5 _ x5 rfl rfl).1 (hf 5 _ x5 rfl rfl).2
  obtain ⟨n6, h6, r6⟩ := fld_row (enc := enc) (w := 8) Try.underlying29 Try.underlying5 cells5 u8_wf (hf 6 _ x6 rfl rfl).1 (hf 6 _ x6 rfl rfl).2
  refine ⟨⟨n0, n1, n2, n3, n4, some n5, some n6⟩, h4.2, ?_⟩
  simp only [cmdA, btA, RV, RVs]
  exact ⟨_, rfl, _, _, rfl, r0, _, _, rfl, r1, _, _, rfl, r2, _, _, rfl, r3, _, _, rfl, r4, _, _, rfl, by simpa only [RV] using r5, _, _, rfl, by simpa only [RV] using r6, rfl⟩
set_option maxRecDepth 100000 in
/-- a reply -/
theorem open_rep (hv : Value.okWide Try.prog W .any base 86 v) (h0 : DataW.Trod enc Try.prog W 0 (fun _ => true) true 86 v d p) : ∃ c : Rep, okR c ∧ RV noMu (allG W) W (.agg (repA c)) v := by
  obtain ⟨vs, rfl, hl, hf⟩ := open_struct Try.underlying86 (by kernel_rfl) (by kernel_rfl) (by kernel_rfl) hv h0
  obtain ⟨x0, x1, x2, x3, rfl⟩ := list4 hl
  obtain ⟨n0, h0, r0⟩ := fld_i64 Try.underlying27 (hf 0 _ x0 rfl rfl).1
  obtain ⟨n1, h1, r1⟩ := fld_i64 Try.underlying3 (hf 1 _ x1 rfl rfl).1
  obtain ⟨n2, h2, r2⟩ := fld_i64 Try.underlying3 (hf 2 _ x2 rfl rfl).1
  obtain ⟨n3, h3, r3⟩ := fld_row (enc := enc) (w := 8) Try.underlying29 Try.underlying5 cells5 u8_wf (hf 3 _ x3 rfl rfl).1 (hf 3 _ x3 rfl rfl).2
  refine ⟨⟨n0, n1, n2, some n3⟩, ⟨h0, h1, h2⟩, ?_⟩
  simp only [repA, btA, RV, RVs]
  exact ⟨_, rfl, _, _, rfl, r0, _, _, rfl, r1, _, _, rfl, r2, _, _, rfl, by simpa only [RV] using r3, rfl⟩
set_option maxRecDepth 100000 in
/-- an entry -/
theorem open_ent (hv : Value.okWide Try.prog W .any base 93 v) (h0 : DataW.Trod enc Try.prog W 0 (fun _ => true) true 93 v d p) : ∃ c : Eny, okN c ∧ RV noMu (allG W) W (.agg (entA c)) v := by
  obtain ⟨vs, rfl, hl, hf⟩ := open_struct Try.underlying93 (by kernel_rfl) (by kernel_rfl) (by kernel_rfl) hv h0
  obtain ⟨x0, x1, x2, x3, rfl⟩ := list4 hl
  obtain ⟨n0, h0, r0⟩ := fld_i64 Try.underlying3 (hf 0 _ x0 rfl rfl).1
  obtain ⟨n1, h1, r1⟩ := fld_i64 Try.underlying3 (hf 1 _ x1 rfl rfl).1
  obtain ⟨n2, h2, r2⟩ := fld_row (enc := enc) (w := 8) Try.underlying29 Try.underlying5 cells5 u8_wf (hf 2 _ x2 rfl rfl).1 (hf 2 _ x2 rfl rfl).2
  obtain ⟨n3, h3, o3, r3⟩ := fld_irow (enc := enc) Try.underlying23 Try.underlying3 cells3 (hf 3 _ x3 rfl rfl).1 (hf 3 _ x3 rfl rfl).2
  refine ⟨⟨n0, n1, some n2, some n3⟩, ⟨h2, h3, o3⟩, ?_⟩
  simp only [entA, btA, itA, RV, RVs]
  exact ⟨_, rfl, _, _, rfl, r0, _, _, rfl, r1, _, _, rfl, by simpa only [RV] using r2, _, _, rfl, by simpa only [RV] using r3, rfl⟩
end
end Go.Proofs.Ytjnmdphoaafjaaa
