/- From the functions' promises to the rows: what all of the seat's rows need. -/
import Derived.Test.YtjnmdphoaafjaaaRows
import Derived.Test.YtjnmdphoaafjaaaM3
import Derived.Test.YtjnmdphoaafjaaaBj
import Derived.SizedLaws
namespace Go.Proofs.Ytjnmdphoaafjaaa
set_option linter.unusedSimpArgs false
set_option linter.unusedVariables false
set_option linter.defProp false
open Go Go.Abs Go.ChangeShapes Go.WideShapes Go.ChangeAt Go.RowKit

theorem own : ownKnob Try.prog.godebug = none := by kernel_rfl
theorem laidOut : laidOutB Try.prog = true := by kernel_rfl
theorem cells5 : Try.prog.cellsOf 5 = 1 := by kernel_rfl
theorem cells3 : Try.prog.cellsOf 3 = 1 := by kernel_rfl
theorem bytes5 : Try.prog.bytesOf 5 = 1 := by kernel_rfl
theorem bytes3 : Try.prog.bytesOf 3 = 8 := by kernel_rfl
theorem glob_none {W : World} : ∀ gi xs, glob gi = some xs → RV noMu (allG W) W (.iptr xs) (.pointer (some ⟨gi, 0, none⟩)) := by
  intro gi xs hx
  cases hx
theorem u8_wf : ∀ z, (Lit.int .u8 z).wf = true → 0 ≤ z ∧ z < 2 ^ 8 := fun z h => by
  have h1 : IntKind.u8.min = 0 := rfl
  have h2 : IntKind.u8.max = 255 := rfl
  simp only [Lit.wf, Bool.and_eq_true, decide_eq_true_eq] at h
  omega
theorem slLen {μ : Bx → Option Nat} {G : Nat → Nat → Prop} {W : World} {n : Nat} {xs : List AV} {fl : Fl} {v : Value} (h : RV μ G W (.sl n xs fl) v) : ∃ a c, v = .slice a n c := by
  simp only [RV] at h
  rcases h with ⟨⟨A, h1⟩, h2, _⟩ | ⟨k, o, c, us, h1, _⟩
  · exact ⟨_, _, by rw [h1, h2]⟩
  · exact ⟨_, _, h1⟩
theorem sizedLen {H : Type} {enc : TypeId × Value → H} {P : Program} {W : World} {t e : TypeId} {k : IntKind} {v : Value} {d : DataW H} {p : List MemPlace} {n : Nat} (ht : P.underlying t = some (.slice e)) (he : P.underlying e = some (.int k)) (hc : P.cellsOf e = 1)
    (h0 : DataW.Trod enc P W 0 (fun _ => true) true t v d p) (hv : ∃ a c, v = .slice a n c) {ts : List TypeId} {ds : List (DataW H)} {j : Nat} (hz : (DataW.weightsEach P ts ds).all (· ≤ reachBytes) = true) (hts : ts[j]? = some t) (hds : ds[j]? = some d) : n * P.bytesOf e ≤ reachBytes := by
  obtain ⟨a, c, rfl⟩ := hv
  obtain ⟨fuel, hf⟩ := h0
  rcases open_ints ht he hc hf with ⟨hcs, _⟩ | ⟨a', len', cap', zs, hcs, _, hl, hm, hzl, hx, _, _⟩
  · simp [Value.cells] at hcs
    rw [hcs.2.1]; simp
  · simp [Value.cells] at hcs
    obtain ⟨rfl, rfl, rfl⟩ := hcs
    simp only [Prod.mk.injEq] at hx
    rw [hx.1] at hds
    have := sized_slice hz hts hds ht
    simp only [lits, List.length_map, List.length_take, List.length_drop] at this
    simp only [if_true] at hzl
    refine Nat.le_trans (Nat.mul_le_mul_right _ ?_) this
    omega
theorem preNone {H : Type} {enc : TypeId × Value → H} {P : Program} {fn : Func} {c : OpenClaim} {s : ChangeSpec} (hl : c.laid = []) : c.pre enc P fn (OpenSpec.ofChange s) = fun w args => (s.pre enc P fn c.domain c.apart w args ∧ True) ∧ sizedMet enc P fn (OpenSpec.ofChange s) c.apart w args := by
  funext w args
  unfold OpenClaim.pre OpenClaim.preLaid
  rw [hl, and_true]
  rfl
/-- a text's signs, without its bytes -/
theorem toList_lit {s : String} {cs : List Char} (h : s = String.ofList cs) : s.toList = cs := by rw [h, String.toList_ofList]
def mayB (P : Program) (cs : List Char) : (b : Bool) ×' (P.initOrder.toList = cs → P.mayEnter = b) := by
  refine ⟨?_, fun h => ?_⟩
  rotate_left
  · unfold Program.mayEnter
    rw [h]
def liftB (P : Program) (cs : List Char) : (b : Bool) ×' (P.initOrder.toList = cs → P.liftsFinal = b) := by
  refine ⟨?_, fun h => ?_⟩
  rotate_left
  · unfold Program.liftsFinal Program.headLifts
    rw [h]
def makeB (P : Program) (cs : List Char) : (b : Option Make) ×' (P.initOrder.toList = cs → P.make = b) := by
  refine ⟨?_, fun h => ?_⟩
  rotate_left
  · unfold Program.make
    rw [h]
set_option maxRecDepth 100000 in
theorem may : Try.prog.mayEnter = true := ((mayB Try.prog _).2 (toList_lit rfl)).trans (by kernel_rfl)
set_option maxRecDepth 100000 in
theorem lifts : Try.prog.liftsFinal = false := ((liftB Try.prog _).2 (toList_lit rfl)).trans (by kernel_rfl)
set_option maxRecDepth 100000 in
theorem makes : Try.prog.make = some .cut := ((makeB Try.prog _).2 (toList_lit rfl)).trans (by kernel_rfl)
end Go.Proofs.Ytjnmdphoaafjaaa
