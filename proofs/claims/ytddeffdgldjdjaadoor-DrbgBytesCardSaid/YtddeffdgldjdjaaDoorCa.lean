/- From the functions' promises to the rows: what all of the seat's rows need. -/
import Derived.Test.YtddeffdgldjdjaaDoorRows
import Derived.Test.YtddeffdgldjdjaaDoorM3
import Derived.Test.YtddeffdgldjdjaaDoorBc
import Derived.SizedLaws
namespace Go.Proofs.YtddeffdgldjdjaaDoor
set_option linter.unusedSimpArgs false
set_option linter.unusedVariables false
set_option linter.defProp false
open Go Go.Abs Go.ChangeShapes Go.WideShapes Go.ChangeAt Go.RowKit

theorem own : ownKnob Tryd.prog.godebug = none := by kernel_rfl
theorem laidOut : laidOutB Tryd.prog = true := by kernel_rfl
def laidL : List (String × DataW Unit) := [("strongroom/sha.add", Rows.laid_strongroom_sha_add)]
theorem door_met (os : Os) (args : Array Value) : laidMetH Tryd.prog laidL ((World.doorLaid Tryd.prog 400 os).forCall (fun _ _ => 0) ⟨#[], args, []⟩).memory :=
  laidMetH_of_parts3 (fuel := 8) (laidMet_of_run' 8 (by kernel_rfl) (by kernel_rfl)) (by kernel_rfl) (by kernel_rfl)
/-- no walk of this seat reads a package-level variable -/
theorem glob_of {W : World} (_ : laidMetH Tryd.prog laidL W) : ∀ gi xs, glob gi = some xs → RV noMu (allG W) W (.iptr xs) (.pointer (some ⟨gi, 0, none⟩)) := by
  intro gi xs hx
  cases hx
/-- a text's signs, without its bytes -/
theorem toList_lit {s : String} {cs : List Char} (h : s = String.ofList cs) : s.toList = cs := by rw [h, String.toList_ofList]
def mayB (P : Program) (cs : List Char) : (b : Bool) ×' (P.initOrder.toList = cs → P.mayEnter = b) := by
  refine ⟨?_, fun h => ?_⟩
  rotate_left
  · unfold Program.mayEnter
    rw [h]
def liftB (P : Program) (cs : List Char) : (b : Bool) ×' (P.initOrder.toList = cs → P.liftsFinal = b) := by
  refine ⟨?_, fun h => ?_⟩
  rotate_left
  · unfold Program.liftsFinal Program.headLifts
    rw [h]
def makeB (P : Program) (cs : List Char) : (b : Option Make) ×' (P.initOrder.toList = cs → P.make = b) := by
  refine ⟨?_, fun h => ?_⟩
  rotate_left
  · unfold Program.make
    rw [h]
def mainB (P : Program) (cs : List Char) : (b : Option (Bool × List Char)) ×' (P.initOrder.toList = cs → P.mainIs = b) := by
  refine ⟨?_, fun h => ?_⟩
  rotate_left
  · unfold Program.mainIs
    rw [h]
set_option maxRecDepth 100000 in
theorem may : Tryd.prog.mayEnter = true := ((mayB Tryd.prog _).2 (toList_lit rfl)).trans (by kernel_rfl)
set_option maxRecDepth 100000 in
theorem lifts : Tryd.prog.liftsFinal = false := ((liftB Tryd.prog _).2 (toList_lit rfl)).trans (by kernel_rfl)
set_option maxRecDepth 100000 in
theorem makes : Tryd.prog.make = some .cut := ((makeB Tryd.prog _).2 (toList_lit rfl)).trans (by kernel_rfl)
theorem list3 {α : Type} {l : List α} (h : l.length = 3) : ∃ a b c, l = [a, b, c] := by
  match l, h with
  | [a, b, c], _ => exact ⟨a, b, c, rfl⟩
section
variable {H : Type} {enc : TypeId × Value → H} {W : World} {base : Nat} {v : Value} {d : DataW H} {p : List MemPlace}
set_option maxRecDepth 100000 in
/-- a domain, a term, an index -/
theorem open_at (hv : Value.okWide Tryd.prog W .any base 50 v) (h0 : DataW.Trod enc Tryd.prog W 0 (fun _ => true) true 50 v d p) : ∃ x y z : Int, RV noMu (allG W) W (.agg [.raw (.int .i64 x), .raw (.int .i64 y), .raw (.int .i64 z)]) v := by
  obtain ⟨vs, rfl, hl, hf⟩ := open_struct Tryd.underlying50 (by kernel_rfl) (by kernel_rfl) (by kernel_rfl) hv h0
  obtain ⟨x0, x1, x2, rfl⟩ := list3 hl
  obtain ⟨n0, h0, r0⟩ := fld_i64 Tryd.underlying3 (hf 0 _ x0 rfl rfl).1
  obtain ⟨n1, h1, r1⟩ := fld_i64 Tryd.underlying3 (hf 1 _ x1 rfl rfl).1
  obtain ⟨n2, h2, r2⟩ := fld_i64 Tryd.underlying3 (hf 2 _ x2 rfl rfl).1
  refine ⟨n0, n1, n2, ?_⟩
  simp only [RV, RVs]
  exact ⟨_, rfl, _, _, rfl, r0, _, _, rfl, r1, _, _, rfl, r2, rfl⟩
end
end Go.Proofs.YtddeffdgldjdjaaDoor
