/- From the functions' promises to the rows: what the rows about records need. -/
import Derived.Test.YtddeffdgldjdjaaDoorRows
import Derived.Test.YtddeffdgldjdjaaDoorHb
import Derived.SizedLaws
namespace Go.Proofs.YtddeffdgldjdjaaDoor
set_option linter.unusedSimpArgs false
set_option linter.unusedVariables false
set_option linter.defProp false
open Go Go.Abs Go.ChangeShapes Go.WideShapes Go.ChangeAt Go.RowKit
theorem own : ownKnob Tryd.prog.godebug = none:=by kernel_rfl
theorem laidOut : laidOutB Tryd.prog = true:=by kernel_rfl
def laidL : List (String × DataW Unit) := [("strongroom/sha.add", Rows.laid_strongroom_sha_add)]
theorem door_met (os : Os) (args : Array Value) : laidMetH Tryd.prog laidL ((World.doorLaid Tryd.prog 400 os).forCall (fun _ _=>0) ⟨#[],args,[]⟩).memory :=
  laidMetH_of_parts3 (fuel:=8) (laidMet_of_run' 8 (by kernel_rfl) (by kernel_rfl)) (by kernel_rfl) (by kernel_rfl)
theorem toList_lit {s : String} {cs : List Char} (h : s = String.ofList cs) : s.toList = cs:=by rw [h,String.toList_ofList]
def mayB (P : Program) (cs : List Char) : (b : Bool) ×' (P.initOrder.toList = cs→P.mayEnter = b):=by
  refine ⟨?_,fun h=>?_⟩
  rotate_left
  · unfold Program.mayEnter
    rw [h]
def liftB (P : Program) (cs : List Char) : (b : Bool) ×' (P.initOrder.toList = cs→P.liftsFinal = b):=by
  refine ⟨?_,fun h=>?_⟩
  rotate_left
  · unfold Program.liftsFinal Program.headLifts
    rw [h]
def makeB (P : Program) (cs : List Char) : (b : Option Make) ×' (P.initOrder.toList = cs→P.make = b):=by
  refine ⟨?_,fun h=>?_⟩
  rotate_left
  · unfold Program.make
    rw [h]
def mainB (P : Program) (cs : List Char) : (b : Option (Bool × List Char)) ×' (P.initOrder.toList = cs→P.mainIs = b):=by
  refine ⟨?_,fun h=>?_⟩
  rotate_left
  · unfold Program.mainIs
    rw [h]
set_option maxRecDepth 100000 in
theorem may : Tryd.prog.mayEnter = true:=((mayB Tryd.prog _).2 (toList_lit rfl)).trans (by kernel_rfl)
set_option maxRecDepth 100000 in
theorem lifts : Tryd.prog.liftsFinal = false:=((liftB Tryd.prog _).2 (toList_lit rfl)).trans (by kernel_rfl)
set_option maxRecDepth 100000 in
theorem makes : Tryd.prog.make = some .cut:=((makeB Tryd.prog _).2 (toList_lit rfl)).trans (by kernel_rfl)
theorem gAdd : Tryd.prog.globalNamed "strongroom/sha.add" = some 0 := by kernel_rfl
theorem tAdd : (Tryd.prog.globals[0]?).map (·.type) = some 166:=by kernel_rfl
theorem cells5 : Tryd.prog.cellsOf 5 = 1:=by kernel_rfl
theorem cells72 : Tryd.prog.cellsOf 72 = 1:=by kernel_rfl
theorem cells166 : Tryd.prog.cellsOf 166 = 64:=by kernel_rfl
theorem tab_eq : laidL = [("strongroom/sha.add", Lib.tabData .u32 (addL.map fun x => (x.toNat : Int)))] := rfl
theorem glob_ofS {W : World} (h : laidMetH Tryd.prog laidL W) : ∀ gi xs,globS gi = some xs→RV noMu (allG W) W (.iptr xs) (.pointer (some ⟨gi,0,none⟩)):=by
  rw [MakeChecks.laidMetH_plain _ _ _ (by kernel_rfl),tab_eq] at h
  have ht:=Lib.tabIs_of_head gAdd tAdd Tryd.underlying166 Tryd.underlying72 cells72 cells166 h
  intro gi xs hx
  unfold globS at hx
  split at hx
  · rename_i e; subst e; cases hx
    exact glob_of_tab ht gAdd
  · cases hx
theorem u8_wf : ∀ z,(Lit.int .u8 z).wf = true→0 ≤ z ∧ z < 2 ^ 8:=fun z h=>by
  have h1 : IntKind.u8.min = 0:=rfl
  have h2 : IntKind.u8.max = 255:=rfl
  simp only [Lit.wf,Bool.and_eq_true,decide_eq_true_eq] at h
  omega
end Go.Proofs.YtddeffdgldjdjaaDoor
