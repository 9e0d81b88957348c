/- From the functions' promises to the rows: arguments that are records. -/
import Derived.Test.YtddeffdgldjdjaaDoorCk
import Derived.Test.YtddeffdgldjdjaaDoorNe
namespace Go.Proofs.YtddeffdgldjdjaaDoor
set_option linter.unusedSimpArgs false
set_option linter.unusedVariables false
set_option linter.defProp false
open Go Go.Abs Go.ChangeShapes Go.WideShapes Go.ChangeAt Go.RowKit
open Go.Proofs.YtddeffdgldjdjaaDoor.W (Eny okN entA btA itA Rec recA recOK noE)
theorem list10 {α : Type} {l : List α} (h : l.length = 10) : ∃ a b c d e f g i j k,l = [a,b,c,d,e,f,g,i,j,k] := by
  match l,h with
  | [a,b,c,d,e,f,g,i,j,k],_ => exact ⟨a,b,c,d,e,f,g,i,j,k,rfl⟩
section
variable {H : Type} {enc : TypeId × Value → H} {W : World} {base : Nat} {v : Value} {d : DataW H} {p : List MemPlace}
theorem some_at {α : Type} {xs : List α} {o : Option α} {i n : Nat} (h : o = xs[i]?) (hl : xs.length = n) (hi : i < n) : ∃ x,o = some x := ⟨_,h.trans (List.getElem?_eq_getElem (by omega))⟩
set_option maxRecDepth 100000 in
theorem hard_el (a b : Value) (n : Nat) (y : DataW H × List MemPlace) (h : DataW.trod enc Tryd.prog W 0 (fun _ => true) true n 63 [a,b] = some y) : ∃ x z : Int,i64ok x ∧ i64ok z ∧ a = .int .i64 x ∧ b = .int .i64 z := by
  obtain ⟨xs,n',_,_,_,hxl,hx⟩ := DataW.trod_struct Tryd.underlying63 h
  have h0 : DataW.trod enc Tryd.prog W 0 (fun _ => true) true n' 3 (([a,b].drop 0).take (Tryd.prog.cellsOf 3)) = xs[0]? := hx 0 _ rfl
  have h1 : DataW.trod enc Tryd.prog W 0 (fun _ => true) true n' 3 (([a,b].drop 1).take (Tryd.prog.cellsOf 3)) = xs[1]? := hx 1 _ rfl
  rw [cells3] at h0 h1
  have hxl : xs.length = 2 := hxl
  obtain ⟨_,h0⟩ := some_at h0 hxl (by omega)
  obtain ⟨_,h1⟩ := some_at h1 hxl (by omega)
  obtain ⟨z0,k0,rfl⟩ := trod_i64 Tryd.underlying3 h0
  obtain ⟨z1,k1,rfl⟩ := trod_i64 Tryd.underlying3 h1
  exact ⟨z0,z1,k0,k1,rfl,rfl⟩
set_option maxRecDepth 100000 in
theorem entry_el (c0 c1 c2 c3 : Value) (n : Nat) (y : DataW H × List MemPlace) (h : DataW.trod enc Tryd.prog W 0 (fun _ => true) true n 66 [c0,c1,c2,c3] = some y) : ∃ x : Eny,okN x ∧ RVs noMu (allG W) W (entA x) [c0,c1,c2,c3] := by
  obtain ⟨xs,n',_,_,_,hxl,hx⟩ := DataW.trod_struct Tryd.underlying66 h
  have c1' : Tryd.prog.cellsOf 24 = 1 := by kernel_rfl
  have c2' : Tryd.prog.cellsOf 64 = 1 := by kernel_rfl
  have h0 : DataW.trod enc Tryd.prog W 0 (fun _ => true) true n' 3 (([c0,c1,c2,c3].drop 0).take (Tryd.prog.cellsOf 3)) = xs[0]? := hx 0 _ rfl
  have h1 : DataW.trod enc Tryd.prog W 0 (fun _ => true) true n' 3 (([c0,c1,c2,c3].drop 1).take (Tryd.prog.cellsOf 3)) = xs[1]? := hx 1 _ rfl
  have h2 : DataW.trod enc Tryd.prog W 0 (fun _ => true) true n' 24 (([c0,c1,c2,c3].drop 2).take (Tryd.prog.cellsOf 24)) = xs[2]? := hx 2 _ rfl
  have h3 : DataW.trod enc Tryd.prog W 0 (fun _ => true) true n' 64 (([c0,c1,c2,c3].drop 3).take (Tryd.prog.cellsOf 64)) = xs[3]? := hx 3 _ rfl
  rw [cells3] at h0 h1
  rw [c1'] at h2
  rw [c2'] at h3
  have hxl : xs.length = 4 := hxl
  obtain ⟨_,h0⟩ := some_at h0 hxl (by omega)
  obtain ⟨_,h1⟩ := some_at h1 hxl (by omega)
  obtain ⟨_,h2⟩ := some_at h2 hxl (by omega)
  obtain ⟨_,h3⟩ := some_at h3 hxl (by omega)
  obtain ⟨z0,k0,rfl⟩ := trod_i64 Tryd.underlying3 h0
  obtain ⟨z1,k1,rfl⟩ := trod_i64 Tryd.underlying3 h1
  obtain ⟨b,kb,rb⟩ := trod_row (w := 8) Tryd.underlying24 Tryd.underlying5 cells5 u8_wf h2
  obtain ⟨m,km,ki,rm⟩ := trod_irow Tryd.underlying64 Tryd.underlying3 cells3 h3
  refine ⟨⟨z0,z1,some b,some m⟩,⟨kb,km,ki⟩,?_⟩
  simp only [entA,btA,itA,RVs]
  exact ⟨_,_,rfl,by simp only [RV],_,_,rfl,by simp only [RV],_,_,rfl,rb,_,_,rfl,rm,rfl⟩
set_option maxRecDepth 100000 in
theorem rec_el (cs : List Value) (n : Nat) (y : DataW H × List MemPlace) (hl : cs.length = 10) (h : DataW.trod enc Tryd.prog W 0 (fun _ => true) true n 68 cs = some y) : ∃ x : Rec,recOK x ∧ RVs noMu (allG W) W (recA x) cs := by
  obtain ⟨xs,n',_,_,_,hxl,hx⟩ := DataW.trod_struct Tryd.underlying68 h
  obtain ⟨c0,c1,c2,c3,c4,c5,c6,c7,c8,c9,rfl⟩ := list10 hl
  have ch : Tryd.prog.cellsOf 63 = 2 := by kernel_rfl
  have ce : Tryd.prog.cellsOf 66 = 4 := by kernel_rfl
  have h0 : DataW.trod enc Tryd.prog W 0 (fun _ => true) true n' 3 (([c0,c1,c2,c3,c4,c5,c6,c7,c8,c9].drop 0).take (Tryd.prog.cellsOf 3)) = xs[0]? := hx 0 _ rfl
  have h1 : DataW.trod enc Tryd.prog W 0 (fun _ => true) true n' 3 (([c0,c1,c2,c3,c4,c5,c6,c7,c8,c9].drop 1).take (Tryd.prog.cellsOf 3)) = xs[1]? := hx 1 _ rfl
  have h2 : DataW.trod enc Tryd.prog W 0 (fun _ => true) true n' 3 (([c0,c1,c2,c3,c4,c5,c6,c7,c8,c9].drop 2).take (Tryd.prog.cellsOf 3)) = xs[2]? := hx 2 _ rfl
  have h3 : DataW.trod enc Tryd.prog W 0 (fun _ => true) true n' 3 (([c0,c1,c2,c3,c4,c5,c6,c7,c8,c9].drop 3).take (Tryd.prog.cellsOf 3)) = xs[3]? := hx 3 _ rfl
  have h4 : DataW.trod enc Tryd.prog W 0 (fun _ => true) true n' 63 (([c0,c1,c2,c3,c4,c5,c6,c7,c8,c9].drop 4).take (Tryd.prog.cellsOf 63)) = xs[4]? := hx 4 _ rfl
  have h5 : DataW.trod enc Tryd.prog W 0 (fun _ => true) true n' 66 (([c0,c1,c2,c3,c4,c5,c6,c7,c8,c9].drop 6).take (Tryd.prog.cellsOf 66)) = xs[5]? := hx 5 _ rfl
  rw [cells3] at h0 h1 h2 h3
  rw [ch] at h4
  rw [ce] at h5
  have hxl : xs.length = 6 := hxl
  obtain ⟨_,h0⟩ := some_at h0 hxl (by omega)
  obtain ⟨_,h1⟩ := some_at h1 hxl (by omega)
  obtain ⟨_,h2⟩ := some_at h2 hxl (by omega)
  obtain ⟨_,h3⟩ := some_at h3 hxl (by omega)
  obtain ⟨_,h4⟩ := some_at h4 hxl (by omega)
  obtain ⟨_,h5⟩ := some_at h5 hxl (by omega)
  obtain ⟨z0,k0,rfl⟩ := trod_i64 Tryd.underlying3 h0
  obtain ⟨z1,k1,rfl⟩ := trod_i64 Tryd.underlying3 h1
  obtain ⟨z2,k2,rfl⟩ := trod_i64 Tryd.underlying3 h2
  obtain ⟨z3,k3,rfl⟩ := trod_i64 Tryd.underlying3 h3
  obtain ⟨z4,z5,k4,k5,rfl,rfl⟩ := hard_el _ _ _ _ h4
  obtain ⟨e,ke,re⟩ := entry_el _ _ _ _ _ _ h5
  refine ⟨⟨z0,z1,z2,z3,z4,z5,e⟩,⟨ke,k0,k1,k2,k3,k4,k5⟩,?_⟩
  simp only [recA,RVs]
  exact ⟨_,_,rfl,by simp only [RV],_,_,rfl,by simp only [RV],_,_,rfl,by simp only [RV],_,_,rfl,by simp only [RV],_,_,rfl,by simp only [RV],_,_,rfl,by simp only [RV],re⟩
end
end Go.Proofs.YtddeffdgldjdjaaDoor
