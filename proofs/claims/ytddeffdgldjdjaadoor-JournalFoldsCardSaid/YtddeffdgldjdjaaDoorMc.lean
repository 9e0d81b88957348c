/- Entries in boxes. -/
import Derived.Test.YtddeffdgldjdjaaDoorMb
namespace Go.Proofs.YtddeffdgldjdjaaDoor.W
set_option linter.unusedSimpArgs false
set_option linter.unusedVariables false
set_option linter.defProp false
open Go Go.Abs
set_option maxHeartbeats 8000000
def itA : Option (List Int) → AV
  | none => .raw (.slice none 0 0)
  | some l => .sl l.length (ints .i64 l) .bor
theorem ints_inj8 : ∀ {l m : List Int}, ints .i64 l = ints .i64 m → l = m
  | [], [], _ => rfl
  | [], y :: m, h => by simp [ints] at h
  | x :: l, [], h => by simp [ints] at h
  | x :: l, y :: m, h => by
    simp only [ints, List.map_cons, List.cons.injEq, AV.raw.injEq, Value.int.injEq, true_and] at h
    obtain ⟨h1, h2⟩ := h
    rw [h1, ints_inj8 h2]
theorem itA_inj {x y : Option (List Int)} (h : itA x = itA y) : x = y := by
  cases x <;> cases y <;> simp only [itA, AV.sl.injEq, reduceCtorEq] at h
  · rfl
  · rw [ints_inj8 h.2.1]
theorem itA_strip (x : Option (List Int)) : strip (itA x) = itA x := by cases x <;> rfl
theorem itA_one (x : Option (List Int)) : oneA (itA x) = true := by cases x <;> rfl
theorem itA_ren (l s g : Nat) (x : Option (List Int)) : ren1 l s g (itA x) = itA x := by cases x <;> rfl
structure Eny where
  t : Int
  k : Int
  d : Option (List (BitVec 8))
  m : Option (List Int)
def entA (r : Eny) : List AV := [.raw (.int .i64 r.t), .raw (.int .i64 r.k), btA r.d, itA r.m]
theorem entA_inj {c e : Eny} (h : entA c = entA e) : c = e := by
  obtain ⟨k, s, q, b⟩ := c
  obtain ⟨k', s', q', b'⟩ := e
  simp only [entA, List.cons.injEq, AV.raw.injEq, Value.int.injEq, true_and, and_true] at h
  obtain ⟨rfl, rfl, h1, h2⟩ := h
  rw [btA_inj h1, itA_inj h2]
noncomputable def ent? (cs : List AV) : Option Eny := open Classical in if h : ∃ c, cs = entA c then some h.choose else none
theorem ent?_of {cs : List AV} {c : Eny} (h : ent? cs = some c) : cs = entA c := by
  unfold ent? at h
  split at h
  · rename_i h0; cases h; exact h0.choose_spec
  · cases h
theorem ent?_at (c : Eny) : ent? (entA c) = some c := by
  have h0 : ∃ e, entA c = entA e := ⟨c, rfl⟩
  unfold ent?
  rw [dif_pos h0, entA_inj h0.choose_spec.symm]
theorem entA_0 (c : Eny) : (entA c)[0]? = some (.raw (.int .i64 c.t)) := rfl
theorem entA_1 (c : Eny) : (entA c)[1]? = some (.raw (.int .i64 c.k)) := rfl
theorem entA_2 (c : Eny) : (entA c)[2]? = some (btA c.d) := rfl
theorem entA_3 (c : Eny) : (entA c)[3]? = some (itA c.m) := rfl
theorem entA_len (c : Eny) : (entA c).length = 4 := rfl
theorem entA_strip (c : Eny) : (entA c).map strip = entA c := by simp only [entA, List.map_cons, List.map_nil, btA_strip, itA_strip]; rfl
def idat : Option (List Int) → List Int
  | none => []
  | some l => l
section
variable {bx : Boxes}
theorem btA_snap (x : Option (List (BitVec 8))) : snap bx (btA x) = some (btA x) := by
  cases x with
  | none => rfl
  | some l => simp only [btA, snap, nums_snap]; rfl
theorem itA_snap (x : Option (List Int)) : snap bx (itA x) = some (itA x) := by
  cases x with
  | none => rfl
  | some l => simp only [itA, snap, ints_snap]; rfl
theorem entA_snap (c : Eny) : snapL bx (entA c) = some (entA c) := by simp only [entA, snapL, snap, btA_snap, itA_snap]; rfl
end
theorem btA_noview (x : Option (List (BitVec 8))) : hasView (btA x) = false := by
  cases x with
  | none => rfl
  | some l => simp only [btA, hasView, nums_noview]
theorem itA_noview (x : Option (List Int)) : hasView (itA x) = false := by
  cases x with
  | none => rfl
  | some l => simp only [itA, hasView, ints_noview]
theorem entA_noview (c : Eny) : hasViewL (entA c) = false := by simp only [entA, hasViewL, hasView, btA_noview, itA_noview]; rfl
theorem entA_take (c : Eny) : (entA c).take 4 = entA c := rfl
theorem entA_one (c : Eny) : (entA c).all oneA = true := by simp only [entA, List.all_cons, btA_one, itA_one]; rfl
theorem rep2 (x : AV) : rep 2 [x] = [x, x] := rfl
theorem rep3 (x : AV) : rep 3 [x] = [x, x, x] := rfl
theorem rep5 (x : AV) : rep 5 [x] = [x, x, x, x, x] := rfl
theorem le2 (a b : AV) : (2 ≤ [a, b].length) = True := by simp
theorem le3 (a b c : AV) : (3 ≤ [a, b, c].length) = True := by simp
theorem le5 (a b c d e : AV) : (5 ≤ [a, b, c, d, e].length) = True := by simp
theorem dr1 (a : AV) : [a].drop 1 = [] := rfl
theorem dr2 (a b : AV) : [a, b].drop 2 = [] := rfl
theorem dr3 (a b c : AV) : [a, b, c].drop 3 = [] := rfl
theorem dr5 (a b c d e : AV) : [a, b, c, d, e].drop 5 = [] := rfl
theorem zeroE : List.map AV.raw ([Value.int .i64 0, Value.int .i64 0] ++ [Value.slice none 0 0, Value.slice none 0 0]) = entA ⟨0, 0, none, none⟩ := rfl
theorem dropE (c : Eny) : (entA c).drop 4 = [] := rfl
theorem splice_ent (c : Eny) (k s q b : AV) : splice (entA c) 0 [k, s, q, b] = [k, s, q, b] := by simp [splice, entA]
theorem splice_ent' (c e : Eny) : splice (entA c) 0 (entA e) = entA e := by simp [splice, entA]
end Go.Proofs.YtddeffdgldjdjaaDoor.W
