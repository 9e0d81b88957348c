/- A command in a box; what names a part: the closures that call others. -/
import Derived.Test.YtjnmdphoaafjaaaPl
namespace Go.Proofs.Ytjnmdphoaafjaaa
set_option linter.unusedSimpArgs false
set_option linter.unusedVariables false
set_option linter.defProp false
open Go Go.Abs
set_option maxHeartbeats 4000000
structure Cmd where
  k : Int
  s : Int
  q : Int
  i : Int
  n : Int
  d : Option (List (BitVec 8))
  b : Option (List (BitVec 8))
def btA : Option (List (BitVec 8)) → AV
  | none => .raw (.slice none 0 0)
  | some l => .sl l.length (nums .u8 l) .bor
def cmdA (c : Cmd) : List AV := [.raw (.int .i64 c.k), .raw (.int .i64 c.s), .raw (.int .i64 c.q), .raw (.int .i64 c.i), .raw (.int .i64 c.n), btA c.d, btA c.b]
theorem nums_inj8 : ∀ {l m : List (BitVec 8)}, nums .u8 l = nums .u8 m → l = m
  | [], [], _ => rfl
  | [], y :: m, h => by simp [nums] at h
  | x :: l, [], h => by simp [nums] at h
  | x :: l, y :: m, h => by
    simp only [nums, List.map_cons, List.cons.injEq, AV.raw.injEq, Value.int.injEq, true_and] at h
    obtain ⟨h1, h2⟩ := h
    have e : x = y := BitVec.eq_of_toNat_eq (by omega)
    rw [e, nums_inj8 h2]
theorem btA_inj {x y : Option (List (BitVec 8))} (h : btA x = btA y) : x = y := by
  cases x <;> cases y <;> simp only [btA, AV.sl.injEq, reduceCtorEq] at h
  · rfl
  · rw [nums_inj8 h.2.1]
theorem cmdA_inj {c e : Cmd} (h : cmdA c = cmdA e) : c = e := by
  obtain ⟨k, s, q, i, n, d, b⟩ := c
  obtain ⟨k', s', q', i', n', d', b'⟩ := e
  simp only [cmdA, List.cons.injEq, AV.raw.injEq, Value.int.injEq, true_and, and_true] at h
  obtain ⟨rfl, rfl, rfl, rfl, rfl, h1, h2⟩ := h
  rw [btA_inj h1, btA_inj h2]
noncomputable def cmd? (cs : List AV) : Option Cmd := open Classical in if h : ∃ c, cs = cmdA c then some h.choose else none
theorem cmd?_of {cs : List AV} {c : Cmd} (h : cmd? cs = some c) : cs = cmdA c := by
  unfold cmd? at h
  split at h
  · rename_i h0; cases h; exact h0.choose_spec
  · cases h
theorem cmd?_at (c : Cmd) : cmd? (cmdA c) = some c := by
  have h0 : ∃ e, cmdA c = cmdA e := ⟨c, rfl⟩
  unfold cmd?
  rw [dif_pos h0, cmdA_inj h0.choose_spec.symm]
theorem btA_ren (l s g : Nat) (x : Option (List (BitVec 8))) : ren1 l s g (btA x) = btA x := by cases x <;> rfl
theorem cmdA_ren (l s g : Nat) (c : Cmd) : (cmdA c).map (ren1 l s g) = cmdA c := by
  simp only [cmdA, List.map_cons, List.map_nil, btA_ren]; rfl
theorem gfC_at {f : List AV → List AV} {b : Bx} {bx : Boxes} {us : Abs.Id → Bool} {c : Cmd} (hb : bx b = some (cmdA c)) : gfC f [.ptr b 0] bx us = some { v := .ret (.tup []), wr := [(b, f (cmdA c))] } := by
  simp only [gfC, hb, Option.bind_some]; rfl
/-- which closure takes what away -/
def clrF (g : Nat) : Option (Cmd → Cmd) :=
  if g = 92 then some fun c => { c with i := 0 }
  else if g = 94 then some fun c => { c with d := none }
  else if g = 95 then some fun c => { c with s := 0, q := 0 }
  else if g = 96 then some fun c => { c with n := 0 }
  else if g = 97 then some fun c => { c with n := 0 }
  else if g = 98 then some fun c => { c with b := none }
  else if g = 99 then some fun c => { c with b := none }
  else none
def E8 : Env := ((((((((E0.knowG 92 (gfC fun cs => cs.set 3 (.raw (.int .i64 0)))).knowG 94 (gfC fun cs => cs.set 5 (.raw (.slice none 0 0)))).knowG 95 (gfC fun cs => (cs.set 1 (.raw (.int .i64 0))).set 2 (.raw (.int .i64 0)))).knowG 96 (gfC fun cs => cs.set 4 (.raw (.int .i64 0)))).knowG 97 (gfC fun cs => cs.set 4 (.raw (.int .i64 0)))).knowG 98 (gfC fun cs => cs.set 6 (.raw (.slice none 0 0)))).knowG 99 (gfC fun cs => cs.set 6 (.raw (.slice none 0 0)))).know 91 pf91).dynamic
theorem ok8 : EnvOK Try.prog E8 := ((((((((ok0.knowG sound92).knowG sound94).knowG sound95).knowG sound96).knowG sound97).knowG sound98).knowG sound99).know sound91).dynamic
theorem E8_te : E8.te = te := rfl
theorem E8_glob : E8.glob = glob := rfl
theorem E8_mu (d : Nat) : E8.mu d = false := rfl
theorem E8_gs : E8.gs = [99, 98, 97, 96, 95, 94, 92] := rfl
theorem E8_dyn : E8.dyn = true := rfl
theorem E8_w : E8.tbl 91 = some (.val pf91) := rfl
theorem clr_tbl {g : Nat} {t : Cmd → Cmd} (h : clrF g = some t) : ∃ f : List AV → List AV, E8.tbl g = some (.gen (gfC f)) ∧ ∀ c, f (cmdA c) = cmdA (t c) := by
  unfold clrF at h
  by_cases h1 : g = 92
  · subst h1; cases h; exact ⟨_, rfl, fun _ => rfl⟩
  by_cases h2 : g = 94
  · subst h2; cases h; exact ⟨_, rfl, fun _ => rfl⟩
  by_cases h3 : g = 95
  · subst h3; cases h; exact ⟨_, rfl, fun _ => rfl⟩
  by_cases h4 : g = 96
  · subst h4; cases h; exact ⟨_, rfl, fun _ => rfl⟩
  by_cases h5 : g = 97
  · subst h5; cases h; exact ⟨_, rfl, fun _ => rfl⟩
  by_cases h6 : g = 98
  · subst h6; cases h; exact ⟨_, rfl, fun _ => rfl⟩
  by_cases h7 : g = 99
  · subst h7; cases h; exact ⟨_, rfl, fun _ => rfl⟩
  simp only [if_neg h1, if_neg h2, if_neg h3, if_neg h4, if_neg h5, if_neg h6, if_neg h7] at h
  cases h
theorem cmdA_low {L : Nat} (c : Cmd) : lowL L (cmdA c) ∧ ∀ x ∈ cmdA c, (∀ n ys i z, x = .sl n ys (.own i z) → i.lvl < L ∧ i.gen ≠ 0) ∧ ∀ vs, x ≠ .tup vs := by
  have hb : ∀ x : Option (List (BitVec 8)), pureA (btA x) = true ∧ (∀ n ys i z, btA x ≠ .sl n ys (.own i z)) ∧ ∀ vs, btA x ≠ .tup vs := fun x => by
    cases x with
    | none => exact ⟨rfl, fun _ _ _ _ h => (by cases h), fun _ h => (by cases h)⟩
    | some l => exact ⟨by simp only [btA, pureA]; exact nums_pure l, fun _ _ _ _ h => (by cases h), fun _ h => (by cases h)⟩
  refine ⟨lowL_pure _ (by simp only [cmdA, pureL, (hb c.d).1, (hb c.b).1]; rfl), fun x hx => ?_⟩
  simp only [cmdA, List.mem_cons, List.not_mem_nil, or_false] at hx
  rcases hx with rfl | rfl | rfl | rfl | rfl | rfl | rfl
  · exact ⟨fun _ _ _ _ h => (by cases h), fun _ h => (by cases h)⟩
  · exact ⟨fun _ _ _ _ h => (by cases h), fun _ h => (by cases h)⟩
  · exact ⟨fun _ _ _ _ h => (by cases h), fun _ h => (by cases h)⟩
  · exact ⟨fun _ _ _ _ h => (by cases h), fun _ h => (by cases h)⟩
  · exact ⟨fun _ _ _ _ h => (by cases h), fun _ h => (by cases h)⟩
  · exact ⟨fun n ys i z h => absurd h ((hb c.d).2.1 n ys i z), (hb c.d).2.2⟩
  · exact ⟨fun n ys i z h => absurd h ((hb c.b).2.1 n ys i z), (hb c.b).2.2⟩
end Go.Proofs.Ytjnmdphoaafjaaa
