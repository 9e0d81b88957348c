/- Small tools of the walks: decoding of arguments, freshness of one's own slices. -/
import Derived.Test.YteooikdcafodfaaDoorAx
namespace Go.Abs
set_option linter.unusedSimpArgs false
set_option linter.unusedVariables false
open Go

section
variable {E : Env} {sl : Nat → AV}
theorem ev_tmp {t : Nat} : ev E sl (.tmp t) = sl t := rfl
theorem ev_const {v : Value} : ev E sl (.const v) = ofV v := rfl
theorem ev_global {g : Nat} : ev E sl (.global g) = match E.glob g with | some xs => .iptr xs | none => .dead := rfl
theorem ev_func {f : FuncId} : ev E sl (.func f) = .fn f [] := rfl
end

theorem unV_not (b : Bool) : unV .not (.raw (.bool b)) = some (.raw (.bool !b)) := rfl
theorem unV_any : unV .not .anyb = some .anyb := rfl
theorem unV_neg (k : IntKind) (n : Int) : unV .neg (.raw (.int k n)) = some (.raw (.int k (k.wrap (0 - n)))) := rfl
theorem bb_t (b : Bool) : (b == true) = b := by cases b <;> rfl
theorem bb_f (b : Bool) : (b == false) = !b := by cases b <;> rfl

section
variable {te : TypeId → Option TI} {op : BinOp} {t : TypeId}
theorem bin_int {k k' : IntKind} {a b : Int} : binV te op t (.raw (.int k a)) (.raw (.int k' b)) = match op with
    | .shl | .shr => shiftV op k a b
    | _ => if k = k' then intV op k a b else none := rfl
theorem bin_bool {a b : Bool} : binV te op t (.raw (.bool a)) (.raw (.bool b)) = match kd te t with
    | .bool => eqNeg op (a == b)
    | _ => none := rfl
theorem bin_str {a b : ByteArray} : binV te op t (.raw (.string a)) (.raw (.string b)) = match op with
    | .eql => some (.raw (.bool (a.data.toList == b.data.toList)))
    | .neq => some (.raw (.bool !(a.data.toList == b.data.toList)))
    | _ => none := rfl
theorem bin_nil : binV te op t (.raw (.slice none 0 0)) (.raw (.slice none 0 0)) = match kd te t with
    | .slice _ => eqNeg op true
    | _ => none := rfl
theorem bin_sl {n : Nat} {xs : List AV} {fl : Fl} : binV te op t (.sl n xs fl) (.raw (.slice none 0 0)) = match kd te t, op with
    | .slice _, .eql => some (if n = 0 then .anyb else .raw (.bool false))
    | .slice _, .neq => some (if n = 0 then .anyb else .raw (.bool true))
    | _, _ => none := rfl
theorem bin_view {b : Bx} {o n c z : Nat} : binV te op t (.view b o n c z) (.raw (.slice none 0 0)) = match kd te t with
    | .slice _ => eqNeg op false
    | _ => none := rfl
theorem bin_ptr {b : Bx} {o : Nat} : binV te op t (.ptr b o) (.raw (.pointer none)) = match kd te t with
    | .ptr _ => eqNeg op false
    | _ => none := rfl
theorem bin_iptr {xs : List AV} : binV te op t (.iptr xs) (.raw (.pointer none)) = match kd te t with
    | .ptr _ => eqNeg op false
    | _ => none := rfl
theorem bin_np : binV te op t (.raw (.pointer none)) (.raw (.pointer none)) = match kd te t with
    | .ptr _ => eqNeg op true
    | _ => none := rfl
theorem bin_agg {e : TypeId} {len : Nat} {k : IntKind} {w b : Nat} {z : List Value} (l m : List (BitVec w)) (h1 : kd te t = .arr len e) (h2 : te e = some ⟨.int k, 1, b, z⟩) (hl : l.length = len) (hm : m.length = len) :
    binV te op t (.agg (nums k l)) (.agg (nums k m)) = eqNeg op (l == m) := by
  simp only [binV, h1, nums_ints, h2, List.length_map, hl, hm, true_and]
  have hk : ∀ l : List (BitVec w), ((l.map fun x => (k, (x.toNat : Int))).all (·.1 == k)) = true := fun l => by simp
  rw [hk, hk, if_pos ⟨rfl, rfl⟩]
  congr 1
  rw [Bool.eq_iff_iff, beq_iff_eq, beq_iff_eq, List.map_map, List.map_map]
  constructor
  · intro h
    have key : ∀ l m : List (BitVec w), l.map ((fun p : IntKind × Int => p.2) ∘ fun x : BitVec w => (k, (x.toNat : Int))) = m.map ((fun p : IntKind × Int => p.2) ∘ fun x : BitVec w => (k, (x.toNat : Int))) → l = m := by
      intro l
      induction l with
      | nil => intro m hm; cases m with | nil => rfl | cons => cases hm
      | cons x l ih =>
        intro m hm
        cases m with
        | nil => cases hm
        | cons y m =>
          simp only [List.map_cons, List.cons.injEq, Function.comp] at hm
          rw [BitVec.eq_of_toNat_eq (Int.ofNat_inj.1 hm.1), ih m hm.2]
    exact key l m h
  · rintro rfl; rfl
end

/-- nil is a slice of nothing -/
def norm : AV → AV
  | .raw (.slice none 0 0) => .sl 0 [] .bor
  | v => v
theorem norm_nil : norm (.raw (.slice none 0 0)) = .sl 0 [] .bor := rfl
theorem norm_sl {n : Nat} {xs : List AV} {fl : Fl} : norm (.sl n xs fl) = .sl n xs fl := rfl
theorem norm_agg {xs : List AV} : norm (.agg xs) = .agg xs := rfl
theorem norm_int {k : IntKind} {n : Int} : norm (.raw (.int k n)) = .raw (.int k n) := rfl
theorem norm_bool {b : Bool} : norm (.raw (.bool b)) = .raw (.bool b) := rfl
theorem norm_str {s : ByteArray} : norm (.raw (.string s)) = .raw (.string s) := rfl

theorem norm_rel {μ : Bx → Option Nat} {G : Nat → Nat → Prop} {w : World} {v : AV} {u : Value} (h : RV μ G w v u) : RV μ G w (norm v) u := by
  unfold norm
  split
  · simp only [RV] at h ⊢; subst h; exact .inl (by simp)
  · exact h
theorem norm_rels {μ : Bx → Option Nat} {G : Nat → Nat → Prop} {w : World} : ∀ {xs : List AV} {us : List Value}, RVs μ G w xs us → RVs μ G w (xs.map norm) us
  | [], us, h => by simpa only [RVs, List.map_nil] using h
  | x :: xs, us, h => by
    simp only [RVs, List.map_cons] at h ⊢
    obtain ⟨u, us', rfl, h1, h2⟩ := h
    exact ⟨u, us', rfl, norm_rel h1, norm_rels h2⟩

theorem SoundV.norm {P : Program} {glob : Nat → Option (List AV)} {f : FuncId} {pf : List AV → Option AV} (h : SoundV P glob f pf) : SoundV P glob f (fun args => pf (args.map norm)) :=
  ⟨h.1, fun args r hr G w vals hp => h.2 (args.map Abs.norm) r hr G w vals ⟨hp.cell, hp.glob, norm_rels hp.args⟩⟩

/-- a slice of numbers -/
def row? (k : IntKind) (w : Nat) : AV → Option (List (BitVec w))
  | .sl n xs _ => (deNums k w xs).bind fun m => if n = m.length then some m else none
  | _ => none
theorem row?_of {k : IntKind} {w : Nat} {v : AV} {m : List (BitVec w)} (h : row? k w v = some m) : ∃ fl, v = .sl m.length (nums k m) fl := by
  unfold row? at h
  split at h
  · simp only [Option.bind_eq_some_iff] at h
    obtain ⟨m', h1, h2⟩ := h
    split at h2
    · rename_i hn
      cases h2
      rw [deNums_of h1, hn]
      exact ⟨_, rfl⟩
    · cases h2
  · cases h
theorem row?_at {k : IntKind} {w n : Nat} {m : List (BitVec w)} {fl : Fl} (h : n = m.length) : row? k w (.sl n (nums k m) fl) = some m := by
  simp [row?, deNums_nums, h]
/-- an array of numbers -/
def agg? (k : IntKind) (w l : Nat) : AV → Option (List (BitVec w))
  | .agg xs => (deNums k w xs).bind fun m => if m.length = l then some m else none
  | _ => none
theorem agg?_of {k : IntKind} {w l : Nat} {v : AV} {m : List (BitVec w)} (h : agg? k w l v = some m) : v = .agg (nums k m) ∧ m.length = l := by
  unfold agg? at h
  split at h
  · simp only [Option.bind_eq_some_iff] at h
    obtain ⟨m', h1, h2⟩ := h
    split at h2
    · rename_i hn
      cases h2
      rw [deNums_of h1]
      exact ⟨rfl, hn⟩
    · cases h2
  · cases h
theorem agg?_at {k : IntKind} {w l : Nat} {m : List (BitVec w)} (h : m.length = l) : agg? k w l (.agg (nums k m)) = some m := by
  simp [agg?, deNums_nums, h]

def num? (k : IntKind) (w : Nat) : AV → Option (BitVec w)
  | .raw (.int k' n) => if k' = k ∧ 0 ≤ n ∧ n.toNat < 2 ^ w then some (BitVec.ofNat w n.toNat) else none
  | _ => none
def int? : AV → Option Int
  | .raw (.int .i64 n) => some n
  | _ => none
def bool? : AV → Option Bool
  | .raw (.bool b) => some b
  | _ => none
theorem num?_of {k : IntKind} {w : Nat} {v : AV} {x : BitVec w} (h : num? k w v = some x) : v = .raw (.int k (x.toNat : Int)) := by
  unfold num? at h
  split at h
  · split at h
    · rename_i hc
      cases h
      rw [BitVec.toNat_ofNat, Nat.mod_eq_of_lt hc.2.2, Int.toNat_of_nonneg hc.2.1, hc.1]
    · cases h
  · cases h
theorem num?_num (k : IntKind) {w : Nat} (x : BitVec w) : num? k w (.raw (.int k (x.toNat : Int))) = some x := by
  simp [num?, x.isLt]
theorem int?_of {v : AV} {n : Int} (h : int? v = some n) : v = .raw (.int .i64 n) := by
  unfold int? at h
  split at h
  · cases h; rfl
  · cases h
theorem int?_at {n : Int} : int? (.raw (.int .i64 n)) = some n := rfl
theorem bool?_of {v : AV} {b : Bool} (h : bool? v = some b) : v = .raw (.bool b) := by
  unfold bool? at h
  split at h
  · cases h; rfl
  · cases h
theorem bool?_at {b : Bool} : bool? (.raw (.bool b)) = some b := rfl

/-- a slice of one's own that may be appended to, in a round that makes its slices at slot d -/
def Free (us : Id → Bool) (a d : Nat) (i : Id) : Prop := us i = false ∧ (∀ g, a < g → us ⟨d, 0, g⟩ = false) ∧ (i.slot = d → i.gen ≤ a)
theorem Free.now {us : Id → Bool} {a d : Nat} {i : Id} (h : Free us a d i) : us i = false := h.1
theorem Free.go {us : Id → Bool} {a d : Nat} {i : Id} (h : Free us a d i) : Free (updI us i) (a + 1) d ⟨d, 0, a + 1⟩ := by
  obtain ⟨h1, h2, h3⟩ := h
  have hne : ∀ g, a < g → (⟨d, 0, g⟩ : Id) ≠ i := by
    rintro g hg rfl
    have := h3 rfl
    dsimp only at this
    omega
  refine ⟨?_, fun g hg => ?_, fun _ => Nat.le_refl _⟩
  · rw [updI_at, if_neg (hne _ (by omega))]; exact h2 _ (by omega)
  · rw [updI_at, if_neg (hne _ (by omega))]; exact h2 _ (by omega)
theorem Free.other {us : Id → Bool} {a d b e : Nat} {i : Id} (h : Free us a d i) (k : Free us b e i) (hne : d ≠ e) : Free (updI us i) b e ⟨d, 0, a + 1⟩ := by
  refine ⟨h.go.1, fun g hg => ?_, fun h => absurd h hne⟩
  rw [updI_at, if_neg]
  · exact k.2.1 g hg
  · rintro rfl
    have := k.2.2 rfl
    dsimp only at this
    omega
end Go.Abs
