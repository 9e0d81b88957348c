/- Numbers of the machine as bit vectors and natural numbers. -/
import Derived.Test.YteooikdcafodfaaDoorAv
import Derived.IntWalk
import Derived.Lib.EndianBits
namespace Go.Abs
set_option linter.unusedSimpArgs false
set_option linter.unusedVariables false
open Go

/-- a row of unsigned numbers -/
def nums (k : IntKind) {w : Nat} (l : List (BitVec w)) : List AV := l.map fun x => .raw (.int k (x.toNat : Int))
/-- a row of whole numbers -/
def ints (k : IntKind) (l : List Int) : List AV := l.map fun x => .raw (.int k x)

section lists
variable {k : IntKind} {w : Nat}
theorem nums_len (l : List (BitVec w)) : (nums k l).length = l.length := by simp [nums]
theorem nums_get (l : List (BitVec w)) (i : Nat) (h : i < l.length) : (nums k l)[i]? = some (.raw (.int k ((l.getD i 0#w).toNat : Int))) := by simp [nums, h]
theorem nums_get0 (l : List (BitVec w)) (h : 0 < l.length) : (nums k l)[0]? = some (.raw (.int k ((l.getD 0 0#w).toNat : Int))) := nums_get l 0 h
theorem nums_take (l : List (BitVec w)) (n : Nat) : (nums k l).take n = nums k (l.take n) := by simp [nums]
theorem nums_drop (l : List (BitVec w)) (n : Nat) : (nums k l).drop n = nums k (l.drop n) := by simp [nums]
theorem nums_app (l m : List (BitVec w)) : nums k l ++ nums k m = nums k (l ++ m) := by simp [nums]
theorem nums_nil_app (m : List (BitVec w)) : [] ++ nums k m = nums k m := rfl
theorem nums_snoc (l : List (BitVec w)) (x : BitVec w) : nums k l ++ [.raw (.int k (x.toNat : Int))] = nums k (l ++ [x]) := by simp [nums]
theorem nums_set (l : List (BitVec w)) (i : Nat) (x : BitVec w) (h : i < l.length) : splice (nums k l) i [.raw (.int k (x.toNat : Int))] = nums k (l.set i x) := by
  simp only [splice, nums, List.length_singleton, ← List.map_take, ← List.map_drop]
  rw [List.set_eq_take_append_cons_drop, if_pos h]
  simp
theorem nums_splice (l m : List (BitVec w)) (i : Nat) : splice (nums k l) i (nums k m) = nums k (l.take i ++ m ++ l.drop (i + m.length)) := by
  simp [splice, nums]
theorem nums_one (l : List (BitVec w)) : (nums k l).all oneA = true := by simp [nums, oneA]
theorem nums_zeros (n : Nat) : rep n [.raw (.int k 0)] = nums k (List.replicate n 0#w) := by
  induction n with
  | zero => rfl
  | succ n ih => simp only [rep, ih, List.replicate_succ]; simp [nums]
theorem nums_flat (l : List (BitVec w)) : flatL (nums k l) = some (nums k l) := by
  induction l with
  | nil => rfl
  | cons x l ih => simp only [nums, List.map_cons, flatL] at ih ⊢; rw [ih]; rfl
theorem nums_pure (l : List (BitVec w)) : pureL (nums k l) = true := by
  induction l with
  | nil => rfl
  | cons x l ih => simp only [nums, List.map_cons, pureL, pureA] at ih ⊢; rw [ih]; rfl
theorem nums_snap (bx : Boxes) (l : List (BitVec w)) : snapL bx (nums k l) = some (nums k l) := by
  induction l with
  | nil => rfl
  | cons x l ih => simp only [nums, List.map_cons, snapL, snap] at ih ⊢; rw [ih]; rfl
theorem nums_noview (l : List (BitVec w)) : hasViewL (nums k l) = false := by
  induction l with
  | nil => rfl
  | cons x l ih => simp only [nums, List.map_cons, hasViewL, hasView] at ih ⊢; rw [ih]; rfl
theorem nums_bytes (l : List (BitVec 8)) : asBytes (nums .u8 l) = some (l.map UInt8.ofBitVec) := by
  induction l with
  | nil => rfl
  | cons x l ih =>
    simp only [nums, List.map_cons, asBytes] at ih ⊢; rw [ih]
    simp only [Option.map_some, Int.toNat_natCast]
    congr 2
    apply UInt8.eq_of_toBitVec_eq; simp
theorem nums_ints (l : List (BitVec w)) : asInts (nums k l) = some (l.map fun x => (k, (x.toNat : Int))) := by
  induction l with
  | nil => rfl
  | cons x l ih => simp only [nums, List.map_cons, asInts] at ih ⊢; rw [ih]; rfl
theorem nums_str (s : ByteArray) : (s.data.toList.map fun b => AV.raw (.int .u8 (b.toNat : Int))) = nums .u8 (s.data.toList.map UInt8.toBitVec) := by
  simp [nums]
theorem nums_inj {l m : List (BitVec w)} (h : nums k l = nums k m) : l = m := by
  induction l generalizing m with
  | nil => cases m <;> simp_all [nums]
  | cons x l ih =>
    cases m with
    | nil => simp [nums] at h
    | cons y m =>
      simp only [nums, List.map_cons, List.cons.injEq, AV.raw.injEq, Value.int.injEq, true_and] at h
      rw [ih h.2, show x = y from BitVec.eq_of_toNat_eq (by omega)]
end lists

/-- the row that some values are -/
def deNums (k : IntKind) (w : Nat) : List AV → Option (List (BitVec w))
  | [] => some []
  | .raw (.int k' n) :: xs => if k' = k ∧ 0 ≤ n ∧ n.toNat < 2 ^ w then (deNums k w xs).map (BitVec.ofNat w n.toNat :: ·) else none
  | _ => none

theorem deNums_of {k : IntKind} {w : Nat} : ∀ {xs : List AV} {l : List (BitVec w)}, deNums k w xs = some l → xs = nums k l
  | [], l, h => by simp [deNums] at h; subst h; rfl
  | x :: xs, l, h => by
    unfold deNums at h
    split at h
    · rename_i e; cases e
    · rename_i k' n xs' e
      cases e
      split at h
      · rename_i hc
        simp only [Option.map_eq_some_iff] at h
        obtain ⟨l', h1, rfl⟩ := h
        rw [deNums_of h1, hc.1]
        simp only [nums, List.map_cons, BitVec.toNat_ofNat, Nat.mod_eq_of_lt hc.2.2]
        rw [Int.toNat_of_nonneg hc.2.1]
      · cases h
    · cases h

theorem deNums_nums (k : IntKind) {w : Nat} (l : List (BitVec w)) : deNums k w (nums k l) = some l := by
  induction l with
  | nil => rfl
  | cons x l ih =>
    simp only [nums, List.map_cons, deNums] at ih ⊢
    rw [if_pos ⟨trivial, by omega, by simpa using x.isLt⟩, ih]
    simp

/-! ### numbers -/

theorem wrap_bv (k : IntKind) (hs : k.signed = false) (n : Int) : k.wrap n = ((BitVec.ofInt k.bits n).toNat : Int) := by
  simp only [IntKind.wrap, hs, Bool.false_and, Bool.false_eq_true, if_false, BitVec.toNat_ofInt]
  have hp : ((2 ^ k.bits : Nat) : Int) = (2:Int) ^ k.bits := by simp
  have h0 : (0:Int) < ((2 ^ k.bits : Nat) : Int) := by exact_mod_cast Nat.two_pow_pos k.bits
  rw [← hp, Int.toNat_of_nonneg (Int.emod_nonneg _ (by omega))]

theorem wrap_u8 (n : Int) : IntKind.u8.wrap n = ((BitVec.ofInt 8 n).toNat : Int) := wrap_bv .u8 rfl n
theorem wrap_u16 (n : Int) : IntKind.u16.wrap n = ((BitVec.ofInt 16 n).toNat : Int) := wrap_bv .u16 rfl n
theorem wrap_u32 (n : Int) : IntKind.u32.wrap n = ((BitVec.ofInt 32 n).toNat : Int) := wrap_bv .u32 rfl n
theorem wrap_u64 (n : Int) : IntKind.u64.wrap n = ((BitVec.ofInt 64 n).toNat : Int) := wrap_bv .u64 rfl n

theorem bv_nat {w : Nat} (n : Nat) : BitVec.ofInt w (n : Int) = BitVec.ofNat w n := by simp
theorem bv_back {w : Nat} (x : BitVec w) : BitVec.ofInt w (x.toNat : Int) = x := by simp
theorem bvn_back {w : Nat} (x : BitVec w) : BitVec.ofNat w x.toNat = x := by simp
theorem bv_add {w : Nat} (a b : Int) : BitVec.ofInt w (a + b) = BitVec.ofInt w a + BitVec.ofInt w b := BitVec.ofInt_add ..
theorem bv_mul {w : Nat} (a b : Int) : BitVec.ofInt w (a * b) = BitVec.ofInt w a * BitVec.ofInt w b := BitVec.ofInt_mul ..
theorem bv_sub {w : Nat} (a b : Int) : BitVec.ofInt w (a - b) = BitVec.ofInt w a - BitVec.ofInt w b := by
  rw [BitVec.sub_eq_add_neg, Int.sub_eq_add_neg, BitVec.ofInt_add, BitVec.ofInt_neg]
theorem bv_lit {w n : Nat} : BitVec.ofInt w (OfNat.ofNat n : Int) = BitVec.ofNat w n := bv_nat n

/-- what an operation on unsigned numbers comes to -/
def opBV {w : Nat} (op : BinOp) (x y : BitVec w) : Option (BitVec w) :=
  match op with
  | .add => some (x + y)
  | .sub => some (x - y)
  | .mul => some (x * y)
  | .and => some (x &&& y)
  | .or => some (x ||| y)
  | .xor => some (x ^^^ y)
  | .andNot => some (x &&& ~~~y)
  | _ => none

theorem intV_bv (k : IntKind) (hs : k.signed = false) (op : BinOp) (a b : Int) {z : BitVec k.bits} (h : opBV op (BitVec.ofInt k.bits a) (BitVec.ofInt k.bits b) = some z) :
    intV op k a b = some (.raw (.int k (z.toNat : Int))) := by
  cases op <;> simp only [opBV, Option.some.injEq, reduceCtorEq] at h <;> subst h <;> simp only [intV, wrap_bv k hs, bv_add, bv_mul, bv_sub, bv_back]

theorem intV_u8 (op : BinOp) (a b : Int) {z : BitVec 8} (h : opBV op (BitVec.ofInt 8 a) (BitVec.ofInt 8 b) = some z) : intV op .u8 a b = some (.raw (.int .u8 (z.toNat : Int))) := intV_bv .u8 rfl op a b h
theorem intV_u16 (op : BinOp) (a b : Int) {z : BitVec 16} (h : opBV op (BitVec.ofInt 16 a) (BitVec.ofInt 16 b) = some z) : intV op .u16 a b = some (.raw (.int .u16 (z.toNat : Int))) := intV_bv .u16 rfl op a b h
theorem intV_u32 (op : BinOp) (a b : Int) {z : BitVec 32} (h : opBV op (BitVec.ofInt 32 a) (BitVec.ofInt 32 b) = some z) : intV op .u32 a b = some (.raw (.int .u32 (z.toNat : Int))) := intV_bv .u32 rfl op a b h
theorem intV_u64 (op : BinOp) (a b : Int) {z : BitVec 64} (h : opBV op (BitVec.ofInt 64 a) (BitVec.ofInt 64 b) = some z) : intV op .u64 a b = some (.raw (.int .u64 (z.toNat : Int))) := intV_bv .u64 rfl op a b h

theorem add_u8 (a b : Int) : intV .add .u8 a b = some (.raw (.int .u8 ((BitVec.ofInt 8 a + BitVec.ofInt 8 b).toNat : Int))) := intV_u8 _ _ _ rfl
theorem sub_u8 (a b : Int) : intV .sub .u8 a b = some (.raw (.int .u8 ((BitVec.ofInt 8 a - BitVec.ofInt 8 b).toNat : Int))) := intV_u8 _ _ _ rfl
theorem mul_u8 (a b : Int) : intV .mul .u8 a b = some (.raw (.int .u8 ((BitVec.ofInt 8 a * BitVec.ofInt 8 b).toNat : Int))) := intV_u8 _ _ _ rfl
theorem and_u8 (a b : Int) : intV .and .u8 a b = some (.raw (.int .u8 ((BitVec.ofInt 8 a &&& BitVec.ofInt 8 b).toNat : Int))) := intV_u8 _ _ _ rfl
theorem or_u8 (a b : Int) : intV .or .u8 a b = some (.raw (.int .u8 ((BitVec.ofInt 8 a ||| BitVec.ofInt 8 b).toNat : Int))) := intV_u8 _ _ _ rfl
theorem xor_u8 (a b : Int) : intV .xor .u8 a b = some (.raw (.int .u8 ((BitVec.ofInt 8 a ^^^ BitVec.ofInt 8 b).toNat : Int))) := intV_u8 _ _ _ rfl
theorem add_u32 (a b : Int) : intV .add .u32 a b = some (.raw (.int .u32 ((BitVec.ofInt 32 a + BitVec.ofInt 32 b).toNat : Int))) := intV_u32 _ _ _ rfl
theorem sub_u32 (a b : Int) : intV .sub .u32 a b = some (.raw (.int .u32 ((BitVec.ofInt 32 a - BitVec.ofInt 32 b).toNat : Int))) := intV_u32 _ _ _ rfl
theorem mul_u32 (a b : Int) : intV .mul .u32 a b = some (.raw (.int .u32 ((BitVec.ofInt 32 a * BitVec.ofInt 32 b).toNat : Int))) := intV_u32 _ _ _ rfl
theorem and_u32 (a b : Int) : intV .and .u32 a b = some (.raw (.int .u32 ((BitVec.ofInt 32 a &&& BitVec.ofInt 32 b).toNat : Int))) := intV_u32 _ _ _ rfl
theorem or_u32 (a b : Int) : intV .or .u32 a b = some (.raw (.int .u32 ((BitVec.ofInt 32 a ||| BitVec.ofInt 32 b).toNat : Int))) := intV_u32 _ _ _ rfl
theorem xor_u32 (a b : Int) : intV .xor .u32 a b = some (.raw (.int .u32 ((BitVec.ofInt 32 a ^^^ BitVec.ofInt 32 b).toNat : Int))) := intV_u32 _ _ _ rfl
theorem add_u64 (a b : Int) : intV .add .u64 a b = some (.raw (.int .u64 ((BitVec.ofInt 64 a + BitVec.ofInt 64 b).toNat : Int))) := intV_u64 _ _ _ rfl
theorem sub_u64 (a b : Int) : intV .sub .u64 a b = some (.raw (.int .u64 ((BitVec.ofInt 64 a - BitVec.ofInt 64 b).toNat : Int))) := intV_u64 _ _ _ rfl
theorem mul_u64 (a b : Int) : intV .mul .u64 a b = some (.raw (.int .u64 ((BitVec.ofInt 64 a * BitVec.ofInt 64 b).toNat : Int))) := intV_u64 _ _ _ rfl
theorem and_u64 (a b : Int) : intV .and .u64 a b = some (.raw (.int .u64 ((BitVec.ofInt 64 a &&& BitVec.ofInt 64 b).toNat : Int))) := intV_u64 _ _ _ rfl
theorem or_u64 (a b : Int) : intV .or .u64 a b = some (.raw (.int .u64 ((BitVec.ofInt 64 a ||| BitVec.ofInt 64 b).toNat : Int))) := intV_u64 _ _ _ rfl
theorem xor_u64 (a b : Int) : intV .xor .u64 a b = some (.raw (.int .u64 ((BitVec.ofInt 64 a ^^^ BitVec.ofInt 64 b).toNat : Int))) := intV_u64 _ _ _ rfl

theorem shl_bv (k : IntKind) (hs : k.signed = false) (a y : Int) (h : 0 ≤ y) : shiftV .shl k a y = some (.raw (.int k ((BitVec.ofInt k.bits a <<< y.toNat).toNat : Int))) := by
  unfold shiftV
  rw [if_neg (by omega)]
  simp only [wrap_bv k hs, Option.some.injEq, AV.raw.injEq, Value.int.injEq, true_and, Int.natCast_inj]
  congr 1
  rw [BitVec.ofInt_mul]
  apply BitVec.eq_of_toNat_eq
  simp only [BitVec.toNat_mul, BitVec.toNat_shiftLeft, Nat.shiftLeft_eq]
  have e2 : (BitVec.ofInt k.bits ((2:Int) ^ min y.toNat k.bits)).toNat = 2 ^ min y.toNat k.bits % 2 ^ k.bits := by
    have : ((2:Int) ^ min y.toNat k.bits) = ((2 ^ min y.toNat k.bits : Nat) : Int) := by simp
    rw [this]
    simp only [BitVec.ofInt_natCast, BitVec.toNat_ofNat]
  rw [e2]
  rcases Nat.le_total y.toNat k.bits with hle | hle
  · rw [Nat.min_eq_left hle]
    simp [Nat.mul_mod]
  · rw [Nat.min_eq_right hle, Nat.mod_self, Nat.mul_zero, Nat.zero_mod]
    obtain ⟨d, hd⟩ := Nat.exists_eq_add_of_le hle
    rw [hd, Nat.pow_add, Nat.mul_comm (2 ^ k.bits), ← Nat.mul_assoc, Nat.mul_mod_left]

theorem shr_bv (k : IntKind) (hs : k.signed = false) (a y : Int) (h : 0 ≤ y) (h0 : 0 ≤ a) (h1 : a < 2 ^ k.bits) : shiftV .shr k a y = some (.raw (.int k ((BitVec.ofInt k.bits a >>> y.toNat).toNat : Int))) := by
  unfold shiftV
  rw [if_neg (by omega)]
  simp only [Option.some.injEq, AV.raw.injEq, Value.int.injEq, true_and]
  obtain ⟨n, rfl⟩ := Int.eq_ofNat_of_zero_le h0
  have hn : n < 2 ^ k.bits := by exact_mod_cast h1
  simp only [BitVec.ofInt_natCast, BitVec.toNat_ushiftRight, BitVec.toNat_ofNat, Nat.mod_eq_of_lt hn, Nat.shiftRight_eq_div_pow]
  rw [show ((2:Int) ^ min y.toNat k.bits) = ((2 ^ min y.toNat k.bits : Nat) : Int) by simp]
  rw [Int.fdiv_eq_ediv_of_nonneg _ (by exact_mod_cast Nat.zero_le _), ← Int.natCast_ediv]
  congr 1
  rcases Nat.le_total y.toNat k.bits with hle | hle
  · rw [Nat.min_eq_left hle]
  · rw [Nat.min_eq_right hle, Nat.div_eq_of_lt hn, Nat.div_eq_of_lt (Nat.lt_of_lt_of_le hn (Nat.pow_le_pow_right (by omega) hle))]

theorem shl_u8 (a y : Int) (h : 0 ≤ y) : shiftV .shl .u8 a y = some (.raw (.int .u8 ((BitVec.ofInt 8 a <<< y.toNat).toNat : Int))) := shl_bv .u8 rfl a y h
theorem shl_u32 (a y : Int) (h : 0 ≤ y) : shiftV .shl .u32 a y = some (.raw (.int .u32 ((BitVec.ofInt 32 a <<< y.toNat).toNat : Int))) := shl_bv .u32 rfl a y h
theorem shl_u64 (a y : Int) (h : 0 ≤ y) : shiftV .shl .u64 a y = some (.raw (.int .u64 ((BitVec.ofInt 64 a <<< y.toNat).toNat : Int))) := shl_bv .u64 rfl a y h
theorem shr_u8 (x : BitVec 8) (y : Int) (h : 0 ≤ y) : shiftV .shr .u8 (x.toNat : Int) y = some (.raw (.int .u8 ((x >>> y.toNat).toNat : Int))) := by
  have := shr_bv .u8 rfl (x.toNat : Int) y h (by omega) (by have := x.isLt; exact_mod_cast this)
  rw [this]
  show some (AV.raw (.int .u8 ((BitVec.ofInt 8 (x.toNat : Int) >>> y.toNat).toNat : Int))) = _
  rw [bv_back]
theorem shr_u32 (x : BitVec 32) (y : Int) (h : 0 ≤ y) : shiftV .shr .u32 (x.toNat : Int) y = some (.raw (.int .u32 ((x >>> y.toNat).toNat : Int))) := by
  have := shr_bv .u32 rfl (x.toNat : Int) y h (by omega) (by have := x.isLt; exact_mod_cast this)
  rw [this]
  show some (AV.raw (.int .u32 ((BitVec.ofInt 32 (x.toNat : Int) >>> y.toNat).toNat : Int))) = _
  rw [bv_back]
theorem shr_u64 (x : BitVec 64) (y : Int) (h : 0 ≤ y) : shiftV .shr .u64 (x.toNat : Int) y = some (.raw (.int .u64 ((x >>> y.toNat).toNat : Int))) := by
  have := shr_bv .u64 rfl (x.toNat : Int) y h (by omega) (by have := x.isLt; exact_mod_cast this)
  rw [this]
  show some (AV.raw (.int .u64 ((BitVec.ofInt 64 (x.toNat : Int) >>> y.toNat).toNat : Int))) = _
  rw [bv_back]

theorem not_u32 (x : BitVec 32) : unV .xor (.raw (.int .u32 (x.toNat : Int))) = some (.raw (.int .u32 ((~~~x).toNat : Int))) := by
  have e : (BitVec.ofInt (IntKind.bits .u32) (if IntKind.signed .u32 then -1 else IntKind.max .u32) ^^^ BitVec.ofInt (IntKind.bits .u32) (x.toNat : Int)) = (~~~x : BitVec 32) := by
    show (BitVec.ofInt 32 4294967295 ^^^ BitVec.ofInt 32 (x.toNat : Int)) = _
    rw [bv_back]
    exact BitVec.allOnes_xor
  show some (AV.raw (.int .u32 (IntKind.u32.wrap ((BitVec.ofInt (IntKind.bits .u32) (if IntKind.signed .u32 then -1 else IntKind.max .u32) ^^^ BitVec.ofInt (IntKind.bits .u32) (x.toNat : Int)).toNat : Int)))) = _
  rw [e, wrap_u32]
  show some (AV.raw (.int .u32 ((BitVec.ofInt 32 ((~~~x).toNat : Int)).toNat : Int))) = _
  rw [bv_back]

/-! ### whole numbers -/
theorem i64_is (n : Int) (h : -9223372036854775808 ≤ n ∧ n ≤ 9223372036854775807) : IntKind.i64.wrap n = n := IntWalk.i64_in n h

theorem toNat_add' (a b : Int) (ha : 0 ≤ a) (hb : 0 ≤ b) : (a + b).toNat = a.toNat + b.toNat := by omega
theorem toNat_sub' (a b : Int) (hb : 0 ≤ b) : (a - b).toNat = a.toNat - b.toNat := by omega
theorem toNat_mul' (a b : Int) (ha : 0 ≤ a) (hb : 0 ≤ b) : (a * b).toNat = a.toNat * b.toNat := by
  obtain ⟨m, rfl⟩ := Int.eq_ofNat_of_zero_le ha
  obtain ⟨n, rfl⟩ := Int.eq_ofNat_of_zero_le hb
  exact Int.toNat_natCast (m * n)
theorem toNat_mod' (a b : Int) (ha : 0 ≤ a) (hb : 0 ≤ b) : (a % b).toNat = a.toNat % b.toNat := by
  obtain ⟨m, rfl⟩ := Int.eq_ofNat_of_zero_le ha
  obtain ⟨n, rfl⟩ := Int.eq_ofNat_of_zero_le hb
  exact Int.toNat_natCast (m % n)
theorem toNat_div' (a b : Int) (ha : 0 ≤ a) (hb : 0 ≤ b) : (a / b).toNat = a.toNat / b.toNat := by
  obtain ⟨m, rfl⟩ := Int.eq_ofNat_of_zero_le ha
  obtain ⟨n, rfl⟩ := Int.eq_ofNat_of_zero_le hb
  exact Int.toNat_natCast (m / n)

theorem rem_i64 (a b : Int) (ha : 0 ≤ a) (hb : 0 < b) : intV .rem .i64 a b = some (.raw (.int .i64 (a % b))) := by
  simp only [intV]
  rw [if_neg (by omega), Int.tmod_eq_emod_of_nonneg ha]
theorem quo_i64 (a b : Int) (ha : 0 ≤ a) (hb : 0 < b) (h : a ≤ 9223372036854775807) : intV .quo .i64 a b = some (.raw (.int .i64 (a / b))) := by
  simp only [intV]
  rw [if_neg (by omega), Int.tdiv_eq_ediv_of_nonneg ha, i64_is]
  have h1 : 0 ≤ a / b := Int.ediv_nonneg ha (by omega)
  have h2 : a / b ≤ a := Int.ediv_le_self _ ha
  omega
theorem shr_i64 (a y : Int) (h : 0 ≤ y) (hy : y < 64) : shiftV .shr .i64 a y = some (.raw (.int .i64 (a.fdiv (2 ^ y.toNat)))) := by
  unfold shiftV
  rw [if_neg (by omega), show min y.toNat (IntKind.bits .i64) = y.toNat by simp [IntKind.bits]; omega]
theorem rem_u64 (x : BitVec 64) (b : Int) (h0 : 0 < b) (h1 : b < 18446744073709551616) : intV .rem .u64 (x.toNat : Int) b = some (.raw (.int .u64 ((x % BitVec.ofInt 64 b).toNat : Int))) := by
  simp only [intV]
  rw [if_neg (by omega)]
  obtain ⟨n, rfl⟩ := Int.eq_ofNat_of_zero_le (Int.le_of_lt h0)
  rw [Int.tmod_eq_emod_of_nonneg (by omega), ← Int.natCast_emod, bv_nat, BitVec.toNat_umod, BitVec.toNat_ofNat, Nat.mod_eq_of_lt (by omega : n < 2 ^ 64)]
theorem quo_u64 (x : BitVec 64) (b : Int) (h0 : 0 < b) (h1 : b < 18446744073709551616) : intV .quo .u64 (x.toNat : Int) b = some (.raw (.int .u64 ((x / BitVec.ofInt 64 b).toNat : Int))) := by
  simp only [intV]
  rw [if_neg (by omega)]
  obtain ⟨n, rfl⟩ := Int.eq_ofNat_of_zero_le (Int.le_of_lt h0)
  rw [Int.tdiv_eq_ediv_of_nonneg (by omega), ← Int.natCast_ediv, bv_nat, BitVec.toNat_udiv, BitVec.toNat_ofNat, Nat.mod_eq_of_lt (by omega : n < 2 ^ 64), wrap_u64, bv_nat, BitVec.toNat_ofNat]
  rw [Nat.mod_eq_of_lt]
  exact Nat.lt_of_le_of_lt (Nat.div_le_self _ _) x.isLt

theorem cmp_i64_lss (k : IntKind) (a b : Int) : intV .lss k a b = some (.raw (.bool (decide (a < b)))) := rfl
theorem cmp_i64_leq (k : IntKind) (a b : Int) : intV .leq k a b = some (.raw (.bool (decide (a ≤ b)))) := rfl
theorem cmp_i64_gtr (k : IntKind) (a b : Int) : intV .gtr k a b = some (.raw (.bool (decide (a > b)))) := rfl
theorem cmp_i64_geq (k : IntKind) (a b : Int) : intV .geq k a b = some (.raw (.bool (decide (a ≥ b)))) := rfl
theorem cmp_eql (k : IntKind) (a b : Int) : intV .eql k a b = some (.raw (.bool (a == b))) := rfl
theorem cmp_neq (k : IntKind) (a b : Int) : intV .neq k a b = some (.raw (.bool (a != b))) := rfl

theorem nat_pos (n : Nat) : (0 ≤ (n : Int)) = True := by simp
theorem add_i64 (a b : Int) (h : -9223372036854775808 ≤ a + b ∧ a + b ≤ 9223372036854775807) : intV .add .i64 a b = some (.raw (.int .i64 (a + b))) := by simp only [intV, i64_is _ h]
theorem sub_i64 (a b : Int) (h : -9223372036854775808 ≤ a - b ∧ a - b ≤ 9223372036854775807) : intV .sub .i64 a b = some (.raw (.int .i64 (a - b))) := by simp only [intV, i64_is _ h]
theorem mul_i64 (a b : Int) (h : -9223372036854775808 ≤ a * b ∧ a * b ≤ 9223372036854775807) : intV .mul .i64 a b = some (.raw (.int .i64 (a * b))) := by simp only [intV, i64_is _ h]

/-! ### parts that are laid one behind the other -/
def fillC (te : TypeId → Option TI) (k : TK) : Nat → List (Nat × AV) → Option (List AV)
  | _, [] => some []
  | o, (i, v) :: rest =>
    (place te k i).bind fun p => v.cells.bind fun ys => if p.1 = o ∧ ys.length = p.2 then (fillC te k (o + p.2) rest).map (ys ++ ·) else none

theorem fillC_spec {te : TypeId → Option TI} {k : TK} : ∀ (ps : List (Nat × AV)) (o : Nat) (cs ys : List AV), fillC te k o ps = some ys → o + ys.length ≤ cs.length → fillV te k cs ps = some (cs.take o ++ ys ++ cs.drop (o + ys.length))
  | [], o, cs, ys, h, hl => by simp [fillC] at h; subst h; simp [fillV]
  | (i, v) :: rest, o, cs, ys, h, hl => by
    simp only [fillC, Option.bind_eq_some_iff] at h
    obtain ⟨⟨off, size⟩, h1, zs, h2, h3⟩ := h
    split at h3
    · rename_i hc
      simp only [Option.map_eq_some_iff] at h3
      obtain ⟨ys', h4, rfl⟩ := h3
      simp only at hc
      obtain ⟨rfl, hs⟩ := hc
      simp only [List.length_append] at hl
      have hsp : (splice cs off zs).length = cs.length := by simp [splice]; omega
      have := fillC_spec rest (off + size) (splice cs off zs) ys' h4 (by rw [hsp]; omega)
      simp only [fillV, h1, h2]
      rw [if_pos ⟨hs, by omega⟩, this]
      simp only [Option.some.injEq]
      unfold splice
      subst hs
      rw [List.take_append_of_le_length (by simp; omega), List.take_append, List.drop_append]
      have e1 : (List.take off cs ++ zs).length = off + zs.length := by simp; omega
      have e2 : (List.take off cs).length = off := by simp; omega
      rw [e1, e2, List.take_of_length_le (l := List.take off cs) (by simp; omega), List.take_of_length_le (l := zs) (by omega)]
      rw [show List.drop (off + zs.length + ys'.length) (List.take off cs ++ zs) = [] from List.drop_eq_nil_of_le (by simp; omega)]
      rw [List.drop_drop, List.nil_append]
      simp only [List.append_assoc, List.length_append]
      congr 4
      omega
    · cases h3

def fillV' (te : TypeId → Option TI) (k : TK) (cs : List AV) (ps : List (Nat × AV)) : Option (List AV) := fillV te k cs ps

theorem fillV_go {te : TypeId → Option TI} {k : TK} {cs : List AV} {ps : List (Nat × AV)} :
    fillV te k cs ps = match fillC te k 0 ps with | some ys => if ys.length ≤ cs.length then some (ys ++ cs.drop ys.length) else fillV' te k cs ps | none => fillV' te k cs ps := by
  split
  · rename_i ys h
    split
    · have := fillC_spec ps 0 cs ys h (by omega)
      simpa using this
    · rfl
  · rfl

theorem rep_u8 (n : Nat) : List.replicate n (AV.raw (.int .u8 0)) = nums .u8 (List.replicate n 0#8) := by simp [nums]
theorem rep_u32 (n : Nat) : List.replicate n (AV.raw (.int .u32 0)) = nums .u32 (List.replicate n 0#32) := by simp [nums]
theorem rep_u64 (n : Nat) : List.replicate n (AV.raw (.int .u64 0)) = nums .u64 (List.replicate n 0#64) := by simp [nums]
theorem zeros_u8 (n : Nat) : rep n [AV.raw (.int .u8 0)] = nums .u8 (List.replicate n 0#8) := nums_zeros n
theorem zeros_u32 (n : Nat) : rep n [AV.raw (.int .u32 0)] = nums .u32 (List.replicate n 0#32) := nums_zeros n
theorem zeros_u64 (n : Nat) : rep n [AV.raw (.int .u64 0)] = nums .u64 (List.replicate n 0#64) := nums_zeros n
theorem nums_nil {k : IntKind} {w : Nat} : nums k ([] : List (BitVec w)) = [] := rfl

theorem bind_go {α β : Type} (o : Option α) (f : α → Option β) : o.bind f = match o with | some a => f a | none => none := by cases o <;> rfl
theorem map_go {α β : Type} (o : Option α) (f : α → β) : o.map f = match o with | some a => some (f a) | none => none := by cases o <;> rfl

theorem getD_drop {α : Type} (l : List α) (k : Nat) (d : α) : (l.drop k).getD 0 d = l.getD k d := by simp [List.getD_eq_getElem?_getD]

theorem splice_all {xs ys : List AV} (h : ys.length = xs.length) : splice xs 0 ys = ys := by
  unfold splice
  rw [h]; simp

theorem upd_at {β : Type} (f : Nat → β) (i j : Nat) (v : β) : upd f i v j = if j = i then v else f j := rfl
theorem updB_at (f : Boxes) (i j : Bx) (v : List AV) : updB f i v j = if j = i then some v else f j := rfl
theorem updI_at (f : Id → Bool) (i j : Id) : updI f i j = if j = i then true else f j := rfl
end Go.Abs
