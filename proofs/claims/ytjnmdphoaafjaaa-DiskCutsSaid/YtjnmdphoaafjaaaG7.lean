/- Numbers, and walking by computing. -/
import Derived.Test.YtjnmdphoaafjaaaG6
import Derived.IntWalk
import Derived.Lib.EndianBits
/- Numbers of the machine as bit vectors and natural numbers. -/
namespace Go.Abs
set_option linter.unusedSimpArgs false
set_option linter.unusedVariables false
open Go

/-- a row of unsigned numbers -/
def nums (k : IntKind) {w : Nat} (l : List (BitVec w)) : List AV := l.map fun x => .raw (.int k (x.toNat : Int))
/-- a row of whole numbers -/
def ints (k : IntKind) (l : List Int) : List AV := l.map fun x => .raw (.int k x)

section lists
variable {k : IntKind} {w : Nat}
theorem nums_len (l : List (BitVec w)) : (nums k l).length = l.length := by simp [nums]
theorem nums_get (l : List (BitVec w)) (i : Nat) (h : i < l.length) : (nums k l)[i]? = some (.raw (.int k ((l.getD i 0#w).toNat : Int))) := by simp [nums, h]
theorem nums_get0 (l : List (BitVec w)) (h : 0 < l.length) : (nums k l)[0]? = some (.raw (.int k ((l.getD 0 0#w).toNat : Int))) := nums_get l 0 h
theorem nums_take (l : List (BitVec w)) (n : Nat) : (nums k l).take n = nums k (l.take n) := by simp [nums]
theorem nums_drop (l : List (BitVec w)) (n : Nat) : (nums k l).drop n = nums k (l.drop n) := by simp [nums]
theorem nums_app (l m : List (BitVec w)) : nums k l ++ nums k m = nums k (l ++ m) := by simp [nums]
theorem nums_nil_app (m : List (BitVec w)) : [] ++ nums k m = nums k m := rfl
theorem nums_snoc (l : List (BitVec w)) (x : BitVec w) : nums k l ++ [.raw (.int k (x.toNat : Int))] = nums k (l ++ [x]) := by simp [nums]
theorem nums_set (l : List (BitVec w)) (i : Nat) (x : BitVec w) (h : i < l.length) : splice (nums k l) i [.raw (.int k (x.toNat : Int))] = nums k (l.set i x) := by
  simp only [splice, nums, List.length_singleton, ← List.map_take, ← List.map_drop]
  rw [List.set_eq_take_append_cons_drop, if_pos h]
  simp
theorem nums_splice (l m : List (BitVec w)) (i : Nat) : splice (nums k l) i (nums k m) = nums k (l.take i ++ m ++ l.drop (i + m.length)) := by
  simp [splice, nums]
theorem nums_one (l : List (BitVec w)) : (nums k l).all oneA = true := by simp [nums, oneA]
theorem nums_zeros (n : Nat) : rep n [.raw (.int k 0)] = nums k (List.replicate n 0#w) := by
  induction n with
  | zero => rfl
  | succ n ih => simp only [rep, ih, List.replicate_succ]; simp [nums]
theorem nums_flat (l : List (BitVec w)) : flatL (nums k l) = some (nums k l) := by
  induction l with
  | nil => rfl
  | cons x l ih => simp only [nums, List.map_cons, flatL] at ih ⊢; rw [ih]; rfl
theorem nums_pure (l : List (BitVec w)) : pureL (nums k l) = true := by
  induction l with
  | nil => rfl
  | cons x l ih => simp only [nums, List.map_cons, pureL, pureA] at ih ⊢; rw [ih]; rfl
theorem nums_snap (bx : Boxes) (l : List (BitVec w)) : snapL bx (nums k l) = some (nums k l) := by
  induction l with
  | nil => rfl
  | cons x l ih => simp only [nums, List.map_cons, snapL, snap] at ih ⊢; rw [ih]; rfl
theorem nums_noview (l : List (BitVec w)) : hasViewL (nums k l) = false := by
  induction l with
  | nil => rfl
  | cons x l ih => simp only [nums, List.map_cons, hasViewL, hasView] at ih ⊢; rw [ih]; rfl
theorem nums_bytes (l : List (BitVec 8)) : asBytes (nums .u8 l) = some (l.map UInt8.ofBitVec) := by
  induction l with
  | nil => rfl
  | cons x l ih =>
    simp only [nums, List.map_cons, asBytes] at ih ⊢; rw [ih]
    simp only [Option.map_some, Int.toNat_natCast]
    congr 2
    apply UInt8.eq_of_toBitVec_eq; simp
theorem nums_ints (l : List (BitVec w)) : asInts (nums k l) = some (l.map fun x => (k, (x.toNat : Int))) := by
  induction l with
  | nil => rfl
  | cons x l ih => simp only [nums, List.map_cons, asInts] at ih ⊢; rw [ih]; rfl
theorem nums_str (s : ByteArray) : (s.data.toList.map fun b => AV.raw (.int .u8 (b.toNat : Int))) = nums .u8 (s.data.toList.map UInt8.toBitVec) := by
  simp [nums]
theorem nums_inj {l m : List (BitVec w)} (h : nums k l = nums k m) : l = m := by
  induction l generalizing m with
  | nil => cases m <;> simp_all [nums]
  | cons x l ih =>
    cases m with
    | nil => simp [nums] at h
    | cons y m =>
      simp only [nums, List.map_cons, List.cons.injEq, AV.raw.injEq, Value.int.injEq, true_and] at h
      rw [ih h.2, show x = y from BitVec.eq_of_toNat_eq (by omega)]
end lists

/-- the row that some values are -/
def deNums (k : IntKind) (w : Nat) : List AV → Option (List (BitVec w))
  | [] => some []
  | .raw (.int k' n) :: xs => if k' = k ∧ 0 ≤ n ∧ n.toNat < 2 ^ w then (deNums k w xs).map (BitVec.ofNat w n.toNat :: ·) else none
  | _ => none

theorem deNums_of {k : IntKind} {w : Nat} : ∀ {xs : List AV} {l : List (BitVec w)}, deNums k w xs = some l → xs = nums k l
  | [], l, h => by simp [deNums] at h; subst h; rfl
  | x :: xs, l, h => by
    unfold deNums at h
    split at h
    · rename_i e; cases e
    · rename_i k' n xs' e
      cases e
      split at h
      · rename_i hc
        simp only [Option.map_eq_some_iff] at h
        obtain ⟨l', h1, rfl⟩ := h
        rw [deNums_of h1, hc.1]
        simp only [nums, List.map_cons, BitVec.toNat_ofNat, Nat.mod_eq_of_lt hc.2.2]
        rw [Int.toNat_of_nonneg hc.2.1]
      · cases h
    · cases h

theorem deNums_nums (k : IntKind) {w : Nat} (l : List (BitVec w)) : deNums k w (nums k l) = some l := by
  induction l with
  | nil => rfl
  | cons x l ih =>
    simp only [nums, List.map_cons, deNums] at ih ⊢
    rw [if_pos ⟨trivial, by omega, by simpa using x.isLt⟩, ih]
    simp

/-! ### numbers -/

theorem wrap_bv (k : IntKind) (hs : k.signed = false) (n : Int) : k.wrap n = ((BitVec.ofInt k.bits n).toNat : Int) := by
  simp only [IntKind.wrap, hs, Bool.false_and, Bool.false_eq_true, if_false, BitVec.toNat_ofInt]
  have hp : ((2 ^ k.bits : Nat) : Int) = (2:Int) ^ k.bits := by simp
  have h0 : (0:Int) < ((2 ^ k.bits : Nat) : Int) := by exact_mod_cast Nat.two_pow_pos k.bits
  rw [← hp, Int.toNat_of_nonneg (Int.emod_nonneg _ (by omega))]

theorem wrap_u8 (n : Int) : IntKind.u8.wrap n = ((BitVec.ofInt 8 n).toNat : Int) := wrap_bv .u8 rfl n
theorem wrap_u16 (n : Int) : IntKind.u16.wrap n = ((BitVec.ofInt 16 n).toNat : Int) := wrap_bv .u16 rfl n
theorem wrap_u32 (n : Int) : IntKind.u32.wrap n = ((BitVec.ofInt 32 n).toNat : Int) := wrap_bv .u32 rfl n
theorem wrap_u64 (n : Int) : IntKind.u64.wrap n = ((BitVec.ofInt 64 n).toNat : Int) := wrap_bv .u64 rfl n

theorem bv_nat {w : Nat} (n : Nat) : BitVec.ofInt w (n : Int) = BitVec.ofNat w n := by simp
theorem bv_back {w : Nat} (x : BitVec w) : BitVec.ofInt w (x.toNat : Int) = x := by simp
theorem bvn_back {w : Nat} (x : BitVec w) : BitVec.ofNat w x.toNat = x := by simp
theorem bv_add {w : Nat} (a b : Int) : BitVec.ofInt w (a + b) = BitVec.ofInt w a + BitVec.ofInt w b := BitVec.ofInt_add ..
theorem bv_mul {w : Nat} (a b : Int) : BitVec.ofInt w (a * b) = BitVec.ofInt w a * BitVec.ofInt w b := BitVec.ofInt_mul ..
theorem bv_sub {w : Nat} (a b : Int) : BitVec.ofInt w (a - b) = BitVec.ofInt w a - BitVec.ofInt w b := by
  rw [BitVec.sub_eq_add_neg, Int.sub_eq_add_neg, BitVec.ofInt_add, BitVec.ofInt_neg]
theorem bv_lit {w n : Nat} : BitVec.ofInt w (OfNat.ofNat n : Int) = BitVec.ofNat w n := bv_nat n

/-- what an operation on unsigned numbers comes to -/
def opBV {w : Nat} (op : BinOp) (x y : BitVec w) : Option (BitVec w) :=
  match op with
  | .add => some (x + y)
  | .sub => some (x - y)
  | .mul => some (x * y)
  | .and => some (x &&& y)
  | .or => some (x ||| y)
  | .xor => some (x ^^^ y)
  | .andNot => some (x &&& ~~~y)
  | _ => none

theorem intV_bv (k : IntKind) (hs : k.signed = false) (op : BinOp) (a b : Int) {z : BitVec k.bits} (h : opBV op (BitVec.ofInt k.bits a) (BitVec.ofInt k.bits b) = some z) :
    intV op k a b = some (.raw (.int k (z.toNat : Int))) := by
  cases op <;> simp only [opBV, Option.some.injEq, reduceCtorEq] at h <;> subst h <;> simp only [intV, wrap_bv k hs, bv_add, bv_mul, bv_sub, bv_back]

theorem intV_u8 (op : BinOp) (a b : Int) {z : BitVec 8} (h : opBV op (BitVec.ofInt 8 a) (BitVec.ofInt 8 b) = some z) : intV op .u8 a b = some (.raw (.int .u8 (z.toNat : Int))) := intV_bv .u8 rfl op a b h
theorem intV_u16 (op : BinOp) (a b : Int) {z : BitVec 16} (h : opBV op (BitVec.ofInt 16 a) (BitVec.ofInt 16 b) = some z) : intV op .u16 a b = some (.raw (.int .u16 (z.toNat : Int))) := intV_bv .u16 rfl op a b h
theorem intV_u32 (op : BinOp) (a b : Int) {z : BitVec 32} (h : opBV op (BitVec.ofInt 32 a) (BitVec.ofInt 32 b) = some z) : intV op .u32 a b = some (.raw (.int .u32 (z.toNat : Int))) := intV_bv .u32 rfl op a b h
theorem intV_u64 (op : BinOp) (a b : Int) {z : BitVec 64} (h : opBV op (BitVec.ofInt 64 a) (BitVec.ofInt 64 b) = some z) : intV op .u64 a b = some (.raw (.int .u64 (z.toNat : Int))) := intV_bv .u64 rfl op a b h

theorem add_u8 (a b : Int) : intV .add .u8 a b = some (.raw (.int .u8 ((BitVec.ofInt 8 a + BitVec.ofInt 8 b).toNat : Int))) := intV_u8 _ _ _ rfl
theorem sub_u8 (a b : Int) : intV .sub .u8 a b = some (.raw (.int .u8 ((BitVec.ofInt 8 a - BitVec.ofInt 8 b).toNat : Int))) := intV_u8 _ _ _ rfl
theorem mul_u8 (a b : Int) : intV .mul .u8 a b = some (.raw (.int .u8 ((BitVec.ofInt 8 a * BitVec.ofInt 8 b).toNat : Int))) := intV_u8 _ _ _ rfl
theorem and_u8 (a b : Int) : intV .and .u8 a b = some (.raw (.int .u8 ((BitVec.ofInt 8 a &&& BitVec.ofInt 8 b).toNat : Int))) := intV_u8 _ _ _ rfl
theorem or_u8 (a b : Int) : intV .or .u8 a b = some (.raw (.int .u8 ((BitVec.ofInt 8 a ||| BitVec.ofInt 8 b).toNat : Int))) := intV_u8 _ _ _ rfl
theorem xor_u8 (a b : Int) : intV .xor .u8 a b = some (.raw (.int .u8 ((BitVec.ofInt 8 a ^^^ BitVec.ofInt 8 b).toNat : Int))) := intV_u8 _ _ _ rfl
theorem add_u32 (a b : Int) : intV .add .u32 a b = some (.raw (.int .u32 ((BitVec.ofInt 32 a + BitVec.ofInt 32 b).toNat : Int))) := intV_u32 _ _ _ rfl
theorem sub_u32 (a b : Int) : intV .sub .u32 a b = some (.raw (.int .u32 ((BitVec.ofInt 32 a - BitVec.ofInt 32 b).toNat : Int))) := intV_u32 _ _ _ rfl
theorem mul_u32 (a b : Int) : intV .mul .u32 a b = some (.raw (.int .u32 ((BitVec.ofInt 32 a * BitVec.ofInt 32 b).toNat : Int))) := intV_u32 _ _ _ rfl
theorem and_u32 (a b : Int) : intV .and .u32 a b = some (.raw (.int .u32 ((BitVec.ofInt 32 a &&& BitVec.ofInt 32 b).toNat : Int))) := intV_u32 _ _ _ rfl
theorem or_u32 (a b : Int) : intV .or .u32 a b = some (.raw (.int .u32 ((BitVec.ofInt 32 a ||| BitVec.ofInt 32 b).toNat : Int))) := intV_u32 _ _ _ rfl
theorem xor_u32 (a b : Int) : intV .xor .u32 a b = some (.raw (.int .u32 ((BitVec.ofInt 32 a ^^^ BitVec.ofInt 32 b).toNat : Int))) := intV_u32 _ _ _ rfl
theorem add_u64 (a b : Int) : intV .add .u64 a b = some (.raw (.int .u64 ((BitVec.ofInt 64 a + BitVec.ofInt 64 b).toNat : Int))) := intV_u64 _ _ _ rfl
theorem sub_u64 (a b : Int) : intV .sub .u64 a b = some (.raw (.int .u64 ((BitVec.ofInt 64 a - BitVec.ofInt 64 b).toNat : Int))) := intV_u64 _ _ _ rfl
theorem mul_u64 (a b : Int) : intV .mul .u64 a b = some (.raw (.int .u64 ((BitVec.ofInt 64 a * BitVec.ofInt 64 b).toNat : Int))) := intV_u64 _ _ _ rfl
theorem and_u64 (a b : Int) : intV .and .u64 a b = some (.raw (.int .u64 ((BitVec.ofInt 64 a &&& BitVec.ofInt 64 b).toNat : Int))) := intV_u64 _ _ _ rfl
theorem or_u64 (a b : Int) : intV .or .u64 a b = some (.raw (.int .u64 ((BitVec.ofInt 64 a ||| BitVec.ofInt 64 b).toNat : Int))) := intV_u64 _ _ _ rfl
theorem xor_u64 (a b : Int) : intV .xor .u64 a b = some (.raw (.int .u64 ((BitVec.ofInt 64 a ^^^ BitVec.ofInt 64 b).toNat : Int))) := intV_u64 _ _ _ rfl

theorem shl_bv (k : IntKind) (hs : k.signed = false) (a y : Int) (h : 0 ≤ y) : shiftV .shl k a y = some (.raw (.int k ((BitVec.ofInt k.bits a <<< y.toNat).toNat : Int))) := by
  unfold shiftV
  rw [if_neg (by omega)]
  simp only [wrap_bv k hs, Option.some.injEq, AV.raw.injEq, Value.int.injEq, true_and, Int.natCast_inj]
  congr 1
  rw [BitVec.ofInt_mul]
  apply BitVec.eq_of_toNat_eq
  simp only [BitVec.toNat_mul, BitVec.toNat_shiftLeft, Nat.shiftLeft_eq]
  have e2 : (BitVec.ofInt k.bits ((2:Int) ^ min y.toNat k.bits)).toNat = 2 ^ min y.toNat k.bits % 2 ^ k.bits := by
    have : ((2:Int) ^ min y.toNat k.bits) = ((2 ^ min y.toNat k.bits : Nat) : Int) := by simp
    rw [this]
    simp only [BitVec.ofInt_natCast, BitVec.toNat_ofNat]
  rw [e2]
  rcases Nat.le_total y.toNat k.bits with hle | hle
  · rw [Nat.min_eq_left hle]
    simp [Nat.mul_mod]
  · rw [Nat.min_eq_right hle, Nat.mod_self, Nat.mul_zero, Nat.zero_mod]
    obtain ⟨d, hd⟩ := Nat.exists_eq_add_of_le hle
    rw [hd, Nat.pow_add, Nat.mul_comm (2 ^ k.bits), ← Nat.mul_assoc, Nat.mul_mod_left]

theorem shr_bv (k : IntKind) (hs : k.signed = false) (a y : Int) (h : 0 ≤ y) (h0 : 0 ≤ a) (h1 : a < 2 ^ k.bits) : shiftV .shr k a y = some (.raw (.int k ((BitVec.ofInt k.bits a >>> y.toNat).toNat : Int))) := by
  unfold shiftV
  rw [if_neg (by omega)]
  simp only [Option.some.injEq, AV.raw.injEq, Value.int.injEq, true_and]
  obtain ⟨n, rfl⟩ := Int.eq_ofNat_of_zero_le h0
  have hn : n < 2 ^ k.bits := by exact_mod_cast h1
  simp only [BitVec.ofInt_natCast, BitVec.toNat_ushiftRight, BitVec.toNat_ofNat, Nat.mod_eq_of_lt hn, Nat.shiftRight_eq_div_pow]
  rw [show ((2:Int) ^ min y.toNat k.bits) = ((2 ^ min y.toNat k.bits : Nat) : Int) by simp]
  rw [Int.fdiv_eq_ediv_of_nonneg _ (by exact_mod_cast Nat.zero_le _), ← Int.natCast_ediv]
  congr 1
  rcases Nat.le_total y.toNat k.bits with hle | hle
  · rw [Nat.min_eq_left hle]
  · rw [Nat.min_eq_right hle, Nat.div_eq_of_lt hn, Nat.div_eq_of_lt (Nat.lt_of_lt_of_le hn (Nat.pow_le_pow_right (by omega) hle))]

theorem shl_u8 (a y : Int) (h : 0 ≤ y) : shiftV .shl .u8 a y = some (.raw (.int .u8 ((BitVec.ofInt 8 a <<< y.toNat).toNat : Int))) := shl_bv .u8 rfl a y h
theorem shl_u32 (a y : Int) (h : 0 ≤ y) : shiftV .shl .u32 a y = some (.raw (.int .u32 ((BitVec.ofInt 32 a <<< y.toNat).toNat : Int))) := shl_bv .u32 rfl a y h
theorem shl_u64 (a y : Int) (h : 0 ≤ y) : shiftV .shl .u64 a y = some (.raw (.int .u64 ((BitVec.ofInt 64 a <<< y.toNat).toNat : Int))) := shl_bv .u64 rfl a y h
theorem shr_u8 (x : BitVec 8) (y : Int) (h : 0 ≤ y) : shiftV .shr .u8 (x.toNat : Int) y = some (.raw (.int .u8 ((x >>> y.toNat).toNat : Int))) := by
  have := shr_bv .u8 rfl (x.toNat : Int) y h (by omega) (by have := x.isLt; exact_mod_cast this)
  rw [this]
  show some (AV.raw (.int .u8 ((BitVec.ofInt 8 (x.toNat : Int) >>> y.toNat).toNat : Int))) = _
  rw [bv_back]
theorem shr_u32 (x : BitVec 32) (y : Int) (h : 0 ≤ y) : shiftV .shr .u32 (x.toNat : Int) y = some (.raw (.int .u32 ((x >>> y.toNat).toNat : Int))) := by
  have := shr_bv .u32 rfl (x.toNat : Int) y h (by omega) (by have := x.isLt; exact_mod_cast this)
  rw [this]
  show some (AV.raw (.int .u32 ((BitVec.ofInt 32 (x.toNat : Int) >>> y.toNat).toNat : Int))) = _
  rw [bv_back]
theorem shr_u64 (x : BitVec 64) (y : Int) (h : 0 ≤ y) : shiftV .shr .u64 (x.toNat : Int) y = some (.raw (.int .u64 ((x >>> y.toNat).toNat : Int))) := by
  have := shr_bv .u64 rfl (x.toNat : Int) y h (by omega) (by have := x.isLt; exact_mod_cast this)
  rw [this]
  show some (AV.raw (.int .u64 ((BitVec.ofInt 64 (x.toNat : Int) >>> y.toNat).toNat : Int))) = _
  rw [bv_back]

theorem not_u32 (x : BitVec 32) : unV .xor (.raw (.int .u32 (x.toNat : Int))) = some (.raw (.int .u32 ((~~~x).toNat : Int))) := by
  have e : (BitVec.ofInt (IntKind.bits .u32) (if IntKind.signed .u32 then -1 else IntKind.max .u32) ^^^ BitVec.ofInt (IntKind.bits .u32) (x.toNat : Int)) = (~~~x : BitVec 32) := by
    show (BitVec.ofInt 32 4294967295 ^^^ BitVec.ofInt 32 (x.toNat : Int)) = _
    rw [bv_back]
    exact BitVec.allOnes_xor
  show some (AV.raw (.int .u32 (IntKind.u32.wrap ((BitVec.ofInt (IntKind.bits .u32) (if IntKind.signed .u32 then -1 else IntKind.max .u32) ^^^ BitVec.ofInt (IntKind.bits .u32) (x.toNat : Int)).toNat : Int)))) = _
  rw [e, wrap_u32]
  show some (AV.raw (.int .u32 ((BitVec.ofInt 32 ((~~~x).toNat : Int)).toNat : Int))) = _
  rw [bv_back]

/-! ### whole numbers -/
theorem i64_is (n : Int) (h : -9223372036854775808 ≤ n ∧ n ≤ 9223372036854775807) : IntKind.i64.wrap n = n := IntWalk.i64_in n h

theorem toNat_add' (a b : Int) (ha : 0 ≤ a) (hb : 0 ≤ b) : (a + b).toNat = a.toNat + b.toNat := by omega
theorem toNat_sub' (a b : Int) (hb : 0 ≤ b) : (a - b).toNat = a.toNat - b.toNat := by omega
theorem toNat_mul' (a b : Int) (ha : 0 ≤ a) (hb : 0 ≤ b) : (a * b).toNat = a.toNat * b.toNat := by
  obtain ⟨m, rfl⟩ := Int.eq_ofNat_of_zero_le ha
  obtain ⟨n, rfl⟩ := Int.eq_ofNat_of_zero_le hb
  exact Int.toNat_natCast (m * n)
theorem toNat_mod' (a b : Int) (ha : 0 ≤ a) (hb : 0 ≤ b) : (a % b).toNat = a.toNat % b.toNat := by
  obtain ⟨m, rfl⟩ := Int.eq_ofNat_of_zero_le ha
  obtain ⟨n, rfl⟩ := Int.eq_ofNat_of_zero_le hb
  exact Int.toNat_natCast (m % n)
theorem toNat_div' (a b : Int) (ha : 0 ≤ a) (hb : 0 ≤ b) : (a / b).toNat = a.toNat / b.toNat := by
  obtain ⟨m, rfl⟩ := Int.eq_ofNat_of_zero_le ha
  obtain ⟨n, rfl⟩ := Int.eq_ofNat_of_zero_le hb
  exact Int.toNat_natCast (m / n)

theorem rem_i64 (a b : Int) (ha : 0 ≤ a) (hb : 0 < b) : intV .rem .i64 a b = some (.raw (.int .i64 (a % b))) := by
  simp only [intV]
  rw [if_neg (by omega), Int.tmod_eq_emod_of_nonneg ha]
theorem quo_i64 (a b : Int) (ha : 0 ≤ a) (hb : 0 < b) (h : a ≤ 9223372036854775807) : intV .quo .i64 a b = some (.raw (.int .i64 (a / b))) := by
  simp only [intV]
  rw [if_neg (by omega), Int.tdiv_eq_ediv_of_nonneg ha, i64_is]
  have h1 : 0 ≤ a / b := Int.ediv_nonneg ha (by omega)
  have h2 : a / b ≤ a := Int.ediv_le_self _ ha
  omega
theorem shr_i64 (a y : Int) (h : 0 ≤ y) (hy : y < 64) : shiftV .shr .i64 a y = some (.raw (.int .i64 (a.fdiv (2 ^ y.toNat)))) := by
  unfold shiftV
  rw [if_neg (by omega), show min y.toNat (IntKind.bits .i64) = y.toNat by simp [IntKind.bits]; omega]
theorem rem_u64 (x : BitVec 64) (b : Int) (h0 : 0 < b) (h1 : b < 18446744073709551616) : intV .rem .u64 (x.toNat : Int) b = some (.raw (.int .u64 ((x % BitVec.ofInt 64 b).toNat : Int))) := by
  simp only [intV]
  rw [if_neg (by omega)]
  obtain ⟨n, rfl⟩ := Int.eq_ofNat_of_zero_le (Int.le_of_lt h0)
  rw [Int.tmod_eq_emod_of_nonneg (by omega), ← Int.natCast_emod, bv_nat, BitVec.toNat_umod, BitVec.toNat_ofNat, Nat.mod_eq_of_lt (by omega : n < 2 ^ 64)]
theorem quo_u64 (x : BitVec 64) (b : Int) (h0 : 0 < b) (h1 : b < 18446744073709551616) : intV .quo .u64 (x.toNat : Int) b = some (.raw (.int .u64 ((x / BitVec.ofInt 64 b).toNat : Int))) := by
  simp only [intV]
  rw [if_neg (by omega)]
  obtain ⟨n, rfl⟩ := Int.eq_ofNat_of_zero_le (Int.le_of_lt h0)
  rw [Int.tdiv_eq_ediv_of_nonneg (by omega), ← Int.natCast_ediv, bv_nat, BitVec.toNat_udiv, BitVec.toNat_ofNat, Nat.mod_eq_of_lt (by omega : n < 2 ^ 64), wrap_u64, bv_nat, BitVec.toNat_ofNat]
  rw [Nat.mod_eq_of_lt]
  exact Nat.lt_of_le_of_lt (Nat.div_le_self _ _) x.isLt

theorem cmp_i64_lss (k : IntKind) (a b : Int) : intV .lss k a b = some (.raw (.bool (decide (a < b)))) := rfl
theorem cmp_i64_leq (k : IntKind) (a b : Int) : intV .leq k a b = some (.raw (.bool (decide (a ≤ b)))) := rfl
theorem cmp_i64_gtr (k : IntKind) (a b : Int) : intV .gtr k a b = some (.raw (.bool (decide (a > b)))) := rfl
theorem cmp_i64_geq (k : IntKind) (a b : Int) : intV .geq k a b = some (.raw (.bool (decide (a ≥ b)))) := rfl
theorem cmp_eql (k : IntKind) (a b : Int) : intV .eql k a b = some (.raw (.bool (a == b))) := rfl
theorem cmp_neq (k : IntKind) (a b : Int) : intV .neq k a b = some (.raw (.bool (a != b))) := rfl

theorem nat_pos (n : Nat) : (0 ≤ (n : Int)) = True := by simp
theorem add_i64 (a b : Int) (h : -9223372036854775808 ≤ a + b ∧ a + b ≤ 9223372036854775807) : intV .add .i64 a b = some (.raw (.int .i64 (a + b))) := by simp only [intV, i64_is _ h]
theorem sub_i64 (a b : Int) (h : -9223372036854775808 ≤ a - b ∧ a - b ≤ 9223372036854775807) : intV .sub .i64 a b = some (.raw (.int .i64 (a - b))) := by simp only [intV, i64_is _ h]
theorem mul_i64 (a b : Int) (h : -9223372036854775808 ≤ a * b ∧ a * b ≤ 9223372036854775807) : intV .mul .i64 a b = some (.raw (.int .i64 (a * b))) := by simp only [intV, i64_is _ h]

/-! ### parts that are laid one behind the other -/
def fillC (te : TypeId → Option TI) (k : TK) : Nat → List (Nat × AV) → Option (List AV)
  | _, [] => some []
  | o, (i, v) :: rest =>
    (place te k i).bind fun p => v.cells.bind fun ys => if p.1 = o ∧ ys.length = p.2 then (fillC te k (o + p.2) rest).map (ys ++ ·) else none

theorem fillC_spec {te : TypeId → Option TI} {k : TK} : ∀ (ps : List (Nat × AV)) (o : Nat) (cs ys : List AV), fillC te k o ps = some ys → o + ys.length ≤ cs.length → fillV te k cs ps = some (cs.take o ++ ys ++ cs.drop (o + ys.length))
  | [], o, cs, ys, h, hl => by simp [fillC] at h; subst h; simp [fillV]
  | (i, v) :: rest, o, cs, ys, h, hl => by
    simp only [fillC, Option.bind_eq_some_iff] at h
    obtain ⟨⟨off, size⟩, h1, zs, h2, h3⟩ := h
    split at h3
    · rename_i hc
      simp only [Option.map_eq_some_iff] at h3
      obtain ⟨ys', h4, rfl⟩ := h3
      simp only at hc
      obtain ⟨rfl, hs⟩ := hc
      simp only [List.length_append] at hl
      have hsp : (splice cs off zs).length = cs.length := by simp [splice]; omega
      have := fillC_spec rest (off + size) (splice cs off zs) ys' h4 (by rw [hsp]; omega)
      simp only [fillV, h1, h2]
      rw [if_pos ⟨hs, by omega⟩, this]
      simp only [Option.some.injEq]
      unfold splice
      subst hs
      rw [List.take_append_of_le_length (by simp; omega), List.take_append, List.drop_append]
      have e1 : (List.take off cs ++ zs).length = off + zs.length := by simp; omega
      have e2 : (List.take off cs).length = off := by simp; omega
      rw [e1, e2, List.take_of_length_le (l := List.take off cs) (by simp; omega), List.take_of_length_le (l := zs) (by omega)]
      rw [show List.drop (off + zs.length + ys'.length) (List.take off cs ++ zs) = [] from List.drop_eq_nil_of_le (by simp; omega)]
      rw [List.drop_drop, List.nil_append]
      simp only [List.append_assoc, List.length_append]
      congr 4
      omega
    · cases h3

def fillV' (te : TypeId → Option TI) (k : TK) (cs : List AV) (ps : List (Nat × AV)) : Option (List AV) := fillV te k cs ps

theorem fillV_go {te : TypeId → Option TI} {k : TK} {cs : List AV} {ps : List (Nat × AV)} :
    fillV te k cs ps = match fillC te k 0 ps with | some ys => if ys.length ≤ cs.length then some (ys ++ cs.drop ys.length) else fillV' te k cs ps | none => fillV' te k cs ps := by
  split
  · rename_i ys h
    split
    · have := fillC_spec ps 0 cs ys h (by omega)
      simpa using this
    · rfl
  · rfl

theorem rep_u8 (n : Nat) : List.replicate n (AV.raw (.int .u8 0)) = nums .u8 (List.replicate n 0#8) := by simp [nums]
theorem rep_u32 (n : Nat) : List.replicate n (AV.raw (.int .u32 0)) = nums .u32 (List.replicate n 0#32) := by simp [nums]
theorem rep_u64 (n : Nat) : List.replicate n (AV.raw (.int .u64 0)) = nums .u64 (List.replicate n 0#64) := by simp [nums]
theorem zeros_u8 (n : Nat) : rep n [AV.raw (.int .u8 0)] = nums .u8 (List.replicate n 0#8) := nums_zeros n
theorem zeros_u32 (n : Nat) : rep n [AV.raw (.int .u32 0)] = nums .u32 (List.replicate n 0#32) := nums_zeros n
theorem zeros_u64 (n : Nat) : rep n [AV.raw (.int .u64 0)] = nums .u64 (List.replicate n 0#64) := nums_zeros n
theorem nums_nil {k : IntKind} {w : Nat} : nums k ([] : List (BitVec w)) = [] := rfl

theorem bind_go {α β : Type} (o : Option α) (f : α → Option β) : o.bind f = match o with | some a => f a | none => none := by cases o <;> rfl
theorem map_go {α β : Type} (o : Option α) (f : α → β) : o.map f = match o with | some a => some (f a) | none => none := by cases o <;> rfl

theorem getD_drop {α : Type} (l : List α) (k : Nat) (d : α) : (l.drop k).getD 0 d = l.getD k d := by simp [List.getD_eq_getElem?_getD]

theorem splice_all {xs ys : List AV} (h : ys.length = xs.length) : splice xs 0 ys = ys := by
  unfold splice
  rw [h]; simp

theorem upd_at {β : Type} (f : Nat → β) (i j : Nat) (v : β) : upd f i v j = if j = i then v else f j := rfl
theorem updB_at (f : Boxes) (i j : Bx) (v : List AV) : updB f i v j = if j = i then some v else f j := rfl
theorem updI_at (f : Id → Bool) (i j : Id) : updI f i j = if j = i then true else f j := rfl
end Go.Abs

/- Walking through code by computing. -/
namespace Go.Abs
set_option linter.unusedSimpArgs false
set_option linter.unusedVariables false
open Go

def bindQ (o : Option AS) (R : AS → Prop) : Prop := ∃ σ, o = some σ ∧ R σ
def condQ (v : AV) (f g : AS → Prop) (σ : AS) : Prop := (v = .raw (.bool true) ∧ f σ) ∨ (v = .raw (.bool false) ∧ g σ) ∨ (v = .anyb ∧ f σ ∧ g σ)
/-- a value told less of -/
inductive WkV (lvl : Nat) : AV → AV → Prop
  | same (v : AV) : WkV lvl v v
  | nil (s z : Nat) : WkV lvl (.raw (.slice none 0 0)) (.sl 0 [] (.own ⟨lvl, s, 0, 0⟩ z))
  | nilb : WkV lvl (.raw (.slice none 0 0)) (.sl 0 [] .bor)
  | bor (n : Nat) (xs : List AV) (fl : Fl) : WkV lvl (.sl n xs fl) (.sl n xs .bor)
  | any (b : Bool) : WkV lvl (.raw (.bool b)) .anyb
structure Wk (lvl : Nat) (σ σ' : AS) : Prop where
  gen : σ'.gen = σ.gen
  box : σ'.box = σ.box
  used : σ'.used = σ.used
  slots : ∀ i, WkV lvl (σ.slots i) (σ'.slots i)
theorem Wk.refl {lvl : Nat} (σ : AS) : Wk lvl σ σ := ⟨rfl, rfl, rfl, fun i => .same _⟩
theorem Wk.at {lvl : Nat} {σ : AS} {d : Nat} {v : AV} (h : WkV lvl (σ.slots d) v) : Wk lvl σ { σ with slots := upd σ.slots d v } :=
  ⟨rfl, rfl, rfl, fun i => by
    show WkV lvl _ (if i = d then v else σ.slots i)
    split
    · rename_i e; rw [e]; exact h
    · exact .same _⟩
theorem Wk.trans1 {lvl : Nat} {σ σ' : AS} {d : Nat} {v : AV} (hw : Wk lvl σ σ') (hs : σ'.slots d = σ.slots d) (h : WkV lvl (σ.slots d) v) : Wk lvl σ { σ' with slots := upd σ'.slots d v } :=
  ⟨hw.gen, hw.box, hw.used, fun i => by
    show WkV lvl _ (if i = d then v else σ'.slots i)
    split
    · rename_i e; rw [e]; exact h
    · exact hw.slots i⟩
theorem made_zero (g : Ghost) (s c : Nat) : made g ⟨g.L, s, c, 0⟩ := .inl ⟨rfl, Nat.le_refl _⟩
theorem WkV.rel {g : Ghost} {w : World} {v r : AV} {u : Value} (h : WkV g.L v r) (hv : RV g.μ g.G w v u ∧ Top g v u) : RV g.μ g.G w r u ∧ Top g r u := by
  cases h with
  | same => exact hv
  | nil => obtain ⟨h1, _⟩ := hv; simp only [RV] at h1 ⊢; subst h1; exact ⟨.inl (by simp), by simp [Top, FlOK, made_zero]⟩
  | nilb => obtain ⟨h1, _⟩ := hv; simp only [RV] at h1 ⊢; subst h1; exact ⟨.inl (by simp), by simp [Top, FlOK]⟩
  | bor => obtain ⟨h1, _⟩ := hv; exact ⟨by simpa only [RV] using h1, by simp [Top, FlOK]⟩
  | any => obtain ⟨h1, _⟩ := hv; simp only [RV] at h1 ⊢; exact ⟨⟨_, h1⟩, trivial⟩
theorem Sim.wk {N : Ent} {σ σ' : AS} {a : Act} {w : World} (h : Sim N σ a w) (hw : Wk N.lvl σ σ') : Sim N σ' a w := by
  obtain ⟨g, h1, h2, h3, h4, h5, h6⟩ := h
  exact ⟨g, by rw [hw.box]; exact h1, by rw [hw.gen]; exact h2, by rw [hw.used]; exact h3, h4, h5, fun i => WkV.rel (by rw [h1.lev]; exact hw.slots i) (h6 i)⟩

/-- a name that has been given, as far as a state tells -/
def Made (lvl : Nat) (σ : AS) (i : Id) : Prop := i.lvl < lvl ∨ (i.lvl = lvl ∧ i.gen ≤ σ.gen i.slot)
/-- what holds of each state that is met: names that are spoken of have been given -/
structure Fut (lvl : Nat) (σ : AS) : Prop where
  used : ∀ i, σ.used i = true → Made lvl σ i
  slot : ∀ (s n : Nat) (xs : List AV) (i : Id) (z : Nat), σ.slots s = .sl n xs (.own i z) → Made lvl σ i
  box : ∀ (b : Bx) (cs : List AV) (j n : Nat) (xs : List AV) (i : Id) (z : Nat), σ.box b = some cs → cs[j]? = some (.sl n xs (.own i z)) → Made lvl σ i
theorem Valid.toMade {N : Ent} {g : Ghost} {box : Boxes} {w : World} (hv : Valid N g box w) {σ : AS} (hU : g.U = σ.gen) {i : Id} (h : made g i) : Made N.lvl σ i := by
  unfold made at h
  rw [hv.lev, hv.kn, hU] at h
  rcases h with ⟨h1, h2⟩ | h | h
  · rcases Nat.lt_or_ge i.lvl N.lvl with h3 | h3
    · exact .inl h3
    · exact .inr ⟨Nat.le_antisymm h2 h3, by rw [h1]; exact Nat.zero_le _⟩
  · exact .inl (hv.klow _ h)
  · exact .inr h
theorem Sim.fut {N : Ent} {σ : AS} {a : Act} {w : World} (h : Sim N σ a w) : Fut N.lvl σ := by
  obtain ⟨g, hv, hU, hD, hn, hdf, hsl⟩ := h
  have key : ∀ (i : Id) (z m : Nat) (u : Value), FlOK g (.own i z) m u → Made N.lvl σ i := fun i z m u hf => by
    cases u <;> simp only [FlOK] at hf
    exact hv.toMade hU hf.1
  refine ⟨fun i hi => hv.toMade hU (hv.dgen i (by rw [hD]; exact hi)), fun s n xs i z hs => ?_, fun b cs j n xs i z hb hj => ?_⟩
  · have := (hsl s).2
    rw [hs] at this
    exact key i z _ _ this
  · have hd := hv.dom b
    rw [hb] at hd
    obtain ⟨k, hk⟩ := Option.isSome_iff_exists.1 hd.symm
    obtain ⟨us, h1, h2, _⟩ := hv.box_cells hk hb
    have hjl : j < us.length := by rw [h1.length]; exact (List.getElem?_eq_some_iff.1 hj).1
    exact key i z _ _ (hv.ctop b k cs hk hb j n xs _ us[j] hj (by rw [h2 j hjl]; simp [hjl]))

def loopQ (lvl : Nat) (f : (AX → AS → Prop) → AS → Prop) (Q : AX → AS → Prop) (σ : AS) : Prop := ∃ (I : Nat → AS → Prop) (n : Nat) (σ' : AS), Wk lvl σ σ' ∧ I n σ' ∧ ∀ n σ, I n σ → Fut lvl σ → f (thenQ (fun σ' => ∃ m, m < n ∧ I m σ') Q) σ

/-- what must hold ahead of code -/
def awp (E : Env) (lvl n : Nat) : Code → (AX → AS → Prop) → AS → Prop
  | .skip, Q, σ => Q .nrm σ
  | .label _, Q, σ => Q .nrm σ
  | .exit i, Q, σ => Q (.exit i) σ
  | .ret, Q, σ => Q .ret σ
  | .seq a b, Q, σ => awp E lvl n a (thenQ (awp E lvl n b Q) Q) σ
  | .region _ ops _, Q, σ => bindQ (regs E lvl n ops.toList ops.toList σ) (Q .nrm)
  | .cond c x y, Q, σ => condQ (ev E σ.slots c) (awp E lvl n x Q) (awp E lvl n y Q) σ
  | .block id c, Q, σ => awp E lvl n c (blockQ id Q) σ
  | .scope c, Q, σ => awp E lvl n c Q σ
  | .loop c, Q, σ => loopQ lvl (awp E lvl n c) Q σ
  | _, _, _ => False

/-- The same, sealed: the kernel shall not run it by itself. -/
noncomputable def regsO : Env → Nat → Nat → List Oper → List Oper → AS → Option AS := Classical.choose (⟨regs, rfl⟩ : ∃ f, f = regs)
theorem regsO_eq : regsO = regs := Classical.choose_spec (⟨regs, rfl⟩ : ∃ f, f = regs)
noncomputable def awpO : Env → Nat → Nat → Code → (AX → AS → Prop) → AS → Prop := Classical.choose (⟨awp, rfl⟩ : ∃ f, f = awp)
theorem awpO_eq : awpO = awp := Classical.choose_spec (⟨awp, rfl⟩ : ∃ f, f = awp)
noncomputable def stepO : Env → Nat → Nat → List Oper → AS → Oper → Option AS := Classical.choose (⟨stepV, rfl⟩ : ∃ f, f = stepV)
theorem stepO_eq : stepO = stepV := Classical.choose_spec (⟨stepV, rfl⟩ : ∃ f, f = stepV)

section
variable {E : Env} {lvl n : Nat} {Q R : AX → AS → Prop} {σ : AS}
theorem regsO_nil {ops : List Oper} : regsO E lvl n ops [] σ = some σ := by rw [regsO_eq]; rfl
theorem regsO_cons {ops : List Oper} {o : Oper} {rest : List Oper} : regsO E lvl n ops (o :: rest) σ = match stepO E lvl n ops σ o with | some σ' => regsO E lvl n ops rest σ' | none => none := by rw [regsO_eq, stepO_eq]; rfl
theorem stepO_go {ops : List Oper} {o : Oper} : stepO E lvl n ops σ o =
    match wantedV ops σ o with
    | none => none
    | some false => match o.dst with
      | some d => if d < n then some (σ.put (some d) (.raw undef)) else none
      | none => some σ
    | some true =>
      if isWrite o.op then
        match write E (ev E σ.slots) σ.box o.op with
        | some (v, b) => (match o.dst with
           | some d => if d < n then some { σ.put (some d) v with box := b } else none
           | none => some { σ with box := b })
        | none => none
      else
        match o.dst with
        | some d => if d < n then (match grow E lvl d (σ.gen d + 1) (ev E σ.slots) σ.box σ.used o.op with | some r => some (σ.grown lvl d r) | none => none) else none
        | none => if isGen E o.op = true then (match grow E lvl n (σ.gen n + 1) (ev E σ.slots) σ.box σ.used o.op with | some r => some (σ.mute lvl n r) | none => none) else none := by
  rw [stepO_eq]
  unfold stepV
  cases wantedV ops σ o with
  | none => rfl
  | some b =>
    cases b with
    | false => cases o.dst <;> rfl
    | true =>
      simp only
      split
      · cases write E (ev E σ.slots) σ.box o.op with
        | none => rfl
        | some p => cases o.dst <;> rfl
      · cases o.dst with
        | none =>
          simp only
          split
          · cases grow E lvl n (σ.gen n + 1) (ev E σ.slots) σ.box σ.used o.op <;> rfl
          · rfl
        | some d =>
          simp only
          split
          · cases grow E lvl d (σ.gen d + 1) (ev E σ.slots) σ.box σ.used o.op <;> rfl
          · rfl
theorem awp_skip : awpO E lvl n .skip Q σ = Q .nrm σ := by rw [awpO_eq]; rfl
theorem awp_label {l : Nat} : awpO E lvl n (.label l) Q σ = Q .nrm σ := by rw [awpO_eq]; rfl
theorem awp_exit {i : Nat} : awpO E lvl n (.exit i) Q σ = Q (.exit i) σ := by rw [awpO_eq]; rfl
theorem awp_ret : awpO E lvl n .ret Q σ = Q .ret σ := by rw [awpO_eq]; rfl
theorem awp_seq {a b : Code} : awpO E lvl n (.seq a b) Q σ = awpO E lvl n a (thenQ (awpO E lvl n b Q) Q) σ := by rw [awpO_eq]; rfl
theorem awp_region {i : Nat} {ops : Array Oper} {d : Bool} : awpO E lvl n (.region i ops d) Q σ = bindQ (regsO E lvl n ops.toList ops.toList σ) (Q .nrm) := by rw [awpO_eq, regsO_eq]; rfl
theorem awp_cond {c : Operand} {x y : Code} : awpO E lvl n (.cond c x y) Q σ = condQ (ev E σ.slots c) (awpO E lvl n x Q) (awpO E lvl n y Q) σ := by rw [awpO_eq]; rfl
theorem awp_block {i : Nat} {c : Code} : awpO E lvl n (.block i c) Q σ = awpO E lvl n c (blockQ i Q) σ := by rw [awpO_eq]; rfl
theorem awp_scope {c : Code} : awpO E lvl n (.scope c) Q σ = awpO E lvl n c Q σ := by rw [awpO_eq]; rfl
theorem awp_loop {c : Code} : awpO E lvl n (.loop c) Q σ = loopQ lvl (awpO E lvl n c) Q σ := by rw [awpO_eq]; rfl
theorem thenQ_nrm {T : AS → Prop} : thenQ T Q .nrm σ = T σ := rfl
theorem thenQ_ret {T : AS → Prop} : thenQ T Q .ret σ = Q .ret σ := rfl
theorem thenQ_exit {T : AS → Prop} {i : Nat} : thenQ T Q (.exit i) σ = Q (.exit i) σ := rfl
theorem blockQ_nrm {i : Nat} : blockQ i Q .nrm σ = Q .nrm σ := rfl
theorem blockQ_ret {i : Nat} : blockQ i Q .ret σ = Q .ret σ := rfl
theorem blockQ_exit {i j : Nat} : blockQ i Q (.exit j) σ = if j = i then Q .nrm σ else Q (.exit j) σ := rfl
end

/-- each drawing region comes to the same in whatever order -/
def confC (E : Env) : Code → Bool
  | .region _ ops true => confB E ops.toList
  | .seq a b => confC E a && confC E b
  | .cond _ x y => confC E x && confC E y
  | .block _ c => confC E c
  | .scope c => confC E c
  | .loop c => confC E c
  | _ => true

section
variable {P : Program} {N : Ent} {E : Env}

theorem awp_sound (hE : EnvOK P E) (hN : EntOK E N) (hP : P.follows .mixedOrders = true) : ∀ (c : Code) (Q : AX → AS → Prop) (σ : AS), confC E c = true → awp E N.lvl N.N c Q σ → AW P N c Q σ
  | .skip, Q, σ, _, h => AW_skip h
  | .label _, Q, σ, _, h => AW_label h
  | .exit i, Q, σ, _, h => AW_exit h
  | .ret, Q, σ, _, h => AW_ret h
  | .seq a b, Q, σ, hc, h => by
    simp only [confC, Bool.and_eq_true] at hc
    refine AW_seq (AW_mono (awp_sound hE hN hP a _ σ hc.1 h) ?_)
    intro x σ' hq
    cases x with
    | nrm => exact awp_sound hE hN hP b Q σ' hc.2 hq
    | ret => exact hq
    | exit i => exact hq
  | .region id ops dr, Q, σ, hc, h => by
    obtain ⟨σ', h1, h2⟩ := h
    cases dr with
    | false => have := AW_region (Q := Q) (id := id) E hE hN σ' h1 h2; simpa using this
    | true => have := AW_draw (Q := Q) (id := id) E hE hN hP σ' hc h1 h2; simpa using this
  | .cond c x y, Q, σ, hc, h => by
    simp only [confC, Bool.and_eq_true] at hc
    rcases h with ⟨h1, h2⟩ | ⟨h1, h2⟩ | ⟨h1, h2, h3⟩
    · exact AW_cond E hN h1 (by rw [if_pos rfl]; exact awp_sound hE hN hP x Q σ hc.1 h2)
    · exact AW_cond E hN h1 (by rw [if_neg (by simp)]; exact awp_sound hE hN hP y Q σ hc.2 h2)
    · exact AW_cond_any E hN h1 (awp_sound hE hN hP x Q σ hc.1 h2) (awp_sound hE hN hP y Q σ hc.2 h3)
  | .block id c, Q, σ, hc, h => AW_block (awp_sound hE hN hP c _ σ hc h)
  | .scope c, Q, σ, hc, h => AW_scope (awp_sound hE hN hP c Q σ hc h)
  | .loop c, Q, σ, hc, h => by
    obtain ⟨I, n, σ', hw, h0, h1⟩ := h
    have := AW_loop (P := P) (N := N) I n h0 fun n σ hI => fun a w hs => awp_sound hE hN hP c _ σ hc (h1 n σ hI hs.fut) a w hs
    exact fun a w hs => this a w (hs.wk hw)
end

theorem SoundV.walk {P : Program} {f : FuncId} {fn : Func} {c : Code} {pf : List AV → Option AV} (E : Env) (hE : EnvOK P E) (hP : P.follows .mixedOrders = true) (hf : P.funcs[f]? = some fn) (hb : fn.body = some c)
    (hcall : ∀ (args : Array Value) (w : World), (callFunc f args).run P w = .ok (.enter f args) w) (hc : confC E c = true)
    (h : ∀ (args : List AV) (r : AV), pf args = some r → args.length ≤ fn.ntmps ∧ awpO E 0 fn.ntmps c (endQ E.te fn.results.toList r) (start args)) : SoundV P E.glob f pf :=
  SoundV.of E hE hf hb hcall fun args r hr => ⟨(h args r hr).1, fun N hn hl hN => by
    have := (h args r hr).2
    rw [awpO_eq, ← hn, ← hl] at this
    exact awp_sound hE hN hP c _ _ hc this⟩

/-- one more function is known -/
def Env.know (E : Env) (f : FuncId) (pf : List AV → Option AV) : Env := { E with tbl := fun i => if i = f then some (.val pf) else E.tbl i }

theorem EnvOK.know {P : Program} {E : Env} (h : EnvOK P E) {f : FuncId} {pf : List AV → Option AV} (hs : SoundV P E.glob f pf) : EnvOK P (E.know f pf) := by
  refine ⟨h.te, fun i p hp => ?_, fun i p hp => ?_⟩
  change (if i = f then _ else _) = _ at hp
  split at hp
  · rename_i e; cases hp; rw [e]; exact hs
  · exact h.tbl i p hp
  · change (if i = f then _ else _) = _ at hp
    split at hp
    · cases hp
    · exact h.gen i p hp
/-- one more function that sees boxes is known -/
def Env.knowG (E : Env) (f : FuncId) (gf : List AV → Boxes → (Id → Bool) → Option CR) : Env := { E with tbl := fun i => if i = f then some (.gen gf) else E.tbl i, gs := f :: E.gs }
theorem EnvOK.knowG {P : Program} {E : Env} (h : EnvOK P E) {f : FuncId} {gf : List AV → Boxes → (Id → Bool) → Option CR} (hs : SoundG P E.glob f gf) : EnvOK P (E.knowG f gf) := by
  refine ⟨h.te, fun i p hp => ?_, fun i p hp => ?_⟩
  · change (if i = f then _ else _) = _ at hp
    split at hp
    · cases hp
    · exact h.tbl i p hp
  · change (if i = f then _ else _) = _ at hp
    split at hp
    · rename_i e; cases hp; rw [e]; exact hs
    · exact h.gen i p hp
def Env.dynamic (E : Env) : Env := { E with dyn := true }
theorem EnvOK.dynamic {P : Program} {E : Env} (h : EnvOK P E) : EnvOK P E.dynamic := ⟨h.te, h.tbl, h.gen⟩

def Env.boxed (E : Env) (m : Nat → Bool) : Env := { E with mu := m }
theorem EnvOK.boxed {P : Program} {E : Env} (h : EnvOK P E) (m : Nat → Bool) : EnvOK P (E.boxed m) := ⟨h.te, h.tbl, h.gen⟩

def stB (P : Program) (t : TypeId) (fs : List (Nat × TypeId)) : Bool :=
  match P.underlying t with
  | some (.struct fields) => decide (fs = fields.toList.map fun f => (f.offset, f.type))
  | _ => false
def stF (P : Program) (t : TypeId) : Bool :=
  match P.underlying t with
  | some (.struct fields) => fields.toList.all fun f => (P.info? f.type).isSome
  | _ => true

theorem st_under {P : Program} {t : TypeId} {fs : List (Nat × TypeId)} (h : stB P t fs = true) : ∃ d, P.underlying t = some d ∧ TKis (.st fs) d := by
  unfold stB at h
  split at h
  · rename_i fields e
    exact ⟨_, e, fields, rfl, by simpa using h⟩
  · cases h

theorem ti_fields {P : Program} {t : TypeId} (h : stF P t = true) : ∀ fs, P.underlying t = some (.struct fs) → fs.toList.all (fun f => (P.info? f.type).isSome) = true := by
  intro fs e
  unfold stF at h
  rw [e] at h
  exact h

theorem bindQ_some (σ : AS) (R : AS → Prop) : bindQ (some σ) R = R σ := by simp [bindQ]
theorem condQ_true (f g : AS → Prop) (σ : AS) : condQ (.raw (.bool true)) f g σ = f σ := by simp [condQ]
theorem condQ_false (f g : AS → Prop) (σ : AS) : condQ (.raw (.bool false)) f g σ = g σ := by simp [condQ]
theorem condQ_any (f g : AS → Prop) (σ : AS) : condQ .anyb f g σ = (f σ ∧ g σ) := by simp [condQ]
theorem condQ_dec {p : Prop} [Decidable p] {f g : AS → Prop} {σ : AS} (h1 : p → f σ) (h2 : ¬p → g σ) : condQ (.raw (.bool (decide p))) f g σ := by
  by_cases h : p <;> simp [condQ, h, h1, h2]
theorem condQ_bool {b : Bool} {f g : AS → Prop} {σ : AS} (h1 : b = true → f σ) (h2 : b = false → g σ) : condQ (.raw (.bool b)) f g σ := by
  cases b <;> simp [condQ, h1, h2]
theorem loopQ_of {lvl : Nat} {f : (AX → AS → Prop) → AS → Prop} {Q : AX → AS → Prop} {σ : AS} (I : Nat → AS → Prop) (n : Nat) (h0 : I n σ) (h : ∀ n σ, I n σ → f (thenQ (fun σ' => ∃ m, m < n ∧ I m σ') Q) σ) : loopQ lvl f Q σ := ⟨I, n, σ, Wk.refl σ, h0, fun n σ hI _ => h n σ hI⟩
/-- the same, from what is told less of -/
theorem loopQ_wk {lvl : Nat} {f : (AX → AS → Prop) → AS → Prop} {Q : AX → AS → Prop} {σ : AS} (σ' : AS) (hw : Wk lvl σ σ') (I : Nat → AS → Prop) (n : Nat) (h0 : I n σ') (h : ∀ n σ, I n σ → f (thenQ (fun σ' => ∃ m, m < n ∧ I m σ') Q) σ) : loopQ lvl f Q σ := ⟨I, n, σ', hw, h0, fun n σ hI _ => h n σ hI⟩
/-- the same; names that are spoken of have been given -/
theorem loopQ_fut {lvl : Nat} {f : (AX → AS → Prop) → AS → Prop} {Q : AX → AS → Prop} {σ : AS} (σ' : AS) (hw : Wk lvl σ σ') (I : Nat → AS → Prop) (n : Nat) (h0 : I n σ') (h : ∀ n σ, I n σ → Fut lvl σ → f (thenQ (fun σ' => ∃ m, m < n ∧ I m σ') Q) σ) : loopQ lvl f Q σ := ⟨I, n, σ', hw, h0, h⟩
end Go.Abs

/- Small tools of the walks: decoding of arguments, freshness of one's own slices. -/
namespace Go.Abs
set_option linter.unusedSimpArgs false
set_option linter.unusedVariables false
open Go

section
variable {E : Env} {sl : Nat → AV}
theorem ev_tmp {t : Nat} : ev E sl (.tmp t) = sl t := rfl
theorem ev_const {v : Value} : ev E sl (.const v) = ofV v := rfl
theorem ev_global {g : Nat} : ev E sl (.global g) = match E.glob g with | some xs => .iptr xs | none => .dead := rfl
theorem ev_func {f : FuncId} : ev E sl (.func f) = .fn f [] := rfl
end

theorem unV_not (b : Bool) : unV .not (.raw (.bool b)) = some (.raw (.bool !b)) := rfl
theorem unV_any : unV .not .anyb = some .anyb := rfl
theorem unV_neg (k : IntKind) (n : Int) : unV .neg (.raw (.int k n)) = some (.raw (.int k (k.wrap (0 - n)))) := rfl
theorem bb_t (b : Bool) : (b == true) = b := by cases b <;> rfl
theorem bb_f (b : Bool) : (b == false) = !b := by cases b <;> rfl

section
variable {te : TypeId → Option TI} {op : BinOp} {t : TypeId}
theorem bin_int {k k' : IntKind} {a b : Int} : binV te op t (.raw (.int k a)) (.raw (.int k' b)) = match op with
    | .shl | .shr => shiftV op k a b
    | _ => if k = k' then intV op k a b else none := rfl
theorem bin_bool {a b : Bool} : binV te op t (.raw (.bool a)) (.raw (.bool b)) = match kd te t with
    | .bool => eqNeg op (a == b)
    | _ => none := rfl
theorem bin_str {a b : ByteArray} : binV te op t (.raw (.string a)) (.raw (.string b)) = match op with
    | .eql => some (.raw (.bool (a.data.toList == b.data.toList)))
    | .neq => some (.raw (.bool !(a.data.toList == b.data.toList)))
    | .add => if a.size + b.size ≤ 9223372036854775807 then some (.raw (.string (a ++ b))) else none
    | _ => none := rfl
theorem str_add (l m : List UInt8) : (⟨l.toArray⟩ : ByteArray) ++ ⟨m.toArray⟩ = ⟨(l ++ m).toArray⟩ := by
  apply ByteArray.ext
  simp
theorem str_size (l : List UInt8) : (⟨l.toArray⟩ : ByteArray).size = l.length := rfl
theorem bin_nil : binV te op t (.raw (.slice none 0 0)) (.raw (.slice none 0 0)) = match kd te t with
    | .slice _ => eqNeg op true
    | _ => none := rfl
theorem bin_sl {n : Nat} {xs : List AV} {fl : Fl} : binV te op t (.sl n xs fl) (.raw (.slice none 0 0)) = match kd te t, op with
    | .slice _, .eql => some (if n = 0 then .anyb else .raw (.bool false))
    | .slice _, .neq => some (if n = 0 then .anyb else .raw (.bool true))
    | _, _ => none := rfl
theorem bin_view {b : Bx} {o n c z : Nat} : binV te op t (.view b o n c z) (.raw (.slice none 0 0)) = match kd te t with
    | .slice _ => eqNeg op false
    | _ => none := rfl
theorem bin_ptr {b : Bx} {o : Nat} : binV te op t (.ptr b o) (.raw (.pointer none)) = match kd te t with
    | .ptr _ => eqNeg op false
    | _ => none := rfl
theorem bin_iptr {xs : List AV} : binV te op t (.iptr xs) (.raw (.pointer none)) = match kd te t with
    | .ptr _ => eqNeg op false
    | _ => none := rfl
theorem bin_np : binV te op t (.raw (.pointer none)) (.raw (.pointer none)) = match kd te t with
    | .ptr _ => eqNeg op true
    | _ => none := rfl
theorem bin_agg {e : TypeId} {len : Nat} {k : IntKind} {w b : Nat} {z : List Value} (l m : List (BitVec w)) (h1 : kd te t = .arr len e) (h2 : te e = some ⟨.int k, 1, b, z⟩) (hl : l.length = len) (hm : m.length = len) :
    binV te op t (.agg (nums k l)) (.agg (nums k m)) = eqNeg op (l == m) := by
  simp only [binV, h1, nums_ints, h2, List.length_map, hl, hm, true_and]
  have hk : ∀ l : List (BitVec w), ((l.map fun x => (k, (x.toNat : Int))).all (·.1 == k)) = true := fun l => by simp
  rw [hk, hk, if_pos ⟨rfl, rfl⟩]
  congr 1
  rw [Bool.eq_iff_iff, beq_iff_eq, beq_iff_eq, List.map_map, List.map_map]
  constructor
  · intro h
    have key : ∀ l m : List (BitVec w), l.map ((fun p : IntKind × Int => p.2) ∘ fun x : BitVec w => (k, (x.toNat : Int))) = m.map ((fun p : IntKind × Int => p.2) ∘ fun x : BitVec w => (k, (x.toNat : Int))) → l = m := by
      intro l
      induction l with
      | nil => intro m hm; cases m with | nil => rfl | cons => cases hm
      | cons x l ih =>
        intro m hm
        cases m with
        | nil => cases hm
        | cons y m =>
          simp only [List.map_cons, List.cons.injEq, Function.comp] at hm
          rw [BitVec.eq_of_toNat_eq (Int.ofNat_inj.1 hm.1), ih m hm.2]
    exact key l m h
  · rintro rfl; rfl
end

section
variable {n m z : Nat} {xs : List AV} {i : Id}
theorem fullNil_own : fullNil (.sl n xs (.own i z)) m = false := rfl
theorem fullNil_bor : fullNil (.sl n xs .bor) m = false := rfl
theorem fullNil_nil : fullNil (.raw (.slice none 0 0)) m = false := rfl
theorem fullNil_full0 : fullNil (.sl n xs .full) 0 = true := rfl
theorem fullNil_full (h : m ≠ 0) : fullNil (.sl n xs .full) m = false := by cases m <;> first | rfl | exact absurd rfl h
theorem fullNil_view {b : Bx} {o c : Nat} : fullNil (.view b o n c z) m = false := rfl
end

/-- nil is a slice of nothing -/
def norm : AV → AV
  | .raw (.slice none 0 0) => .sl 0 [] .bor
  | v => v
theorem norm_nil : norm (.raw (.slice none 0 0)) = .sl 0 [] .bor := rfl
theorem norm_sl {n : Nat} {xs : List AV} {fl : Fl} : norm (.sl n xs fl) = .sl n xs fl := rfl
theorem norm_agg {xs : List AV} : norm (.agg xs) = .agg xs := rfl
theorem norm_int {k : IntKind} {n : Int} : norm (.raw (.int k n)) = .raw (.int k n) := rfl
theorem norm_bool {b : Bool} : norm (.raw (.bool b)) = .raw (.bool b) := rfl
theorem norm_str {s : ByteArray} : norm (.raw (.string s)) = .raw (.string s) := rfl

theorem norm_rel {μ : Bx → Option Nat} {G : Nat → Nat → Prop} {w : World} {v : AV} {u : Value} (h : RV μ G w v u) : RV μ G w (norm v) u := by
  unfold norm
  split
  · simp only [RV] at h ⊢; subst h; exact .inl (by simp)
  · exact h
theorem norm_rels {μ : Bx → Option Nat} {G : Nat → Nat → Prop} {w : World} : ∀ {xs : List AV} {us : List Value}, RVs μ G w xs us → RVs μ G w (xs.map norm) us
  | [], us, h => by simpa only [RVs, List.map_nil] using h
  | x :: xs, us, h => by
    simp only [RVs, List.map_cons] at h ⊢
    obtain ⟨u, us', rfl, h1, h2⟩ := h
    exact ⟨u, us', rfl, norm_rel h1, norm_rels h2⟩

theorem SoundV.norm {P : Program} {glob : Nat → Option (List AV)} {f : FuncId} {pf : List AV → Option AV} (h : SoundV P glob f pf) : SoundV P glob f (fun args => pf (args.map norm)) :=
  ⟨h.1, fun args r hr G w vals hp => h.2 (args.map Abs.norm) r hr G w vals ⟨hp.cell, hp.glob, norm_rels hp.args⟩⟩

/-- a slice of numbers -/
def row? (k : IntKind) (w : Nat) : AV → Option (List (BitVec w))
  | .sl n xs _ => (deNums k w xs).bind fun m => if n = m.length then some m else none
  | _ => none
theorem row?_of {k : IntKind} {w : Nat} {v : AV} {m : List (BitVec w)} (h : row? k w v = some m) : ∃ fl, v = .sl m.length (nums k m) fl := by
  unfold row? at h
  split at h
  · simp only [Option.bind_eq_some_iff] at h
    obtain ⟨m', h1, h2⟩ := h
    split at h2
    · rename_i hn
      cases h2
      rw [deNums_of h1, hn]
      exact ⟨_, rfl⟩
    · cases h2
  · cases h
theorem row?_at {k : IntKind} {w n : Nat} {m : List (BitVec w)} {fl : Fl} (h : n = m.length) : row? k w (.sl n (nums k m) fl) = some m := by
  simp [row?, deNums_nums, h]
/-- an array of numbers -/
def agg? (k : IntKind) (w l : Nat) : AV → Option (List (BitVec w))
  | .agg xs => (deNums k w xs).bind fun m => if m.length = l then some m else none
  | _ => none
theorem agg?_of {k : IntKind} {w l : Nat} {v : AV} {m : List (BitVec w)} (h : agg? k w l v = some m) : v = .agg (nums k m) ∧ m.length = l := by
  unfold agg? at h
  split at h
  · simp only [Option.bind_eq_some_iff] at h
    obtain ⟨m', h1, h2⟩ := h
    split at h2
    · rename_i hn
      cases h2
      rw [deNums_of h1]
      exact ⟨rfl, hn⟩
    · cases h2
  · cases h
theorem agg?_at {k : IntKind} {w l : Nat} {m : List (BitVec w)} (h : m.length = l) : agg? k w l (.agg (nums k m)) = some m := by
  simp [agg?, deNums_nums, h]

def num? (k : IntKind) (w : Nat) : AV → Option (BitVec w)
  | .raw (.int k' n) => if k' = k ∧ 0 ≤ n ∧ n.toNat < 2 ^ w then some (BitVec.ofNat w n.toNat) else none
  | _ => none
def int? : AV → Option Int
  | .raw (.int .i64 n) => some n
  | _ => none
def bool? : AV → Option Bool
  | .raw (.bool b) => some b
  | _ => none
theorem num?_of {k : IntKind} {w : Nat} {v : AV} {x : BitVec w} (h : num? k w v = some x) : v = .raw (.int k (x.toNat : Int)) := by
  unfold num? at h
  split at h
  · split at h
    · rename_i hc
      cases h
      rw [BitVec.toNat_ofNat, Nat.mod_eq_of_lt hc.2.2, Int.toNat_of_nonneg hc.2.1, hc.1]
    · cases h
  · cases h
theorem num?_num (k : IntKind) {w : Nat} (x : BitVec w) : num? k w (.raw (.int k (x.toNat : Int))) = some x := by
  simp [num?, x.isLt]
theorem int?_of {v : AV} {n : Int} (h : int? v = some n) : v = .raw (.int .i64 n) := by
  unfold int? at h
  split at h
  · cases h; rfl
  · cases h
theorem int?_at {n : Int} : int? (.raw (.int .i64 n)) = some n := rfl
theorem bool?_of {v : AV} {b : Bool} (h : bool? v = some b) : v = .raw (.bool b) := by
  unfold bool? at h
  split at h
  · cases h; rfl
  · cases h
theorem bool?_at {b : Bool} : bool? (.raw (.bool b)) = some b := rfl

/-- a slice of one's own that may be appended to, in a round that makes its slices at slot d -/
def FreeL (l : Nat) (us : Id → Bool) (a d : Nat) (i : Id) : Prop := us i = false ∧ (∀ g, a < g → us ⟨l, d, 0, g⟩ = false) ∧ (i.lvl = l → i.slot = d → i.gen ≤ a)
theorem FreeL.now {l : Nat} {us : Id → Bool} {a d : Nat} {i : Id} (h : FreeL l us a d i) : us i = false := h.1
theorem FreeL.go {l : Nat} {us : Id → Bool} {a d : Nat} {i : Id} (h : FreeL l us a d i) : FreeL l (updI us i) (a + 1) d ⟨l, d, 0, a + 1⟩ := by
  obtain ⟨h1, h2, h3⟩ := h
  have hne : ∀ g, a < g → (⟨l, d, 0, g⟩ : Id) ≠ i := by
    rintro g hg rfl
    have := h3 rfl rfl
    dsimp only at this
    omega
  refine ⟨?_, fun g hg => ?_, fun _ _ => Nat.le_refl _⟩
  · rw [updI_at, if_neg (hne _ (by omega))]; exact h2 _ (by omega)
  · rw [updI_at, if_neg (hne _ (by omega))]; exact h2 _ (by omega)
theorem FreeL.other {l : Nat} {us : Id → Bool} {a d b e : Nat} {i : Id} (h : FreeL l us a d i) (k : FreeL l us b e i) (hne : d ≠ e) : FreeL l (updI us i) b e ⟨l, d, 0, a + 1⟩ := by
  refine ⟨h.go.1, fun g hg => ?_, fun _ h => absurd h hne⟩
  rw [updI_at, if_neg]
  · exact k.2.1 g hg
  · rintro rfl
    have := k.2.2 rfl rfl
    dsimp only at this
    omega
abbrev Free (us : Id → Bool) (a d : Nat) (i : Id) : Prop := FreeL 0 us a d i
theorem Free.now {us : Id → Bool} {a d : Nat} {i : Id} (h : Free us a d i) : us i = false := FreeL.now h
theorem Free.go {us : Id → Bool} {a d : Nat} {i : Id} (h : Free us a d i) : Free (updI us i) (a + 1) d ⟨0, d, 0, a + 1⟩ := FreeL.go h
theorem Free.other {us : Id → Bool} {a d b e : Nat} {i : Id} (h : Free us a d i) (k : Free us b e i) (hne : d ≠ e) : Free (updI us i) b e ⟨0, d, 0, a + 1⟩ := FreeL.other h k hne
end Go.Abs

/- Rows of rows: arguments that hold slices of bytes. -/
namespace Go.Abs
set_option linter.unusedSimpArgs false
set_option linter.unusedVariables false
open Go

def norm2 : AV → AV
  | .sl n xs fl => .sl n (xs.map norm) fl
  | v => norm v
theorem norm2_sl {n : Nat} {xs : List AV} {fl : Fl} : norm2 (.sl n xs fl) = .sl n (xs.map norm) fl := rfl
theorem norm2_rel {μ : Bx → Option Nat} {G : Nat → Nat → Prop} {w : World} {v : AV} {u : Value} (h : RV μ G w v u) : RV μ G w (norm2 v) u := by
  unfold norm2
  split
  · rename_i n xs fl
    simp only [RV] at h ⊢
    rcases h with ⟨h1, h2, h3⟩ | ⟨k, o, c, us, h1, h2, h3, h4⟩
    · exact .inl ⟨h1, h2, by rw [h3]; rfl⟩
    · exact .inr ⟨k, o, c, us, h1, h2, norm_rels h3, h4⟩
  · exact norm_rel h
theorem norm2_rels {μ : Bx → Option Nat} {G : Nat → Nat → Prop} {w : World} : ∀ {xs : List AV} {us : List Value}, RVs μ G w xs us → RVs μ G w (xs.map norm2) us
  | [], us, h => by simpa only [RVs, List.map_nil] using h
  | x :: xs, us, h => by
    simp only [RVs, List.map_cons] at h ⊢
    obtain ⟨u, us', rfl, h1, h2⟩ := h
    exact ⟨u, us', rfl, norm2_rel h1, norm2_rels h2⟩
theorem SoundV.norm2 {P : Program} {glob : Nat → Option (List AV)} {f : FuncId} {pf : List AV → Option AV} (h : SoundV P glob f pf) : SoundV P glob f (fun args => pf (args.map norm2)) :=
  ⟨h.1, fun args r hr G w vals hp => h.2 (args.map Abs.norm2) r hr G w vals ⟨hp.cell, hp.glob, norm2_rels hp.args⟩⟩

/-- some slices of bytes -/
def rowsA (l : List (List (BitVec 8))) : List AV := l.map fun a => .sl a.length (nums .u8 a) .bor
theorem rowsA_len (l : List (List (BitVec 8))) : (rowsA l).length = l.length := by simp [rowsA]
theorem rowsA_get (l : List (List (BitVec 8))) (i : Nat) (h : i < l.length) : ((rowsA l).drop i)[0]? = some (.sl (l.getD i []).length (nums .u8 (l.getD i [])) .bor) := by
  simp [rowsA, h]
def rowB? : AV → Option (List (BitVec 8))
  | .sl n xs .bor => (deNums .u8 8 xs).bind fun m => if n = m.length then some m else none
  | _ => none
theorem rowB?_of {v : AV} {m : List (BitVec 8)} (h : rowB? v = some m) : v = .sl m.length (nums .u8 m) .bor := by
  unfold rowB? at h
  split at h
  · simp only [Option.bind_eq_some_iff] at h
    obtain ⟨m', h1, h2⟩ := h
    split at h2
    · rename_i hn
      cases h2
      rw [deNums_of h1, hn]
    · cases h2
  · cases h
theorem rowB?_at {n : Nat} {m : List (BitVec 8)} (h : n = m.length) : rowB? (.sl n (nums .u8 m) .bor) = some m := by
  simp [rowB?, deNums_nums, h]
def rowsB? : List AV → Option (List (List (BitVec 8)))
  | [] => some []
  | v :: vs => (rowB? v).bind fun m => (rowsB? vs).map (m :: ·)
theorem rowsB?_of : ∀ {vs : List AV} {l : List (List (BitVec 8))}, rowsB? vs = some l → vs = rowsA l
  | [], l, h => by simp [rowsB?] at h; subst h; rfl
  | v :: vs, l, h => by
    simp only [rowsB?, Option.bind_eq_some_iff, Option.map_eq_some_iff] at h
    obtain ⟨m, h1, l', h2, rfl⟩ := h
    rw [rowB?_of h1, rowsB?_of h2]
    rfl
def rows? : AV → Option (List (List (BitVec 8)))
  | .sl n xs _ => (rowsB? xs).bind fun l => if n = l.length then some l else none
  | _ => none
theorem rows?_of {v : AV} {l : List (List (BitVec 8))} (h : rows? v = some l) : ∃ fl, v = .sl l.length (rowsA l) fl := by
  unfold rows? at h
  split at h
  · simp only [Option.bind_eq_some_iff] at h
    obtain ⟨m', h1, h2⟩ := h
    split at h2
    · rename_i hn
      cases h2
      rw [rowsB?_of h1, hn]
      exact ⟨_, rfl⟩
    · cases h2
  · cases h

/-- the first k of them, one behind the other -/
def catF (l : List (List (BitVec 8))) : Nat → List (BitVec 8)
  | 0 => []
  | k + 1 => catF l k ++ l.getD k []
theorem catF_mono (l : List (List (BitVec 8))) {i j : Nat} (h : i ≤ j) : (catF l i).length ≤ (catF l j).length := by
  induction j with
  | zero => have : i = 0 := by omega
            subst this; exact Nat.le_refl _
  | succ j ih =>
    by_cases e : i = j + 1
    · subst e; exact Nat.le_refl _
    · have := ih (by omega)
      simp only [catF, List.length_append]
      omega
theorem i64_eq {k : IntKind} {a b : Int} (h : a = b) : AV.raw (.int k a) = .raw (.int k b) := by rw [h]
theorem row_eq {k : IntKind} {w l l' : Nat} {m m' : List (BitVec w)} {fl : Fl} (h1 : l = l') (h2 : m = m') : AV.sl l (nums k m) fl = .sl l' (nums k m') fl := by rw [h1, h2]
theorem FreeL.keep {l : Nat} {us : Id → Bool} {a d : Nat} {i j : Id} (h : FreeL l us a d i) (hs : j.slot ≠ d) (hne : i ≠ j) : FreeL l (updI us j) a d i := by
  refine ⟨?_, fun g hg => ?_, h.2.2⟩
  · rw [updI_at, if_neg hne]; exact h.1
  · rw [updI_at, if_neg (fun e => hs (by rw [← e]))]; exact h.2.1 g hg
theorem Free.keep {us : Id → Bool} {a d : Nat} {i j : Id} (h : Free us a d i) (hs : j.slot ≠ d) (hne : i ≠ j) : Free (updI us j) a d i := FreeL.keep h hs hne
theorem slot_ne {i j : Id} (h : i.slot ≠ j.slot) : i ≠ j := fun e => h (by rw [e])
theorem wrap_ofInt (n : Int) : IntKind.i64.wrap n = (BitVec.ofInt 64 n).toInt := by
  rw [BitVec.toInt_ofInt, IntKind.wrap_i64]
  unfold Int.bmod
  simp only [Nat.reducePow, Int.cast_ofNat_Int]
  split <;> omega
theorem or_i64 (a b : Int) : intV .or .i64 a b = some (.raw (.int .i64 ((BitVec.ofInt 64 a ||| BitVec.ofInt 64 b).toInt))) := by
  have e : IntKind.i64.wrap ((BitVec.ofInt IntKind.i64.bits a ||| BitVec.ofInt IntKind.i64.bits b).toNat : Int) = (BitVec.ofInt 64 a ||| BitVec.ofInt 64 b).toInt := by
    rw [wrap_ofInt]
    congr 1
    exact bv_back _
  simp only [intV, e]
theorem bv64_back (x : BitVec 64) : BitVec.ofInt 64 x.toInt = x := by simp
theorem shl_i64 (x : BitVec 64) (y : Int) (h : 0 ≤ y) (hy : y < 64) : shiftV .shl .i64 x.toInt y = some (.raw (.int .i64 ((x <<< y.toNat).toInt))) := by
  have hb : IntKind.i64.bits = 64 := rfl
  have hm : min y.toNat IntKind.i64.bits = y.toNat := by rw [hb]; omega
  have e : IntKind.i64.wrap (x.toInt * 2 ^ y.toNat) = (x <<< y.toNat).toInt := by
    rw [wrap_ofInt, BitVec.ofInt_mul, bv64_back, BitVec.shiftLeft_eq_mul_twoPow]
    congr 2
    apply BitVec.eq_of_toNat_eq
    rw [BitVec.toNat_twoPow, BitVec.toNat_ofInt]
    have : ((2 : Int) ^ y.toNat) = ((2 ^ y.toNat : Nat) : Int) := by simp
    rw [this]
    omega
  simp only [shiftV, hm, e]
  rw [if_neg (by omega)]

/- The rules of a walk, in bundles. -/
set_option linter.defProp false
def ev0 := And.intro @awp_skip (And.intro @awp_label (And.intro @awp_exit (And.intro @awp_ret (And.intro @awp_seq (And.intro @awp_region (And.intro @awp_cond (And.intro @awp_block (And.intro @awp_scope (And.intro @awp_loop (And.intro @thenQ_nrm (And.intro @thenQ_ret (And.intro @thenQ_exit (And.intro @blockQ_nrm (And.intro @blockQ_ret (And.intro @blockQ_exit (And.intro @bindQ_some (And.intro @condQ_true (And.intro @condQ_false (And.intro @condQ_any (And.intro @regsO_nil (And.intro @regsO_cons (And.intro @stepO_go (And.intro @ev_tmp (And.intro @ev_const (And.intro @ev_global (And.intro @ev_func (And.intro @if_true.{1} (And.intro @if_false.{1} (And.intro @if_pos.{1} (And.intro @Bool.false_eq_true (And.intro @upd_at (And.intro @updB_at (And.intro @updI_at (And.intro @Bx.own.injEq (And.intro @Id.mk.injEq (And.intro @List.getElem?_cons_zero.{0} (And.intro @List.getElem?_cons_succ.{0} (And.intro @List.getElem?_nil.{0} (And.intro @List.toList_toArray.{0} (And.intro @List.map_cons.{0,0} (And.intro @List.map_nil.{0,0} (And.intro @and_self (And.intro @and_true (And.intro @true_and (And.intro @false_and (And.intro @and_false (And.intro @or_false (And.intro @or_true (And.intro @false_or (And.intro @true_or (And.intro @not_true_eq_false (And.intro @not_false_eq_true (And.intro @Nat.zero_add (And.intro @Nat.add_zero (And.intro @Nat.mul_one (And.intro @Nat.one_mul (And.intro @Nat.zero_mul (And.intro @Nat.sub_zero (And.intro @Nat.one_ne_zero (And.intro @Nat.sub_self (And.intro @Nat.le_refl (And.intro @Nat.zero_ne_one (And.intro @beq_self_eq_true.{0} (And.intro @List.nodup_nil.{0} (And.intro @List.nodup_cons.{0} (And.intro @List.not_mem_nil.{0} (And.intro @List.nil_append.{0} (And.intro @List.cons_append.{0} (@Option.isSome_some.{0})))))))))))))))))))))))))))))))))))))))))))))))))))))))))))))))))))))
def ev1 := And.intro @Option.isSome_none.{0} (And.intro @Option.some.injEq.{0} (And.intro @List.append_nil.{0} (And.intro @Bool.and_self (And.intro @Bool.and_true (And.intro @Bool.true_and (And.intro @bb_t (And.intro @bb_f (And.intro @Bool.false_or (And.intro @Bool.or_false (And.intro @bin_int (And.intro @bin_bool (And.intro @bin_str (And.intro @bin_nil (And.intro @bin_sl (And.intro @bin_view (And.intro @bin_ptr (And.intro @bin_iptr (And.intro @bin_np (And.intro @unV_not (And.intro @unV_any (And.intro @unV_neg (And.intro @fillV_go (And.intro @List.all_cons.{0} (And.intro @List.all_nil.{0} (And.intro @List.length_cons.{0} (And.intro @List.length_nil.{0} (And.intro @add_u8 (And.intro @sub_u8 (And.intro @mul_u8 (And.intro @and_u8 (And.intro @or_u8 (And.intro @xor_u8 (And.intro @add_u32 (And.intro @sub_u32 (And.intro @mul_u32 (And.intro @and_u32 (And.intro @or_u32 (And.intro @xor_u32 (And.intro @add_u64 (And.intro @sub_u64 (And.intro @mul_u64 (And.intro @and_u64 (And.intro @or_u64 (And.intro @xor_u64 (And.intro @shl_u8 (And.intro @shl_u32 (And.intro @shl_u64 (And.intro @shr_u8 (And.intro @shr_u32 (And.intro @shr_u64 (And.intro @not_u32 (And.intro @rem_i64 (And.intro @quo_i64 (And.intro @shr_i64 (And.intro @rem_u64 (And.intro @quo_u64 (And.intro @add_i64 (And.intro @sub_i64 (And.intro @mul_i64 (And.intro @cmp_i64_lss (And.intro @cmp_i64_leq (And.intro @cmp_i64_gtr (And.intro @cmp_i64_geq (And.intro @cmp_eql (And.intro @cmp_neq (And.intro @wrap_u8 (And.intro @wrap_u16 (And.intro @wrap_u32 (@wrap_u64)))))))))))))))))))))))))))))))))))))))))))))))))))))))))))))))))))))
def ev2 := And.intro @i64_is (And.intro @bv_back (And.intro @bvn_back (And.intro @bv_nat (And.intro @Int.toNat_natCast (And.intro @toNat_add' (And.intro @toNat_sub' (And.intro @toNat_mul' (And.intro @toNat_mod' (And.intro @toNat_div' (And.intro @Int.natCast_inj (And.intro @Int.toNat_zero (And.intro @Int.toNat_one (And.intro @decide_true (And.intro @decide_false (And.intro @decide_eq_true_eq (And.intro @Bool.not_true (And.intro @Bool.not_false (And.intro @nums_len (And.intro @nums_get (And.intro @nums_get0 (And.intro @nums_take (And.intro @nums_drop (And.intro @nums_app (And.intro @nums_nil_app (And.intro @nums_snoc (And.intro @nums_set (And.intro @splice_all (And.intro @getD_drop (And.intro @nums_one (And.intro @nums_flat (And.intro @nums_pure (And.intro @nums_snap (And.intro @nums_noview (And.intro @nums_bytes (And.intro @rep_u8 (And.intro @rep_u32 (And.intro @rep_u64 (And.intro @zeros_u8 (And.intro @zeros_u32 (And.intro @zeros_u64 (And.intro @nums_nil (And.intro @List.map_replicate.{0,0} (And.intro @List.drop_replicate.{0} (And.intro @List.replicate_zero.{0} (And.intro @List.drop_zero.{0} (And.intro @List.take_zero.{0} (And.intro @List.take_of_length_le.{0} (And.intro @List.take_succ_cons.{0} (And.intro @List.drop_succ_cons.{0} (And.intro @List.length_append.{0} (And.intro @List.length_take.{0} (And.intro @List.length_drop.{0} (And.intro @List.length_replicate.{0} (And.intro @List.length_set.{0} (And.intro @List.length_map.{0,0} (And.intro @norm_nil (And.intro @norm_sl (And.intro @norm_agg (And.intro @norm_int (And.intro @norm_bool (@norm_str)))))))))))))))))))))))))))))))))))))))))))))))))))))))))))))
def ev3 := And.intro @or_i64 (And.intro @shl_i64 (And.intro @bv64_back (And.intro @str_add (And.intro @str_size (And.intro @norm2_sl @rowsA_len)))))
end Go.Abs
