/- The product of two blocks, as it is and then what stands too high taken away, is the one that is made bit by bit: plain law. -/
import Derived.Test.YtddeffdgldjdjaaDoorUe
namespace Go.Proofs.YtddeffdgldjdjaaDoor
set_option linter.unusedSimpArgs false
set_option linter.unusedVariables false
set_option linter.defProp false
open Go Go.Abs
set_option maxHeartbeats 4000000
/-! ### rows of bits -/
def bS (i : Nat) (t : Nat → Bool) : Nat → Bool := fun j => t j ^^ (t i && (j == i - 128 || j == i - 127 || j == i - 126 || j == i - 121))
def bX (t u : Nat → Bool) : Nat → Bool := fun j => t j ^^ u j
def bA (c : Bool) (t : Nat → Bool) : Nat → Bool := fun j => c && t j
def bH (t : Nat → Bool) : Nat → Bool := fun j => decide (1 ≤ j) && t (j - 1)
def bHs (k : Nat) (t : Nat → Bool) : Nat → Bool := fun j => decide (k ≤ j) && t (j - k)
def bM (t : Nat → Bool) : Nat → Bool := fun j => (decide (1 ≤ j) && t (j - 1)) ^^ (t 127 && (j == 0 || j == 1 || j == 2 || j == 7))
/-- from e on, downwards, d times -/
def bR : Nat → Nat → (Nat → Bool) → Nat → Bool
  | _, 0, t => t
  | e, d + 1, t => bR (e - 1) d (bS e t)
theorem bS_X (i : Nat) (t u : Nat → Bool) : bS i (bX t u) = bX (bS i t) (bS i u) := by
  funext j
  simp only [bS, bX]
  generalize (j == i - 128 || j == i - 127 || j == i - 126 || j == i - 121) = c
  cases t j <;> cases u j <;> cases t i <;> cases u i <;> cases c <;> rfl
theorem bS_A (i : Nat) (c : Bool) (t : Nat → Bool) : bS i (bA c t) = bA c (bS i t) := by
  funext j
  simp only [bS, bA]
  cases c <;> simp
theorem bR_X (d : Nat) : ∀ (e : Nat) (t u : Nat → Bool), bR e d (bX t u) = bX (bR e d t) (bR e d u) := by
  induction d with
  | zero => intros; rfl
  | succ d ih => intro e t u; simp only [bR, bS_X, ih]
theorem bR_A (d : Nat) : ∀ (e : Nat) (c : Bool) (t : Nat → Bool), bR e d (bA c t) = bA c (bR e d t) := by
  induction d with
  | zero => intros; rfl
  | succ d ih => intro e c t; simp only [bR, bS_A, ih]
theorem bR_last (d : Nat) : ∀ (e : Nat) (t : Nat → Bool), bR e (d + 1) t = bS (e - d) (bR e d t) := by
  induction d with
  | zero => intros; rfl
  | succ d ih =>
    intro e t
    rw [bR, ih, bR, show e - 1 - d = e - (d + 1) by omega]
theorem bS_H {i : Nat} (h : 128 ≤ i) (t : Nat → Bool) : bS (i + 1) (bH t) = bH (bS i t) := by
  funext j
  simp only [bS, bH]
  by_cases hj : 1 ≤ j
  · have e1 : (j == i + 1 - 128) = (j - 1 == i - 128) := by rw [Bool.eq_iff_iff, beq_iff_eq, beq_iff_eq]; omega
    have e2 : (j == i + 1 - 127) = (j - 1 == i - 127) := by rw [Bool.eq_iff_iff, beq_iff_eq, beq_iff_eq]; omega
    have e3 : (j == i + 1 - 126) = (j - 1 == i - 126) := by rw [Bool.eq_iff_iff, beq_iff_eq, beq_iff_eq]; omega
    have e4 : (j == i + 1 - 121) = (j - 1 == i - 121) := by rw [Bool.eq_iff_iff, beq_iff_eq, beq_iff_eq]; omega
    rw [e1, e2, e3, e4, decide_eq_true hj, decide_eq_true (show 1 ≤ i + 1 by omega), show i + 1 - 1 = i by omega]
    simp only [Bool.true_and]
  · have e1 : (j == i + 1 - 128) = false := beq_eq_false_iff_ne.2 (by omega)
    have e2 : (j == i + 1 - 127) = false := beq_eq_false_iff_ne.2 (by omega)
    have e3 : (j == i + 1 - 126) = false := beq_eq_false_iff_ne.2 (by omega)
    have e4 : (j == i + 1 - 121) = false := beq_eq_false_iff_ne.2 (by omega)
    rw [e1, e2, e3, e4, decide_eq_false hj]
    simp
theorem bR_H (d : Nat) : ∀ (e : Nat) (t : Nat → Bool), 127 + d ≤ e → bR (e + 1) d (bH t) = bH (bR e d t) := by
  induction d with
  | zero => intros; rfl
  | succ d ih =>
    intro e t h
    rw [bR, bR, bS_H (by omega), show e + 1 - 1 = (e - 1) + 1 by omega, ih (e - 1) _ (by omega)]
theorem bS_none {i : Nat} {t : Nat → Bool} (h : t i = false) : bS i t = t := by
  funext j
  simp only [bS, h, Bool.false_and, Bool.xor_false]
/-- what is left below 128 -/
def bL (t : Nat → Bool) : Nat → Bool := bR 254 127 t
theorem bL_H {t : Nat → Bool} (h : t 254 = false) : bL (bH t) = bS 128 (bH (bL t)) := by
  have e : bL t = bR 253 126 t := by
    show bR 254 (126 + 1) t = _
    rw [bR, bS_none h]
  show bR 254 (126 + 1) (bH t) = _
  rw [bR_last, e, show 254 = 253 + 1 by rfl, bR_H 126 253 t (by omega)]
theorem bM_of {t : Nat → Bool} {j : Nat} (hj : j < 128) : bS 128 (bH t) j = bM t j := by
  simp only [bS, bH, bM]
  rfl
theorem bM_low {t u : Nat → Bool} (h : ∀ j, j < 128 → t j = u j) {j : Nat} (hj : j < 128) : bM t j = bM u j := by
  simp only [bM]
  rw [h 127 (by omega)]
  by_cases h1 : 1 ≤ j
  · rw [h (j - 1) (by omega)]
  · rw [decide_eq_false h1, Bool.false_and, Bool.false_and]
theorem bHs_succ (k : Nat) (t : Nat → Bool) : bHs (k + 1) t = bH (bHs k t) := by
  funext j
  simp only [bHs, bH]
  by_cases h1 : 1 ≤ j
  · by_cases h2 : k + 1 ≤ j
    · rw [decide_eq_true h2, decide_eq_true h1, decide_eq_true (show k ≤ j - 1 by omega), show j - (k + 1) = j - 1 - k by omega]; rfl
    · rw [decide_eq_false h2, decide_eq_false (show ¬ k ≤ j - 1 by omega)]; simp
  · rw [decide_eq_false h1, decide_eq_false (show ¬ k + 1 ≤ j by omega)]; simp
def bMk (t : Nat → Bool) : Nat → Nat → Bool
  | 0 => t
  | k + 1 => bM (bMk t k)
theorem bR_low (d : Nat) : ∀ (e : Nat) (t : Nat → Bool), 127 + d ≤ e → (∀ j, 128 ≤ j → t j = false) → bR e d t = t := by
  induction d with
  | zero => intros; rfl
  | succ d ih =>
    intro e t h hz
    rw [bR, bS_none (hz e (by omega)), ih (e - 1) t (by omega) hz]
theorem bL_Hs {t : Nat → Bool} (ht : ∀ j, 128 ≤ j → t j = false) : ∀ k, k ≤ 127 → ∀ j, j < 128 → bL (bHs k t) j = bMk t k j := by
  intro k
  induction k with
  | zero =>
    intro _ j hj
    have e : bHs 0 t = t := by funext j; simp [bHs]
    rw [e, show bL t = t from bR_low 127 254 t (by omega) ht]
    rfl
  | succ k ih =>
    intro hk j hj
    have h254 : bHs k t 254 = false := by
      simp only [bHs]
      rw [ht (254 - k) (by omega), Bool.and_false]
    rw [bHs_succ, bL_H h254, bM_of hj]
    exact bM_low (ih (by omega)) hj
/-- the product as it is -/
def bP (a b : Nat → Bool) : Nat → Nat → Bool
  | 0 => fun _ => false
  | k + 1 => bX (bP a b k) (bA (a k) (bHs k b))
/-- the product, each time -/
def bZ (a b : Nat → Bool) : Nat → Nat → Bool
  | 0 => fun _ => false
  | k + 1 => bX (bZ a b k) (bA (a k) (bMk b k))
theorem bL_P {a b : Nat → Bool} (hb : ∀ j, 128 ≤ j → b j = false) : ∀ k, k ≤ 128 → ∀ j, j < 128 → bL (bP a b k) j = bZ a b k j := by
  intro k
  induction k with
  | zero =>
    intro _ j _
    have : bL (fun _ => false) = fun _ => false := bR_low 127 254 _ (by omega) (fun _ _ => rfl)
    rw [bP, this]; rfl
  | succ k ih =>
    intro hk j hj
    have : bL (bP a b (k + 1)) = bX (bL (bP a b k)) (bA (a k) (bL (bHs k b))) := by
      simp only [bP, bL, bR_X, bR_A]
    rw [this]
    simp only [bX, bA, bZ]
    rw [ih (by omega) j hj, bL_Hs hb k (by omega) j hj]
/-! ### two words of 64 bits -/
def bt (h l : BitVec 64) (j : Nat) : Bool := if j < 64 then h.getLsbD (63 - j) else if j < 128 then l.getLsbD (127 - j) else false
theorem bt_high (h l : BitVec 64) : ∀ j, 128 ≤ j → bt h l j = false := fun j hj => by
  rw [bt, if_neg (by omega), if_neg (by omega)]
theorem mask_get (x : BitVec 64) (p q : Nat) (hq : q < 64) : (BitVec.ofInt 64 (0 - ((x >>> p &&& 1#64).toNat : Int))).getLsbD q = x.getLsbD p := by
  have h1 : (x >>> p &&& 1#64) = if x.getLsbD p then 1#64 else 0#64 := by
    apply BitVec.eq_of_getLsbD_eq
    intro i hi
    rw [BitVec.getLsbD_and, BitVec.getLsbD_ushiftRight, BitVec.getLsbD_one]
    by_cases h0 : i = 0
    · subst h0
      cases hx : x.getLsbD p <;> simp [hx]
    · cases hx : x.getLsbD p <;> simp [h0]
  rw [h1]
  cases hx : x.getLsbD p
  · simp
  · have e : BitVec.ofInt 64 (0 - (((if true = true then 1#64 else 0#64 : BitVec 64)).toNat : Int)) = BitVec.allOnes 64 := by decide
    rw [e, BitVec.getLsbD_allOnes, decide_eq_true hq]
theorem mask_get0 (x : BitVec 64) (q : Nat) (hq : q < 64) : (BitVec.ofInt 64 (0 - ((x &&& 1#64).toNat : Int))).getLsbD q = x.getLsbD 0 := by
  have := mask_get x 0 q hq
  rwa [BitVec.ushiftRight_zero] at this
theorem e1_get : ∀ q : Fin 64, (16212958658533785600#64).getLsbD q.val = (q.val == 63 || q.val == 62 || q.val == 61 || q.val == 56) := by decide
theorem mulS_z (ah al : BitVec 64) (k : Nat) (m : MS) (hk : k < 128) : bt (mulS ah al k m).zh (mulS ah al k m).zl = bX (bt m.zh m.zl) (bA (bt ah al k) (bt m.bh m.bl)) := by
  have hw : (if 64 ≤ k then al else ah).getLsbD (63 - k % 64) = bt ah al k := by
    rw [bt]
    by_cases h : k < 64
    · rw [if_pos h, if_neg (by omega), Nat.mod_eq_of_lt h]
    · rw [if_neg h, if_pos hk, if_pos (by omega), show 63 - k % 64 = 127 - k by omega]
  funext j
  rw [mulS, mulT]
  generalize (if 64 ≤ k then al else ah) = w at hw ⊢
  simp only [bX, bA]
  rw [← hw]
  simp only [bt]
  by_cases h : j < 64
  · simp only [if_pos h]
    rw [BitVec.getLsbD_xor, BitVec.getLsbD_and, mask_get w _ _ (by omega), Bool.and_comm]
  · simp only [if_neg h]
    by_cases h2 : j < 128
    · simp only [if_pos h2]
      rw [BitVec.getLsbD_xor, BitVec.getLsbD_and, mask_get w _ _ (by omega), Bool.and_comm]
    · simp only [if_neg h2, Bool.and_false, Bool.xor_false]
theorem mulS_b (ah al : BitVec 64) (k : Nat) (m : MS) : ∀ j, j < 128 → bt (mulS ah al k m).bh (mulS ah al k m).bl j = bM (bt m.bh m.bl) j := by
  intro j hj
  rw [mulS, mulT]
  dsimp only
  simp only [bM]
  have h127 : bt m.bh m.bl 127 = m.bl.getLsbD 0 := by simp only [bt]; rw [if_neg (by omega), if_pos (by omega)]
  rw [h127]
  simp only [bt]
  by_cases h : j < 64
  · rw [if_pos h]
    have e := e1_get ⟨63 - j, by omega⟩
    simp only at e
    rw [BitVec.getLsbD_xor, BitVec.getLsbD_and, mask_get0 _ _ (by omega), BitVec.getLsbD_ushiftRight, e]
    have c0 : (63 - j == 63) = (j == 0) := by rw [Bool.eq_iff_iff, beq_iff_eq, beq_iff_eq]; omega
    have c1 : (63 - j == 62) = (j == 1) := by rw [Bool.eq_iff_iff, beq_iff_eq, beq_iff_eq]; omega
    have c2 : (63 - j == 61) = (j == 2) := by rw [Bool.eq_iff_iff, beq_iff_eq, beq_iff_eq]; omega
    have c3 : (63 - j == 56) = (j == 7) := by rw [Bool.eq_iff_iff, beq_iff_eq, beq_iff_eq]; omega
    rw [c0, c1, c2, c3, Bool.and_comm (m.bl.getLsbD 0)]
    congr 1
    by_cases h1 : 1 ≤ j
    · rw [decide_eq_true h1, if_pos (by omega), Bool.true_and, show 1 + (63 - j) = 63 - (j - 1) by omega]
    · rw [decide_eq_false h1, Bool.false_and, show 1 + (63 - j) = 64 by omega]
      exact BitVec.getLsbD_of_ge _ _ (by omega)
  · rw [if_neg h, if_pos hj]
    have c0 : (j == 0) = false := beq_eq_false_iff_ne.2 (by omega)
    have c1 : (j == 1) = false := beq_eq_false_iff_ne.2 (by omega)
    have c2 : (j == 2) = false := beq_eq_false_iff_ne.2 (by omega)
    have c3 : (j == 7) = false := beq_eq_false_iff_ne.2 (by omega)
    rw [c0, c1, c2, c3, decide_eq_true (show 1 ≤ j by omega)]
    simp only [Bool.or_false, Bool.and_false, Bool.xor_false, Bool.true_and]
    rw [BitVec.getLsbD_or, BitVec.getLsbD_ushiftRight, BitVec.getLsbD_shiftLeft]
    by_cases h64 : j = 64
    · subst h64
      have e : m.bl.getLsbD (1 + (127 - 64)) = false := BitVec.getLsbD_of_ge _ _ (by omega)
      rw [e]
      simp
    · rw [if_neg (by omega), if_pos (by omega), decide_eq_true (show 127 - j < 63 by omega)]
      simp only [Bool.not_true, Bool.and_false, Bool.false_and, Bool.or_false]
      rw [show 1 + (127 - j) = 127 - (j - 1) by omega]
theorem mulK_bits (ah al bh bl : BitVec 64) : ∀ k, k ≤ 128 → (∀ j, j < 128 → bt (mulK ah al bh bl k).bh (mulK ah al bh bl k).bl j = bMk (bt bh bl) k j) ∧ (∀ j, j < 128 → bt (mulK ah al bh bl k).zh (mulK ah al bh bl k).zl j = bZ (bt ah al) (bt bh bl) k j) := by
  intro k
  induction k with
  | zero =>
    intro _
    refine ⟨fun j _ => rfl, fun j _ => ?_⟩
    simp [mulK, bt, bZ]
  | succ k ih =>
    intro hk
    obtain ⟨h1, h2⟩ := ih (by omega)
    refine ⟨fun j hj => ?_, fun j hj => ?_⟩
    · rw [mulK, mulS_b _ _ _ _ j hj, bMk]
      exact bM_low h1 hj
    · rw [mulK, mulS_z _ _ _ _ (by omega), bZ]
      simp only [bX, bA]
      rw [h2 j hj, h1 j hj]
/-! ### blocks -/
def byteBit (b : List (BitVec 8)) (j : Nat) : Bool := (b.getD (j / 8) 0#8).getLsbD (7 - j % 8)
theorem ofByte_get (x : BitVec 8) (i : Nat) (hi : i < 64) : (BitVec.ofNat 64 x.toNat).getLsbD i = x.getLsbD i := by
  rw [BitVec.getLsbD_ofNat, decide_eq_true hi, Bool.true_and]; rfl
theorem hiK_get (b : List (BitVec 8)) : ∀ k, k ≤ 8 → ∀ j, j < 8 * k → (hiK b k).getLsbD (8 * k - 1 - j) = byteBit b j := by
  intro k
  induction k with
  | zero => intro _ j h; omega
  | succ k ih =>
    intro hk j hj
    rw [hiK, BitVec.getLsbD_or, BitVec.getLsbD_shiftLeft, ofByte_get _ _ (by omega), decide_eq_true (show 8 * (k + 1) - 1 - j < 64 by omega)]
    by_cases h : j < 8 * k
    · have e : (b.getD k 0#8).getLsbD (8 * (k + 1) - 1 - j) = false := BitVec.getLsbD_of_ge _ _ (by omega)
      rw [e, decide_eq_false (show ¬ 8 * (k + 1) - 1 - j < 8 by omega), show 8 * (k + 1) - 1 - j - 8 = 8 * k - 1 - j by omega, ih (by omega) j h]
      simp
    · rw [decide_eq_true (show 8 * (k + 1) - 1 - j < 8 by omega)]
      simp only [byteBit, Bool.not_true, Bool.and_false, Bool.false_and, Bool.false_or]
      rw [show j / 8 = k by omega, show 8 * (k + 1) - 1 - j = 7 - j % 8 by omega]
theorem loK_get (b : List (BitVec 8)) : ∀ k, k ≤ 8 → ∀ j, j < 8 * k → (loK b k).getLsbD (8 * k - 1 - j) = byteBit b (64 + j) := by
  intro k
  induction k with
  | zero => intro _ j h; omega
  | succ k ih =>
    intro hk j hj
    rw [loK, BitVec.getLsbD_or, BitVec.getLsbD_shiftLeft, ofByte_get _ _ (by omega), decide_eq_true (show 8 * (k + 1) - 1 - j < 64 by omega)]
    by_cases h : j < 8 * k
    · have e : (b.getD (k + 8) 0#8).getLsbD (8 * (k + 1) - 1 - j) = false := BitVec.getLsbD_of_ge _ _ (by omega)
      rw [e, decide_eq_false (show ¬ 8 * (k + 1) - 1 - j < 8 by omega), show 8 * (k + 1) - 1 - j - 8 = 8 * k - 1 - j by omega, ih (by omega) j h]
      simp
    · rw [decide_eq_true (show 8 * (k + 1) - 1 - j < 8 by omega)]
      simp only [byteBit, Bool.not_true, Bool.and_false, Bool.false_and, Bool.false_or]
      rw [show (64 + j) / 8 = k + 8 by omega, show 8 * (k + 1) - 1 - j = 7 - (64 + j) % 8 by omega]
theorem bt_halves (b : List (BitVec 8)) (j : Nat) (hj : j < 128) : bt (hiK b 8) (loK b 8) j = byteBit b j := by
  rw [bt]
  by_cases h : j < 64
  · rw [if_pos h, ← hiK_get b 8 (by omega) j (by omega)]
  · rw [if_neg h, if_pos hj]
    have := loK_get b 8 (by omega) (j - 64) (by omega)
    rw [show 8 * 8 - 1 - (j - 64) = 127 - j by omega, show 64 + (j - 64) = j by omega] at this
    exact this
theorem whK_get (h l : BitVec 64) : ∀ k, k ≤ 8 → ∀ i, i < 16 → (whK h l k).getD i 0#8 = if i < k then BitVec.ofNat 8 (h >>> (56 - 8 * i)).toNat else if 8 ≤ i ∧ i < k + 8 then BitVec.ofNat 8 (l >>> (56 - 8 * (i - 8))).toNat else 0#8 := by
  intro k
  induction k with
  | zero =>
    intro _ i hi
    rw [if_neg (by omega), if_neg (by omega), whK, List.getD_eq_getElem?_getD, List.getElem?_replicate]
    split <;> rfl
  | succ k ih =>
    intro hk i hi
    have hl := whK_len h l k
    rw [whK]
    by_cases e1 : i = k + 8
    · subst e1
      rw [List.getD_eq_getElem?_getD, List.getElem?_set_self (by simp; omega), if_neg (by omega), if_pos (by omega)]
      rw [show k + 8 - 8 = k by omega]; rfl
    · rw [List.getD_eq_getElem?_getD, List.getElem?_set_ne (Ne.symm e1)]
      by_cases e2 : i = k
      · subst e2
        rw [List.getElem?_set_self (by omega), if_pos (by omega)]; rfl
      · rw [List.getElem?_set_ne (Ne.symm e2), ← List.getD_eq_getElem?_getD, ih (by omega) i hi]
        by_cases h1 : i < k
        · rw [if_pos h1, if_pos (by omega)]
        · rw [if_neg h1, if_neg (show ¬ i < k + 1 by omega)]
          by_cases h2 : 8 ≤ i ∧ i < k + 8
          · rw [if_pos h2, if_pos (show 8 ≤ i ∧ i < k + 1 + 8 by omega)]
          · rw [if_neg h2, if_neg (show ¬ (8 ≤ i ∧ i < k + 1 + 8) by omega)]
theorem byte_get (x : BitVec 64) (s q : Nat) (hq : q < 8) : (BitVec.ofNat 8 (x >>> s).toNat).getLsbD q = x.getLsbD (s + q) := by
  rw [BitVec.getLsbD_ofNat, decide_eq_true hq, Bool.true_and, ← BitVec.getLsbD_ushiftRight]; rfl
theorem whK_bit (h l : BitVec 64) (j : Nat) (hj : j < 128) : byteBit (whK h l 8) j = bt h l j := by
  rw [byteBit, whK_get h l 8 (by omega) (j / 8) (by omega), bt]
  by_cases h1 : j < 64
  · rw [if_pos (by omega), if_pos h1, byte_get _ _ _ (by omega), show 56 - 8 * (j / 8) + (7 - j % 8) = 63 - j by omega]
  · rw [if_neg (by omega), if_pos (by omega), if_neg h1, if_pos hj, byte_get _ _ _ (by omega), show 56 - 8 * (j / 8 - 8) + (7 - j % 8) = 127 - j by omega]
/-- the bits of what the program makes -/
theorem mulB_bit (a b : List (BitVec 8)) (j : Nat) (hj : j < 128) : byteBit (mulB a b) j = bL (bP (byteBit a) (fun i => decide (i < 128) && byteBit b i) 128) j := by
  have hA : ∀ i, i < 128 → bt (hiK a 8) (loK a 8) i = byteBit a i := bt_halves a
  have hB : bt (hiK b 8) (loK b 8) = fun i => decide (i < 128) && byteBit b i := by
    funext i
    by_cases hi : i < 128
    · rw [bt_halves b i hi, decide_eq_true hi, Bool.true_and]
    · rw [bt_high _ _ i (by omega), decide_eq_false hi, Bool.false_and]
  have hP : ∀ k, k ≤ 128 → bP (byteBit a) (fun i => decide (i < 128) && byteBit b i) k = bP (bt (hiK a 8) (loK a 8)) (bt (hiK b 8) (loK b 8)) k := by
    intro k
    induction k with
    | zero => intro _; rfl
    | succ k ih => intro hk; rw [bP, bP, ih (by omega), hA k (by omega), hB]
  rw [hP 128 (by omega), bL_P (bt_high _ _) 128 (by omega) j hj]
  show byteBit (whK _ _ 8) j = _
  rw [whK_bit _ _ j hj]
  exact (mulK_bits _ _ _ _ 128 (by omega)).2 j hj
/-- blocks with the same bits are the same -/
theorem block_ext {a b : List (BitVec 8)} (ha : a.length = 16) (hb : b.length = 16) (h : ∀ j, j < 128 → byteBit a j = byteBit b j) : a = b := by
  apply List.ext_getElem (by omega)
  intro i h1 h2
  apply BitVec.eq_of_getLsbD_eq
  intro q hq
  have := h (8 * i + (7 - q)) (by omega)
  simp only [byteBit] at this
  rw [show (8 * i + (7 - q)) / 8 = i by omega, show 7 - (8 * i + (7 - q)) % 8 = q by omega, List.getD_eq_getElem?_getD, List.getD_eq_getElem?_getD, List.getElem?_eq_getElem h1, List.getElem?_eq_getElem h2] at this
  exact this
/-! ### the document's product -/
def bitB (a : List (BitVec 8)) (i : Nat) : BitVec 8 := (a.getD (i / 8) 0#8 >>> (7 - i % 8)) &&& 1#8
def rIn (b t : List (BitVec 8)) (i : Nat) : Nat → List (BitVec 8)
  | 0 => t
  | k + 1 => (rIn b t i k).set (i + k) ((rIn b t i k).getD (i + k) 0#8 ^^^ bitB b k)
def rT (a b : List (BitVec 8)) : Nat → List (BitVec 8)
  | 0 => List.replicate 256 0#8
  | i + 1 => if bitB a i = 0#8 then rT a b i else rIn b (rT a b i) i 128
def rS (i : Nat) (t : List (BitVec 8)) : List (BitVec 8) :=
  let t1 := t.set (i - 128) (t.getD (i - 128) 0#8 ^^^ 1#8)
  let t2 := t1.set (i - 127) (t1.getD (i - 127) 0#8 ^^^ 1#8)
  let t3 := t2.set (i - 126) (t2.getD (i - 126) 0#8 ^^^ 1#8)
  t3.set (i - 121) (t3.getD (i - 121) 0#8 ^^^ 1#8)
/-- d steps from 254 downwards -/
def rR (t : List (BitVec 8)) : Nat → List (BitVec 8)
  | 0 => t
  | d + 1 => if (rR t d).getD (254 - d) 0#8 = 1#8 then rS (254 - d) (rR t d) else rR t d
def rO (t : List (BitVec 8)) : Nat → List (BitVec 8)
  | 0 => List.replicate 16 0#8
  | i + 1 => (rO t i).set (i / 8) ((rO t i).getD (i / 8) 0#8 ||| t.getD i 0#8 <<< (7 - i % 8))
def mulR (a b : List (BitVec 8)) : List (BitVec 8) := rO (rR (rT a b 128) 127) 128
theorem rIn_len (b t : List (BitVec 8)) (i k : Nat) : (rIn b t i k).length = t.length := by
  induction k with
  | zero => rfl
  | succ k ih => simp [rIn, ih]
theorem rT_len (a b : List (BitVec 8)) (i : Nat) : (rT a b i).length = 256 := by
  induction i with
  | zero => rw [rT, List.length_replicate]
  | succ i ih =>
    rw [rT]
    split
    · exact ih
    · rw [rIn_len, ih]
theorem rS_len (i : Nat) (t : List (BitVec 8)) : (rS i t).length = t.length := by simp [rS]
theorem rR_len (t : List (BitVec 8)) (d : Nat) : (rR t d).length = t.length := by
  induction d with
  | zero => rfl
  | succ d ih =>
    rw [rR]
    split
    · rw [rS_len, ih]
    · exact ih
theorem rO_len (t : List (BitVec 8)) (i : Nat) : (rO t i).length = 16 := by
  induction i with
  | zero => rfl
  | succ i ih => simp [rO, ih]
theorem mulR_len (a b : List (BitVec 8)) : (mulR a b).length = 16 := rO_len _ _
def b8 (c : Bool) : BitVec 8 := if c then 1#8 else 0#8
theorem b8_xor (c d : Bool) : b8 c ^^^ b8 d = b8 (c ^^ d) := by cases c <;> cases d <;> rfl
theorem b8_one (c : Bool) : (b8 c = 1#8) = (c = true) := by cases c <;> simp [b8]
theorem bitB_is (a : List (BitVec 8)) (i : Nat) : bitB a i = b8 (byteBit a i) := by
  rw [bitB, byteBit, b8]
  apply BitVec.eq_of_getLsbD_eq
  intro q hq
  rw [BitVec.getLsbD_and, BitVec.getLsbD_ushiftRight, BitVec.getLsbD_one]
  by_cases h0 : q = 0
  · subst h0
    cases hx : (a.getD (i / 8) 0#8).getLsbD (7 - i % 8) <;> simp [hx]
  · cases hx : (a.getD (i / 8) 0#8).getLsbD (7 - i % 8) <;> simp [h0]
/-- a row of noughts and ones -/
def Is01 (t : List (BitVec 8)) (f : Nat → Bool) : Prop := t.length = 256 ∧ ∀ j, j < 256 → t.getD j 0#8 = b8 (f j)
theorem Is01.set {t : List (BitVec 8)} {f : Nat → Bool} (h : Is01 t f) {i : Nat} (hi : i < 256) (c : Bool) : Is01 (t.set i (t.getD i 0#8 ^^^ b8 c)) (fun j => f j ^^ (c && j == i)) := by
  refine ⟨by simp [h.1], fun j hj => ?_⟩
  by_cases e : i = j
  · subst e
    rw [List.getD_eq_getElem?_getD, List.getElem?_set_self (by rw [h.1]; exact hi), h.2 i hi, b8_xor]
    simp
  · rw [List.getD_eq_getElem?_getD, List.getElem?_set_ne e, ← List.getD_eq_getElem?_getD, h.2 j hj]
    have : (j == i) = false := beq_eq_false_iff_ne.2 (Ne.symm e)
    show _ = b8 (f j ^^ (c && j == i))
    rw [this]; simp
theorem rIn_is {b t : List (BitVec 8)} {f : Nat → Bool} (h : Is01 t f) {i : Nat} (hi : i < 128) : ∀ k, k ≤ 128 → Is01 (rIn b t i k) (fun j => f j ^^ (decide (i ≤ j) && (decide (j - i < k) && byteBit b (j - i)))) := by
  intro k
  induction k with
  | zero =>
    intro _
    have : (fun j => f j ^^ (decide (i ≤ j) && (decide (j - i < 0) && byteBit b (j - i)))) = f := by funext j; simp
    rw [this]; exact h
  | succ k ih =>
    intro hk
    have := (ih (by omega)).set (i := i + k) (by omega) (byteBit b k)
    rw [rIn, bitB_is]
    refine ⟨this.1, fun j hj => ?_⟩
    rw [this.2 j hj]
    congr 1
    dsimp only
    by_cases e : j = i + k
    · subst e
      have e1 : i + k - i = k := by omega
      rw [e1, decide_eq_true (show i ≤ i + k by omega), decide_eq_false (show ¬ k < k by omega), decide_eq_true (show k < k + 1 by omega), beq_self_eq_true]
      simp
    · have e2 : (j == i + k) = false := beq_eq_false_iff_ne.2 e
      rw [e2, Bool.and_false, Bool.xor_false]
      by_cases h1 : i ≤ j
      · have : decide (j - i < k + 1) = decide (j - i < k) := by rw [decide_eq_decide]; omega
        rw [this]
      · rw [decide_eq_false h1]; simp
theorem rT_is (a b : List (BitVec 8)) : ∀ i, i ≤ 128 → Is01 (rT a b i) (bP (byteBit a) (fun i => decide (i < 128) && byteBit b i) i) := by
  intro i
  induction i with
  | zero =>
    intro _
    refine ⟨by rw [rT, List.length_replicate], fun j hj => ?_⟩
    rw [rT, List.getD_eq_getElem?_getD, List.getElem?_replicate, if_pos hj]; rfl
  | succ i ih =>
    intro hi
    have h := ih (by omega)
    rw [rT, bitB_is]
    cases hx : byteBit a i
    · rw [if_pos (show b8 false = 0#8 from rfl)]
      refine ⟨h.1, fun j hj => ?_⟩
      rw [h.2 j hj, bP]
      simp only [bX, bA, hx, Bool.false_and, Bool.xor_false]
    · rw [if_neg (by decide)]
      have := rIn_is (b := b) h (show i < 128 by omega) 128 (by omega)
      refine ⟨this.1, fun j hj => ?_⟩
      rw [this.2 j hj, bP]
      simp only [bX, bA, bHs, hx, Bool.true_and]
theorem ne2 {j a b : Nat} (h : a ≠ b) : ((j == a) && (j == b)) = false := by
  by_cases e : j = a
  · rw [e, beq_eq_false_iff_ne.2 h, Bool.and_false]
  · rw [beq_eq_false_iff_ne.2 e, Bool.false_and]
theorem xor4e : ∀ (x p q r s : Bool), (p && q) = false → (p && r) = false → (p && s) = false → (q && r) = false → (q && s) = false → (r && s) = false → ((((x ^^ p) ^^ q) ^^ r) ^^ s) = (x ^^ (p || q || r || s)) := by decide
theorem rS_is {t : List (BitVec 8)} {f : Nat → Bool} (h : Is01 t f) {i : Nat} (h1 : 128 ≤ i) (h2 : i ≤ 254) (hf : f i = true) : Is01 (rS i t) (bS i f) := by
  have s1 := h.set (i := i - 128) (by omega) true
  have s2 := s1.set (i := i - 127) (by omega) true
  have s3 := s2.set (i := i - 126) (by omega) true
  have s4 := s3.set (i := i - 121) (by omega) true
  refine ⟨s4.1, fun j hj => ?_⟩
  refine (s4.2 j hj).trans ?_
  congr 1
  simp only [bS, hf, Bool.true_and]
  exact xor4e _ _ _ _ _ (ne2 (by omega)) (ne2 (by omega)) (ne2 (by omega)) (ne2 (by omega)) (ne2 (by omega)) (ne2 (by omega))
theorem rR_is {t : List (BitVec 8)} {f : Nat → Bool} (h : Is01 t f) : ∀ d, d ≤ 127 → Is01 (rR t d) (bR 254 d f) := by
  intro d
  induction d with
  | zero => intro _; exact h
  | succ d ih =>
    intro hd
    have g := ih (by omega)
    rw [rR, bR_last, g.2 (254 - d) (by omega)]
    cases hx : bR 254 d f (254 - d)
    · rw [if_neg (show ¬ b8 false = 1#8 by decide), bS_none hx]; exact g
    · rw [if_pos (show b8 true = 1#8 from rfl)]; exact rS_is g (by omega) (by omega) hx
theorem rO_is {t : List (BitVec 8)} {f : Nat → Bool} (h : Is01 t f) : ∀ i, i ≤ 128 → ∀ j, j < 128 → byteBit (rO t i) j = (decide (j < i) && f j) := by
  intro i
  induction i with
  | zero =>
    intro _ j hj
    rw [rO, byteBit, List.getD_eq_getElem?_getD, List.getElem?_replicate, if_pos (by omega), decide_eq_false (by omega)]
    simp
  | succ i ih =>
    intro hi j hj
    have g := ih (by omega) j hj
    have hl := rO_len t i
    rw [byteBit] at g ⊢
    rw [rO]
    by_cases e : j / 8 = i / 8
    · rw [List.getD_eq_getElem?_getD, e, List.getElem?_set_self (by omega), Option.getD_some, BitVec.getLsbD_or, ← e, g, h.2 i (by omega), BitVec.getLsbD_shiftLeft]
      by_cases e2 : j = i
      · subst e2
        rw [decide_eq_true (show 7 - j % 8 < 8 by omega), decide_eq_false (show ¬ 7 - j % 8 < 7 - j % 8 by omega), Nat.sub_self, decide_eq_false (show ¬ j < j by omega), decide_eq_true (show j < j + 1 by omega)]
        cases f j <;> rfl
      · by_cases hlt : j < i
        · have hz : ¬ 7 - j % 8 < 7 - i % 8 := by omega
          have hnz : 7 - j % 8 - (7 - i % 8) ≠ 0 := by omega
          have e3 : (b8 (f i)).getLsbD (7 - j % 8 - (7 - i % 8)) = false := by
            cases f i
            · simp [b8]
            · simp only [b8, if_true]
              rw [BitVec.getLsbD_one]; simp [hnz]
          rw [e3, decide_eq_true hlt, decide_eq_true (show j < i + 1 by omega)]
          simp
        · rw [decide_eq_true (show 7 - j % 8 < 7 - i % 8 by omega), decide_eq_false hlt, decide_eq_false (show ¬ j < i + 1 by omega)]
          simp
    · rw [List.getD_eq_getElem?_getD, List.getElem?_set_ne (Ne.symm e), ← List.getD_eq_getElem?_getD, g]
      have : decide (j < i) = decide (j < i + 1) := by rw [decide_eq_decide]; omega
      rw [this]
/-- the document's product is the program's -/
theorem mulR_is (a b : List (BitVec 8)) : mulR a b = mulB a b := by
  refine block_ext (mulR_len a b) (whK_len _ _ _) fun j hj => ?_
  rw [mulB_bit a b j hj, mulR, rO_is (rR_is (rT_is a b 128 (by omega)) 127 (by omega)) 128 (by omega) j hj, decide_eq_true hj, Bool.true_and]
  rfl
end Go.Proofs.YtddeffdgldjdjaaDoor
