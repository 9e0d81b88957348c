/- What is laid over, sealed and opened: plainly. -/
import Derived.Test.YtddeffdgldjdjaaDoorUl
namespace Go.Proofs.YtddeffdgldjdjaaDoor
set_option linter.unusedSimpArgs false
set_option linter.unusedVariables false
set_option linter.defProp false
open Go Go.Abs
theorem getD_set_if {l : List (BitVec 8)} {i j : Nat} {x : BitVec 8} (h : i < l.length) : (l.set i x).getD j 0#8 = if j = i then x else l.getD j 0#8 := by
  by_cases e : j = i
  · subst e
    rw [if_pos rfl, List.getD_eq_getElem?_getD, List.getElem?_set_self h]
    rfl
  · rw [if_neg e, getD_set8 (Ne.symm e)]
theorem ext_getD {l m : List (BitVec 8)} (h : l.length = m.length) (h2 : ∀ i, i < l.length → l.getD i 0#8 = m.getD i 0#8) : l = m := by
  refine List.ext_getElem h fun i h1 h3 => ?_
  have := h2 i h1
  rw [List.getD_eq_getElem?_getD, List.getD_eq_getElem?_getD, List.getElem?_eq_getElem h1, List.getElem?_eq_getElem h3] at this
  exact this
theorem getD_app1 {l m : List (BitVec 8)} {i : Nat} (h : i < l.length) : (l ++ m).getD i 0#8 = l.getD i 0#8 := by
  rw [List.getD_eq_getElem?_getD, List.getD_eq_getElem?_getD, List.getElem?_append_left h]
theorem getD_app2 {l m : List (BitVec 8)} {i : Nat} (h : l.length ≤ i) : (l ++ m).getD i 0#8 = m.getD (i - l.length) 0#8 := by
  rw [List.getD_eq_getElem?_getD, List.getD_eq_getElem?_getD, List.getElem?_append_right h]
theorem getD_takeD {l : List (BitVec 8)} {i n : Nat} (h : i < n) : (l.take n).getD i 0#8 = l.getD i 0#8 := by
  rw [List.getD_eq_getElem?_getD, List.getD_eq_getElem?_getD, List.getElem?_take_of_lt h]
theorem getD_dropD {l : List (BitVec 8)} {i n : Nat} : (l.drop n).getD i 0#8 = l.getD (n + i) 0#8 := by
  rw [List.getD_eq_getElem?_getD, List.getD_eq_getElem?_getD, List.getElem?_drop]
theorem pcK_get {d m : List (BitVec 8)} {i : Nat} : ∀ {j : Nat}, i + j ≤ d.length → ∀ x, (pcK d m i j).getD x 0#8 = if i ≤ x ∧ x < i + j then d.getD x 0#8 ^^^ m.getD (x - i) 0#8 else d.getD x 0#8
  | 0, h, x => by rw [pcK, if_neg (by omega)]
  | j + 1, h, x => by
    have ih := pcK_get (d := d) (m := m) (i := i) (j := j) (by omega)
    rw [pcK, getD_set_if (by rw [pcK_len]; omega)]
    by_cases e : x = i + j
    · subst e
      rw [if_pos rfl, if_pos (by omega), ih, if_neg (by omega), Nat.add_sub_cancel_left]
    · rw [if_neg e, ih]
      by_cases h1 : i ≤ x ∧ x < i + j
      · rw [if_pos h1, if_pos (by omega)]
      · rw [if_neg h1, if_neg (by omega)]
theorem num_bytes (c : BitVec 32) : BitVec.ofNat 32 (BitVec.ofNat 8 (c >>> 24).toNat).toNat <<< 24 ||| BitVec.ofNat 32 (BitVec.ofNat 8 (c >>> 16).toNat).toNat <<< 16 ||| BitVec.ofNat 32 (BitVec.ofNat 8 (c >>> 8).toNat).toNat <<< 8 ||| BitVec.ofNat 32 (BitVec.ofNat 8 c.toNat).toNat = c := by
  simp only [BitVec.ofNat_toNat]
  apply BitVec.eq_of_getLsbD_eq
  intro i hi
  simp only [BitVec.getLsbD_or, BitVec.getLsbD_shiftLeft, BitVec.getLsbD_setWidth, BitVec.getLsbD_ushiftRight]
  by_cases h1 : i < 8
  · simp [h1, show i < 16 by omega, show i < 24 by omega, hi]
  · by_cases h2 : i < 16
    · simp [h1, h2, show i < 24 by omega, hi, show i - 8 < 8 by omega, show i - 8 < 32 by omega, show 8 + (i - 8) = i by omega]
    · by_cases h3 : i < 24
      · simp [h1, h2, h3, hi, show ¬ i - 8 < 8 by omega, show i - 16 < 8 by omega, show i - 16 < 32 by omega, show 16 + (i - 16) = i by omega]
      · simp [h1, h2, h3, hi, show ¬ i - 8 < 8 by omega, show ¬ i - 16 < 8 by omega, show i - 24 < 8 by omega, show i - 24 < 32 by omega, show 24 + (i - 24) = i by omega]
theorem num4_set4 {b : List (BitVec 8)} (h : b.length = 16) (c : BitVec 32) : num4 (set4 b c) = c := by
  have e : num4 (set4 b c) = BitVec.ofNat 32 (BitVec.ofNat 8 (c >>> 24).toNat).toNat <<< 24 ||| BitVec.ofNat 32 (BitVec.ofNat 8 (c >>> 16).toNat).toNat <<< 16 ||| BitVec.ofNat 32 (BitVec.ofNat 8 (c >>> 8).toNat).toNat <<< 8 ||| BitVec.ofNat 32 (BitVec.ofNat 8 c.toNat).toNat := by
    unfold num4 set4
    simp only [getD_set_if, List.length_set, h, Nat.reduceLT, Nat.reduceEqDiff, if_true, if_false]
  rw [e, num_bytes]
theorem set4_set4 {b : List (BitVec 8)} (h : b.length = 16) (c e : BitVec 32) : set4 (set4 b c) e = set4 b e := by
  refine ext_getD (by simp [set4]) fun i hi => ?_
  unfold set4
  simp only [getD_set_if, List.length_set, h, Nat.reduceLT]
  repeat' split
  all_goals rfl
theorem next_ctr {n : List (BitVec 8)} (h : n.length = 12) (c : BitVec 32) : nextB (ctrB n c) = ctrB n (c + 1#32) := by
  have hl : (n ++ (List.replicate 16 0#8).drop 12).length = 16 := by simp [h]
  unfold nextB ctrB
  rw [num4_set4 hl, set4_set4 hl]
theorem gxC_is {n : List (BitVec 8)} (h : n.length = 12) (c : BitVec 32) : ∀ i, gxC n c (i + 1) = ctrB n (c + BitVec.ofNat 32 (i / 16))
  | 0 => by
    rw [gxC, if_neg (by omega)]
    simp [gxC]
  | i + 1 => by
    have ih := gxC_is h c i
    rw [gxC, ih]
    by_cases e : (i + 1) % 16 = 0
    · rw [if_pos ⟨e, by omega⟩, next_ctr h, show (i + 1) / 16 = i / 16 + 1 by omega, BitVec.add_assoc, BitVec.ofNat_add]
    · rw [if_neg (fun h => e h.1), show (i + 1) / 16 = i / 16 by omega]
/-- the x-th byte of what is laid over -/
def strm (w n : List (BitVec 8)) (c : BitVec 32) (x : Nat) : BitVec 8 := (encB w (ctrB n (c + BitVec.ofNat 32 (x / 16)))).getD (x % 16) 0#8
theorem gxD_get {w n b : List (BitVec 8)} {c : BitVec 32} (h : n.length = 12) : ∀ i, i ≤ b.length → ∀ x, x < b.length → (gxD w n c b i).getD x 0#8 = if x < (i + 15) / 16 * 16 then b.getD x 0#8 ^^^ strm w n c x else b.getD x 0#8
  | 0, _, x, _ => by rw [gxD, if_neg (by omega)]
  | i + 1, hi, x, hx => by
    have ih := gxD_get (w := w) (b := b) (c := c) h i (by omega) x hx
    rw [gxD]
    by_cases e : i % 16 = 0
    · rw [if_pos e, pcK_get (by rw [gxD_len]; omega), ih, gxC_is h]
      by_cases h1 : i ≤ x ∧ x < i + (min (i + 16) b.length - i)
      · rw [if_pos h1, if_neg (show ¬ x < (i + 15) / 16 * 16 by omega), if_pos (show x < (i + 1 + 15) / 16 * 16 by omega), strm, show x / 16 = i / 16 by omega, show x % 16 = x - i by omega]
      · rw [if_neg h1]
        by_cases h2 : x < (i + 15) / 16 * 16
        · rw [if_pos h2, if_pos (by omega)]
        · rw [if_neg h2, if_neg (by omega)]
    · rw [if_neg e, ih, show (i + 1 + 15) / 16 = (i + 15) / 16 by omega]
theorem gxor_get {k n b : List (BitVec 8)} {c : BitVec 32} (h : n.length = 12) {x : Nat} (hx : x < b.length) : (gxorB k n c b).getD x 0#8 = b.getD x 0#8 ^^^ strm (expF k) n c x := by
  rw [gxorB, gxD_get h _ (Nat.le_refl _) x hx, if_pos (by omega)]
/-- laid over twice: as it was -/
theorem gxor_inv {k n b : List (BitVec 8)} {c : BitVec 32} (h : n.length = 12) : gxorB k n c (gxorB k n c b) = b := by
  refine ext_getD (by rw [gxorB_len, gxorB_len]) fun i hi => ?_
  rw [gxorB_len, gxorB_len] at hi
  rw [gxor_get h (by rw [gxorB_len]; exact hi), gxor_get h hi, BitVec.xor_assoc, BitVec.xor_self, BitVec.xor_zero]
/-- laid over in two pieces -/
theorem gxor_cut {k n b : List (BitVec 8)} {c : BitVec 32} {j : Nat} (h : n.length = 12) : gxorB k n c (b.take (min b.length (16 * j))) ++ gxorB k n (c + BitVec.ofNat 32 j) (b.drop (min b.length (16 * j))) = gxorB k n c b := by
  refine ext_getD (by simp only [List.length_append, gxorB_len, List.length_take, List.length_drop]; omega) fun i hi => ?_
  have hi : i < b.length := by
    simp only [List.length_append, gxorB_len, List.length_take, List.length_drop] at hi
    omega
  rw [gxor_get h hi]
  by_cases h1 : i < min b.length (16 * j)
  · rw [getD_app1 (by simp only [gxorB_len, List.length_take]; omega), gxor_get h (by simp only [List.length_take]; omega), getD_takeD h1]
  · have e : min b.length (16 * j) = 16 * j := by omega
    rw [e] at h1 ⊢
    have hl : (gxorB k n c (b.take (16 * j))).length = 16 * j := by rw [gxorB_len, List.length_take]; omega
    rw [getD_app2 (by omega), hl, gxor_get h (by simp only [List.length_drop]; omega), getD_dropD, show 16 * j + (i - 16 * j) = i by omega, strm, strm, BitVec.add_assoc, ← BitVec.ofNat_add, show j + (i - 16 * j) / 16 = i / 16 by omega, show (i - 16 * j) % 16 = i % 16 by omega]
theorem or_zero {x y : BitVec 8} : x ||| y = 0#8 ↔ x = 0#8 ∧ y = 0#8 := by
  constructor
  · intro h
    have : ∀ i, x.getLsbD i = false ∧ y.getLsbD i = false := fun i => by
      have := congrArg (fun z : BitVec 8 => z.getLsbD i) h
      simpa using this
    exact ⟨BitVec.eq_of_getLsbD_eq fun i _ => by simp [(this i).1], BitVec.eq_of_getLsbD_eq fun i _ => by simp [(this i).2]⟩
  · rintro ⟨rfl, rfl⟩; rfl
theorem dfK_zero {g s : List (BitVec 8)} {z : Nat} : ∀ {m : Nat}, dfK g s z m = 0#8 ↔ ∀ i, i < m → g.getD i 0#8 = s.getD (z + i) 0#8
  | 0 => by simp [dfK]
  | m + 1 => by
    rw [dfK, or_zero, dfK_zero, BitVec.xor_eq_zero_iff]
    constructor
    · rintro ⟨h1, h2⟩ i hi
      by_cases e : i = m
      · rw [e]; exact h2
      · exact h1 i (by omega)
    · exact fun h => ⟨fun i hi => h i (by omega), h m (by omega)⟩
theorem seal_take (k n a t : List (BitVec 8)) : (sealB k n a t).take t.length = gxorB k n 2#32 t := by
  rw [sealB, List.take_left' (gxorB_len _ _ _ _)]
theorem seal_drop (k n a t : List (BitVec 8)) : (sealB k n a t).drop t.length = tagB k n a (gxorB k n 2#32 t) := by
  rw [sealB, List.drop_left' (gxorB_len _ _ _ _)]
theorem seal_get (k n a t : List (BitVec 8)) (i : Nat) : (sealB k n a t).getD (t.length + i) 0#8 = (tagB k n a (gxorB k n 2#32 t)).getD i 0#8 := by
  rw [← getD_dropD, seal_drop]
theorem open_seal {k n a t : List (BitVec 8)} (h : n.length = 12) : openT k n a (sealB k n a t) = t ∧ openE k n a (sealB k n a t) = 0 := by
  have hl := sealB_len k n a t
  have hz : (sealB k n a t).length - 16 = t.length := by omega
  have hd : dfK (tagB k n a (gxorB k n 2#32 t)) (sealB k n a t) t.length 16 = 0#8 := dfK_zero.2 fun i _ => (seal_get k n a t i).symm
  have h16 : ¬ (sealB k n a t).length < 16 := by omega
  rw [openT, openE, if_neg h16, if_neg h16, hz, seal_take, if_pos hd, if_pos hd, gxor_inv h]
  exact ⟨rfl, rfl⟩
/-- one bit of the tag is turned -/
theorem open_flip {k n a t : List (BitVec 8)} {p : Nat} {x : BitVec 8} (hp : p < 16) (hx : x ≠ 0#8) :
    openT k n a ((sealB k n a t).set (t.length + p) ((sealB k n a t).getD (t.length + p) 0#8 ^^^ x)) = [] ∧ openE k n a ((sealB k n a t).set (t.length + p) ((sealB k n a t).getD (t.length + p) 0#8 ^^^ x)) = 40 := by
  have hl := sealB_len k n a t
  generalize hs : (sealB k n a t).set (t.length + p) ((sealB k n a t).getD (t.length + p) 0#8 ^^^ x) = s
  have hsl : s.length = t.length + 16 := by rw [← hs, List.length_set, hl]
  have hz : s.length - 16 = t.length := by omega
  have ht : s.take t.length = gxorB k n 2#32 t := by rw [← hs, List.take_set_of_le (by omega), seal_take]
  have hd : dfK (tagB k n a (gxorB k n 2#32 t)) s t.length 16 ≠ 0#8 := fun hd => by
    have := dfK_zero.1 hd p hp
    rw [← hs, getD_set_if (by omega), if_pos rfl, seal_get] at this
    apply hx
    have h2 := congrArg (fun z => (tagB k n a (gxorB k n 2#32 t)).getD p 0#8 ^^^ z) this
    simp only [BitVec.xor_self] at h2
    rw [← BitVec.xor_assoc, BitVec.xor_self, BitVec.zero_xor] at h2
    exact h2.symm
  have h16 : ¬ s.length < 16 := by omega
  rw [openT, openE, if_neg h16, if_neg h16, hz, ht, if_neg hd, if_neg hd]
  exact ⟨rfl, rfl⟩
theorem open_short {k n a s : List (BitVec 8)} (h : s.length < 16) : openT k n a s = [] ∧ openE k n a s = 3 := by
  rw [openT, openE, if_pos h, if_pos h]
  exact ⟨rfl, rfl⟩
end Go.Proofs.YtddeffdgldjdjaaDoor
