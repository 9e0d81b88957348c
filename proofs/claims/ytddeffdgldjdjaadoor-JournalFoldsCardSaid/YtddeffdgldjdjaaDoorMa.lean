/- What is put is taken, and what is taken is put: plain laws. -/
import Derived.Test.YtddeffdgldjdjaaDoorPk
namespace Go.Proofs.YtddeffdgldjdjaaDoor.W
set_option linter.unusedSimpArgs false
set_option linter.unusedVariables false
set_option linter.defProp false
open Go Go.Abs
set_option maxHeartbeats 8000000
theorem byteAt_nat (n e : Nat) : (byteAt n e).toNat = n / 2 ^ e % 256 := by
  have h : ((n : Int).fdiv (2 ^ e)) = ((n / 2 ^ e : Nat) : Int) := by
    rw [Int.fdiv_eq_ediv_of_nonneg _ (by exact Int.pow_nonneg (by decide))]
    norm_cast
  rw [byteAt, h, BitVec.ofInt_natCast, BitVec.toNat_ofNat]
theorem digF_get (n s k j : Nat) (h : j < k) : (digF n s k).getD j 0#8 = byteAt n (8 * (s - 1 - j)) := by
  induction k with
  | zero => omega
  | succ k ih =>
    have hl := digF_len n s k
    rw [digF, List.getD_eq_getElem?_getD]
    by_cases e : j = k
    · subst e
      rw [List.getElem?_append_right (by omega), hl, Nat.sub_self]
      rfl
    · rw [List.getElem?_append_left (by omega), ← List.getD_eq_getElem?_getD]
      exact ih (by omega)
theorem digF_val (n s k : Nat) (hk : k ≤ s) (hn : n < 256 ^ s) : valF (digF n s s) k = n / 256 ^ (s - k) := by
  induction k with
  | zero => rw [valF, Nat.sub_zero, Nat.div_eq_of_lt hn]
  | succ k ih =>
    rw [valF, ih (by omega), digF_get _ _ _ _ (by omega), byteAt_nat, show s - 1 - k = s - (k + 1) by omega, Nat.pow_mul, show (2 : Nat) ^ 8 = 256 from rfl, show s - k = s - (k + 1) + 1 by omega, Nat.pow_succ, ← Nat.div_div_eq_div_mul]
    omega
theorem valF_inj {l m : List (BitVec 8)} (k : Nat) (h : valF l k = valF m k) : ∀ j, j < k → l.getD j 0#8 = m.getD j 0#8 := by
  induction k with
  | zero => intro j hj; omega
  | succ k ih =>
    intro j hj
    have h1 := (l.getD k 0#8).isLt
    have h2 := (m.getD k 0#8).isLt
    rw [valF, valF] at h
    by_cases e : j = k
    · subst e
      apply BitVec.eq_of_toNat_eq
      omega
    · exact ih (by omega) j (by omega)
theorem list_ext8 {l m : List (BitVec 8)} (h : l.length = m.length) (h2 : ∀ j, j < l.length → l.getD j 0#8 = m.getD j 0#8) : l = m := by
  apply List.ext_getElem h
  intro i h1 h3
  have := h2 i h1
  rwa [List.getD_eq_getElem?_getD, List.getD_eq_getElem?_getD, List.getElem?_eq_getElem h1, List.getElem?_eq_getElem h3] at this
theorem need_lt (n : Nat) : n < 256 ^ need n := (need_le_iff n (need n)).1 (Nat.le_refl _)
theorem size_byte (n : Nat) (h : need n ≤ 8) : (BitVec.ofInt 8 ((need n : Nat) : Int)).toNat = need n := by
  rw [BitVec.ofInt_natCast, BitVec.toNat_ofNat]; omega
theorem putB_behind (b : List (BitVec 8)) (n : Nat) : putB b n = b ++ putB [] n := by simp [putB, putK]

/-- what is put is taken -/
theorem take_put (n : Nat) (t : List (BitVec 8)) (h : n < 9223372036854775808) : tkE (putB [] n ++ t) = 0 ∧ tkN (putB [] n ++ t) = n ∧ tkR (putB [] n ++ t) = t := by
  have h8 := need_le n (by omega)
  have e : putB [] n ++ t = BitVec.ofInt 8 ((need n : Nat) : Int) :: (digF n (need n) (need n) ++ t) := by simp [putB, putK]
  rw [e]
  have hl := digF_len n (need n) (need n)
  generalize hb : BitVec.ofInt 8 ((need n : Nat) : Int) :: (digF n (need n) (need n) ++ t) = b
  have hS : tkS b = need n := by rw [← hb, tkS]; exact size_byte n h8
  have hL : (b.drop 1).take (need n) = digF n (need n) (need n) := by
    rw [← hb, List.drop_succ_cons, List.drop_zero]
    exact List.take_left' hl
  have hX : (tkX b).toNat = n := by
    rw [tkX, hS, hL, accF_val _ _ h8, digF_val n (need n) (need n) (Nat.le_refl _) (need_lt n)]
    simp
  have lb : b.length = 1 + need n + t.length := by rw [← hb]; simp [hl]; omega
  have hE : tkE b = 0 := by
    have hok : ¬ ((tkX b).toInt < 0 ∨ need (tkX b).toNat ≠ tkS b) := by
      rw [toInt_neg, hX, hS]; omega
    rw [tkE, if_neg (by omega), if_neg (by omega), if_neg (by omega), if_neg hok]
  refine ⟨hE, by rw [tkN, if_pos hE, hX], ?_⟩
  rw [tkR, if_pos hE, hS, ← hb, Nat.add_comm, List.drop_succ_cons]
  exact List.drop_left' hl
/-- what is taken is put -/
theorem put_take (b : List (BitVec 8)) (h : tkE b = 0) : putB [] (tkN b) ++ tkR b = b := by
  have h0 := h
  unfold tkE at h0
  split at h0
  · omega
  split at h0
  · omega
  split at h0
  · omega
  split at h0
  · omega
  rename_i c0 c1 c2 hok
  have hnd : need (tkX b).toNat = tkS b := by omega
  have hN : tkN b = (tkX b).toNat := by rw [tkN, if_pos h]
  have lL : ((b.drop 1).take (tkS b)).length = tkS b := by rw [List.length_take, List.length_drop]; omega
  have hX : (tkX b).toNat = valF ((b.drop 1).take (tkS b)) (tkS b) := by rw [tkX, accF_val _ _ (by omega)]
  have hlt : (tkX b).toNat < 256 ^ tkS b := by rw [← hnd]; exact need_lt _
  have hD : digF (tkX b).toNat (tkS b) (tkS b) = (b.drop 1).take (tkS b) := by
    refine list_ext8 (by rw [digF_len, lL]) fun j hj => ?_
    rw [digF_len] at hj
    refine valF_inj (tkS b) ?_ j hj
    rw [digF_val _ _ _ (Nat.le_refl _) hlt, Nat.sub_self, Nat.pow_zero, Nat.div_one, hX]
  rw [hN, tkR, if_pos h, putB, putK, hnd, hD]
  match b, c0 with
  | x :: l, _ =>
    have hx : BitVec.ofInt 8 ((tkS (x :: l) : Nat) : Int) = x := by
      apply BitVec.eq_of_toNat_eq
      rw [BitVec.ofInt_natCast, BitVec.toNat_ofNat, tkS]
      have := x.isLt
      simp
      omega
    rw [hx, Nat.add_comm 1, List.drop_succ_cons, List.drop_succ_cons, List.drop_zero]
    simp

theorem tt_put (t a : List (BitVec 8)) {m : Int} (hm : (t.length : Int) ≤ m) (h : t.length ≤ 4096) : ttE (putB [] t.length ++ t ++ a) m = 0 ∧ ttT (putB [] t.length ++ t ++ a) m = t ∧ ttR (putB [] t.length ++ t ++ a) m = a := by
  obtain ⟨h1, h2, h3⟩ := take_put t.length (t ++ a) (by omega)
  rw [← List.append_assoc] at h1 h2 h3
  have hE : ttE (putB [] t.length ++ t ++ a) m = 0 := by
    rw [ttE, h1, h2, h3, if_neg (by omega), if_neg (by omega), if_neg (by rw [List.length_append]; omega)]
  refine ⟨hE, ?_, ?_⟩
  · rw [ttT, if_pos hE, h2, h3]; exact List.take_left' rfl
  · rw [ttR, if_pos hE, h2, h3]; exact List.drop_left' rfl
theorem put_tt (b : List (BitVec 8)) (h : ttE b 4096 = 0) : (ttT b 4096).length ≤ 4096 ∧ putB [] (ttT b 4096).length ++ ttT b 4096 ++ ttR b 4096 = b := by
  have h0 := h
  unfold ttE at h0
  split at h0
  · omega
  split at h0
  · omega
  split at h0
  · omega
  rename_i c0 c1 c2
  have hT : ttT b 4096 = (tkR b).take (tkN b) := by rw [ttT, if_pos h]
  have hR : ttR b 4096 = (tkR b).drop (tkN b) := by rw [ttR, if_pos h]
  have lT : (ttT b 4096).length = tkN b := by rw [hT, List.length_take]; omega
  refine ⟨by omega, ?_⟩
  rw [lT, hT, hR, List.append_assoc, List.take_append_drop]
  exact put_take b (by omega)

/-- numbers one behind the other -/
def putM (l : List Int) : Nat → List (BitVec 8)
  | 0 => []
  | k + 1 => putM l k ++ putB [] (l.getD k 0).toNat
theorem putLk_is (b : List (BitVec 8)) (l : List Int) (k : Nat) : putLk b l k = b ++ putB [] l.length ++ putM l k := by
  induction k with
  | zero => rw [putLk, putM, putB_behind]; simp
  | succ k ih => rw [putLk, ih, putM, putB_behind]; simp
/-- the numbers from the k-th on -/
def putS (l : List Int) : Nat → List (BitVec 8)
  | 0 => []
  | j + 1 => putB [] (l.getD (l.length - (j + 1)) 0).toNat ++ putS l j
theorem putM_S (l : List Int) (j : Nat) (h : j ≤ l.length) : putM l (l.length - j) ++ putS l j = putM l l.length := by
  induction j with
  | zero => simp [putS]
  | succ j ih =>
    rw [← ih (by omega), putS, ← List.append_assoc, show l.length - j = l.length - (j + 1) + 1 by omega, putM]
theorem tl_step {b : List (BitVec 8)} {k : Nat} {L : List Int} {R : List (BitVec 8)} (h : tlF b k = (L, R, 0)) (h2 : tkE R = 0) : tlF b (k + 1) = (L ++ [(tkN R : Int)], tkR R, 0) := by
  rw [tlF, h]; simp [h2]
theorem tl_put (l : List Int) (a : List (BitVec 8)) {m : Int} (hm : (l.length : Int) ≤ m) (hl : ∀ n ∈ l, i64ok n) (hn : neg l = false) (h : l.length ≤ 4096) : tlE (putL [] l ++ a) m = 0 ∧ tlL (putL [] l ++ a) m = l ∧ tlR (putL [] l ++ a) m = a := by
  have e : putL [] l ++ a = putB [] l.length ++ (putM l l.length ++ a) := by rw [putL, putLk_is]; simp
  obtain ⟨h1, h2, h3⟩ := take_put l.length (putM l l.length ++ a) (by omega)
  rw [e]
  generalize putB [] l.length ++ (putM l l.length ++ a) = b at h1 h2 h3 ⊢
  have key : ∀ k, k ≤ l.length → tlF b k = (l.take k, putS l (l.length - k) ++ a, 0) := by
    intro k hk
    induction k with
    | zero =>
      rw [tlF, h3, List.take_zero]
      have := putM_S l l.length (Nat.le_refl _)
      rw [Nat.sub_self, putM, List.nil_append] at this
      rw [Nat.sub_zero, this]
    | succ k ih =>
      have hlt : k < l.length := by omega
      have hm := hl _ (getD_mem hlt)
      have h0 : 0 ≤ l.getD k 0 := by
        apply Classical.byContradiction
        intro hc
        have := (neg_iff l).2 ⟨_, getD_mem hlt, by omega⟩
        rw [hn] at this; cases this
      unfold i64ok at hm
      have hp : putS l (l.length - k) ++ a = putB [] (l.getD k 0).toNat ++ (putS l (l.length - (k + 1)) ++ a) := by
        rw [show l.length - k = l.length - (k + 1) + 1 by omega, putS, show l.length - (l.length - (k + 1) + 1) = k by omega, List.append_assoc]
      obtain ⟨g1, g2, g3⟩ := take_put (l.getD k 0).toNat (putS l (l.length - (k + 1)) ++ a) (by omega)
      rw [← hp] at g1 g2 g3
      rw [tl_step (ih (by omega)) g1, g2, g3, Int.toNat_of_nonneg h0]
      congr 1
      rw [List.take_add_one, List.getD_eq_getElem?_getD, List.getElem?_eq_getElem hlt]
      rfl
  have hk := key l.length (Nat.le_refl _)
  rw [List.take_length, Nat.sub_self, putS, List.nil_append] at hk
  have hE : tlE b m = 0 := by
    rw [tlE, h1, h2, if_neg (by omega), if_neg (by omega), hk]
  exact ⟨hE, by rw [tlL, if_pos hE, h2, hk], by rw [tlR, if_pos hE, h2, hk]⟩
end Go.Proofs.YtddeffdgldjdjaaDoor.W
