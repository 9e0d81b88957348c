/- What is written of an entry is read as it was: plain laws. -/
import Derived.Test.YtddeffdgldjdjaaDoorMh
namespace Go.Proofs.YtddeffdgldjdjaaDoor.W
set_option linter.unusedSimpArgs false
set_option linter.unusedVariables false
set_option linter.defProp false
open Go Go.Abs
set_option maxHeartbeats 8000000
theorem rS_put {n : Int} (h : 0 ≤ n ∧ n ≤ 9223372036854775807) (t : List (BitVec 8)) : rS (putB [] n.toNat ++ t, 0) = (t, 0) ∧ rN (putB [] n.toNat ++ t, 0) = n := by
  obtain ⟨h1, h2, h3⟩ := take_put n.toNat t (by omega)
  simp only [rS, rN, if_true, h1, h2, h3]
  exact ⟨rfl, Int.toNat_of_nonneg h.1⟩
theorem tS_put (t a : List (BitVec 8)) (h : t.length ≤ 4096) : tS (putB [] t.length ++ t ++ a, 0) = (a, 0) ∧ tN (putB [] t.length ++ t ++ a, 0) = t := by
  obtain ⟨h1, h2, h3⟩ := tt_put t a (m := 4096) (by omega) h
  simp only [tS, tN, if_true, h1, h2, h3]
  exact ⟨rfl, trivial⟩
theorem lS_put (l : List Int) (a : List (BitVec 8)) {m : Int} (hm : (l.length : Int) ≤ m) (hl : ∀ n ∈ l, i64ok n) (hn : neg l = false) (h : l.length ≤ 4096) : lS m (putL [] l ++ a, 0) = (a, 0) ∧ lN m (putL [] l ++ a, 0) = l := by
  obtain ⟨h1, h2, h3⟩ := tl_put l a hm hl hn h
  simp only [lS, lN, if_true, h1, h2, h3]
  exact ⟨rfl, trivial⟩
theorem txB_behind (b t : List (BitVec 8)) : txB b t = b ++ (putB [] t.length ++ t) := by rw [txB, putB_behind, List.append_assoc]
theorem nmF2 (k s : Int) : nmF [k, s] = putB [] k.toNat ++ putB [] s.toNat := by
  have : nmF [k, s] = putB (putB [] k.toNat) s.toNat := rfl
  rw [this, putB_behind (putB [] k.toNat)]
/-- an entry with no nil in it -/
def fulE (c : Eny) : Eny := ⟨c.t, c.k, some (dat c.d), some (idat c.m)⟩
theorem entR_ful (c : Eny) : entR (fulE c) = entR c := rfl
theorem entB_is (r : Eny) : entB r = putB [] r.t.toNat ++ (putB [] r.k.toNat ++ (putB [] (dat r.d).length ++ dat r.d ++ (putL [] (idat r.m) ++ []))) := by
  have : ∀ b, putL b (idat r.m) = b ++ putL [] (idat r.m) := fun b => by rw [putL, putL, putLk_is, putLk_is []]; simp
  rw [entB, this, txB_behind, nmF2]
  simp only [List.append_assoc, List.append_nil]
theorem read_ent {r : Eny} (ho : okN r) (h : (entR r).2 = 0) : isE (entR r).1 = true ∧ entF (entR r).1 = fulE r := by
  have hb : ¬ badE r = true := fun hb => by rw [entR, if_pos hb] at h; cases h
  have hl : ¬ ((dat r.d).length > 4096 ∨ (idat r.m).length > 7) := fun hl => by rw [entR, if_neg hb, if_pos hl] at h; cases h
  have hR : entR r = (entB r, 0) := by rw [entR, if_neg hb, if_neg hl]
  obtain ⟨_, _, o3⟩ := ho
  simp only [badE, inW, Bool.or_eq_true, Bool.not_eq_true', Bool.and_eq_false_iff, decide_eq_false_iff_not, not_or] at hb
  obtain ⟨⟨h1, h2⟩, h3⟩ := hb
  have h3 : neg (idat r.m) = false := Bool.eq_false_iff.2 h3
  have e1 : 0 ≤ r.t ∧ r.t ≤ 9223372036854775807 := by omega
  have e2 : 0 ≤ r.k ∧ r.k ≤ 9223372036854775807 := by omega
  obtain ⟨a1, b1⟩ := rS_put e1 (putB [] r.k.toNat ++ (putB [] (dat r.d).length ++ dat r.d ++ (putL [] (idat r.m) ++ [])))
  obtain ⟨a2, b2⟩ := rS_put e2 (putB [] (dat r.d).length ++ dat r.d ++ (putL [] (idat r.m) ++ []))
  obtain ⟨a3, b3⟩ := tS_put (dat r.d) (putL [] (idat r.m) ++ []) (by omega)
  obtain ⟨a4, b4⟩ := lS_put (idat r.m) [] (m := 7) (by omega) o3 h3 (by omega)
  have hB := entB_is r
  have hf : entF (entB r) = fulE r := by
    rw [entF, e3, q2, q1, hB, a1, a2, a3, b1, b2, b3, b4]
    rfl
  have hq : e4 (entB r) = ([], 0) := by rw [e4, e3, q2, q1, hB, a1, a2, a3, a4]
  rw [hR]
  refine ⟨?_, hf⟩
  rw [isE]
  simp only [hf, hq, entR_ful, hR]
  simp
/-- whether two entries are the same -/
def sameE (c e : Eny) : Bool := decide (c.t = e.t) && (decide (c.k = e.k) && (decide (dat c.d = dat e.d) && decide (idat c.m = idat e.m)))
theorem sameE_self (c : Eny) : sameE c c = true := by simp [sameE]
theorem sameE_ful (c : Eny) : sameE c (fulE c) = true := by simp [sameE, fulE, dat, idat]
/-- what is read is what is written of it -/
theorem take_rS {p : List (BitVec 8) × Int} (h : (rS p).2 = 0) : p.2 = 0 ∧ putB [] (rN p).toNat ++ (rS p).1 = p.1 := by
  obtain ⟨l, e⟩ := p
  by_cases he : e = 0
  · subst he
    simp only [rS, rN, if_true] at h ⊢
    exact ⟨trivial, by rw [Int.toNat_natCast]; exact put_take l (by omega)⟩
  · simp only [rS, if_neg he] at h
    exact absurd h he
theorem take_tS {p : List (BitVec 8) × Int} (h : (tS p).2 = 0) : p.2 = 0 ∧ (tN p).length ≤ 4096 ∧ putB [] (tN p).length ++ tN p ++ (tS p).1 = p.1 := by
  obtain ⟨l, e⟩ := p
  by_cases he : e = 0
  · subst he
    simp only [tS, tN, if_true] at h ⊢
    exact ⟨trivial, put_tt l (by omega)⟩
  · simp only [tS, if_neg he] at h
    exact absurd h he
end Go.Proofs.YtddeffdgldjdjaaDoor.W
