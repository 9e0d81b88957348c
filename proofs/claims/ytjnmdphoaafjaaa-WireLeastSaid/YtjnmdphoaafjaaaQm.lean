/- What is written is read as it was, and what is read is what is written: plain laws. -/
import Derived.Test.YtjnmdphoaafjaaaPx
namespace Go.Proofs.Ytjnmdphoaafjaaa
set_option linter.unusedSimpArgs false
set_option linter.unusedVariables false
set_option linter.defProp false
open Go Go.Abs
set_option maxHeartbeats 4000000
theorem rS_put {n : Int} (h : 0 ≤ n ∧ n ≤ 9223372036854775807) (t : List (BitVec 8)) : rS (putB [] n.toNat ++ t, 0) = (t, 0) ∧ rN (putB [] n.toNat ++ t, 0) = n := by
  obtain ⟨h1, h2, h3⟩ := take_put n.toNat t (by omega)
  simp only [rS, rN, if_true, h1, h2, h3]
  exact ⟨rfl, Int.toNat_of_nonneg h.1⟩
theorem tS_put (t a : List (BitVec 8)) (h : t.length ≤ 4096) : tS (putB [] t.length ++ t ++ a, 0) = (a, 0) ∧ tN (putB [] t.length ++ t ++ a, 0) = t := by
  obtain ⟨h1, h2, h3⟩ := tt_put t a (m := 4096) (by omega) h
  simp only [tS, tN, if_true, h1, h2, h3]
  exact ⟨rfl, trivial⟩
theorem lS_put (l : List Int) (a : List (BitVec 8)) {m : Int} (hm : (l.length : Int) ≤ m) (hl : ∀ n ∈ l, i64ok n) (hn : neg l = false) (h : l.length ≤ 4096) : lS m (putL [] l ++ a, 0) = (a, 0) ∧ lN m (putL [] l ++ a, 0) = l := by
  obtain ⟨h1, h2, h3⟩ := tl_put l a hm hl hn h
  simp only [lS, lN, if_true, h1, h2, h3]
  exact ⟨rfl, trivial⟩
theorem txB_behind (b t : List (BitVec 8)) : txB b t = b ++ (putB [] t.length ++ t) := by rw [txB, putB_behind, List.append_assoc]
theorem nmF5 (k s q i n : Int) : nmF [k, s, q, i, n] = putB [] k.toNat ++ (putB [] s.toNat ++ (putB [] q.toNat ++ (putB [] i.toNat ++ putB [] n.toNat))) := by
  have : nmF [k, s, q, i, n] = putB (putB (putB (putB (putB [] k.toNat) s.toNat) q.toNat) i.toNat) n.toNat := rfl
  rw [this, putB_behind (putB (putB (putB (putB [] k.toNat) s.toNat) q.toNat) i.toNat), putB_behind (putB (putB (putB [] k.toNat) s.toNat) q.toNat), putB_behind (putB (putB [] k.toNat) s.toNat), putB_behind (putB [] k.toNat)]
  simp only [List.append_assoc]
theorem nmF3 (k s q : Int) : nmF [k, s, q] = putB [] k.toNat ++ (putB [] s.toNat ++ putB [] q.toNat) := by
  have : nmF [k, s, q] = putB (putB (putB [] k.toNat) s.toNat) q.toNat := rfl
  rw [this, putB_behind (putB (putB [] k.toNat) s.toNat), putB_behind (putB [] k.toNat)]
  simp only [List.append_assoc]
theorem nmF2 (k s : Int) : nmF [k, s] = putB [] k.toNat ++ putB [] s.toNat := by
  have : nmF [k, s] = putB (putB [] k.toNat) s.toNat := rfl
  rw [this, putB_behind (putB [] k.toNat)]
theorem cmdB_is (c : Cmd) : cmdB c = putB [] c.k.toNat ++ (putB [] c.s.toNat ++ (putB [] c.q.toNat ++ (putB [] c.i.toNat ++ (putB [] c.n.toNat ++ (putB [] (dat c.d).length ++ dat c.d ++ (putB [] (dat c.b).length ++ dat c.b ++ [])))))) := by
  rw [cmdB, txB_behind, txB_behind, nmF5]
  simp only [List.append_assoc, List.append_nil]
/-- a command with no nil in it -/
def fulC (c : Cmd) : Cmd := ⟨c.k, c.s, c.q, c.i, c.n, some (dat c.d), some (dat c.b)⟩
theorem blen0_dat (x : Option (List (BitVec 8))) : blen0 (some (dat x)) = blen0 x := by cases x <;> rfl
theorem checkF_ful (c : Cmd) : checkF (fulC c) = checkF c := by
  obtain ⟨k, s, q, i, n, d, b⟩ := c
  have h1 := blen0_dat d
  have h2 := blen0_dat b
  have h0 : blen0 none = 0 := rfl
  unfold fulC checkF stepsS
  simp only [headS, idS, dataS, besS, numS, nameS, h1, h2]
  by_cases k1 : k = 1 ∨ k = 3
  · simp only [if_pos k1, leftS]; split <;> simp only [h1, h2]
  by_cases k2 : k = 2 ∨ k = 4
  · simp only [if_neg k1, if_pos k2, leftS]; split <;> simp only [h1, h2]
  by_cases k5 : k = 5
  · simp only [if_neg k1, if_neg k2, if_pos k5, leftS]; split <;> simp only [h1, h2]
  by_cases k6 : k = 6
  · simp only [if_neg k1, if_neg k2, if_neg k5, if_pos k6, leftS]; split <;> simp only [h1, h2]
  by_cases k7 : k = 7
  · simp only [if_neg k1, if_neg k2, if_neg k5, if_neg k6, if_pos k7, leftS]; split <;> simp only [h1, h2]
  by_cases k8 : k = 8 ∨ k = 9
  · simp only [if_neg k1, if_neg k2, if_neg k5, if_neg k6, if_neg k7, if_pos k8, leftS]; split <;> simp only [h1, h2]
  by_cases k10 : k = 10
  · simp only [if_neg k1, if_neg k2, if_neg k5, if_neg k6, if_neg k7, if_neg k8, if_pos k10, leftS]; split <;> simp only [h1, h2]
  simp only [if_neg k1, if_neg k2, if_neg k5, if_neg k6, if_neg k7, if_neg k8, if_neg k10]
theorem cmdB_ful (c : Cmd) : cmdB (fulC c) = cmdB c := rfl
theorem cmdR_ful (c : Cmd) : cmdR (fulC c) = cmdR c := by rw [cmdR, cmdR, checkF_ful, cmdB_ful]
theorem read_cmd {c : Cmd} (h : checkF c = 0) (hc : c.n ≤ 9223372036854775807) : isC (cmdB c) = true ∧ cC (cmdB c) = fulC c := by
  have hk := num5 h hc
  simp only [List.mem_cons, List.not_mem_nil, or_false, forall_eq_or_imp, forall_eq] at hk
  obtain ⟨e1, e2, e3, e4, e5⟩ := hk
  obtain ⟨ld, lb⟩ := dat_len h
  have hB := cmdB_is c
  obtain ⟨a1, b1⟩ := rS_put e1 (putB [] c.s.toNat ++ (putB [] c.q.toNat ++ (putB [] c.i.toNat ++ (putB [] c.n.toNat ++ (putB [] (dat c.d).length ++ dat c.d ++ (putB [] (dat c.b).length ++ dat c.b ++ []))))))
  obtain ⟨a2, b2⟩ := rS_put e2 (putB [] c.q.toNat ++ (putB [] c.i.toNat ++ (putB [] c.n.toNat ++ (putB [] (dat c.d).length ++ dat c.d ++ (putB [] (dat c.b).length ++ dat c.b ++ [])))))
  obtain ⟨a3, b3⟩ := rS_put e3 (putB [] c.i.toNat ++ (putB [] c.n.toNat ++ (putB [] (dat c.d).length ++ dat c.d ++ (putB [] (dat c.b).length ++ dat c.b ++ []))))
  obtain ⟨a4, b4⟩ := rS_put e4 (putB [] c.n.toNat ++ (putB [] (dat c.d).length ++ dat c.d ++ (putB [] (dat c.b).length ++ dat c.b ++ [])))
  obtain ⟨a5, b5⟩ := rS_put e5 (putB [] (dat c.d).length ++ dat c.d ++ (putB [] (dat c.b).length ++ dat c.b ++ []))
  obtain ⟨a6, b6⟩ := tS_put (dat c.d) (putB [] (dat c.b).length ++ dat c.b ++ []) (by omega)
  obtain ⟨a7, b7⟩ := tS_put (dat c.b) [] (by omega)
  have hcC : cC (cmdB c) = fulC c := by
    rw [cC, q6, q5, q4, q3, q2, q1, hB, a1, a2, a3, a4, a5, a6, b1, b2, b3, b4, b5, b6, b7]
    rfl
  have hq : q7 (cmdB c) = ([], 0) := by
    rw [q7, q6, q5, q4, q3, q2, q1, hB, a1, a2, a3, a4, a5, a6, a7]
  refine ⟨?_, hcC⟩
  rw [isC, hcC, hq, cmdR_ful, cmdR, if_pos h]
  simp
/-- whether two commands are the same -/
def sameC (c e : Cmd) : Bool := decide (c.k = e.k) && (decide (c.s = e.s) && (decide (c.q = e.q) && (decide (c.i = e.i) && (decide (c.n = e.n) && (decide (dat c.d = dat e.d) && decide (dat c.b = dat e.b))))))
theorem sameC_self (c : Cmd) : sameC c c = true := by simp [sameC]
theorem sameC_ful (c : Cmd) : sameC c (fulC c) = true := by simp [sameC, fulC, dat]
theorem sameC_iff {c e : Cmd} : sameC c e = true ↔ fulC c = fulC e := by
  obtain ⟨k, s, q, i, n, d, b⟩ := c
  obtain ⟨k', s', q', i', n', d', b'⟩ := e
  simp [sameC, fulC]
theorem apart {c e : Cmd} (h : checkF c = 0) (hc : c.n ≤ 9223372036854775807) (h' : checkF e = 0) (hc' : e.n ≤ 9223372036854775807) : decide (cmdB c = cmdB e) = sameC c e := by
  by_cases hs : sameC c e = true
  · rw [hs]
    have : cmdB c = cmdB e := by rw [← cmdB_ful c, ← cmdB_ful e, sameC_iff.1 hs]
    rw [decide_eq_true this]
  · have hne : cmdB c ≠ cmdB e := fun hB => hs (sameC_iff.2 (by rw [← (read_cmd h hc).2, ← (read_cmd h' hc').2, hB]))
    rw [decide_eq_false hne]
    exact (Bool.eq_false_iff.2 hs).symm
/-- a reply with no nil in it -/
def fulR (c : Rep) : Rep := ⟨c.c, c.n, c.m, some (dat c.b)⟩
theorem repR_is {r : Rep} (hb : ¬ badR r) (hl : (dat r.b).length ≤ 4096) : repR r = (putB [] r.c.toNat ++ (putB [] r.n.toNat ++ (putB [] r.m.toNat ++ (putB [] (dat r.b).length ++ dat r.b))), 0) := by
  rw [repR, if_neg hb, if_neg (by omega), txB_behind, nmF3]
  simp only [List.append_assoc]
theorem repR_ful (c : Rep) : repR (fulR c) = repR c := rfl
theorem read_rep {r : Rep} (ho : okR r) (h : (repR r).2 = 0) (a : List (BitVec 8)) : trR ((repR r).1 ++ a) = fulR r ∧ trS ((repR r).1 ++ a) = a ∧ trE ((repR r).1 ++ a) = 0 := by
  have hb : ¬ badR r := fun hb => by rw [repR, if_pos hb] at h; cases h
  have hl : (dat r.b).length ≤ 4096 := by
    apply Classical.byContradiction
    intro hl
    rw [repR, if_neg hb, if_pos (by omega)] at h; cases h
  obtain ⟨o1, o2, o3⟩ := ho
  unfold i64ok at o1 o2 o3
  have hB := repR_is hb hl
  unfold badR at hb
  have e1 : 0 ≤ r.c ∧ r.c ≤ 9223372036854775807 := by omega
  have e2 : 0 ≤ r.n ∧ r.n ≤ 9223372036854775807 := by omega
  have e3 : 0 ≤ r.m ∧ r.m ≤ 9223372036854775807 := by omega
  rw [hB]
  simp only [List.append_assoc]
  obtain ⟨a1, b1⟩ := rS_put e1 (putB [] r.n.toNat ++ (putB [] r.m.toNat ++ (putB [] (dat r.b).length ++ (dat r.b ++ a))))
  obtain ⟨a2, b2⟩ := rS_put e2 (putB [] r.m.toNat ++ (putB [] (dat r.b).length ++ (dat r.b ++ a)))
  obtain ⟨a3, b3⟩ := rS_put e3 (putB [] (dat r.b).length ++ (dat r.b ++ a))
  obtain ⟨a4, b4⟩ := tS_put (dat r.b) a hl
  rw [List.append_assoc] at a4 b4
  have hq : r4 (putB [] r.c.toNat ++ (putB [] r.n.toNat ++ (putB [] r.m.toNat ++ (putB [] (dat r.b).length ++ (dat r.b ++ a))))) = (a, 0) := by
    rw [r4, q3, q2, q1, a1, a2, a3, a4]
  have hf : repF (putB [] r.c.toNat ++ (putB [] r.n.toNat ++ (putB [] r.m.toNat ++ (putB [] (dat r.b).length ++ (dat r.b ++ a))))) = fulR r := by
    rw [repF, q3, q2, q1, a1, a2, a3, b1, b2, b3, b4]
    rfl
  refine ⟨by rw [trR, hq, if_pos rfl, hf], by rw [trS, hq, if_pos rfl], by rw [trE, hq]⟩
/-- whether two replies are the same -/
def sameR (c e : Rep) : Bool := decide (c.c = e.c) && (decide (c.n = e.n) && (decide (c.m = e.m) && decide (dat c.b = dat e.b)))
theorem sameR_self (c : Rep) : sameR c c = true := by simp [sameR]
theorem sameR_ful (c : Rep) : sameR c (fulR c) = true := by simp [sameR, fulR, dat]
/-- an entry with no nil in it -/
def fulE (c : Eny) : Eny := ⟨c.t, c.k, some (dat c.d), some (idat c.m)⟩
theorem entR_ful (c : Eny) : entR (fulE c) = entR c := rfl
theorem entB_is (r : Eny) : entB r = putB [] r.t.toNat ++ (putB [] r.k.toNat ++ (putB [] (dat r.d).length ++ dat r.d ++ (putL [] (idat r.m) ++ []))) := by
  have : ∀ b, putL b (idat r.m) = b ++ putL [] (idat r.m) := fun b => by rw [putL, putL, putLk_is, putLk_is []]; simp
  rw [entB, this, txB_behind, nmF2]
  simp only [List.append_assoc, List.append_nil]
theorem read_ent {r : Eny} (ho : okN r) (h : (entR r).2 = 0) : isE (entR r).1 = true ∧ entF (entR r).1 = fulE r := by
  have hb : ¬ badE r = true := fun hb => by rw [entR, if_pos hb] at h; cases h
  have hl : ¬ ((dat r.d).length > 4096 ∨ (idat r.m).length > 7) := fun hl => by rw [entR, if_neg hb, if_pos hl] at h; cases h
  have hR : entR r = (entB r, 0) := by rw [entR, if_neg hb, if_neg hl]
  obtain ⟨_, _, o3⟩ := ho
  simp only [badE, inW, Bool.or_eq_true, Bool.not_eq_true', Bool.and_eq_false_iff, decide_eq_false_iff_not, not_or] at hb
  obtain ⟨⟨h1, h2⟩, h3⟩ := hb
  have h3 : neg (idat r.m) = false := Bool.eq_false_iff.2 h3
  have e1 : 0 ≤ r.t ∧ r.t ≤ 9223372036854775807 := by omega
  have e2 : 0 ≤ r.k ∧ r.k ≤ 9223372036854775807 := by omega
  obtain ⟨a1, b1⟩ := rS_put e1 (putB [] r.k.toNat ++ (putB [] (dat r.d).length ++ dat r.d ++ (putL [] (idat r.m) ++ [])))
  obtain ⟨a2, b2⟩ := rS_put e2 (putB [] (dat r.d).length ++ dat r.d ++ (putL [] (idat r.m) ++ []))
  obtain ⟨a3, b3⟩ := tS_put (dat r.d) (putL [] (idat r.m) ++ []) (by omega)
  obtain ⟨a4, b4⟩ := lS_put (idat r.m) [] (m := 7) (by omega) o3 h3 (by omega)
  have hB := entB_is r
  have hf : entF (entB r) = fulE r := by
    rw [entF, e3, q2, q1, hB, a1, a2, a3, b1, b2, b3, b4]
    rfl
  have hq : e4 (entB r) = ([], 0) := by rw [e4, e3, q2, q1, hB, a1, a2, a3, a4]
  rw [hR]
  refine ⟨?_, hf⟩
  rw [isE]
  simp only [hf, hq, entR_ful, hR]
  simp
/-- whether two entries are the same -/
def sameE (c e : Eny) : Bool := decide (c.t = e.t) && (decide (c.k = e.k) && (decide (dat c.d = dat e.d) && decide (idat c.m = idat e.m)))
theorem sameE_self (c : Eny) : sameE c c = true := by simp [sameE]
theorem sameE_ful (c : Eny) : sameE c (fulE c) = true := by simp [sameE, fulE, dat, idat]
/-- what is read is what is written of it -/
theorem take_rS {p : List (BitVec 8) × Int} (h : (rS p).2 = 0) : p.2 = 0 ∧ putB [] (rN p).toNat ++ (rS p).1 = p.1 := by
  obtain ⟨l, e⟩ := p
  by_cases he : e = 0
  · subst he
    simp only [rS, rN, if_true] at h ⊢
    exact ⟨trivial, by rw [Int.toNat_natCast]; exact put_take l (by omega)⟩
  · simp only [rS, if_neg he] at h
    exact absurd h he
theorem take_tS {p : List (BitVec 8) × Int} (h : (tS p).2 = 0) : p.2 = 0 ∧ (tN p).length ≤ 4096 ∧ putB [] (tN p).length ++ tN p ++ (tS p).1 = p.1 := by
  obtain ⟨l, e⟩ := p
  by_cases he : e = 0
  · subst he
    simp only [tS, tN, if_true] at h ⊢
    exact ⟨trivial, put_tt l (by omega)⟩
  · simp only [tS, if_neg he] at h
    exact absurd h he
theorem write_rep {b : List (BitVec 8)} (h : trE b = 0) : (repR (trR b)).2 = 0 ∧ (repR (trR b)).1 ++ trS b = b := by
  have h : (r4 b).2 = 0 := h
  obtain ⟨h3, l4, w4⟩ := take_tS h
  obtain ⟨h2, w3⟩ := take_rS h3
  obtain ⟨h1, w2⟩ := take_rS h2
  obtain ⟨_, w1⟩ := take_rS h1
  have hT : trR b = repF b := by rw [trR, if_pos h]
  have hS : trS b = (r4 b).1 := by rw [trS, if_pos h]
  have n1 := rN_ok (b, 0)
  have n2 := rN_ok (q1 b)
  have n3 := rN_ok (q2 b)
  have hb : ¬ badR (repF b) := fun hb => by
    rcases hb with hb | hb | hb <;> (simp only [repF] at hb; omega)
  rw [hT, hS, repR_is hb l4]
  refine ⟨rfl, ?_⟩
  have w4 : putB [] (dat (repF b).b).length ++ dat (repF b).b ++ (r4 b).1 = (q3 b).1 := w4
  have w3 : putB [] (repF b).m.toNat ++ (q3 b).1 = (q2 b).1 := w3
  have w2 : putB [] (repF b).n.toNat ++ (q2 b).1 = (q1 b).1 := w2
  have w1 : putB [] (repF b).c.toNat ++ (q1 b).1 = b := w1
  simp only [List.append_assoc] at w4 ⊢
  rw [w4, w3, w2, w1]
end Go.Proofs.Ytjnmdphoaafjaaa
