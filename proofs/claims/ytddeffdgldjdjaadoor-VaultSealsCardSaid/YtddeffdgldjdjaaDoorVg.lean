/- The document's next counter, hash, and the counter of a number: what the walks come to. -/
import Derived.Test.YtddeffdgldjdjaaDoorVf
import Derived.Test.YtddeffdgldjdjaaDoorUn
namespace Go.Proofs.YtddeffdgldjdjaaDoor
set_option linter.unusedSimpArgs false
set_option linter.unusedVariables false
set_option linter.defProp false
open Go Go.Abs
open Nat renaming reduceAdd → zaa, reduceSub → zab, reduceMul → zac, reduceLT → zad, reduceLeDiff → zae, reduceEqDiff → zaf, reduceBEq → zag
open BitVec renaming reduceOfInt → zah
open Int renaming reduceLE → zai, reduceLT → zaj, reduceGT → zak, reduceGE → zal, reduceNeg → zam, reduceAdd → zan, reduceSub → zao, reduceMul → zap, reduceToNat → zaq
open Go.Abs renaming bind_go → zar, map_go → zas, wantedV → zat, isWrite → zau, grow → zav, write → zaw, ofV → zax, start → zaz, strip → zba, endQ → zbb, resV → zbc, rawsRes → zbd, rawRes → zbe, exports → zbf, export1 → zbg, isSelf → zbl, convSelf → zbm, convV → zbn, loadV → zbo, storeV → zbp, fieldAddrV → zbq, fieldV → zbr, indexAddrV → zbs, indexV → zbt, partV → zbu, isAggK → zbv, isStr → zbw, place → zbx, lenV → zby, min2V → zbz, makeV → zca, freshSl → zcb, sliceV → zcc, boundOr → zcd, bound → zce, bounds → zcf, cutFl → zcg, copyV → zch, slCells → zci, srcV → zcj, appendV → zck, room → zcl, zerosOf → zcm, eqNeg → zcn, kd → zco, takeR → zcp, hasViewL → zcq, hasView → zcr, freshR → zcs, freshC → zct, snapAll → zcu, snap → zcv, snapL → zcw, flatL → zcx, pureL → zcy, pureA → zcz, fillC → zda, arrOK → zdb, oneA → zdc, partB → zdd, ren1 → zdf, applyW → zdh, useL → zdi, isGen → zdk, startG → zdl
open Go.Abs.AV renaming cells → zay, laid → zde
open Go.Abs.AS renaming grown → zbh, put → zbi, mute → zdj
open Go.Abs.Env renaming know → zbj, boxed → zbk
open Go.Abs.CR renaming gr → zdg
set_option maxHeartbeats 16000000
theorem list16 {l : List (BitVec 8)} (h : l.length = 16) : ∃ a b c d e f g i j k m n o p q r, l = [a, b, c, d, e, f, g, i, j, k, m, n, o, p, q, r] := by
  match l, h with
  | [a, b, c, d, e, f, g, i, j, k, m, n, o, p, q, r], _ => exact ⟨a, b, c, d, e, f, g, i, j, k, m, n, o, p, q, r, rfl⟩
theorem list12 {l : List (BitVec 8)} (h : l.length = 12) : ∃ a b c d e f g i j k m n, l = [a, b, c, d, e, f, g, i, j, k, m, n] := by
  match l, h with
  | [a, b, c, d, e, f, g, i, j, k, m, n], _ => exact ⟨a, b, c, d, e, f, g, i, j, k, m, n, rfl⟩
/-- d bytes from the last one on -/
def nxK (b : List (BitVec 8)) : Nat → List (BitVec 8)
  | 0 => b
  | d + 1 => (nxK b d).set (15 - d) (b.getD (15 - d) 0#8 + 1#8)
theorem nxK_len (b : List (BitVec 8)) (d : Nat) : (nxK b d).length = b.length := by
  induction d with
  | zero => rfl
  | succ d ih => simp [nxK, ih]
theorem nxK_get (b : List (BitVec 8)) : ∀ d i, i + d ≤ 15 → (nxK b d).getD i 0#8 = b.getD i 0#8
  | 0, _, _ => rfl
  | d + 1, i, h => by rw [nxK, getD_set8 (by omega), nxK_get b d i (by omega)]
theorem byteN (n k : Nat) (X : BitVec 8) (hX : n / 2 ^ k % 256 = X.toNat) (hlt : n < 4294967296) : BitVec.ofNat 8 (BitVec.ofNat 32 n >>> k).toNat = X := by
  apply BitVec.eq_of_toNat_eq
  rw [BitVec.toNat_ofNat, BitVec.toNat_ushiftRight, BitVec.toNat_ofNat, Nat.mod_eq_of_lt (show n < 2 ^ 32 by omega), Nat.shiftRight_eq_div_pow]
  exact hX
theorem byteN0 (n : Nat) (X : BitVec 8) (hX : n % 256 = X.toNat) (hlt : n < 4294967296) : BitVec.ofNat 8 (BitVec.ofNat 32 n).toNat = X := by
  apply BitVec.eq_of_toNat_eq
  rw [BitVec.toNat_ofNat, BitVec.toNat_ofNat, Nat.mod_eq_of_lt (show n < 2 ^ 32 by omega)]
  exact hX
/-- a number of four bytes -/
def n4 (p q r s : BitVec 8) : Nat := p.toNat * 16777216 + q.toNat * 65536 + r.toNat * 256 + s.toNat
theorem n4_lt (p q r s : BitVec 8) : n4 p q r s < 4294967296 := by
  have hp := p.isLt
  have hq := q.isLt
  have hr := r.isLt
  have hs := s.isLt
  unfold n4
  omega
theorem n4_3 (p q r s : BitVec 8) : BitVec.ofNat 8 (BitVec.ofNat 32 (n4 p q r s) >>> 24).toNat = p := byteN _ _ _ (by have hp := p.isLt; have hq := q.isLt; have hr := r.isLt; have hs := s.isLt; unfold n4; omega) (n4_lt p q r s)
theorem n4_2 (p q r s : BitVec 8) : BitVec.ofNat 8 (BitVec.ofNat 32 (n4 p q r s) >>> 16).toNat = q := byteN _ _ _ (by have hp := p.isLt; have hq := q.isLt; have hr := r.isLt; have hs := s.isLt; unfold n4; omega) (n4_lt p q r s)
theorem n4_1 (p q r s : BitVec 8) : BitVec.ofNat 8 (BitVec.ofNat 32 (n4 p q r s) >>> 8).toNat = r := byteN _ _ _ (by have hp := p.isLt; have hq := q.isLt; have hr := r.isLt; have hs := s.isLt; unfold n4; omega) (n4_lt p q r s)
theorem n4_0 (p q r s : BitVec 8) : BitVec.ofNat 8 (BitVec.ofNat 32 (n4 p q r s)).toNat = s := byteN0 _ _ (by have hp := p.isLt; have hq := q.isLt; have hr := r.isLt; have hs := s.isLt; unfold n4; omega) (n4_lt p q r s)
theorem num4_nat (p q r s : BitVec 8) : (BitVec.ofNat 32 p.toNat <<< 24 ||| BitVec.ofNat 32 q.toNat <<< 16 ||| BitVec.ofNat 32 r.toNat <<< 8 ||| BitVec.ofNat 32 s.toNat) = BitVec.ofNat 32 (n4 p q r s) := by
  have := num_bytes (BitVec.ofNat 32 (n4 p q r s))
  rw [n4_3, n4_2, n4_1, n4_0] at this
  exact this
theorem add32 (n : Nat) (m : Nat) (h : (n + 1) % 4294967296 = m) : BitVec.ofNat 32 n + 1#32 = BitVec.ofNat 32 m := by
  apply BitVec.eq_of_toNat_eq
  rw [BitVec.toNat_add, BitVec.toNat_ofNat, BitVec.toNat_ofNat, BitVec.toNat_ofNat]
  omega
theorem set4_lit (a0 a1 a2 a3 a4 a5 a6 a7 a8 a9 a10 a11 p q r s : BitVec 8) (n : BitVec 32) (P Q R S : BitVec 8) (h3 : BitVec.ofNat 8 (n >>> 24).toNat = P) (h2 : BitVec.ofNat 8 (n >>> 16).toNat = Q) (h1 : BitVec.ofNat 8 (n >>> 8).toNat = R) (h0 : BitVec.ofNat 8 n.toNat = S) :
    set4 [a0, a1, a2, a3, a4, a5, a6, a7, a8, a9, a10, a11, p, q, r, s] n = [a0, a1, a2, a3, a4, a5, a6, a7, a8, a9, a10, a11, P, Q, R, S] := by
  rw [set4, h3, h2, h1, h0]
  rfl
theorem num4_lit (a0 a1 a2 a3 a4 a5 a6 a7 a8 a9 a10 a11 p q r s : BitVec 8) : num4 [a0, a1, a2, a3, a4, a5, a6, a7, a8, a9, a10, a11, p, q, r, s] = BitVec.ofNat 32 (n4 p q r s) := by
  rw [← num4_nat]
  rfl
theorem set4_next (a0 a1 a2 a3 a4 a5 a6 a7 a8 a9 a10 a11 p q r s : BitVec 8) (P Q R S : BitVec 8) (h : (n4 p q r s + 1) % 4294967296 = n4 P Q R S) :
    nextB [a0, a1, a2, a3, a4, a5, a6, a7, a8, a9, a10, a11, p, q, r, s] = [a0, a1, a2, a3, a4, a5, a6, a7, a8, a9, a10, a11, P, Q, R, S] := by
  rw [nextB, num4_lit, add32 _ _ h]
  exact set4_lit _ _ _ _ _ _ _ _ _ _ _ _ _ _ _ _ _ _ _ _ _ (n4_3 P Q R S) (n4_2 P Q R S) (n4_1 P Q R S) (n4_0 P Q R S)
theorem add1 (x : BitVec 8) : (x + 1#8).toNat = (x.toNat + 1) % 256 := by rw [BitVec.toNat_add]; rfl
/-- how far it is carried -/
theorem next_is {b : List (BitVec 8)} (h : b.length = 16) : ∀ d, d < 4 → (∀ j, j < d → b.getD (15 - j) 0#8 + 1#8 = 0#8) → b.getD (15 - d) 0#8 + 1#8 ≠ 0#8 ∨ d = 3 → nextB b = nxK b (d + 1) := by
  obtain ⟨a0, a1, a2, a3, a4, a5, a6, a7, a8, a9, a10, a11, p, q, r, s, rfl⟩ := list16 h
  have hp := p.isLt
  have hq := q.isLt
  have hr := r.isLt
  have hs := s.isLt
  have z : ∀ x : BitVec 8, x + 1#8 = 0#8 → x.toNat = 255 := fun x h => by
    have := congrArg BitVec.toNat h
    rw [add1] at this
    have hx := x.isLt
    simp at this
    omega
  have nz : ∀ x : BitVec 8, x + 1#8 ≠ 0#8 → x.toNat ≠ 255 := fun x h h2 => h (BitVec.eq_of_toNat_eq (by rw [add1, h2]; rfl))
  intro d hd hz hl
  match d, hd with
  | 0, _ =>
    have n0 := nz s (by rcases hl with h | h; · exact h
                        · omega)
    exact set4_next _ _ _ _ _ _ _ _ _ _ _ _ _ _ _ _ p q r (s + 1#8) (by simp only [n4, add1]; omega)
  | 1, _ =>
    have z0 := z s (hz 0 (by omega))
    have n0 := nz r (by rcases hl with h | h; · exact h
                        · omega)
    exact set4_next _ _ _ _ _ _ _ _ _ _ _ _ _ _ _ _ p q (r + 1#8) (s + 1#8) (by simp only [n4, add1, add1]; omega)
  | 2, _ =>
    have z0 := z s (hz 0 (by omega))
    have z1 := z r (hz 1 (by omega))
    have n0 := nz q (by rcases hl with h | h; · exact h
                        · omega)
    exact set4_next _ _ _ _ _ _ _ _ _ _ _ _ _ _ _ _ p (q + 1#8) (r + 1#8) (s + 1#8) (by simp only [n4, add1, add1, add1]; omega)
  | 3, _ =>
    have z0 := z s (hz 0 (by omega))
    have z1 := z r (hz 1 (by omega))
    have z2 := z q (hz 2 (by omega))
    exact set4_next _ _ _ _ _ _ _ _ _ _ _ _ _ _ _ _ (p + 1#8) (q + 1#8) (r + 1#8) (s + 1#8) (by simp only [n4, add1, add1, add1, add1]; omega)
def pf127 : List AV → Option AV
  | [v] => (agg? .u8 8 16 v).bind fun b => some (.agg (nums .u8 (nextB b)))
  | _ => none
theorem u8_nzb {x : BitVec 8} (h : x ≠ 0#8) : ((x.toNat : Int) != 0) = true := by
  rw [bne_iff_ne]
  intro h2
  exact h (BitVec.eq_of_toNat_eq (by show x.toNat = 0; omega))
theorem u8_zb {x : BitVec 8} (h : x = 0#8) : ((x.toNat : Int) != 0) = false := by rw [h]; rfl
def tbVg0 := (And.intro (And.intro (And.intro @teE @E0_te) (And.intro @E0_glob @E0_gs)) (And.intro (And.intro @E0_dyn @E0_mu) (And.intro @nums_strip @nums_set8)))
theorem sound127 : SoundV Tryd.prog glob 127 pf127 := by
  refine SoundV.walk E0 ok0 mixed Tryd.func127 rfl Tryd.call127 (by kernel_rfl) ?_
  intro args r hr
  unfold pf127 at hr
  split at hr
  · simp only [Option.bind_eq_some_iff] at hr
    obtain ⟨b, h1, hr⟩ := hr
    obtain ⟨rfl, hb⟩ := agg?_of h1
    cases hr
    rw [Tryd.ntmps127, Tryd.results127]
    refine ⟨by simp, ?_⟩
    simp (maxSteps := 1000000) (disch := first | omega | (simp only [nxK_len, lnB] <;> omega) | fail) only [ev0, ev1, ev2, ev3, ↓reduceIte, reduceCtorEq, zaa, zab, zac, zad, zae, zaf, zag, zah, zai, zaj, zak, zal, zam, zan, zao, zap, zaq, ↓zar, ↓zas, zat, zau, zav, zaw, zax, zay, zaz, zba, zbb, zbc, zbd, zbe, zbf, zbg, zbh, zbi, zbj, zbk, zbl, zbm, zbn, zbo, zbp, zbq, zbr, zbs, zbt, zbu, zbv, zbw, zbx, zby, zbz, zca, zcb, zcc, zcd, zce, zcf, zcg, zch, zci, zcj, zck, zcl, zcm, zcn, zco, zcp, zcq, zcr, zcs, zct, zcu, zcv, zcw, zcx, zcy, zcz, zda, zdb, zdc, zdd, zde, zdf, zdg, zdh, zdi, zdj, zdk, zdl, ev5, tbVg0, glob, Nat.reduceMod, hb]
    refine loopQ_of (fun n σ => ∃ d, d ≤ 4 ∧ n = 4 - d ∧ σ.slots 3 = .raw (.int .i64 (15 - (d : Int))) ∧ σ.slots 1 = .ptr (.own 0 1 1) 0 ∧ σ.slots 2 = .ptr (.own 0 2 1) 0 ∧ σ.box (.own 0 1 1) = some (nums .u8 (nxK b d)) ∧ σ.box (.own 0 2 1) = some (nums .u8 (List.replicate 16 0#8)) ∧ ∀ j, j < d → b.getD (15 - j) 0#8 + 1#8 = 0#8) 4 ?_ ?_
    · refine ⟨0, by omega, by omega, ?_⟩
      simp (maxSteps := 1000000) (disch := first | omega | (simp only [nxK_len, lnB] <;> omega) | fail) only [ev0, ev1, ev2, ev3, ↓reduceIte, reduceCtorEq, zaa, zab, zac, zad, zae, zaf, zag, zah, zai, zaj, zak, zal, zam, zan, zao, zap, zaq, ↓zar, ↓zas, zat, zau, zav, zaw, zax, zay, zaz, zba, zbb, zbc, zbd, zbe, zbf, zbg, zbh, zbi, zbj, zbk, zbl, zbm, zbn, zbo, zbp, zbq, zbr, zbs, zbt, zbu, zbv, zbw, zbx, zby, zbz, zca, zcb, zcc, zcd, zce, zcf, zcg, zch, zci, zcj, zck, zcl, zcm, zcn, zco, zcp, zcq, zcr, zcs, zct, zcu, zcv, zcw, zcx, zcy, zcz, zda, zdb, zdc, zdd, zde, zdf, zdg, zdh, zdi, zdj, zdk, zdl, ev5, tbVg0, glob, Nat.reduceMod, hb]
      exact ⟨rfl, rfl, fun j hj => absurd hj (Nat.not_lt_zero _)⟩
    · rintro n ⟨sl, gn, bx', us⟩ ⟨d, hd, rfl, s3, s1, s2, b1, b2, hz⟩
      dsimp only at s3 s1 s2 b1 b2 hz
      have lN := (nxK_len b d).trans hb
      have hN : nxK b (d + 1) = (nxK b d).set (15 - d) (b.getD (15 - d) 0#8 + 1#8) := rfl
      have t0 : (15 - (d : Int)).toNat = 15 - d := by omega
      by_cases hlt : d < 4
      · have hG := nxK_get b d (15 - d) (by omega)
        generalize hy : nxK b d = y at b1 lN hN hG
        have e0 : decide (15 - (d : Int) ≥ 12) = true := decide_eq_true (by omega)
        by_cases hc : b.getD (15 - d) 0#8 + 1#8 = 0#8
        · have e1 := u8_zb hc
          have g2 : (y.set (15 - d) (b.getD (15 - d) 0#8 + 1#8)).getD (15 - d) 0#8 = b.getD (15 - d) 0#8 + 1#8 := by
            rw [List.getD_eq_getElem?_getD, List.getElem?_set_self (by omega)]; rfl
          simp (maxSteps := 1000000) (disch := first | omega | (simp only [nxK_len, lnB] <;> omega) | fail) only [ev0, ev1, ev2, ev3, ↓reduceIte, reduceCtorEq, zaa, zab, zac, zad, zae, zaf, zag, zah, zai, zaj, zak, zal, zam, zan, zao, zap, zaq, ↓zar, ↓zas, zat, zau, zav, zaw, zax, zay, zaz, zba, zbb, zbc, zbd, zbe, zbf, zbg, zbh, zbi, zbj, zbk, zbl, zbm, zbn, zbo, zbp, zbq, zbr, zbs, zbt, zbu, zbv, zbw, zbx, zby, zbz, zca, zcb, zcc, zcd, zce, zcf, zcg, zch, zci, zcj, zck, zcl, zcm, zcn, zco, zcp, zcq, zcr, zcs, zct, zcu, zcv, zcw, zcx, zcy, zcz, zda, zdb, zdc, zdd, zde, zdf, zdg, zdh, zdi, zdj, zdk, zdl, ev5, tbVg0, glob, Nat.reduceMod, s3, s1, s2, b1, b2, lN, t0, e0, hG, g2, e1]
          refine ⟨4 - (d + 1), by omega, d + 1, by omega, rfl, i64_eq (by omega), ?_, fun j hj => ?_⟩
          · rw [hN]
          · by_cases ej : j = d
            · rw [ej]; exact hc
            · exact hz j (by omega)
        · have e1 := u8_nzb hc
          have hF := next_is hb d hlt hz (.inl hc)
          rw [hN] at hF
          have g2 : (y.set (15 - d) (b.getD (15 - d) 0#8 + 1#8)).getD (15 - d) 0#8 = b.getD (15 - d) 0#8 + 1#8 := by
            rw [List.getD_eq_getElem?_getD, List.getElem?_set_self (by omega)]; rfl
          rw [hF]
          simp (maxSteps := 1000000) (disch := first | omega | (simp only [nxK_len, lnB] <;> omega) | fail) only [ev0, ev1, ev2, ev3, ↓reduceIte, reduceCtorEq, zaa, zab, zac, zad, zae, zaf, zag, zah, zai, zaj, zak, zal, zam, zan, zao, zap, zaq, ↓zar, ↓zas, zat, zau, zav, zaw, zax, zay, zaz, zba, zbb, zbc, zbd, zbe, zbf, zbg, zbh, zbi, zbj, zbk, zbl, zbm, zbn, zbo, zbp, zbq, zbr, zbs, zbt, zbu, zbv, zbw, zbx, zby, zbz, zca, zcb, zcc, zcd, zce, zcf, zcg, zch, zci, zcj, zck, zcl, zcm, zcn, zco, zcp, zcq, zcr, zcs, zct, zcu, zcv, zcw, zcx, zcy, zcz, zda, zdb, zdc, zdd, zde, zdf, zdg, zdh, zdi, zdj, zdk, zdl, ev5, tbVg0, glob, Nat.reduceMod, s3, s1, s2, b1, b2, lN, t0, e0, hG, g2, e1]
          exact ResQ.same rfl
      · have hd : d = 4 := by omega
        subst hd
        have hF := next_is hb 3 (by omega) (fun j hj => hz j (by omega)) (.inr rfl)
        generalize hy : nxK b 4 = y at b1 lN hF
        rw [hF]
        have e0 : decide (15 - ((4 : Nat) : Int) ≥ 12) = false := rfl
        simp (maxSteps := 1000000) (disch := first | omega | (simp only [nxK_len, lnB] <;> omega) | fail) only [ev0, ev1, ev2, ev3, ↓reduceIte, reduceCtorEq, zaa, zab, zac, zad, zae, zaf, zag, zah, zai, zaj, zak, zal, zam, zan, zao, zap, zaq, ↓zar, ↓zas, zat, zau, zav, zaw, zax, zay, zaz, zba, zbb, zbc, zbd, zbe, zbf, zbg, zbh, zbi, zbj, zbk, zbl, zbm, zbn, zbo, zbp, zbq, zbr, zbs, zbt, zbu, zbv, zbw, zbx, zby, zbz, zca, zcb, zcc, zcd, zce, zcf, zcg, zch, zci, zcj, zck, zcl, zcm, zcn, zco, zcp, zcq, zcr, zcs, zct, zcu, zcv, zcw, zcx, zcy, zcz, zda, zdb, zdc, zdd, zde, zdf, zdg, zdh, zdi, zdj, zdk, zdl, ev5, tbVg0, glob, Nat.reduceMod, s3, s1, s2, b1, b2, lN, t0, e0]
        exact ResQ.same rfl
  · cases hr
def pf125 : List AV → Option AV
  | [v, w] => (agg? .u8 8 12 v).bind fun n => (num? .u32 32 w).bind fun c => some (.agg (nums .u8 (ctrB n c)))
  | _ => none
set_option maxRecDepth 20000 in
theorem sound125 : SoundV Tryd.prog glob 125 pf125 := by
  refine SoundV.walkY E0 [(0, 13), (2, 5)] ok0 mixed Tryd.func125 rfl Tryd.call125 (by kernel_rfl) ?_
  intro args r hr
  unfold pf125 at hr
  split at hr
  · simp only [Option.bind_eq_some_iff] at hr
    obtain ⟨n, h1, c, h2, hr⟩ := hr
    obtain ⟨rfl, hn⟩ := agg?_of h1
    cases hr
    rw [num?_of h2, Tryd.ntmps125, Tryd.results125]
    refine ⟨by simp, ?_⟩
    simp (maxSteps := 1000000) (disch := first | omega | (simp only [nxK_len, lnB] <;> omega) | fail) only [ev0, ev1, ev2, ev3, ↓reduceIte, reduceCtorEq, zaa, zab, zac, zad, zae, zaf, zag, zah, zai, zaj, zak, zal, zam, zan, zao, zap, zaq, ↓zar, ↓zas, zat, zau, zav, zaw, zax, zay, zaz, zba, zbb, zbc, zbd, zbe, zbf, zbg, zbh, zbi, zbj, zbk, zbl, zbm, zbn, zbo, zbp, zbq, zbr, zbs, zbt, zbu, zbv, zbw, zbx, zby, zbz, zca, zcb, zcc, zcd, zce, zcf, zcg, zch, zci, zcj, zck, zcl, zcm, zcn, zco, zcp, zcq, zcr, zcs, zct, zcu, zcv, zcw, zcx, zcy, zcz, zda, zdb, zdc, zdd, zde, zdf, zdg, zdh, zdi, zdj, zdk, zdl, ev5, teE, evY, E0_te, E0_glob, E0_gs, E0_dyn, E0_mu, nums_strip, nums_set8, glob, Nat.reduceMod, BitVec.ushiftRight_zero, hn]
    obtain ⟨a0, a1, a2, a3, a4, a5, a6, a7, a8, a9, a10, a11, rfl⟩ := list12 hn
    exact ResQ.same rfl
  · cases hr
noncomputable def EH : Env := (E0.know 130 pf130).know 153 pf153
theorem okH : EnvOK Tryd.prog EH := (ok0.know sound130).know sound153
theorem EH_te : EH.te = te := rfl
theorem EH_glob : EH.glob = glob := rfl
theorem EH_gs : EH.gs = [] := rfl
theorem EH_dyn : EH.dyn = false := rfl
theorem EH_mu (d : Nat) : EH.mu d = false := rfl
theorem EH_x : EH.tbl 130 = some (.val pf130) := rfl
theorem EH_m : EH.tbl 153 = some (.val pf153) := rfl
theorem xor3_at {a b : List (BitVec 8)} (h : a.length = 16) (h' : b.length = 16) : pf130 [.agg (nums .u8 a), .agg (nums .u8 b)] = some (.agg (nums .u8 (xorB a b))) := by
  simp only [pf130, agg?_at h, agg?_at h', Option.bind_some]
theorem mul3_at {a b : List (BitVec 8)} (h : a.length = 16) (h' : b.length = 16) : pf153 [.agg (nums .u8 a), .agg (nums .u8 b)] = some (.agg (nums .u8 (mulB a b))) := by
  simp only [pf153, agg?_at h, agg?_at h', Option.bind_some]
/-- the first k bytes, and noughts -/
def fiK (b : List (BitVec 8)) (i : Nat) : Nat → List (BitVec 8)
  | 0 => List.replicate 16 0#8
  | k + 1 => (fiK b i k).set k (b.getD (i + k) 0#8)
theorem fiK_len (b : List (BitVec 8)) (i k : Nat) : (fiK b i k).length = 16 := by
  induction k with
  | zero => rfl
  | succ k ih => simp [fiK, ih]
theorem fiK_get (b : List (BitVec 8)) (i : Nat) : ∀ k, k ≤ 16 → ∀ j, j < 16 → (fiK b i k).getD j 0#8 = if j < k then b.getD (i + j) 0#8 else 0#8
  | 0, _, j, hj => by
    rw [fiK, if_neg (by omega), List.getD_eq_getElem?_getD, List.getElem?_replicate, if_pos hj]; rfl
  | k + 1, hk, j, hj => by
    rw [fiK, List.getD_eq_getElem?_getD]
    by_cases e : k = j
    · subst e
      rw [List.getElem?_set_self (by rw [fiK_len]; omega), if_pos (by omega)]; rfl
    · rw [List.getElem?_set_ne e, ← List.getD_eq_getElem?_getD, fiK_get b i k (by omega) j hj]
      by_cases h : j < k
      · rw [if_pos h, if_pos (by omega)]
      · rw [if_neg h, if_neg (by omega)]
theorem fiK_pad {b : List (BitVec 8)} {i k : Nat} (hk : k ≤ 16) (h : k = 16 ∨ b.length ≤ i + k) (hi : i ≤ b.length) (hki : i + k ≤ b.length ∨ k = 0) : fiK b i k = padX (b.drop i) := by
  apply List.ext_getElem (by rw [fiK_len, padX_len])
  intro j h1 h2
  rw [fiK_len] at h1
  have := fiK_get b i k hk j h1
  rw [List.getD_eq_getElem?_getD, List.getElem?_eq_getElem (by rw [fiK_len]; omega), Option.getD_some] at this
  rw [this]
  have hm : min (b.drop i).length 16 = k := by rw [List.length_drop]; omega
  have hq : padX (b.drop i) = (b.drop i).take k ++ List.replicate (16 - min k (b.drop i).length) 0#8 := by rw [padX, hm]
  have e : (padX (b.drop i))[j]? = some (padX (b.drop i))[j] := List.getElem?_eq_getElem h2
  generalize (padX (b.drop i))[j] = z at e ⊢
  rw [hq] at e
  by_cases hj : j < k
  · rw [List.getElem?_append_left (by rw [List.length_take, List.length_drop]; omega), List.getElem?_take_of_lt hj, List.getElem?_drop] at e
    rw [if_pos hj, List.getD_eq_getElem?_getD, e]
    rfl
  · rw [List.getElem?_append_right (by rw [List.length_take, List.length_drop]; omega), List.getElem?_replicate] at e
    rw [if_neg hj]
    split at e
    · exact Option.some.inj e
    · cases e
def pf131 : List AV → Option AV
  | [v, w] => (agg? .u8 8 16 v).bind fun h => (row? .u8 8 w).bind fun b => if b.length ≤ 1000000 then some (.agg (nums .u8 (hashB h b))) else none
  | _ => none
def tbVg2 := (And.intro (And.intro (And.intro @teE (And.intro @EH_te @EH_glob)) (And.intro (And.intro @EH_gs @EH_dyn) (And.intro @EH_mu @EH_x))) (And.intro (And.intro (And.intro @EH_m @xor3_at) (And.intro @mul3_at @mulB_len)) (And.intro (And.intro @padX_len @hashK_len) (And.intro @nums_strip @nums_set8))))
theorem sound131 : SoundV Tryd.prog glob 131 pf131 := by
  refine SoundV.walk EH okH mixed Tryd.func131 rfl Tryd.call131 (by kernel_rfl) ?_
  intro args r hr
  unfold pf131 at hr
  split at hr
  · rename_i v w
    simp only [Option.bind_eq_some_iff] at hr
    obtain ⟨h, h1, b, h2, hr⟩ := hr
    split at hr
    · rename_i hc
      cases hr
      obtain ⟨rfl, hh⟩ := agg?_of h1
      obtain ⟨fl, rfl⟩ := row?_of h2
      rw [Tryd.ntmps131, Tryd.results131]
      refine ⟨by simp, ?_⟩
      simp (maxSteps := 1000000) (disch := first | omega | (simp only [xorB_len', padX_len, hashK_len, mulB_len, fiK_len, lnB] <;> omega) | fail) only [ev0, ev1, ev2, ev3, ↓reduceIte, reduceCtorEq, zaa, zab, zac, zad, zae, zaf, zag, zah, zai, zaj, zak, zal, zam, zan, zao, zap, zaq, ↓zar, ↓zas, zat, zau, zav, zaw, zax, zay, zaz, zba, zbb, zbc, zbd, zbe, zbf, zbg, zbh, zbi, zbj, zbk, zbl, zbm, zbn, zbo, zbp, zbq, zbr, zbs, zbt, zbu, zbv, zbw, zbx, zby, zbz, zca, zcb, zcc, zcd, zce, zcf, zcg, zch, zci, zcj, zck, zcl, zcm, zcn, zco, zcp, zcq, zcr, zcs, zct, zcu, zcv, zcw, zcx, zcy, zcz, zda, zdb, zdc, zdd, zde, zdf, zdg, zdh, zdi, zdj, zdk, zdl, ev5, tbVg2, glob, Nat.reduceMod, hh]
      refine loopQ_of (fun n σ => ∃ j, 16 * j ≤ b.length + 15 ∧ n = b.length + 16 - 16 * j ∧ σ.slots 6 = .raw (.int .i64 (16 * (j : Int))) ∧ σ.slots 1 = .sl b.length (nums .u8 b) .bor ∧ σ.slots 2 = .ptr (.own 0 2 1) 0 ∧ σ.slots 4 = .ptr (.own 0 4 1) 0 ∧ σ.slots 5 = .ptr (.own 0 5 1) 0 ∧ σ.box (.own 0 2 1) = some (nums .u8 h) ∧ σ.box (.own 0 5 1) = some (nums .u8 (hashK h b j)) ∧ σ.box (.own 0 4 1) = some (nums .u8 (List.replicate 16 0#8))) (b.length + 16) ?_ ?_
      · refine ⟨0, by omega, by omega, ?_⟩
        simp (maxSteps := 1000000) (disch := first | omega | (simp only [xorB_len', padX_len, hashK_len, mulB_len, fiK_len, lnB] <;> omega) | fail) only [ev0, ev1, ev2, ev3, ↓reduceIte, reduceCtorEq, zaa, zab, zac, zad, zae, zaf, zag, zah, zai, zaj, zak, zal, zam, zan, zao, zap, zaq, ↓zar, ↓zas, zat, zau, zav, zaw, zax, zay, zaz, zba, zbb, zbc, zbd, zbe, zbf, zbg, zbh, zbi, zbj, zbk, zbl, zbm, zbn, zbo, zbp, zbq, zbr, zbs, zbt, zbu, zbv, zbw, zbx, zby, zbz, zca, zcb, zcc, zcd, zce, zcf, zcg, zch, zci, zcj, zck, zcl, zcm, zcn, zco, zcp, zcq, zcr, zcs, zct, zcu, zcv, zcw, zcx, zcy, zcz, zda, zdb, zdc, zdd, zde, zdf, zdg, zdh, zdi, zdj, zdk, zdl, ev5, tbVg2, glob, Nat.reduceMod, hh]
        refine ⟨i64_eq (by omega), ?_⟩
        repeat' first | exact rfl | refine ⟨?_, ?_⟩
      · rintro n ⟨sl, gn, bx, us⟩ ⟨j, hj, rfl, s6, s1, s2, s4, s5, b2, b5, b4⟩
        dsimp only at s6 s1 s2 s4 s5 b2 b5 b4
        have lH := hashK_len h b j
        have hN : hashK h b (j + 1) = mulB (xorB (hashK h b j) (padX (b.drop (16 * j)))) h := rfl
        generalize hy : hashK h b j = y at b5 lH hN
        simp (maxSteps := 1000000) (disch := first | omega | (simp only [xorB_len', padX_len, hashK_len, mulB_len, fiK_len, lnB] <;> omega) | fail) only [ev0, ev1, ev2, ev3, ↓reduceIte, reduceCtorEq, zaa, zab, zac, zad, zae, zaf, zag, zah, zai, zaj, zak, zal, zam, zan, zao, zap, zaq, ↓zar, ↓zas, zat, zau, zav, zaw, zax, zay, zaz, zba, zbb, zbc, zbd, zbe, zbf, zbg, zbh, zbi, zbj, zbk, zbl, zbm, zbn, zbo, zbp, zbq, zbr, zbs, zbt, zbu, zbv, zbw, zbx, zby, zbz, zca, zcb, zcc, zcd, zce, zcf, zcg, zch, zci, zcj, zck, zcl, zcm, zcn, zco, zcp, zcq, zcr, zcs, zct, zcu, zcv, zcw, zcx, zcy, zcz, zda, zdb, zdc, zdd, zde, zdf, zdg, zdh, zdi, zdj, zdk, zdl, ev5, tbVg2, glob, Nat.reduceMod, s6, s1, s2, s4, s5, b2, b5, b4, lH, hh]
        refine condQ_dec (fun hlt => ?_) (fun hge => ?_)
        · have hlt : 16 * j < b.length := by omega
          simp (maxSteps := 1000000) (disch := first | omega | (simp only [xorB_len', padX_len, hashK_len, mulB_len, fiK_len, lnB] <;> omega) | fail) only [ev0, ev1, ev2, ev3, ↓reduceIte, reduceCtorEq, zaa, zab, zac, zad, zae, zaf, zag, zah, zai, zaj, zak, zal, zam, zan, zao, zap, zaq, ↓zar, ↓zas, zat, zau, zav, zaw, zax, zay, zaz, zba, zbb, zbc, zbd, zbe, zbf, zbg, zbh, zbi, zbj, zbk, zbl, zbm, zbn, zbo, zbp, zbq, zbr, zbs, zbt, zbu, zbv, zbw, zbx, zby, zbz, zca, zcb, zcc, zcd, zce, zcf, zcg, zch, zci, zcj, zck, zcl, zcm, zcn, zco, zcp, zcq, zcr, zcs, zct, zcu, zcv, zcw, zcx, zcy, zcz, zda, zdb, zdc, zdd, zde, zdf, zdg, zdh, zdi, zdj, zdk, zdl, ev5, tbVg2, glob, Nat.reduceMod, s6, s1, s2, s4, s5, b2, b5, b4, lH, hh]
          refine loopQ_of (fun n σ => ∃ k, k ≤ 16 ∧ 16 * j + k ≤ b.length ∧ n = 16 - k ∧ σ.slots 8 = .raw (.int .i64 (k : Int)) ∧ σ.slots 6 = .raw (.int .i64 (16 * (j : Int))) ∧ σ.slots 1 = .sl b.length (nums .u8 b) .bor ∧ σ.slots 2 = .ptr (.own 0 2 1) 0 ∧ σ.slots 4 = .ptr (.own 0 4 1) 0 ∧ σ.slots 5 = .ptr (.own 0 5 1) 0 ∧ (∃ g, σ.slots 7 = .ptr (.own 0 7 g) 0 ∧ σ.box (.own 0 7 g) = some (nums .u8 (fiK b (16 * j) k))) ∧ σ.box (.own 0 2 1) = some (nums .u8 h) ∧ σ.box (.own 0 5 1) = some (nums .u8 y) ∧ σ.box (.own 0 4 1) = some (nums .u8 (List.replicate 16 0#8))) 16 ?_ ?_
          · refine ⟨0, by omega, by omega, by omega, ?_⟩
            simp (maxSteps := 1000000) (disch := first | omega | (simp only [xorB_len', padX_len, hashK_len, mulB_len, fiK_len, lnB] <;> omega) | fail) only [ev0, ev1, ev2, ev3, ↓reduceIte, reduceCtorEq, zaa, zab, zac, zad, zae, zaf, zag, zah, zai, zaj, zak, zal, zam, zan, zao, zap, zaq, ↓zar, ↓zas, zat, zau, zav, zaw, zax, zay, zaz, zba, zbb, zbc, zbd, zbe, zbf, zbg, zbh, zbi, zbj, zbk, zbl, zbm, zbn, zbo, zbp, zbq, zbr, zbs, zbt, zbu, zbv, zbw, zbx, zby, zbz, zca, zcb, zcc, zcd, zce, zcf, zcg, zch, zci, zcj, zck, zcl, zcm, zcn, zco, zcp, zcq, zcr, zcs, zct, zcu, zcv, zcw, zcx, zcy, zcz, zda, zdb, zdc, zdd, zde, zdf, zdg, zdh, zdi, zdj, zdk, zdl, ev5, tbVg2, glob, Nat.reduceMod, s6, s1, s2, s4, s5, b2, b5, b4, lH, hh]
            refine ⟨rfl, gn 7 + 1, rfl, ?_⟩
            rw [if_pos rfl]
            rfl
          · rintro n ⟨sl, gn, bx, us⟩ ⟨k, hk, hkb, rfl, s8, s6, s1, s2, s4, s5, ⟨g, s7, b7⟩, b2, b5, b4⟩
            dsimp only at s8 s6 s1 s2 s4 s5 s7 b7 b2 b5 b4
            have lF := fiK_len b (16 * j) k
            have hF : fiK b (16 * j) (k + 1) = (fiK b (16 * j) k).set k (b.getD (16 * j + k) 0#8) := rfl
            by_cases hgo : k < 16 ∧ 16 * j + k < b.length
            · have e1 : decide ((k : Int) < 16) = true := decide_eq_true (by omega)
              have e2 : decide (16 * (j : Int) + (k : Int) < (b.length : Int)) = true := decide_eq_true (by omega)
              generalize hx : fiK b (16 * j) k = x at b7 lF hF
              simp (maxSteps := 1000000) (disch := first | omega | (simp only [xorB_len', padX_len, hashK_len, mulB_len, fiK_len, lnB] <;> omega) | fail) only [ev0, ev1, ev2, ev3, ↓reduceIte, reduceCtorEq, zaa, zab, zac, zad, zae, zaf, zag, zah, zai, zaj, zak, zal, zam, zan, zao, zap, zaq, ↓zar, ↓zas, zat, zau, zav, zaw, zax, zay, zaz, zba, zbb, zbc, zbd, zbe, zbf, zbg, zbh, zbi, zbj, zbk, zbl, zbm, zbn, zbo, zbp, zbq, zbr, zbs, zbt, zbu, zbv, zbw, zbx, zby, zbz, zca, zcb, zcc, zcd, zce, zcf, zcg, zch, zci, zcj, zck, zcl, zcm, zcn, zco, zcp, zcq, zcr, zcs, zct, zcu, zcv, zcw, zcx, zcy, zcz, zda, zdb, zdc, zdd, zde, zdf, zdg, zdh, zdi, zdj, zdk, zdl, ev5, tbVg2, glob, Nat.reduceMod, s8, s6, s1, s2, s4, s5, s7, b7, b2, b5, b4, lH, hh, lF, e1, e2]
              refine ⟨16 - (k + 1), by omega, k + 1, by omega, by omega, rfl, rfl, g, rfl, ?_⟩
              rw [if_pos rfl, hF]
            · have hP := fiK_pad (b := b) (i := 16 * j) hk (by omega) (by omega) (by omega)
              have lP := padX_len (b.drop (16 * j))
              rw [hP] at b7
              have e3 : (16 * (j : Int) + 16) = 16 * ((j + 1 : Nat) : Int) := by omega
              by_cases hk16 : k < 16
              · have e1 : decide ((k : Int) < 16) = true := decide_eq_true (by omega)
                have e2 : decide (16 * (j : Int) + (k : Int) < (b.length : Int)) = false := decide_eq_false (by omega)
                simp (maxSteps := 1000000) (disch := first | omega | (simp only [xorB_len', padX_len, hashK_len, mulB_len, fiK_len, lnB] <;> omega) | fail) only [ev0, ev1, ev2, ev3, ↓reduceIte, reduceCtorEq, zaa, zab, zac, zad, zae, zaf, zag, zah, zai, zaj, zak, zal, zam, zan, zao, zap, zaq, ↓zar, ↓zas, zat, zau, zav, zaw, zax, zay, zaz, zba, zbb, zbc, zbd, zbe, zbf, zbg, zbh, zbi, zbj, zbk, zbl, zbm, zbn, zbo, zbp, zbq, zbr, zbs, zbt, zbu, zbv, zbw, zbx, zby, zbz, zca, zcb, zcc, zcd, zce, zcf, zcg, zch, zci, zcj, zck, zcl, zcm, zcn, zco, zcp, zcq, zcr, zcs, zct, zcu, zcv, zcw, zcx, zcy, zcz, zda, zdb, zdc, zdd, zde, zdf, zdg, zdh, zdi, zdj, zdk, zdl, ev5, tbVg2, glob, Nat.reduceMod, s8, s6, s1, s2, s4, s5, s7, b7, b2, b5, b4, lH, hh, lP, e1, e2]
                refine ⟨b.length + 16 - 16 * (j + 1), by omega, j + 1, by omega, rfl, i64_eq e3, ?_⟩
                rw [hN]
              · have e1 : decide ((k : Int) < 16) = false := decide_eq_false (by omega)
                simp (maxSteps := 1000000) (disch := first | omega | (simp only [xorB_len', padX_len, hashK_len, mulB_len, fiK_len, lnB] <;> omega) | fail) only [ev0, ev1, ev2, ev3, ↓reduceIte, reduceCtorEq, zaa, zab, zac, zad, zae, zaf, zag, zah, zai, zaj, zak, zal, zam, zan, zao, zap, zaq, ↓zar, ↓zas, zat, zau, zav, zaw, zax, zay, zaz, zba, zbb, zbc, zbd, zbe, zbf, zbg, zbh, zbi, zbj, zbk, zbl, zbm, zbn, zbo, zbp, zbq, zbr, zbs, zbt, zbu, zbv, zbw, zbx, zby, zbz, zca, zcb, zcc, zcd, zce, zcf, zcg, zch, zci, zcj, zck, zcl, zcm, zcn, zco, zcp, zcq, zcr, zcs, zct, zcu, zcv, zcw, zcx, zcy, zcz, zda, zdb, zdc, zdd, zde, zdf, zdg, zdh, zdi, zdj, zdk, zdl, ev5, tbVg2, glob, Nat.reduceMod, s8, s6, s1, s2, s4, s5, s7, b7, b2, b5, b4, lH, hh, lP, e1]
                refine ⟨b.length + 16 - 16 * (j + 1), by omega, j + 1, by omega, rfl, i64_eq e3, ?_⟩
                rw [hN]
        · have hz : (b.length + 15) / 16 = j := by omega
          have hF : hashB h b = y := by rw [hashB, hz, hy]
          rw [hF]
          simp (maxSteps := 1000000) (disch := first | omega | (simp only [xorB_len', padX_len, hashK_len, mulB_len, fiK_len, lnB] <;> omega) | fail) only [ev0, ev1, ev2, ev3, ↓reduceIte, reduceCtorEq, zaa, zab, zac, zad, zae, zaf, zag, zah, zai, zaj, zak, zal, zam, zan, zao, zap, zaq, ↓zar, ↓zas, zat, zau, zav, zaw, zax, zay, zaz, zba, zbb, zbc, zbd, zbe, zbf, zbg, zbh, zbi, zbj, zbk, zbl, zbm, zbn, zbo, zbp, zbq, zbr, zbs, zbt, zbu, zbv, zbw, zbx, zby, zbz, zca, zcb, zcc, zcd, zce, zcf, zcg, zch, zci, zcj, zck, zcl, zcm, zcn, zco, zcp, zcq, zcr, zcs, zct, zcu, zcv, zcw, zcx, zcy, zcz, zda, zdb, zdc, zdd, zde, zdf, zdg, zdh, zdi, zdj, zdk, zdl, ev5, tbVg2, glob, Nat.reduceMod, s6, s1, s2, s4, s5, b2, b5, b4, lH, hh]
          exact ResQ.same rfl
    · cases hr
  · cases hr
end Go.Proofs.YtddeffdgldjdjaaDoor
