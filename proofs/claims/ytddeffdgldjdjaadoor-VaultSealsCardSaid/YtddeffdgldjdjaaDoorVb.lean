/- The document's bytes: the product, the other factor of 1, the box: what the walks come to. -/
import Derived.Test.YtddeffdgldjdjaaDoorUd
namespace Go.Proofs.YtddeffdgldjdjaaDoor
set_option linter.unusedSimpArgs false
set_option linter.unusedVariables false
set_option linter.defProp false
open Go Go.Abs
open Nat renaming reduceAdd → zaa, reduceSub → zab, reduceMul → zac, reduceLT → zad, reduceLeDiff → zae, reduceEqDiff → zaf, reduceBEq → zag
open BitVec renaming reduceOfInt → zah
open Int renaming reduceLE → zai, reduceLT → zaj, reduceGT → zak, reduceGE → zal, reduceNeg → zam, reduceAdd → zan, reduceSub → zao, reduceMul → zap, reduceToNat → zaq
open Go.Abs renaming bind_go → zar, map_go → zas, wantedV → zat, isWrite → zau, grow → zav, write → zaw, ofV → zax, start → zaz, strip → zba, endQ → zbb, resV → zbc, rawsRes → zbd, rawRes → zbe, exports → zbf, export1 → zbg, isSelf → zbl, convSelf → zbm, convV → zbn, loadV → zbo, storeV → zbp, fieldAddrV → zbq, fieldV → zbr, indexAddrV → zbs, indexV → zbt, partV → zbu, isAggK → zbv, isStr → zbw, place → zbx, lenV → zby, min2V → zbz, makeV → zca, freshSl → zcb, sliceV → zcc, boundOr → zcd, bound → zce, bounds → zcf, cutFl → zcg, copyV → zch, slCells → zci, srcV → zcj, appendV → zck, room → zcl, zerosOf → zcm, eqNeg → zcn, kd → zco, takeR → zcp, hasViewL → zcq, hasView → zcr, freshR → zcs, freshC → zct, snapAll → zcu, snap → zcv, snapL → zcw, flatL → zcx, pureL → zcy, pureA → zcz, fillC → zda, arrOK → zdb, oneA → zdc, partB → zdd, ren1 → zdf, applyW → zdh, useL → zdi, isGen → zdk, startG → zdl
open Go.Abs.AV renaming cells → zay, laid → zde
open Go.Abs.AS renaming grown → zbh, put → zbi, mute → zdj
open Go.Abs.Env renaming know → zbj, boxed → zbk
open Go.Abs.CR renaming gr → zdg
set_option maxHeartbeats 16000000
theorem shl_i64n (a : Nat) (y : Int) (h : 0 ≤ y) (hy : y ≤ 16) (ha : a < 65536) : shiftV .shl .i64 (a : Int) y = some (.raw (.int .i64 ((a <<< y.toNat : Nat) : Int))) := by
  have hb : IntKind.i64.bits = 64 := rfl
  have e : min y.toNat 64 = y.toNat := by omega
  have h1 : a <<< y.toNat < 4294967296 := by
    rw [Nat.shiftLeft_eq]
    have : 2 ^ y.toNat ≤ 2 ^ 16 := Nat.pow_le_pow_right (by omega) (by omega)
    calc a * 2 ^ y.toNat ≤ a * 2 ^ 16 := Nat.mul_le_mul_left _ this
      _ < 4294967296 := by omega
  unfold shiftV
  rw [if_neg (by omega), hb, e]
  have e2 : (a : Int) * 2 ^ y.toNat = ((a <<< y.toNat : Nat) : Int) := by rw [Nat.shiftLeft_eq]; simp
  simp only [e2]
  generalize a <<< y.toNat = z at h1
  rw [i64_is _ (by omega)]
theorem xor_i64n (a b : Nat) (ha : a < 4294967296) (hb : b < 4294967296) : intV .xor .i64 (a : Int) (b : Int) = some (.raw (.int .i64 ((a ^^^ b : Nat) : Int))) := by
  have h : a ^^^ b < 2 ^ 32 := Nat.xor_lt_two_pow (by omega) (by omega)
  have e : (BitVec.ofInt IntKind.i64.bits (a : Int) ^^^ BitVec.ofInt IntKind.i64.bits (b : Int)).toNat = a ^^^ b := by
    show (BitVec.ofInt 64 (a : Int) ^^^ BitVec.ofInt 64 (b : Int)).toNat = _
    rw [bv_nat, bv_nat, BitVec.toNat_xor, BitVec.toNat_ofNat, BitVec.toNat_ofNat, Nat.mod_eq_of_lt (by omega), Nat.mod_eq_of_lt (by omega)]
  simp only [intV, e]
  rw [i64_is _ (by omega)]
theorem and_i64n (a : Nat) (ha : a < 4294967296) : intV .and .i64 (a : Int) 1 = some (.raw (.int .i64 ((a % 2 : Nat) : Int))) := by
  have e : (BitVec.ofInt IntKind.i64.bits (a : Int) &&& BitVec.ofInt IntKind.i64.bits 1).toNat = a % 2 := by
    show (BitVec.ofInt 64 (a : Int) &&& 1#64).toNat = _
    rw [bv_nat, BitVec.toNat_and, BitVec.toNat_ofNat, Nat.mod_eq_of_lt (by omega)]
    exact Nat.and_one_is_mod a
  simp only [intV, e]
  rw [i64_is _ (by omega)]
theorem fdiv_n (a n : Nat) : (a : Int).fdiv (2 ^ n) = ((a / 2 ^ n : Nat) : Int) := by
  have e : (2 : Int) ^ n = ((2 ^ n : Nat) : Int) := by simp
  rw [e, Int.fdiv_eq_ediv_of_nonneg _ (Int.natCast_nonneg _), Int.natCast_ediv]
theorem one_is {x : BitVec 8} (h : x = 1#8) : ((x.toNat : Int) == 1) = true := by rw [h]; rfl
theorem one_ne {x : BitVec 8} (h : ¬ x = 1#8) : ((x.toNat : Int) == 1) = false := by
  rw [beq_eq_false_iff_ne]
  intro h2
  exact h (BitVec.eq_of_toNat_eq (by show x.toNat = 1; omega))
def m1K (a b : BitVec 8) : Nat → Nat
  | 0 => 0
  | i + 1 => if b >>> i &&& 1#8 = 1#8 then m1K a b i ^^^ a.toNat <<< i else m1K a b i
def m2K (t : Nat) : Nat → Nat
  | 0 => t
  | d + 1 => if m2K t d / 2 ^ (14 - d) % 2 = 1 then m2K t d ^^^ 283 <<< (6 - d) else m2K t d
def mul1 (a b : BitVec 8) : BitVec 8 := BitVec.ofNat 8 (m2K (m1K a b 8) 7)
theorem m1K_lt (a b : BitVec 8) : ∀ i, i ≤ 8 → m1K a b i < 65536
  | 0, _ => by simp [m1K]
  | i + 1, h => by
    have ih := m1K_lt a b i (by omega)
    rw [m1K]
    split
    · refine Nat.xor_lt_two_pow (n := 16) ih ?_
      rw [Nat.shiftLeft_eq]
      have h1 : 2 ^ i ≤ 2 ^ 7 := Nat.pow_le_pow_right (by omega) (by omega)
      have h2 := a.isLt
      calc a.toNat * 2 ^ i ≤ a.toNat * 2 ^ 7 := Nat.mul_le_mul_left _ h1
        _ < 2 ^ 16 := by omega
    · exact ih
theorem m2K_lt {t : Nat} (ht : t < 65536) : ∀ d, m2K t d < 65536
  | 0 => ht
  | d + 1 => by
    have ih := m2K_lt ht d
    rw [m2K]
    split
    · refine Nat.xor_lt_two_pow (n := 16) ih ?_
      rw [Nat.shiftLeft_eq]
      have h1 : 2 ^ (6 - d) ≤ 2 ^ 6 := Nat.pow_le_pow_right (by omega) (by omega)
      omega
    · exact ih
def pf151 : List AV → Option AV
  | [v, w] => (num? .u8 8 v).bind fun a => (num? .u8 8 w).bind fun b => some (.raw (.int .u8 ((mul1 a b).toNat : Int)))
  | _ => none
def tbVb0 := (And.intro (And.intro (And.intro @teE @E0_te) (And.intro @E0_glob (And.intro @E0_gs @E0_dyn))) (And.intro (And.intro @E0_mu (And.intro @shl_i64n @xor_i64n)) (And.intro @and_i64n (And.intro @fdiv_n @bv_nat))))
theorem sound151 : SoundV Tryd.prog glob 151 pf151 := by
  refine SoundV.walk E0 ok0 mixed Tryd.func151 rfl Tryd.call151 (by kernel_rfl) ?_
  intro args r hr
  unfold pf151 at hr
  split at hr
  · simp only [Option.bind_eq_some_iff] at hr
    obtain ⟨a, h1, b, h2, hr⟩ := hr
    cases hr
    rw [num?_of h1, num?_of h2, Tryd.ntmps151, Tryd.results151]
    refine ⟨by simp, ?_⟩
    have ha := a.isLt
    have hF : mul1 a b = BitVec.ofNat 8 (m2K (m1K a b 8) 7) := rfl
    simp (maxSteps := 1000000) (disch := first | omega | (simp only [nums_len, lnB] <;> omega) | fail) only [ev0, ev1, ev2, ev3, ↓reduceIte, reduceCtorEq, zaa, zab, zac, zad, zae, zaf, zag, zah, zai, zaj, zak, zal, zam, zan, zao, zap, zaq, ↓zar, ↓zas, zat, zau, zav, zaw, zax, zay, zaz, zba, zbb, zbc, zbd, zbe, zbf, zbg, zbh, zbi, zbj, zbk, zbl, zbm, zbn, zbo, zbp, zbq, zbr, zbs, zbt, zbu, zbv, zbw, zbx, zby, zbz, zca, zcb, zcc, zcd, zce, zcf, zcg, zch, zci, zcj, zck, zcl, zcm, zcn, zco, zcp, zcq, zcr, zcs, zct, zcu, zcv, zcw, zcx, zcy, zcz, zda, zdb, zdc, zdd, zde, zdf, zdg, zdh, zdi, zdj, zdk, zdl, ev5, tbVb0, glob]
    refine loopQ_of (fun n σ => ∃ i, i ≤ 8 ∧ n = 8 - i ∧ σ.slots 6 = .raw (.int .i64 (i : Int)) ∧ σ.slots 0 = .raw (.int .u8 (a.toNat : Int)) ∧ σ.slots 1 = .raw (.int .u8 (b.toNat : Int)) ∧ σ.slots 5 = .raw (.int .i64 (m1K a b i : Int))) 8 ?_ ?_
    · refine ⟨0, by omega, by omega, ?_⟩
      simp (maxSteps := 1000000) (disch := first | omega | (simp only [nums_len, lnB] <;> omega) | fail) only [ev0, ev1, ev2, ev3, ↓reduceIte, reduceCtorEq, zaa, zab, zac, zad, zae, zaf, zag, zah, zai, zaj, zak, zal, zam, zan, zao, zap, zaq, ↓zar, ↓zas, zat, zau, zav, zaw, zax, zay, zaz, zba, zbb, zbc, zbd, zbe, zbf, zbg, zbh, zbi, zbj, zbk, zbl, zbm, zbn, zbo, zbp, zbq, zbr, zbs, zbt, zbu, zbv, zbw, zbx, zby, zbz, zca, zcb, zcc, zcd, zce, zcf, zcg, zch, zci, zcj, zck, zcl, zcm, zcn, zco, zcp, zcq, zcr, zcs, zct, zcu, zcv, zcw, zcx, zcy, zcz, zda, zdb, zdc, zdd, zde, zdf, zdg, zdh, zdi, zdj, zdk, zdl, ev5, tbVb0, glob]
      exact ⟨rfl, rfl⟩
    · rintro n ⟨sl, gn, bx, us⟩ ⟨i, hi, rfl, s6, s0, s1, s5⟩
      dsimp only at s6 s0 s1 s5
      have hM : m1K a b (i + 1) = if b >>> i &&& 1#8 = 1#8 then m1K a b i ^^^ a.toNat <<< i else m1K a b i := rfl
      have lM := m1K_lt a b i hi
      generalize hm : m1K a b i = m at s5 hM lM
      simp (maxSteps := 1000000) (disch := first | omega | (simp only [nums_len, lnB] <;> omega) | fail) only [ev0, ev1, ev2, ev3, ↓reduceIte, reduceCtorEq, zaa, zab, zac, zad, zae, zaf, zag, zah, zai, zaj, zak, zal, zam, zan, zao, zap, zaq, ↓zar, ↓zas, zat, zau, zav, zaw, zax, zay, zaz, zba, zbb, zbc, zbd, zbe, zbf, zbg, zbh, zbi, zbj, zbk, zbl, zbm, zbn, zbo, zbp, zbq, zbr, zbs, zbt, zbu, zbv, zbw, zbx, zby, zbz, zca, zcb, zcc, zcd, zce, zcf, zcg, zch, zci, zcj, zck, zcl, zcm, zcn, zco, zcp, zcq, zcr, zcs, zct, zcu, zcv, zcw, zcx, zcy, zcz, zda, zdb, zdc, zdd, zde, zdf, zdg, zdh, zdi, zdj, zdk, zdl, ev5, tbVb0, glob, s6, s0, s1, s5]
      refine condQ_dec (fun hlt => ?_) (fun hge => ?_)
      · have hlt : i < 8 := by omega
        have lS : a.toNat <<< i < 65536 := by
          rw [Nat.shiftLeft_eq]
          have h1 : 2 ^ i ≤ 2 ^ 7 := Nat.pow_le_pow_right (by omega) (by omega)
          calc a.toNat * 2 ^ i ≤ a.toNat * 2 ^ 7 := Nat.mul_le_mul_left _ h1
            _ < 65536 := by omega
        by_cases hb : b >>> i &&& 1#8 = 1#8
        · have e1 := one_is hb
          rw [if_pos hb] at hM
          simp (maxSteps := 1000000) (disch := first | omega | (simp only [nums_len, lnB] <;> omega) | fail) only [ev0, ev1, ev2, ev3, ↓reduceIte, reduceCtorEq, zaa, zab, zac, zad, zae, zaf, zag, zah, zai, zaj, zak, zal, zam, zan, zao, zap, zaq, ↓zar, ↓zas, zat, zau, zav, zaw, zax, zay, zaz, zba, zbb, zbc, zbd, zbe, zbf, zbg, zbh, zbi, zbj, zbk, zbl, zbm, zbn, zbo, zbp, zbq, zbr, zbs, zbt, zbu, zbv, zbw, zbx, zby, zbz, zca, zcb, zcc, zcd, zce, zcf, zcg, zch, zci, zcj, zck, zcl, zcm, zcn, zco, zcp, zcq, zcr, zcs, zct, zcu, zcv, zcw, zcx, zcy, zcz, zda, zdb, zdc, zdd, zde, zdf, zdg, zdh, zdi, zdj, zdk, zdl, ev5, tbVb0, glob, s6, s0, s1, s5, e1]
          refine ⟨8 - (i + 1), by omega, i + 1, by omega, rfl, ?_⟩
          rw [hM]
          exact ⟨rfl, rfl⟩
        · have e1 := one_ne hb
          rw [if_neg hb] at hM
          simp (maxSteps := 1000000) (disch := first | omega | (simp only [nums_len, lnB] <;> omega) | fail) only [ev0, ev1, ev2, ev3, ↓reduceIte, reduceCtorEq, zaa, zab, zac, zad, zae, zaf, zag, zah, zai, zaj, zak, zal, zam, zan, zao, zap, zaq, ↓zar, ↓zas, zat, zau, zav, zaw, zax, zay, zaz, zba, zbb, zbc, zbd, zbe, zbf, zbg, zbh, zbi, zbj, zbk, zbl, zbm, zbn, zbo, zbp, zbq, zbr, zbs, zbt, zbu, zbv, zbw, zbx, zby, zbz, zca, zcb, zcc, zcd, zce, zcf, zcg, zch, zci, zcj, zck, zcl, zcm, zcn, zco, zcp, zcq, zcr, zcs, zct, zcu, zcv, zcw, zcx, zcy, zcz, zda, zdb, zdc, zdd, zde, zdf, zdg, zdh, zdi, zdj, zdk, zdl, ev5, tbVb0, glob, s6, s0, s1, s5, e1]
          refine ⟨8 - (i + 1), by omega, i + 1, by omega, rfl, ?_⟩
          rw [hM]
          exact ⟨rfl, rfl⟩
      · have hi : i = 8 := by omega
        subst hi
        rw [hF, hm]
        simp (maxSteps := 1000000) (disch := first | omega | (simp only [nums_len, lnB] <;> omega) | fail) only [ev0, ev1, ev2, ev3, ↓reduceIte, reduceCtorEq, zaa, zab, zac, zad, zae, zaf, zag, zah, zai, zaj, zak, zal, zam, zan, zao, zap, zaq, ↓zar, ↓zas, zat, zau, zav, zaw, zax, zay, zaz, zba, zbb, zbc, zbd, zbe, zbf, zbg, zbh, zbi, zbj, zbk, zbl, zbm, zbn, zbo, zbp, zbq, zbr, zbs, zbt, zbu, zbv, zbw, zbx, zby, zbz, zca, zcb, zcc, zcd, zce, zcf, zcg, zch, zci, zcj, zck, zcl, zcm, zcn, zco, zcp, zcq, zcr, zcs, zct, zcu, zcv, zcw, zcx, zcy, zcz, zda, zdb, zdc, zdd, zde, zdf, zdg, zdh, zdi, zdj, zdk, zdl, ev5, tbVb0, glob, s6, s0, s1, s5]
        refine loopQ_of (fun n σ => ∃ d, d ≤ 7 ∧ n = 7 - d ∧ σ.slots 7 = .raw (.int .i64 (14 - (d : Int))) ∧ σ.slots 5 = .raw (.int .i64 (m2K m d : Int))) 7 ?_ ?_
        · refine ⟨0, by omega, by omega, ?_⟩
          simp (maxSteps := 1000000) (disch := first | omega | (simp only [nums_len, lnB] <;> omega) | fail) only [ev0, ev1, ev2, ev3, ↓reduceIte, reduceCtorEq, zaa, zab, zac, zad, zae, zaf, zag, zah, zai, zaj, zak, zal, zam, zan, zao, zap, zaq, ↓zar, ↓zas, zat, zau, zav, zaw, zax, zay, zaz, zba, zbb, zbc, zbd, zbe, zbf, zbg, zbh, zbi, zbj, zbk, zbl, zbm, zbn, zbo, zbp, zbq, zbr, zbs, zbt, zbu, zbv, zbw, zbx, zby, zbz, zca, zcb, zcc, zcd, zce, zcf, zcg, zch, zci, zcj, zck, zcl, zcm, zcn, zco, zcp, zcq, zcr, zcs, zct, zcu, zcv, zcw, zcx, zcy, zcz, zda, zdb, zdc, zdd, zde, zdf, zdg, zdh, zdi, zdj, zdk, zdl, ev5, tbVb0, glob]
          exact ⟨rfl, s5⟩
        · rintro n ⟨sl', gn', bx', us'⟩ ⟨d, hd, rfl, s7, s5'⟩
          dsimp only at s7 s5'
          have hN : m2K m (d + 1) = if m2K m d / 2 ^ (14 - d) % 2 = 1 then m2K m d ^^^ 283 <<< (6 - d) else m2K m d := rfl
          have lN := m2K_lt lM d
          generalize hq : m2K m d = q at s5' hN lN
          have e2 : (14 - (d : Int)).toNat = 14 - d := by omega
          have lq : q / 2 ^ (14 - d) < 4294967296 := Nat.lt_of_le_of_lt (Nat.div_le_self _ _) (by omega)
          simp (maxSteps := 1000000) (disch := first | omega | (simp only [nums_len, lnB] <;> omega) | fail) only [ev0, ev1, ev2, ev3, ↓reduceIte, reduceCtorEq, zaa, zab, zac, zad, zae, zaf, zag, zah, zai, zaj, zak, zal, zam, zan, zao, zap, zaq, ↓zar, ↓zas, zat, zau, zav, zaw, zax, zay, zaz, zba, zbb, zbc, zbd, zbe, zbf, zbg, zbh, zbi, zbj, zbk, zbl, zbm, zbn, zbo, zbp, zbq, zbr, zbs, zbt, zbu, zbv, zbw, zbx, zby, zbz, zca, zcb, zcc, zcd, zce, zcf, zcg, zch, zci, zcj, zck, zcl, zcm, zcn, zco, zcp, zcq, zcr, zcs, zct, zcu, zcv, zcw, zcx, zcy, zcz, zda, zdb, zdc, zdd, zde, zdf, zdg, zdh, zdi, zdj, zdk, zdl, ev5, tbVb0, glob, s7, s5', e2]
          refine condQ_dec (fun hlt => ?_) (fun hge => ?_)
          · have hlt : d < 7 := by omega
            have e3 : (14 - (d : Int) - 8).toNat = 6 - d := by omega
            have e4 : shiftV .shl .i64 283 (14 - (d : Int) - 8) = some (.raw (.int .i64 ((283 <<< (6 - d) : Nat) : Int))) := by
              have := shl_i64n 283 (14 - (d : Int) - 8) (by omega) (by omega) (by omega)
              rw [e3] at this
              exact this
            have l4 : 283 <<< (6 - d) < 4294967296 := by
              rw [Nat.shiftLeft_eq]
              have h1 : 2 ^ (6 - d) ≤ 2 ^ 6 := Nat.pow_le_pow_right (by omega) (by omega)
              omega
            by_cases hb : q / 2 ^ (14 - d) % 2 = 1
            · have e1 : (((q / 2 ^ (14 - d) % 2 : Nat) : Int) == 1) = true := by rw [hb]; rfl
              rw [if_pos hb] at hN
              simp (maxSteps := 1000000) (disch := first | omega | (simp only [nums_len, lnB] <;> omega) | fail) only [ev0, ev1, ev2, ev3, ↓reduceIte, reduceCtorEq, zaa, zab, zac, zad, zae, zaf, zag, zah, zai, zaj, zak, zal, zam, zan, zao, zap, zaq, ↓zar, ↓zas, zat, zau, zav, zaw, zax, zay, zaz, zba, zbb, zbc, zbd, zbe, zbf, zbg, zbh, zbi, zbj, zbk, zbl, zbm, zbn, zbo, zbp, zbq, zbr, zbs, zbt, zbu, zbv, zbw, zbx, zby, zbz, zca, zcb, zcc, zcd, zce, zcf, zcg, zch, zci, zcj, zck, zcl, zcm, zcn, zco, zcp, zcq, zcr, zcs, zct, zcu, zcv, zcw, zcx, zcy, zcz, zda, zdb, zdc, zdd, zde, zdf, zdg, zdh, zdi, zdj, zdk, zdl, ev5, tbVb0, glob, s7, s5', e1, e2, e4]
              refine ⟨7 - (d + 1), by omega, d + 1, by omega, rfl, i64_eq (by omega), ?_⟩
              rw [hN]
            · have e1 : (((q / 2 ^ (14 - d) % 2 : Nat) : Int) == 1) = false := by
                rw [beq_eq_false_iff_ne]; omega
              rw [if_neg hb] at hN
              simp (maxSteps := 1000000) (disch := first | omega | (simp only [nums_len, lnB] <;> omega) | fail) only [ev0, ev1, ev2, ev3, ↓reduceIte, reduceCtorEq, zaa, zab, zac, zad, zae, zaf, zag, zah, zai, zaj, zak, zal, zam, zan, zao, zap, zaq, ↓zar, ↓zas, zat, zau, zav, zaw, zax, zay, zaz, zba, zbb, zbc, zbd, zbe, zbf, zbg, zbh, zbi, zbj, zbk, zbl, zbm, zbn, zbo, zbp, zbq, zbr, zbs, zbt, zbu, zbv, zbw, zbx, zby, zbz, zca, zcb, zcc, zcd, zce, zcf, zcg, zch, zci, zcj, zck, zcl, zcm, zcn, zco, zcp, zcq, zcr, zcs, zct, zcu, zcv, zcw, zcx, zcy, zcz, zda, zdb, zdc, zdd, zde, zdf, zdg, zdh, zdi, zdj, zdk, zdl, ev5, tbVb0, glob, s7, s5', e1, e2]
              refine ⟨7 - (d + 1), by omega, d + 1, by omega, rfl, i64_eq (by omega), ?_⟩
              rw [hN]
          · have hd : d = 7 := by omega
            subst hd
            rw [hq]
            simp (maxSteps := 1000000) (disch := first | omega | (simp only [nums_len, lnB] <;> omega) | fail) only [ev0, ev1, ev2, ev3, ↓reduceIte, reduceCtorEq, zaa, zab, zac, zad, zae, zaf, zag, zah, zai, zaj, zak, zal, zam, zan, zao, zap, zaq, ↓zar, ↓zas, zat, zau, zav, zaw, zax, zay, zaz, zba, zbb, zbc, zbd, zbe, zbf, zbg, zbh, zbi, zbj, zbk, zbl, zbm, zbn, zbo, zbp, zbq, zbr, zbs, zbt, zbu, zbv, zbw, zbx, zby, zbz, zca, zcb, zcc, zcd, zce, zcf, zcg, zch, zci, zcj, zck, zcl, zcm, zcn, zco, zcp, zcq, zcr, zcs, zct, zcu, zcv, zcw, zcx, zcy, zcz, zda, zdb, zdc, zdd, zde, zdf, zdg, zdh, zdi, zdj, zdk, zdl, ev5, tbVb0, glob, s7, s5']
            exact ResQ.same rfl
  · cases hr
noncomputable def EB1 : Env := E0.know 151 pf151
theorem okB1 : EnvOK Tryd.prog EB1 := ok0.know sound151
theorem EB1_te : EB1.te = te := rfl
theorem EB1_glob : EB1.glob = glob := rfl
theorem EB1_gs : EB1.gs = [] := rfl
theorem EB1_dyn : EB1.dyn = false := rfl
theorem EB1_mu (d : Nat) : EB1.mu d = false := rfl
theorem EB1_m : EB1.tbl 151 = some (.val pf151) := rfl
theorem mul1_at {x y : BitVec 8} : pf151 [.raw (.int .u8 (x.toNat : Int)), .raw (.int .u8 (y.toNat : Int))] = some (.raw (.int .u8 ((mul1 x y).toNat : Int))) := by
  simp only [pf151, num?_num, Option.bind_some]
theorem mul1_2 {x : BitVec 8} : pf151 [.raw (.int .u8 (x.toNat : Int)), .raw (.int .u8 2)] = some (.raw (.int .u8 ((mul1 x 2#8).toNat : Int))) := mul1_at (y := 2#8)
theorem mul1_3 {x : BitVec 8} : pf151 [.raw (.int .u8 (x.toNat : Int)), .raw (.int .u8 3)] = some (.raw (.int .u8 ((mul1 x 3#8).toNat : Int))) := mul1_at (y := 3#8)
theorem mul1_o {x : BitVec 8} : pf151 [.raw (.int .u8 1), .raw (.int .u8 (x.toNat : Int))] = some (.raw (.int .u8 ((mul1 1#8 x).toNat : Int))) := mul1_at (x := 1#8)
/-- the power, and what it makes -/
def ivP (a : BitVec 8) : Nat → BitVec 8
  | 0 => a
  | i + 1 => mul1 (ivP a i) (ivP a i)
def ivO (a : BitVec 8) : Nat → BitVec 8
  | 0 => 1#8
  | i + 1 => mul1 (ivO a i) (ivP a (i + 1))
def pf167 : List AV → Option AV
  | [v] => (num? .u8 8 v).bind fun a => some (.raw (.int .u8 ((ivO a 7).toNat : Int)))
  | _ => none
def tbVb1 := (And.intro (And.intro (And.intro @teE @EB1_te) (And.intro @EB1_glob @EB1_gs)) (And.intro (And.intro @EB1_dyn @EB1_mu) (And.intro @EB1_m (And.intro @mul1_at @mul1_o))))
theorem sound167 : SoundV Tryd.prog glob 167 pf167 := by
  refine SoundV.walk EB1 okB1 mixed Tryd.func167 rfl Tryd.call167 (by kernel_rfl) ?_
  intro args r hr
  unfold pf167 at hr
  split at hr
  · simp only [Option.bind_eq_some_iff] at hr
    obtain ⟨a, h1, hr⟩ := hr
    cases hr
    rw [num?_of h1, Tryd.ntmps167, Tryd.results167]
    refine ⟨by simp, ?_⟩
    simp (maxSteps := 1000000) (disch := first | omega | (simp only [nums_len, lnB] <;> omega) | fail) only [ev0, ev1, ev2, ev3, ↓reduceIte, reduceCtorEq, zaa, zab, zac, zad, zae, zaf, zag, zah, zai, zaj, zak, zal, zam, zan, zao, zap, zaq, ↓zar, ↓zas, zat, zau, zav, zaw, zax, zay, zaz, zba, zbb, zbc, zbd, zbe, zbf, zbg, zbh, zbi, zbj, zbk, zbl, zbm, zbn, zbo, zbp, zbq, zbr, zbs, zbt, zbu, zbv, zbw, zbx, zby, zbz, zca, zcb, zcc, zcd, zce, zcf, zcg, zch, zci, zcj, zck, zcl, zcm, zcn, zco, zcp, zcq, zcr, zcs, zct, zcu, zcv, zcw, zcx, zcy, zcz, zda, zdb, zdc, zdd, zde, zdf, zdg, zdh, zdi, zdj, zdk, zdl, ev5, tbVb1, glob]
    refine loopQ_of (fun n σ => ∃ i, i ≤ 7 ∧ n = 7 - i ∧ σ.slots 5 = .raw (.int .i64 ((i : Int) + 1)) ∧ σ.slots 4 = .raw (.int .u8 ((ivP a i).toNat : Int)) ∧ σ.slots 3 = .raw (.int .u8 ((ivO a i).toNat : Int))) 7 ?_ ?_
    · refine ⟨0, by omega, by omega, ?_⟩
      simp (maxSteps := 1000000) (disch := first | omega | (simp only [nums_len, lnB] <;> omega) | fail) only [ev0, ev1, ev2, ev3, ↓reduceIte, reduceCtorEq, zaa, zab, zac, zad, zae, zaf, zag, zah, zai, zaj, zak, zal, zam, zan, zao, zap, zaq, ↓zar, ↓zas, zat, zau, zav, zaw, zax, zay, zaz, zba, zbb, zbc, zbd, zbe, zbf, zbg, zbh, zbi, zbj, zbk, zbl, zbm, zbn, zbo, zbp, zbq, zbr, zbs, zbt, zbu, zbv, zbw, zbx, zby, zbz, zca, zcb, zcc, zcd, zce, zcf, zcg, zch, zci, zcj, zck, zcl, zcm, zcn, zco, zcp, zcq, zcr, zcs, zct, zcu, zcv, zcw, zcx, zcy, zcz, zda, zdb, zdc, zdd, zde, zdf, zdg, zdh, zdi, zdj, zdk, zdl, ev5, tbVb1, glob]
      exact ⟨rfl, rfl, rfl⟩
    · rintro n ⟨sl, gn, bx, us⟩ ⟨i, hi, rfl, s5, s4, s3⟩
      dsimp only at s5 s4 s3
      simp (maxSteps := 1000000) (disch := first | omega | (simp only [nums_len, lnB] <;> omega) | fail) only [ev0, ev1, ev2, ev3, ↓reduceIte, reduceCtorEq, zaa, zab, zac, zad, zae, zaf, zag, zah, zai, zaj, zak, zal, zam, zan, zao, zap, zaq, ↓zar, ↓zas, zat, zau, zav, zaw, zax, zay, zaz, zba, zbb, zbc, zbd, zbe, zbf, zbg, zbh, zbi, zbj, zbk, zbl, zbm, zbn, zbo, zbp, zbq, zbr, zbs, zbt, zbu, zbv, zbw, zbx, zby, zbz, zca, zcb, zcc, zcd, zce, zcf, zcg, zch, zci, zcj, zck, zcl, zcm, zcn, zco, zcp, zcq, zcr, zcs, zct, zcu, zcv, zcw, zcx, zcy, zcz, zda, zdb, zdc, zdd, zde, zdf, zdg, zdh, zdi, zdj, zdk, zdl, ev5, tbVb1, glob, s5, s4, s3]
      refine condQ_dec (fun hlt => ?_) (fun hge => ?_)
      · simp (maxSteps := 1000000) (disch := first | omega | (simp only [nums_len, lnB] <;> omega) | fail) only [ev0, ev1, ev2, ev3, ↓reduceIte, reduceCtorEq, zaa, zab, zac, zad, zae, zaf, zag, zah, zai, zaj, zak, zal, zam, zan, zao, zap, zaq, ↓zar, ↓zas, zat, zau, zav, zaw, zax, zay, zaz, zba, zbb, zbc, zbd, zbe, zbf, zbg, zbh, zbi, zbj, zbk, zbl, zbm, zbn, zbo, zbp, zbq, zbr, zbs, zbt, zbu, zbv, zbw, zbx, zby, zbz, zca, zcb, zcc, zcd, zce, zcf, zcg, zch, zci, zcj, zck, zcl, zcm, zcn, zco, zcp, zcq, zcr, zcs, zct, zcu, zcv, zcw, zcx, zcy, zcz, zda, zdb, zdc, zdd, zde, zdf, zdg, zdh, zdi, zdj, zdk, zdl, ev5, tbVb1, glob, s5, s4, s3]
        exact ⟨7 - (i + 1), by omega, i + 1, by omega, rfl, rfl, rfl, rfl⟩
      · have hi : i = 7 := by omega
        subst hi
        simp (maxSteps := 1000000) (disch := first | omega | (simp only [nums_len, lnB] <;> omega) | fail) only [ev0, ev1, ev2, ev3, ↓reduceIte, reduceCtorEq, zaa, zab, zac, zad, zae, zaf, zag, zah, zai, zaj, zak, zal, zam, zan, zao, zap, zaq, ↓zar, ↓zas, zat, zau, zav, zaw, zax, zay, zaz, zba, zbb, zbc, zbd, zbe, zbf, zbg, zbh, zbi, zbj, zbk, zbl, zbm, zbn, zbo, zbp, zbq, zbr, zbs, zbt, zbu, zbv, zbw, zbx, zby, zbz, zca, zcb, zcc, zcd, zce, zcf, zcg, zch, zci, zcj, zck, zcl, zcm, zcn, zco, zcp, zcq, zcr, zcs, zct, zcu, zcv, zcw, zcx, zcy, zcz, zda, zdb, zdc, zdd, zde, zdf, zdg, zdh, zdi, zdj, zdk, zdl, ev5, tbVb1, glob, s5, s4, s3]
        exact ResQ.same rfl
  · cases hr
noncomputable def EB2 : Env := EB1.know 167 pf167
theorem okB2 : EnvOK Tryd.prog EB2 := okB1.know sound167
theorem EB2_te : EB2.te = te := rfl
theorem EB2_glob : EB2.glob = glob := rfl
theorem EB2_gs : EB2.gs = [] := rfl
theorem EB2_dyn : EB2.dyn = false := rfl
theorem EB2_mu (d : Nat) : EB2.mu d = false := rfl
theorem EB2_i : EB2.tbl 167 = some (.val pf167) := rfl
theorem inv1_at {x : BitVec 8} : pf167 [.raw (.int .u8 (x.toNat : Int))] = some (.raw (.int .u8 ((ivO x 7).toNat : Int))) := by
  simp only [pf167, num?_num, Option.bind_some]
def bitX (b : BitVec 8) (i : Nat) : BitVec 8 := 99#8 >>> i ^^^ b >>> i ^^^ b >>> ((i + 4) % 8) ^^^ b >>> ((i + 5) % 8) ^^^ b >>> ((i + 6) % 8) ^^^ b >>> ((i + 7) % 8)
def bx1K (b : BitVec 8) : Nat → BitVec 8
  | 0 => 0#8
  | i + 1 => bx1K b i ||| (bitX b i &&& 1#8) <<< i
set_option maxRecDepth 100000 in
theorem bx1_is (x : BitVec 8) : bx1K (ivO x 7) 8 = bx x := by
  have all : ∀ n : Fin 256, bx1K (ivO (BitVec.ofFin n) 7) 8 = bx (BitVec.ofFin n) := by decide +kernel
  exact all ⟨x.toNat, x.isLt⟩
def pf150 : List AV → Option AV
  | [v] => (num? .u8 8 v).bind fun a => some (.raw (.int .u8 ((bx a).toNat : Int)))
  | _ => none
theorem shr99 (y : Int) (h : 0 ≤ y) : shiftV .shr .u8 99 y = some (.raw (.int .u8 ((99#8 >>> y.toNat).toNat : Int))) := shr_u8 99#8 y h
def tbVb2 := (And.intro (And.intro (And.intro @teE @EB2_te) (And.intro @EB2_glob @EB2_gs)) (And.intro (And.intro @EB2_dyn @EB2_mu) (And.intro @EB2_i (And.intro @inv1_at @shr99))))
theorem sound150 : SoundV Tryd.prog glob 150 pf150 := by
  refine SoundV.walk EB2 okB2 mixed Tryd.func150 rfl Tryd.call150 (by kernel_rfl) ?_
  intro args r hr
  unfold pf150 at hr
  split at hr
  · simp only [Option.bind_eq_some_iff] at hr
    obtain ⟨a, h1, hr⟩ := hr
    cases hr
    rw [num?_of h1, Tryd.ntmps150, Tryd.results150, ← bx1_is a]
    refine ⟨by simp, ?_⟩
    simp (maxSteps := 1000000) (disch := first | omega | (simp only [nums_len, lnB] <;> omega) | fail) only [ev0, ev1, ev2, ev3, ↓reduceIte, reduceCtorEq, zaa, zab, zac, zad, zae, zaf, zag, zah, zai, zaj, zak, zal, zam, zan, zao, zap, zaq, ↓zar, ↓zas, zat, zau, zav, zaw, zax, zay, zaz, zba, zbb, zbc, zbd, zbe, zbf, zbg, zbh, zbi, zbj, zbk, zbl, zbm, zbn, zbo, zbp, zbq, zbr, zbs, zbt, zbu, zbv, zbw, zbx, zby, zbz, zca, zcb, zcc, zcd, zce, zcf, zcg, zch, zci, zcj, zck, zcl, zcm, zcn, zco, zcp, zcq, zcr, zcs, zct, zcu, zcv, zcw, zcx, zcy, zcz, zda, zdb, zdc, zdd, zde, zdf, zdg, zdh, zdi, zdj, zdk, zdl, ev5, tbVb2, glob]
    generalize ivO a 7 = b
    refine loopQ_of (fun n σ => ∃ i, i ≤ 8 ∧ n = 8 - i ∧ σ.slots 5 = .raw (.int .i64 (i : Int)) ∧ σ.slots 3 = .raw (.int .u8 (b.toNat : Int)) ∧ σ.slots 4 = .raw (.int .u8 ((bx1K b i).toNat : Int))) 8 ?_ ?_
    · refine ⟨0, by omega, by omega, ?_⟩
      simp (maxSteps := 1000000) (disch := first | omega | (simp only [nums_len, lnB] <;> omega) | fail) only [ev0, ev1, ev2, ev3, ↓reduceIte, reduceCtorEq, zaa, zab, zac, zad, zae, zaf, zag, zah, zai, zaj, zak, zal, zam, zan, zao, zap, zaq, ↓zar, ↓zas, zat, zau, zav, zaw, zax, zay, zaz, zba, zbb, zbc, zbd, zbe, zbf, zbg, zbh, zbi, zbj, zbk, zbl, zbm, zbn, zbo, zbp, zbq, zbr, zbs, zbt, zbu, zbv, zbw, zbx, zby, zbz, zca, zcb, zcc, zcd, zce, zcf, zcg, zch, zci, zcj, zck, zcl, zcm, zcn, zco, zcp, zcq, zcr, zcs, zct, zcu, zcv, zcw, zcx, zcy, zcz, zda, zdb, zdc, zdd, zde, zdf, zdg, zdh, zdi, zdj, zdk, zdl, ev5, tbVb2, glob]
      exact ⟨rfl, rfl⟩
    · rintro n ⟨sl, gn, bx, us⟩ ⟨i, hi, rfl, s5, s3, s4⟩
      dsimp only at s5 s3 s4
      simp (maxSteps := 1000000) (disch := first | omega | (simp only [nums_len, lnB] <;> omega) | fail) only [ev0, ev1, ev2, ev3, ↓reduceIte, reduceCtorEq, zaa, zab, zac, zad, zae, zaf, zag, zah, zai, zaj, zak, zal, zam, zan, zao, zap, zaq, ↓zar, ↓zas, zat, zau, zav, zaw, zax, zay, zaz, zba, zbb, zbc, zbd, zbe, zbf, zbg, zbh, zbi, zbj, zbk, zbl, zbm, zbn, zbo, zbp, zbq, zbr, zbs, zbt, zbu, zbv, zbw, zbx, zby, zbz, zca, zcb, zcc, zcd, zce, zcf, zcg, zch, zci, zcj, zck, zcl, zcm, zcn, zco, zcp, zcq, zcr, zcs, zct, zcu, zcv, zcw, zcx, zcy, zcz, zda, zdb, zdc, zdd, zde, zdf, zdg, zdh, zdi, zdj, zdk, zdl, ev5, tbVb2, glob, s5, s3, s4]
      refine condQ_dec (fun hlt => ?_) (fun hge => ?_)
      · simp (maxSteps := 1000000) (disch := first | omega | (simp only [nums_len, lnB] <;> omega) | fail) only [ev0, ev1, ev2, ev3, ↓reduceIte, reduceCtorEq, zaa, zab, zac, zad, zae, zaf, zag, zah, zai, zaj, zak, zal, zam, zan, zao, zap, zaq, ↓zar, ↓zas, zat, zau, zav, zaw, zax, zay, zaz, zba, zbb, zbc, zbd, zbe, zbf, zbg, zbh, zbi, zbj, zbk, zbl, zbm, zbn, zbo, zbp, zbq, zbr, zbs, zbt, zbu, zbv, zbw, zbx, zby, zbz, zca, zcb, zcc, zcd, zce, zcf, zcg, zch, zci, zcj, zck, zcl, zcm, zcn, zco, zcp, zcq, zcr, zcs, zct, zcu, zcv, zcw, zcx, zcy, zcz, zda, zdb, zdc, zdd, zde, zdf, zdg, zdh, zdi, zdj, zdk, zdl, ev5, tbVb2, glob, s5, s3, s4]
        exact ⟨8 - (i + 1), by omega, i + 1, by omega, rfl, rfl, rfl⟩
      · have hi : i = 8 := by omega
        subst hi
        simp (maxSteps := 1000000) (disch := first | omega | (simp only [nums_len, lnB] <;> omega) | fail) only [ev0, ev1, ev2, ev3, ↓reduceIte, reduceCtorEq, zaa, zab, zac, zad, zae, zaf, zag, zah, zai, zaj, zak, zal, zam, zan, zao, zap, zaq, ↓zar, ↓zas, zat, zau, zav, zaw, zax, zay, zaz, zba, zbb, zbc, zbd, zbe, zbf, zbg, zbh, zbi, zbj, zbk, zbl, zbm, zbn, zbo, zbp, zbq, zbr, zbs, zbt, zbu, zbv, zbw, zbx, zby, zbz, zca, zcb, zcc, zcd, zce, zcf, zcg, zch, zci, zcj, zck, zcl, zcm, zcn, zco, zcp, zcq, zcr, zcs, zct, zcu, zcv, zcw, zcx, zcy, zcz, zda, zdb, zdc, zdd, zde, zdf, zdg, zdh, zdi, zdj, zdk, zdl, ev5, tbVb2, glob, s5, s3, s4]
        exact ResQ.same rfl
  · cases hr
noncomputable def EB3 : Env := EB1.know 150 pf150
theorem okB3 : EnvOK Tryd.prog EB3 := okB1.know sound150
theorem EB3_te : EB3.te = te := rfl
theorem EB3_glob : EB3.glob = glob := rfl
theorem EB3_gs : EB3.gs = [] := rfl
theorem EB3_dyn : EB3.dyn = false := rfl
theorem EB3_mu (d : Nat) : EB3.mu d = false := rfl
theorem EB3_m : EB3.tbl 151 = some (.val pf151) := rfl
theorem EB3_b : EB3.tbl 150 = some (.val pf150) := rfl
theorem box1_at {x : BitVec 8} : pf150 [.raw (.int .u8 (x.toNat : Int))] = some (.raw (.int .u8 ((bx x).toNat : Int))) := by
  simp only [pf150, num?_num, Option.bind_some]
def tabK : Nat → List (BitVec 8)
  | 0 => List.replicate 256 0#8
  | i + 1 => (tabK i).set i (bx (BitVec.ofNat 8 i))
theorem tabK_len (i : Nat) : (tabK i).length = 256 := by
  induction i with
  | zero => rw [tabK, List.length_replicate]
  | succ i ih => simp [tabK, ih]
set_option maxRecDepth 100000 in
theorem tabK_is : tabK 256 = boxL := by decide +kernel
def pf124 : List AV → Option AV
  | [] => some (.agg (nums .u8 boxL))
  | _ => none
def tbVb3 := (And.intro (And.intro (And.intro @teE @EB3_te) (And.intro @EB3_glob (And.intro @EB3_gs @EB3_dyn))) (And.intro (And.intro @EB3_mu (And.intro @EB3_b @box1_at)) (And.intro @nums_strip (And.intro @nums_set8 @tabK_len))))
set_option maxRecDepth 20000 in
theorem sound124 : SoundV Tryd.prog glob 124 pf124 := by
  refine SoundV.walk EB3 okB3 mixed Tryd.func124 rfl Tryd.call124 (by kernel_rfl) ?_
  intro args r hr
  unfold pf124 at hr
  split at hr
  · cases hr
    rw [Tryd.ntmps124, Tryd.results124, ← tabK_is]
    refine ⟨by simp, ?_⟩
    simp (maxSteps := 1000000) (disch := first | omega | (simp only [tabK_len, lnB] <;> omega) | fail) only [ev0, ev1, ev2, ev3, ↓reduceIte, reduceCtorEq, zaa, zab, zac, zad, zae, zaf, zag, zah, zai, zaj, zak, zal, zam, zan, zao, zap, zaq, ↓zar, ↓zas, zat, zau, zav, zaw, zax, zay, zaz, zba, zbb, zbc, zbd, zbe, zbf, zbg, zbh, zbi, zbj, zbk, zbl, zbm, zbn, zbo, zbp, zbq, zbr, zbs, zbt, zbu, zbv, zbw, zbx, zby, zbz, zca, zcb, zcc, zcd, zce, zcf, zcg, zch, zci, zcj, zck, zcl, zcm, zcn, zco, zcp, zcq, zcr, zcs, zct, zcu, zcv, zcw, zcx, zcy, zcz, zda, zdb, zdc, zdd, zde, zdf, zdg, zdh, zdi, zdj, zdk, zdl, ev5, tbVb3, glob]
    refine loopQ_of (fun n σ => ∃ i, i ≤ 256 ∧ n = 256 - i ∧ σ.slots 2 = .raw (.int .i64 (i : Int)) ∧ σ.slots 0 = .ptr (.own 0 0 1) 0 ∧ σ.slots 1 = .ptr (.own 0 1 1) 0 ∧ σ.box (.own 0 0 1) = some (nums .u8 (List.replicate 256 0#8)) ∧ σ.box (.own 0 1 1) = some (nums .u8 (tabK i))) 256 ?_ ?_
    · refine ⟨0, by omega, by omega, ?_⟩
      simp (maxSteps := 1000000) (disch := first | omega | (simp only [tabK_len, lnB] <;> omega) | fail) only [ev0, ev1, ev2, ev3, ↓reduceIte, reduceCtorEq, zaa, zab, zac, zad, zae, zaf, zag, zah, zai, zaj, zak, zal, zam, zan, zao, zap, zaq, ↓zar, ↓zas, zat, zau, zav, zaw, zax, zay, zaz, zba, zbb, zbc, zbd, zbe, zbf, zbg, zbh, zbi, zbj, zbk, zbl, zbm, zbn, zbo, zbp, zbq, zbr, zbs, zbt, zbu, zbv, zbw, zbx, zby, zbz, zca, zcb, zcc, zcd, zce, zcf, zcg, zch, zci, zcj, zck, zcl, zcm, zcn, zco, zcp, zcq, zcr, zcs, zct, zcu, zcv, zcw, zcx, zcy, zcz, zda, zdb, zdc, zdd, zde, zdf, zdg, zdh, zdi, zdj, zdk, zdl, ev5, tbVb3, glob]
      exact ⟨rfl, rfl⟩
    · rintro n ⟨sl, gn, bx', us⟩ ⟨i, hi, rfl, s2, s0, s1, b0, b1⟩
      dsimp only at s2 s0 s1 b0 b1
      have lT := tabK_len i
      simp (maxSteps := 1000000) (disch := first | omega | (simp only [tabK_len, lnB] <;> omega) | fail) only [ev0, ev1, ev2, ev3, ↓reduceIte, reduceCtorEq, zaa, zab, zac, zad, zae, zaf, zag, zah, zai, zaj, zak, zal, zam, zan, zao, zap, zaq, ↓zar, ↓zas, zat, zau, zav, zaw, zax, zay, zaz, zba, zbb, zbc, zbd, zbe, zbf, zbg, zbh, zbi, zbj, zbk, zbl, zbm, zbn, zbo, zbp, zbq, zbr, zbs, zbt, zbu, zbv, zbw, zbx, zby, zbz, zca, zcb, zcc, zcd, zce, zcf, zcg, zch, zci, zcj, zck, zcl, zcm, zcn, zco, zcp, zcq, zcr, zcs, zct, zcu, zcv, zcw, zcx, zcy, zcz, zda, zdb, zdc, zdd, zde, zdf, zdg, zdh, zdi, zdj, zdk, zdl, ev5, tbVb3, glob, s2, s0, s1, b0, b1]
      refine condQ_dec (fun hlt => ?_) (fun hge => ?_)
      · have hlt : i < 256 := by omega
        simp (maxSteps := 1000000) (disch := first | omega | (simp only [tabK_len, lnB] <;> omega) | fail) only [ev0, ev1, ev2, ev3, ↓reduceIte, reduceCtorEq, zaa, zab, zac, zad, zae, zaf, zag, zah, zai, zaj, zak, zal, zam, zan, zao, zap, zaq, ↓zar, ↓zas, zat, zau, zav, zaw, zax, zay, zaz, zba, zbb, zbc, zbd, zbe, zbf, zbg, zbh, zbi, zbj, zbk, zbl, zbm, zbn, zbo, zbp, zbq, zbr, zbs, zbt, zbu, zbv, zbw, zbx, zby, zbz, zca, zcb, zcc, zcd, zce, zcf, zcg, zch, zci, zcj, zck, zcl, zcm, zcn, zco, zcp, zcq, zcr, zcs, zct, zcu, zcv, zcw, zcx, zcy, zcz, zda, zdb, zdc, zdd, zde, zdf, zdg, zdh, zdi, zdj, zdk, zdl, ev5, tbVb3, glob, s2, s0, s1, b0, b1]
        refine ⟨256 - (i + 1), by omega, i + 1, by omega, rfl, rfl, rfl⟩
      · have hi : i = 256 := by omega
        subst hi
        simp (maxSteps := 1000000) (disch := first | omega | (simp only [tabK_len, lnB] <;> omega) | fail) only [ev0, ev1, ev2, ev3, ↓reduceIte, reduceCtorEq, zaa, zab, zac, zad, zae, zaf, zag, zah, zai, zaj, zak, zal, zam, zan, zao, zap, zaq, ↓zar, ↓zas, zat, zau, zav, zaw, zax, zay, zaz, zba, zbb, zbc, zbd, zbe, zbf, zbg, zbh, zbi, zbj, zbk, zbl, zbm, zbn, zbo, zbp, zbq, zbr, zbs, zbt, zbu, zbv, zbw, zbx, zby, zbz, zca, zcb, zcc, zcd, zce, zcf, zcg, zch, zci, zcj, zck, zcl, zcm, zcn, zco, zcp, zcq, zcr, zcs, zct, zcu, zcv, zcw, zcx, zcy, zcz, zda, zdb, zdc, zdd, zde, zdf, zdg, zdh, zdi, zdj, zdk, zdl, ev5, tbVb3, glob, s2, s0, s1, b0, b1]
        exact ResQ.same rfl
  · cases hr
end Go.Proofs.YtddeffdgldjdjaaDoor
