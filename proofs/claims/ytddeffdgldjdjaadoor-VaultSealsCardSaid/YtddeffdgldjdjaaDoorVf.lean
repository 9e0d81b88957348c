/- The document's blocks: bit, xor, product, hash, the next counter: what the walks come to. -/
import Derived.Test.YtddeffdgldjdjaaDoorVa
import Derived.Test.YtddeffdgldjdjaaDoorUf
namespace Go.Proofs.YtddeffdgldjdjaaDoor
set_option linter.unusedSimpArgs false
set_option linter.unusedVariables false
set_option linter.defProp false
open Go Go.Abs
open Nat renaming reduceAdd → zaa, reduceSub → zab, reduceMul → zac, reduceLT → zad, reduceLeDiff → zae, reduceEqDiff → zaf, reduceBEq → zag
open BitVec renaming reduceOfInt → zah
open Int renaming reduceLE → zai, reduceLT → zaj, reduceGT → zak, reduceGE → zal, reduceNeg → zam, reduceAdd → zan, reduceSub → zao, reduceMul → zap, reduceToNat → zaq
open Go.Abs renaming bind_go → zar, map_go → zas, wantedV → zat, isWrite → zau, grow → zav, write → zaw, ofV → zax, start → zaz, strip → zba, endQ → zbb, resV → zbc, rawsRes → zbd, rawRes → zbe, exports → zbf, export1 → zbg, isSelf → zbl, convSelf → zbm, convV → zbn, loadV → zbo, storeV → zbp, fieldAddrV → zbq, fieldV → zbr, indexAddrV → zbs, indexV → zbt, partV → zbu, isAggK → zbv, isStr → zbw, place → zbx, lenV → zby, min2V → zbz, makeV → zca, freshSl → zcb, sliceV → zcc, boundOr → zcd, bound → zce, bounds → zcf, cutFl → zcg, copyV → zch, slCells → zci, srcV → zcj, appendV → zck, room → zcl, zerosOf → zcm, eqNeg → zcn, kd → zco, takeR → zcp, hasViewL → zcq, hasView → zcr, freshR → zcs, freshC → zct, snapAll → zcu, snap → zcv, snapL → zcw, flatL → zcx, pureL → zcy, pureA → zcz, fillC → zda, arrOK → zdb, oneA → zdc, partB → zdd, ren1 → zdf, applyW → zdh, useL → zdi, isGen → zdk, startG → zdl
open Go.Abs.AV renaming cells → zay, laid → zde
open Go.Abs.AS renaming grown → zbh, put → zbi, mute → zdj
open Go.Abs.Env renaming know → zbj, boxed → zbk
open Go.Abs.CR renaming gr → zdg
set_option maxHeartbeats 16000000
def pf168 : List AV → Option AV
  | [v, .raw (.int .i64 z)] => (agg? .u8 8 16 v).bind fun a => if 0 ≤ z ∧ z < 128 then some (.raw (.int .u8 ((bitB a z.toNat).toNat : Int))) else none
  | _ => none
def tbVf0 := (And.intro (And.intro (And.intro @teE @E0_te) (And.intro @E0_glob @E0_gs)) (And.intro (And.intro @E0_dyn @E0_mu) (And.intro @nums_strip @nums_set8)))
theorem sound168 : SoundV Tryd.prog glob 168 pf168 := by
  refine SoundV.walk E0 ok0 mixed Tryd.func168 rfl Tryd.call168 (by kernel_rfl) ?_
  intro args r hr
  unfold pf168 at hr
  split at hr
  · rename_i v z
    simp only [Option.bind_eq_some_iff] at hr
    obtain ⟨a, h1, hr⟩ := hr
    obtain ⟨rfl, ha⟩ := agg?_of h1
    split at hr
    · rename_i hz
      cases hr
      obtain ⟨i, rfl⟩ := Int.eq_ofNat_of_zero_le hz.1
      have hi : i < 128 := by omega
      rw [Tryd.ntmps168, Tryd.results168]
      refine ⟨by simp, ?_⟩
      simp (maxSteps := 1000000) (disch := first | omega | (simp only [nums_len, lnB] <;> omega) | fail) only [ev0, ev1, ev2, ev3, ↓reduceIte, reduceCtorEq, zaa, zab, zac, zad, zae, zaf, zag, zah, zai, zaj, zak, zal, zam, zan, zao, zap, zaq, ↓zar, ↓zas, zat, zau, zav, zaw, zax, zay, zaz, zba, zbb, zbc, zbd, zbe, zbf, zbg, zbh, zbi, zbj, zbk, zbl, zbm, zbn, zbo, zbp, zbq, zbr, zbs, zbt, zbu, zbv, zbw, zbx, zby, zbz, zca, zcb, zcc, zcd, zce, zcf, zcg, zch, zci, zcj, zck, zcl, zcm, zcn, zco, zcp, zcq, zcr, zcs, zct, zcu, zcv, zcw, zcx, zcy, zcz, zda, zdb, zdc, zdd, zde, zdf, zdg, zdh, zdi, zdj, zdk, zdl, ev5, tbVf0, glob, Nat.reduceMod, ha]
      exact ResQ.same rfl
    · cases hr
  · cases hr
theorem bit3_at {a : List (BitVec 8)} {i : Nat} (ha : a.length = 16) (hi : i < 128) : pf168 [.agg (nums .u8 a), .raw (.int .i64 (i : Int))] = some (.raw (.int .u8 ((bitB a i).toNat : Int))) := by
  have hz : (0 : Int) ≤ (i : Int) ∧ (i : Int) < 128 := by omega
  simp only [pf168, agg?_at ha, Option.bind_some, if_pos hz, Int.toNat_natCast]
theorem xorK_get' (s c : List (BitVec 8)) : ∀ i, (xorK s c i).getD i 0#8 = s.getD i 0#8 := by
  have key : ∀ k i, k ≤ i → (xorK s c k).getD i 0#8 = s.getD i 0#8 := by
    intro k
    induction k with
    | zero => intros; rfl
    | succ k ih => intro i hi; rw [xorK, getD_set8 (by omega), ih i (by omega)]
  exact fun i => key i i (Nat.le_refl i)
def pf130 : List AV → Option AV
  | [v, w] => (agg? .u8 8 16 v).bind fun a => (agg? .u8 8 16 w).bind fun b => some (.agg (nums .u8 (xorB a b)))
  | _ => none
theorem sound130 : SoundV Tryd.prog glob 130 pf130 := by
  refine SoundV.walk E0 ok0 mixed Tryd.func130 rfl Tryd.call130 (by kernel_rfl) ?_
  intro args r hr
  unfold pf130 at hr
  split at hr
  · rename_i v w
    simp only [Option.bind_eq_some_iff] at hr
    obtain ⟨a, h1, b, h2, hr⟩ := hr
    obtain ⟨rfl, ha⟩ := agg?_of h1
    obtain ⟨rfl, hb⟩ := agg?_of h2
    cases hr
    rw [Tryd.ntmps130, Tryd.results130]
    refine ⟨by simp, ?_⟩
    simp (maxSteps := 1000000) (disch := first | omega | (simp only [nums_len, lnB] <;> omega) | fail) only [ev0, ev1, ev2, ev3, ↓reduceIte, reduceCtorEq, zaa, zab, zac, zad, zae, zaf, zag, zah, zai, zaj, zak, zal, zam, zan, zao, zap, zaq, ↓zar, ↓zas, zat, zau, zav, zaw, zax, zay, zaz, zba, zbb, zbc, zbd, zbe, zbf, zbg, zbh, zbi, zbj, zbk, zbl, zbm, zbn, zbo, zbp, zbq, zbr, zbs, zbt, zbu, zbv, zbw, zbx, zby, zbz, zca, zcb, zcc, zcd, zce, zcf, zcg, zch, zci, zcj, zck, zcl, zcm, zcn, zco, zcp, zcq, zcr, zcs, zct, zcu, zcv, zcw, zcx, zcy, zcz, zda, zdb, zdc, zdd, zde, zdf, zdg, zdh, zdi, zdj, zdk, zdl, ev5, tbVf0, glob, Nat.reduceMod, ha, hb]
    refine loopQ_of (fun n σ => ∃ i, i ≤ 16 ∧ n = 16 - i ∧ σ.slots 5 = .raw (.int .i64 (i : Int)) ∧ σ.slots 2 = .ptr (.own 0 2 1) 0 ∧ σ.slots 3 = .ptr (.own 0 3 1) 0 ∧ σ.slots 4 = .ptr (.own 0 4 1) 0 ∧ σ.box (.own 0 2 1) = some (nums .u8 (xorK a b i)) ∧ σ.box (.own 0 3 1) = some (nums .u8 b) ∧ σ.box (.own 0 4 1) = some (nums .u8 (List.replicate 16 0#8))) 16 ?_ ?_
    · refine ⟨0, by omega, by omega, ?_⟩
      simp (maxSteps := 1000000) (disch := first | omega | (simp only [nums_len, lnB] <;> omega) | fail) only [ev0, ev1, ev2, ev3, ↓reduceIte, reduceCtorEq, zaa, zab, zac, zad, zae, zaf, zag, zah, zai, zaj, zak, zal, zam, zan, zao, zap, zaq, ↓zar, ↓zas, zat, zau, zav, zaw, zax, zay, zaz, zba, zbb, zbc, zbd, zbe, zbf, zbg, zbh, zbi, zbj, zbk, zbl, zbm, zbn, zbo, zbp, zbq, zbr, zbs, zbt, zbu, zbv, zbw, zbx, zby, zbz, zca, zcb, zcc, zcd, zce, zcf, zcg, zch, zci, zcj, zck, zcl, zcm, zcn, zco, zcp, zcq, zcr, zcs, zct, zcu, zcv, zcw, zcx, zcy, zcz, zda, zdb, zdc, zdd, zde, zdf, zdg, zdh, zdi, zdj, zdk, zdl, ev5, tbVf0, glob, Nat.reduceMod, ha, hb]
      repeat' first | exact rfl | refine ⟨?_, ?_⟩
    · rintro n ⟨sl, gn, bx', us⟩ ⟨i, hi, rfl, s5, s2, s3, s4, b2, b3, b4⟩
      dsimp only at s5 s2 s3 s4 b2 b3 b4
      have lX := (xorK_len a b i).trans ha
      have hX : xorK a b (i + 1) = (xorK a b i).set i (a.getD i 0#8 ^^^ b.getD i 0#8) := rfl
      have hG : (xorK a b i).getD i 0#8 = a.getD i 0#8 := xorK_get' a b i
      generalize hx : xorK a b i = y at b2 lX hX hG
      simp (maxSteps := 1000000) (disch := first | omega | (simp only [nums_len, lnB] <;> omega) | fail) only [ev0, ev1, ev2, ev3, ↓reduceIte, reduceCtorEq, zaa, zab, zac, zad, zae, zaf, zag, zah, zai, zaj, zak, zal, zam, zan, zao, zap, zaq, ↓zar, ↓zas, zat, zau, zav, zaw, zax, zay, zaz, zba, zbb, zbc, zbd, zbe, zbf, zbg, zbh, zbi, zbj, zbk, zbl, zbm, zbn, zbo, zbp, zbq, zbr, zbs, zbt, zbu, zbv, zbw, zbx, zby, zbz, zca, zcb, zcc, zcd, zce, zcf, zcg, zch, zci, zcj, zck, zcl, zcm, zcn, zco, zcp, zcq, zcr, zcs, zct, zcu, zcv, zcw, zcx, zcy, zcz, zda, zdb, zdc, zdd, zde, zdf, zdg, zdh, zdi, zdj, zdk, zdl, ev5, tbVf0, glob, Nat.reduceMod, s5, s2, s3, s4, b2, b3, b4, lX, hb]
      refine condQ_dec (fun hlt => ?_) (fun hge => ?_)
      · have hlt : i < 16 := by omega
        simp (maxSteps := 1000000) (disch := first | omega | (simp only [nums_len, lnB] <;> omega) | fail) only [ev0, ev1, ev2, ev3, ↓reduceIte, reduceCtorEq, zaa, zab, zac, zad, zae, zaf, zag, zah, zai, zaj, zak, zal, zam, zan, zao, zap, zaq, ↓zar, ↓zas, zat, zau, zav, zaw, zax, zay, zaz, zba, zbb, zbc, zbd, zbe, zbf, zbg, zbh, zbi, zbj, zbk, zbl, zbm, zbn, zbo, zbp, zbq, zbr, zbs, zbt, zbu, zbv, zbw, zbx, zby, zbz, zca, zcb, zcc, zcd, zce, zcf, zcg, zch, zci, zcj, zck, zcl, zcm, zcn, zco, zcp, zcq, zcr, zcs, zct, zcu, zcv, zcw, zcx, zcy, zcz, zda, zdb, zdc, zdd, zde, zdf, zdg, zdh, zdi, zdj, zdk, zdl, ev5, tbVf0, glob, Nat.reduceMod, s5, s2, s3, s4, b2, b3, b4, lX, hb, hG]
        refine ⟨16 - (i + 1), by omega, i + 1, by omega, rfl, rfl, ?_⟩
        rw [hX]
      · have hi : i = 16 := by omega
        subst hi
        have hF : xorB a b = y := hx
        rw [hF]
        simp (maxSteps := 1000000) (disch := first | omega | (simp only [nums_len, lnB] <;> omega) | fail) only [ev0, ev1, ev2, ev3, ↓reduceIte, reduceCtorEq, zaa, zab, zac, zad, zae, zaf, zag, zah, zai, zaj, zak, zal, zam, zan, zao, zap, zaq, ↓zar, ↓zas, zat, zau, zav, zaw, zax, zay, zaz, zba, zbb, zbc, zbd, zbe, zbf, zbg, zbh, zbi, zbj, zbk, zbl, zbm, zbn, zbo, zbp, zbq, zbr, zbs, zbt, zbu, zbv, zbw, zbx, zby, zbz, zca, zcb, zcc, zcd, zce, zcf, zcg, zch, zci, zcj, zck, zcl, zcm, zcn, zco, zcp, zcq, zcr, zcs, zct, zcu, zcv, zcw, zcx, zcy, zcz, zda, zdb, zdc, zdd, zde, zdf, zdg, zdh, zdi, zdj, zdk, zdl, ev5, tbVf0, glob, Nat.reduceMod, s5, s2, s3, s4, b2, b3, b4, lX, hb]
        exact ResQ.same rfl
  · cases hr
noncomputable def EVK : Env := E0.know 168 pf168
theorem okVK : EnvOK Tryd.prog EVK := ok0.know sound168
theorem EVK_te : EVK.te = te := rfl
theorem EVK_glob : EVK.glob = glob := rfl
theorem EVK_gs : EVK.gs = [] := rfl
theorem EVK_dyn : EVK.dyn = false := rfl
theorem EVK_mu (d : Nat) : EVK.mu d = false := rfl
theorem EVK_b : EVK.tbl 168 = some (.val pf168) := rfl
def pf153 : List AV → Option AV
  | [v, w] => (agg? .u8 8 16 v).bind fun a => (agg? .u8 8 16 w).bind fun b => some (.agg (nums .u8 (mulB a b)))
  | _ => none
theorem u8_zero {x : BitVec 8} (h : x = 0#8) : ((x.toNat : Int) == 0) = true := by rw [h]; rfl
theorem u8_nz {x : BitVec 8} (h : ¬ x = 0#8) : ((x.toNat : Int) == 0) = false := by
  rw [beq_eq_false_iff_ne]
  intro h2
  exact h (BitVec.eq_of_toNat_eq (by show x.toNat = 0; omega))
theorem u8_one {x : BitVec 8} (h : x = 1#8) : ((x.toNat : Int) == 1) = true := by rw [h]; rfl
theorem u8_no {x : BitVec 8} (h : ¬ x = 1#8) : ((x.toNat : Int) == 1) = false := by
  rw [beq_eq_false_iff_ne]
  intro h2
  exact h (BitVec.eq_of_toNat_eq (by show x.toNat = 1; omega))
def tbVf1 := (And.intro (And.intro (And.intro @teE @EVK_te) (And.intro @EVK_glob (And.intro @EVK_gs @EVK_dyn))) (And.intro (And.intro @EVK_mu @EVK_b) (And.intro @bit3_at (And.intro @nums_strip @nums_set8))))
set_option maxRecDepth 20000 in
theorem sound153 : SoundV Tryd.prog glob 153 pf153 := by
  refine SoundV.walk EVK okVK mixed Tryd.func153 rfl Tryd.call153 (by kernel_rfl) ?_
  intro args r hr
  unfold pf153 at hr
  split at hr
  · rename_i v w
    simp only [Option.bind_eq_some_iff] at hr
    obtain ⟨a, h1, b, h2, hr⟩ := hr
    obtain ⟨rfl, ha⟩ := agg?_of h1
    obtain ⟨rfl, hb⟩ := agg?_of h2
    cases hr
    rw [Tryd.ntmps153, Tryd.results153, ← mulR_is]
    refine ⟨by simp, ?_⟩
    simp (maxSteps := 1000000) (disch := first | omega | (simp only [rT_len, rIn_len, rR_len, rO_len, lnB] <;> omega) | fail) only [ev0, ev1, ev2, ev3, ↓reduceIte, reduceCtorEq, zaa, zab, zac, zad, zae, zaf, zag, zah, zai, zaj, zak, zal, zam, zan, zao, zap, zaq, ↓zar, ↓zas, zat, zau, zav, zaw, zax, zay, zaz, zba, zbb, zbc, zbd, zbe, zbf, zbg, zbh, zbi, zbj, zbk, zbl, zbm, zbn, zbo, zbp, zbq, zbr, zbs, zbt, zbu, zbv, zbw, zbx, zby, zbz, zca, zcb, zcc, zcd, zce, zcf, zcg, zch, zci, zcj, zck, zcl, zcm, zcn, zco, zcp, zcq, zcr, zcs, zct, zcu, zcv, zcw, zcx, zcy, zcz, zda, zdb, zdc, zdd, zde, zdf, zdg, zdh, zdi, zdj, zdk, zdl, ev5, tbVf1, glob, Nat.reduceMod, ha, hb]
    refine loopQ_of (fun n σ => ∃ i, i ≤ 128 ∧ n = 128 - i ∧ σ.slots 6 = .raw (.int .i64 (i : Int)) ∧ σ.box (.own 0 5 1) = some (nums .u8 (rT a b i)) ∧ σ.slots 2 = .ptr (.own 0 2 1) 0 ∧ σ.slots 3 = .ptr (.own 0 3 1) 0 ∧ σ.slots 4 = .ptr (.own 0 4 1) 0 ∧ σ.slots 5 = .ptr (.own 0 5 1) 0 ∧ σ.box (.own 0 2 1) = some (nums .u8 a) ∧ σ.box (.own 0 3 1) = some (nums .u8 b) ∧ σ.box (.own 0 4 1) = some (nums .u8 (List.replicate 16 0#8))) 128 ?_ ?_
    · refine ⟨0, by omega, by omega, ?_⟩
      simp (maxSteps := 1000000) (disch := first | omega | (simp only [rT_len, rIn_len, rR_len, rO_len, lnB] <;> omega) | fail) only [ev0, ev1, ev2, ev3, ↓reduceIte, reduceCtorEq, zaa, zab, zac, zad, zae, zaf, zag, zah, zai, zaj, zak, zal, zam, zan, zao, zap, zaq, ↓zar, ↓zas, zat, zau, zav, zaw, zax, zay, zaz, zba, zbb, zbc, zbd, zbe, zbf, zbg, zbh, zbi, zbj, zbk, zbl, zbm, zbn, zbo, zbp, zbq, zbr, zbs, zbt, zbu, zbv, zbw, zbx, zby, zbz, zca, zcb, zcc, zcd, zce, zcf, zcg, zch, zci, zcj, zck, zcl, zcm, zcn, zco, zcp, zcq, zcr, zcs, zct, zcu, zcv, zcw, zcx, zcy, zcz, zda, zdb, zdc, zdd, zde, zdf, zdg, zdh, zdi, zdj, zdk, zdl, ev5, tbVf1, glob, Nat.reduceMod, ha, hb]
      repeat' first | exact rfl | refine ⟨?_, ?_⟩
    · rintro n ⟨sl, gn, bx', us⟩ ⟨i, hi, rfl, s6, b5, s2, s3, s4, s5, b2, b3, b4⟩
      dsimp only at s6 b5 s2 s3 s4 s5 b2 b3 b4
      have lT := rT_len a b i
      have hT : rT a b (i + 1) = if bitB a i = 0#8 then rT a b i else rIn b (rT a b i) i 128 := rfl
      generalize ht : rT a b i = t at b5 lT hT
      simp (maxSteps := 1000000) (disch := first | omega | (simp only [rT_len, rIn_len, rR_len, rO_len, lnB] <;> omega) | fail) only [ev0, ev1, ev2, ev3, ↓reduceIte, reduceCtorEq, zaa, zab, zac, zad, zae, zaf, zag, zah, zai, zaj, zak, zal, zam, zan, zao, zap, zaq, ↓zar, ↓zas, zat, zau, zav, zaw, zax, zay, zaz, zba, zbb, zbc, zbd, zbe, zbf, zbg, zbh, zbi, zbj, zbk, zbl, zbm, zbn, zbo, zbp, zbq, zbr, zbs, zbt, zbu, zbv, zbw, zbx, zby, zbz, zca, zcb, zcc, zcd, zce, zcf, zcg, zch, zci, zcj, zck, zcl, zcm, zcn, zco, zcp, zcq, zcr, zcs, zct, zcu, zcv, zcw, zcx, zcy, zcz, zda, zdb, zdc, zdd, zde, zdf, zdg, zdh, zdi, zdj, zdk, zdl, ev5, tbVf1, glob, Nat.reduceMod, s2, s3, s4, s5, b2, b3, b4, s6, b5, lT, ha, hb]
      refine condQ_dec (fun hlt => ?_) (fun hge => ?_)
      · have hlt : i < 128 := by omega
        by_cases h0 : bitB a i = 0#8
        · have e1 := u8_zero h0
          rw [if_pos h0] at hT
          simp (maxSteps := 1000000) (disch := first | omega | (simp only [rT_len, rIn_len, rR_len, rO_len, lnB] <;> omega) | fail) only [ev0, ev1, ev2, ev3, ↓reduceIte, reduceCtorEq, zaa, zab, zac, zad, zae, zaf, zag, zah, zai, zaj, zak, zal, zam, zan, zao, zap, zaq, ↓zar, ↓zas, zat, zau, zav, zaw, zax, zay, zaz, zba, zbb, zbc, zbd, zbe, zbf, zbg, zbh, zbi, zbj, zbk, zbl, zbm, zbn, zbo, zbp, zbq, zbr, zbs, zbt, zbu, zbv, zbw, zbx, zby, zbz, zca, zcb, zcc, zcd, zce, zcf, zcg, zch, zci, zcj, zck, zcl, zcm, zcn, zco, zcp, zcq, zcr, zcs, zct, zcu, zcv, zcw, zcx, zcy, zcz, zda, zdb, zdc, zdd, zde, zdf, zdg, zdh, zdi, zdj, zdk, zdl, ev5, tbVf1, glob, Nat.reduceMod, s2, s3, s4, s5, b2, b3, b4, s6, b5, lT, ha, hb, e1]
          refine ⟨128 - (i + 1), by omega, i + 1, by omega, rfl, rfl, ?_⟩
          rw [hT]
        · have e1 := u8_nz h0
          rw [if_neg h0] at hT
          simp (maxSteps := 1000000) (disch := first | omega | (simp only [rT_len, rIn_len, rR_len, rO_len, lnB] <;> omega) | fail) only [ev0, ev1, ev2, ev3, ↓reduceIte, reduceCtorEq, zaa, zab, zac, zad, zae, zaf, zag, zah, zai, zaj, zak, zal, zam, zan, zao, zap, zaq, ↓zar, ↓zas, zat, zau, zav, zaw, zax, zay, zaz, zba, zbb, zbc, zbd, zbe, zbf, zbg, zbh, zbi, zbj, zbk, zbl, zbm, zbn, zbo, zbp, zbq, zbr, zbs, zbt, zbu, zbv, zbw, zbx, zby, zbz, zca, zcb, zcc, zcd, zce, zcf, zcg, zch, zci, zcj, zck, zcl, zcm, zcn, zco, zcp, zcq, zcr, zcs, zct, zcu, zcv, zcw, zcx, zcy, zcz, zda, zdb, zdc, zdd, zde, zdf, zdg, zdh, zdi, zdj, zdk, zdl, ev5, tbVf1, glob, Nat.reduceMod, s2, s3, s4, s5, b2, b3, b4, s6, b5, lT, ha, hb, e1]
          refine loopQ_of (fun n σ => ∃ k, k ≤ 128 ∧ n = 128 - k ∧ σ.slots 7 = .raw (.int .i64 (k : Int)) ∧ σ.slots 6 = .raw (.int .i64 (i : Int)) ∧ σ.box (.own 0 5 1) = some (nums .u8 (rIn b t i k)) ∧ σ.slots 2 = .ptr (.own 0 2 1) 0 ∧ σ.slots 3 = .ptr (.own 0 3 1) 0 ∧ σ.slots 4 = .ptr (.own 0 4 1) 0 ∧ σ.slots 5 = .ptr (.own 0 5 1) 0 ∧ σ.box (.own 0 2 1) = some (nums .u8 a) ∧ σ.box (.own 0 3 1) = some (nums .u8 b) ∧ σ.box (.own 0 4 1) = some (nums .u8 (List.replicate 16 0#8))) 128 ?_ ?_
          · refine ⟨0, by omega, by omega, ?_⟩
            simp (maxSteps := 1000000) (disch := first | omega | (simp only [rT_len, rIn_len, rR_len, rO_len, lnB] <;> omega) | fail) only [ev0, ev1, ev2, ev3, ↓reduceIte, reduceCtorEq, zaa, zab, zac, zad, zae, zaf, zag, zah, zai, zaj, zak, zal, zam, zan, zao, zap, zaq, ↓zar, ↓zas, zat, zau, zav, zaw, zax, zay, zaz, zba, zbb, zbc, zbd, zbe, zbf, zbg, zbh, zbi, zbj, zbk, zbl, zbm, zbn, zbo, zbp, zbq, zbr, zbs, zbt, zbu, zbv, zbw, zbx, zby, zbz, zca, zcb, zcc, zcd, zce, zcf, zcg, zch, zci, zcj, zck, zcl, zcm, zcn, zco, zcp, zcq, zcr, zcs, zct, zcu, zcv, zcw, zcx, zcy, zcz, zda, zdb, zdc, zdd, zde, zdf, zdg, zdh, zdi, zdj, zdk, zdl, ev5, tbVf1, glob, Nat.reduceMod, s2, s3, s4, s5, b2, b3, b4, s6, b5]
            repeat' first | exact rfl | refine ⟨?_, ?_⟩
          · rintro n ⟨sl, gn, bx', us⟩ ⟨k, hk, rfl, s7, s6, b5, s2, s3, s4, s5, b2, b3, b4⟩
            dsimp only at s7 s6 b5 s2 s3 s4 s5 b2 b3 b4
            have lI := (rIn_len b t i k).trans lT
            have hI : rIn b t i (k + 1) = (rIn b t i k).set (i + k) ((rIn b t i k).getD (i + k) 0#8 ^^^ bitB b k) := rfl
            generalize hq : rIn b t i k = q at b5 lI hI
            simp (maxSteps := 1000000) (disch := first | omega | (simp only [rT_len, rIn_len, rR_len, rO_len, lnB] <;> omega) | fail) only [ev0, ev1, ev2, ev3, ↓reduceIte, reduceCtorEq, zaa, zab, zac, zad, zae, zaf, zag, zah, zai, zaj, zak, zal, zam, zan, zao, zap, zaq, ↓zar, ↓zas, zat, zau, zav, zaw, zax, zay, zaz, zba, zbb, zbc, zbd, zbe, zbf, zbg, zbh, zbi, zbj, zbk, zbl, zbm, zbn, zbo, zbp, zbq, zbr, zbs, zbt, zbu, zbv, zbw, zbx, zby, zbz, zca, zcb, zcc, zcd, zce, zcf, zcg, zch, zci, zcj, zck, zcl, zcm, zcn, zco, zcp, zcq, zcr, zcs, zct, zcu, zcv, zcw, zcx, zcy, zcz, zda, zdb, zdc, zdd, zde, zdf, zdg, zdh, zdi, zdj, zdk, zdl, ev5, tbVf1, glob, Nat.reduceMod, s2, s3, s4, s5, b2, b3, b4, s7, s6, b5, lI, ha, hb]
            refine condQ_dec (fun hlt => ?_) (fun hge => ?_)
            · have hlt : k < 128 := by omega
              simp (maxSteps := 1000000) (disch := first | omega | (simp only [rT_len, rIn_len, rR_len, rO_len, lnB] <;> omega) | fail) only [ev0, ev1, ev2, ev3, ↓reduceIte, reduceCtorEq, zaa, zab, zac, zad, zae, zaf, zag, zah, zai, zaj, zak, zal, zam, zan, zao, zap, zaq, ↓zar, ↓zas, zat, zau, zav, zaw, zax, zay, zaz, zba, zbb, zbc, zbd, zbe, zbf, zbg, zbh, zbi, zbj, zbk, zbl, zbm, zbn, zbo, zbp, zbq, zbr, zbs, zbt, zbu, zbv, zbw, zbx, zby, zbz, zca, zcb, zcc, zcd, zce, zcf, zcg, zch, zci, zcj, zck, zcl, zcm, zcn, zco, zcp, zcq, zcr, zcs, zct, zcu, zcv, zcw, zcx, zcy, zcz, zda, zdb, zdc, zdd, zde, zdf, zdg, zdh, zdi, zdj, zdk, zdl, ev5, tbVf1, glob, Nat.reduceMod, s2, s3, s4, s5, b2, b3, b4, s7, s6, b5, lI, ha, hb]
              refine ⟨128 - (k + 1), by omega, k + 1, by omega, rfl, rfl, ?_⟩
              rw [hI]
            · have hk : k = 128 := by omega
              subst hk
              simp (maxSteps := 1000000) (disch := first | omega | (simp only [rT_len, rIn_len, rR_len, rO_len, lnB] <;> omega) | fail) only [ev0, ev1, ev2, ev3, ↓reduceIte, reduceCtorEq, zaa, zab, zac, zad, zae, zaf, zag, zah, zai, zaj, zak, zal, zam, zan, zao, zap, zaq, ↓zar, ↓zas, zat, zau, zav, zaw, zax, zay, zaz, zba, zbb, zbc, zbd, zbe, zbf, zbg, zbh, zbi, zbj, zbk, zbl, zbm, zbn, zbo, zbp, zbq, zbr, zbs, zbt, zbu, zbv, zbw, zbx, zby, zbz, zca, zcb, zcc, zcd, zce, zcf, zcg, zch, zci, zcj, zck, zcl, zcm, zcn, zco, zcp, zcq, zcr, zcs, zct, zcu, zcv, zcw, zcx, zcy, zcz, zda, zdb, zdc, zdd, zde, zdf, zdg, zdh, zdi, zdj, zdk, zdl, ev5, tbVf1, glob, Nat.reduceMod, s2, s3, s4, s5, b2, b3, b4, s7, s6, b5, lI, ha, hb]
              refine ⟨128 - (i + 1), by omega, i + 1, by omega, rfl, rfl, ?_⟩
              rw [hT, hq]
      · have hi : i = 128 := by omega
        subst hi
        have hM : mulR a b = rO (rR t 127) 128 := by rw [mulR, ht]
        rw [hM]
        simp (maxSteps := 1000000) (disch := first | omega | (simp only [rT_len, rIn_len, rR_len, rO_len, lnB] <;> omega) | fail) only [ev0, ev1, ev2, ev3, ↓reduceIte, reduceCtorEq, zaa, zab, zac, zad, zae, zaf, zag, zah, zai, zaj, zak, zal, zam, zan, zao, zap, zaq, ↓zar, ↓zas, zat, zau, zav, zaw, zax, zay, zaz, zba, zbb, zbc, zbd, zbe, zbf, zbg, zbh, zbi, zbj, zbk, zbl, zbm, zbn, zbo, zbp, zbq, zbr, zbs, zbt, zbu, zbv, zbw, zbx, zby, zbz, zca, zcb, zcc, zcd, zce, zcf, zcg, zch, zci, zcj, zck, zcl, zcm, zcn, zco, zcp, zcq, zcr, zcs, zct, zcu, zcv, zcw, zcx, zcy, zcz, zda, zdb, zdc, zdd, zde, zdf, zdg, zdh, zdi, zdj, zdk, zdl, ev5, tbVf1, glob, Nat.reduceMod, s2, s3, s4, s5, b2, b3, b4, s6, b5, lT, ha, hb]
        refine loopQ_of (fun n σ => ∃ d, d ≤ 127 ∧ n = 127 - d ∧ σ.slots 8 = .raw (.int .i64 (254 - (d : Int))) ∧ σ.box (.own 0 5 1) = some (nums .u8 (rR t d)) ∧ σ.slots 2 = .ptr (.own 0 2 1) 0 ∧ σ.slots 3 = .ptr (.own 0 3 1) 0 ∧ σ.slots 4 = .ptr (.own 0 4 1) 0 ∧ σ.slots 5 = .ptr (.own 0 5 1) 0 ∧ σ.box (.own 0 2 1) = some (nums .u8 a) ∧ σ.box (.own 0 3 1) = some (nums .u8 b) ∧ σ.box (.own 0 4 1) = some (nums .u8 (List.replicate 16 0#8))) 127 ?_ ?_
        · refine ⟨0, by omega, by omega, ?_⟩
          simp (maxSteps := 1000000) (disch := first | omega | (simp only [rT_len, rIn_len, rR_len, rO_len, lnB] <;> omega) | fail) only [ev0, ev1, ev2, ev3, ↓reduceIte, reduceCtorEq, zaa, zab, zac, zad, zae, zaf, zag, zah, zai, zaj, zak, zal, zam, zan, zao, zap, zaq, ↓zar, ↓zas, zat, zau, zav, zaw, zax, zay, zaz, zba, zbb, zbc, zbd, zbe, zbf, zbg, zbh, zbi, zbj, zbk, zbl, zbm, zbn, zbo, zbp, zbq, zbr, zbs, zbt, zbu, zbv, zbw, zbx, zby, zbz, zca, zcb, zcc, zcd, zce, zcf, zcg, zch, zci, zcj, zck, zcl, zcm, zcn, zco, zcp, zcq, zcr, zcs, zct, zcu, zcv, zcw, zcx, zcy, zcz, zda, zdb, zdc, zdd, zde, zdf, zdg, zdh, zdi, zdj, zdk, zdl, ev5, tbVf1, glob, Nat.reduceMod, s2, s3, s4, s5, b2, b3, b4, s6, b5]
          repeat' first | exact rfl | refine ⟨?_, ?_⟩
        · rintro n ⟨sl, gn, bx', us⟩ ⟨d, hd, rfl, s8, b5, s2, s3, s4, s5, b2, b3, b4⟩
          dsimp only at s8 b5 s2 s3 s4 s5 b2 b3 b4
          have lR := (rR_len t d).trans lT
          have hR : rR t (d + 1) = if (rR t d).getD (254 - d) 0#8 = 1#8 then rS (254 - d) (rR t d) else rR t d := rfl
          generalize hq : rR t d = q at b5 lR hR
          have t0 : (254 - (d : Int)).toNat = 254 - d := by omega
          simp (maxSteps := 1000000) (disch := first | omega | (simp only [rT_len, rIn_len, rR_len, rO_len, lnB] <;> omega) | fail) only [ev0, ev1, ev2, ev3, ↓reduceIte, reduceCtorEq, zaa, zab, zac, zad, zae, zaf, zag, zah, zai, zaj, zak, zal, zam, zan, zao, zap, zaq, ↓zar, ↓zas, zat, zau, zav, zaw, zax, zay, zaz, zba, zbb, zbc, zbd, zbe, zbf, zbg, zbh, zbi, zbj, zbk, zbl, zbm, zbn, zbo, zbp, zbq, zbr, zbs, zbt, zbu, zbv, zbw, zbx, zby, zbz, zca, zcb, zcc, zcd, zce, zcf, zcg, zch, zci, zcj, zck, zcl, zcm, zcn, zco, zcp, zcq, zcr, zcs, zct, zcu, zcv, zcw, zcx, zcy, zcz, zda, zdb, zdc, zdd, zde, zdf, zdg, zdh, zdi, zdj, zdk, zdl, ev5, tbVf1, glob, Nat.reduceMod, s2, s3, s4, s5, b2, b3, b4, s8, b5, lR, t0]
          refine condQ_dec (fun hlt => ?_) (fun hge => ?_)
          · have hlt : d < 127 := by omega
            by_cases h0 : q.getD (254 - d) 0#8 = 1#8
            · have e1 := u8_one h0
              rw [if_pos h0] at hR
              have t1 : (254 - (d : Int) - 128).toNat = 254 - d - 128 := by omega
              have t2 : (254 - (d : Int) - 127).toNat = 254 - d - 127 := by omega
              have t3 : (254 - (d : Int) - 126).toNat = 254 - d - 126 := by omega
              have t4 : (254 - (d : Int) - 121).toNat = 254 - d - 121 := by omega
              simp (maxSteps := 1000000) (disch := first | omega | (simp only [rT_len, rIn_len, rR_len, rO_len, lnB] <;> omega) | fail) only [ev0, ev1, ev2, ev3, ↓reduceIte, reduceCtorEq, zaa, zab, zac, zad, zae, zaf, zag, zah, zai, zaj, zak, zal, zam, zan, zao, zap, zaq, ↓zar, ↓zas, zat, zau, zav, zaw, zax, zay, zaz, zba, zbb, zbc, zbd, zbe, zbf, zbg, zbh, zbi, zbj, zbk, zbl, zbm, zbn, zbo, zbp, zbq, zbr, zbs, zbt, zbu, zbv, zbw, zbx, zby, zbz, zca, zcb, zcc, zcd, zce, zcf, zcg, zch, zci, zcj, zck, zcl, zcm, zcn, zco, zcp, zcq, zcr, zcs, zct, zcu, zcv, zcw, zcx, zcy, zcz, zda, zdb, zdc, zdd, zde, zdf, zdg, zdh, zdi, zdj, zdk, zdl, ev5, tbVf1, glob, Nat.reduceMod, s2, s3, s4, s5, b2, b3, b4, s8, b5, lR, t0, t1, t2, t3, t4, e1]
              refine ⟨127 - (d + 1), by omega, d + 1, by omega, rfl, i64_eq (by omega), ?_⟩
              rw [hR]
              rfl
            · have e1 := u8_no h0
              rw [if_neg h0] at hR
              simp (maxSteps := 1000000) (disch := first | omega | (simp only [rT_len, rIn_len, rR_len, rO_len, lnB] <;> omega) | fail) only [ev0, ev1, ev2, ev3, ↓reduceIte, reduceCtorEq, zaa, zab, zac, zad, zae, zaf, zag, zah, zai, zaj, zak, zal, zam, zan, zao, zap, zaq, ↓zar, ↓zas, zat, zau, zav, zaw, zax, zay, zaz, zba, zbb, zbc, zbd, zbe, zbf, zbg, zbh, zbi, zbj, zbk, zbl, zbm, zbn, zbo, zbp, zbq, zbr, zbs, zbt, zbu, zbv, zbw, zbx, zby, zbz, zca, zcb, zcc, zcd, zce, zcf, zcg, zch, zci, zcj, zck, zcl, zcm, zcn, zco, zcp, zcq, zcr, zcs, zct, zcu, zcv, zcw, zcx, zcy, zcz, zda, zdb, zdc, zdd, zde, zdf, zdg, zdh, zdi, zdj, zdk, zdl, ev5, tbVf1, glob, Nat.reduceMod, s2, s3, s4, s5, b2, b3, b4, s8, b5, lR, t0, e1]
              refine ⟨127 - (d + 1), by omega, d + 1, by omega, rfl, i64_eq (by omega), ?_⟩
              rw [hR]
          · have hd : d = 127 := by omega
            subst hd
            rw [hq]
            simp (maxSteps := 1000000) (disch := first | omega | (simp only [rT_len, rIn_len, rR_len, rO_len, lnB] <;> omega) | fail) only [ev0, ev1, ev2, ev3, ↓reduceIte, reduceCtorEq, zaa, zab, zac, zad, zae, zaf, zag, zah, zai, zaj, zak, zal, zam, zan, zao, zap, zaq, ↓zar, ↓zas, zat, zau, zav, zaw, zax, zay, zaz, zba, zbb, zbc, zbd, zbe, zbf, zbg, zbh, zbi, zbj, zbk, zbl, zbm, zbn, zbo, zbp, zbq, zbr, zbs, zbt, zbu, zbv, zbw, zbx, zby, zbz, zca, zcb, zcc, zcd, zce, zcf, zcg, zch, zci, zcj, zck, zcl, zcm, zcn, zco, zcp, zcq, zcr, zcs, zct, zcu, zcv, zcw, zcx, zcy, zcz, zda, zdb, zdc, zdd, zde, zdf, zdg, zdh, zdi, zdj, zdk, zdl, ev5, tbVf1, glob, Nat.reduceMod, s2, s3, s4, s5, b2, b3, b4, s8, b5, lR]
            refine loopQ_of (fun n σ => ∃ i, i ≤ 128 ∧ n = 128 - i ∧ σ.slots 10 = .raw (.int .i64 (i : Int)) ∧ σ.box (.own 0 5 1) = some (nums .u8 q) ∧ (∃ g, σ.slots 9 = .ptr (.own 0 9 g) 0 ∧ σ.box (.own 0 9 g) = some (nums .u8 (rO q i))) ∧ σ.slots 2 = .ptr (.own 0 2 1) 0 ∧ σ.slots 3 = .ptr (.own 0 3 1) 0 ∧ σ.slots 4 = .ptr (.own 0 4 1) 0 ∧ σ.slots 5 = .ptr (.own 0 5 1) 0 ∧ σ.box (.own 0 2 1) = some (nums .u8 a) ∧ σ.box (.own 0 3 1) = some (nums .u8 b) ∧ σ.box (.own 0 4 1) = some (nums .u8 (List.replicate 16 0#8))) 128 ?_ ?_
            · refine ⟨0, by omega, by omega, ?_⟩
              simp (maxSteps := 1000000) (disch := first | omega | (simp only [rT_len, rIn_len, rR_len, rO_len, lnB] <;> omega) | fail) only [ev0, ev1, ev2, ev3, ↓reduceIte, reduceCtorEq, zaa, zab, zac, zad, zae, zaf, zag, zah, zai, zaj, zak, zal, zam, zan, zao, zap, zaq, ↓zar, ↓zas, zat, zau, zav, zaw, zax, zay, zaz, zba, zbb, zbc, zbd, zbe, zbf, zbg, zbh, zbi, zbj, zbk, zbl, zbm, zbn, zbo, zbp, zbq, zbr, zbs, zbt, zbu, zbv, zbw, zbx, zby, zbz, zca, zcb, zcc, zcd, zce, zcf, zcg, zch, zci, zcj, zck, zcl, zcm, zcn, zco, zcp, zcq, zcr, zcs, zct, zcu, zcv, zcw, zcx, zcy, zcz, zda, zdb, zdc, zdd, zde, zdf, zdg, zdh, zdi, zdj, zdk, zdl, ev5, tbVf1, glob, Nat.reduceMod, s2, s3, s4, s5, b2, b3, b4, s8, b5]
              refine ⟨rfl, gn 9 + 1, rfl, ?_⟩
              rw [if_pos rfl]
              rfl
            · rintro n ⟨sl, gn, bx', us⟩ ⟨i, hi, rfl, s10, b5, ⟨g, s9, b9⟩, s2, s3, s4, s5, b2, b3, b4⟩
              dsimp only at s10 b5 s9 b9 s2 s3 s4 s5 b2 b3 b4
              have lO := rO_len q i
              have hO : rO q (i + 1) = (rO q i).set (i / 8) ((rO q i).getD (i / 8) 0#8 ||| q.getD i 0#8 <<< (7 - i % 8)) := rfl
              generalize hy : rO q i = y at b9 lO hO
              simp (maxSteps := 1000000) (disch := first | omega | (simp only [rT_len, rIn_len, rR_len, rO_len, lnB] <;> omega) | fail) only [ev0, ev1, ev2, ev3, ↓reduceIte, reduceCtorEq, zaa, zab, zac, zad, zae, zaf, zag, zah, zai, zaj, zak, zal, zam, zan, zao, zap, zaq, ↓zar, ↓zas, zat, zau, zav, zaw, zax, zay, zaz, zba, zbb, zbc, zbd, zbe, zbf, zbg, zbh, zbi, zbj, zbk, zbl, zbm, zbn, zbo, zbp, zbq, zbr, zbs, zbt, zbu, zbv, zbw, zbx, zby, zbz, zca, zcb, zcc, zcd, zce, zcf, zcg, zch, zci, zcj, zck, zcl, zcm, zcn, zco, zcp, zcq, zcr, zcs, zct, zcu, zcv, zcw, zcx, zcy, zcz, zda, zdb, zdc, zdd, zde, zdf, zdg, zdh, zdi, zdj, zdk, zdl, ev5, tbVf1, glob, Nat.reduceMod, s2, s3, s4, s5, b2, b3, b4, s10, b5, s9, b9, lR, lO]
              refine condQ_dec (fun hlt => ?_) (fun hge => ?_)
              · have hlt : i < 128 := by omega
                simp (maxSteps := 1000000) (disch := first | omega | (simp only [rT_len, rIn_len, rR_len, rO_len, lnB] <;> omega) | fail) only [ev0, ev1, ev2, ev3, ↓reduceIte, reduceCtorEq, zaa, zab, zac, zad, zae, zaf, zag, zah, zai, zaj, zak, zal, zam, zan, zao, zap, zaq, ↓zar, ↓zas, zat, zau, zav, zaw, zax, zay, zaz, zba, zbb, zbc, zbd, zbe, zbf, zbg, zbh, zbi, zbj, zbk, zbl, zbm, zbn, zbo, zbp, zbq, zbr, zbs, zbt, zbu, zbv, zbw, zbx, zby, zbz, zca, zcb, zcc, zcd, zce, zcf, zcg, zch, zci, zcj, zck, zcl, zcm, zcn, zco, zcp, zcq, zcr, zcs, zct, zcu, zcv, zcw, zcx, zcy, zcz, zda, zdb, zdc, zdd, zde, zdf, zdg, zdh, zdi, zdj, zdk, zdl, ev5, tbVf1, glob, Nat.reduceMod, s2, s3, s4, s5, b2, b3, b4, s10, b5, s9, b9, lR, lO]
                refine ⟨128 - (i + 1), by omega, i + 1, by omega, rfl, rfl, g, rfl, ?_⟩
                rw [if_pos rfl, hO]
              · have hi : i = 128 := by omega
                subst hi
                rw [hy]
                simp (maxSteps := 1000000) (disch := first | omega | (simp only [rT_len, rIn_len, rR_len, rO_len, lnB] <;> omega) | fail) only [ev0, ev1, ev2, ev3, ↓reduceIte, reduceCtorEq, zaa, zab, zac, zad, zae, zaf, zag, zah, zai, zaj, zak, zal, zam, zan, zao, zap, zaq, ↓zar, ↓zas, zat, zau, zav, zaw, zax, zay, zaz, zba, zbb, zbc, zbd, zbe, zbf, zbg, zbh, zbi, zbj, zbk, zbl, zbm, zbn, zbo, zbp, zbq, zbr, zbs, zbt, zbu, zbv, zbw, zbx, zby, zbz, zca, zcb, zcc, zcd, zce, zcf, zcg, zch, zci, zcj, zck, zcl, zcm, zcn, zco, zcp, zcq, zcr, zcs, zct, zcu, zcv, zcw, zcx, zcy, zcz, zda, zdb, zdc, zdd, zde, zdf, zdg, zdh, zdi, zdj, zdk, zdl, ev5, tbVf1, glob, Nat.reduceMod, s2, s3, s4, s5, b2, b3, b4, s10, b5, s9, b9, lR, lO]
                exact ResQ.same rfl
  · cases hr
end Go.Proofs.YtddeffdgldjdjaaDoor
