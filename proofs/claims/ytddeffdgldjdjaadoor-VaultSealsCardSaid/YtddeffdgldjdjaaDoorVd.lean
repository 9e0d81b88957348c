/- What the document encrypts by a key's blocks: what the walk comes to. -/
import Derived.Test.YtddeffdgldjdjaaDoorVc
namespace Go.Proofs.YtddeffdgldjdjaaDoor
set_option linter.unusedSimpArgs false
set_option linter.unusedVariables false
set_option linter.defProp false
open Go Go.Abs
open Nat renaming reduceAdd → zaa, reduceSub → zab, reduceMul → zac, reduceLT → zad, reduceLeDiff → zae, reduceEqDiff → zaf, reduceBEq → zag
open BitVec renaming reduceOfInt → zah
open Int renaming reduceLE → zai, reduceLT → zaj, reduceGT → zak, reduceGE → zal, reduceNeg → zam, reduceAdd → zan, reduceSub → zao, reduceMul → zap, reduceToNat → zaq
open Go.Abs renaming bind_go → zar, map_go → zas, wantedV → zat, isWrite → zau, grow → zav, write → zaw, ofV → zax, start → zaz, strip → zba, endQ → zbb, resV → zbc, rawsRes → zbd, rawRes → zbe, exports → zbf, export1 → zbg, isSelf → zbl, convSelf → zbm, convV → zbn, loadV → zbo, storeV → zbp, fieldAddrV → zbq, fieldV → zbr, indexAddrV → zbs, indexV → zbt, partV → zbu, isAggK → zbv, isStr → zbw, place → zbx, lenV → zby, min2V → zbz, makeV → zca, freshSl → zcb, sliceV → zcc, boundOr → zcd, bound → zce, bounds → zcf, cutFl → zcg, copyV → zch, slCells → zci, srcV → zcj, appendV → zck, room → zcl, zerosOf → zcm, eqNeg → zcn, kd → zco, takeR → zcp, hasViewL → zcq, hasView → zcr, freshR → zcs, freshC → zct, snapAll → zcu, snap → zcv, snapL → zcw, flatL → zcx, pureL → zcy, pureA → zcz, fillC → zda, arrOK → zdb, oneA → zdc, partB → zdd, ren1 → zdf, applyW → zdh, useL → zdi, isGen → zdk, startG → zdl
open Go.Abs.AV renaming cells → zay, laid → zde
open Go.Abs.AS renaming grown → zbh, put → zbi, mute → zdj
open Go.Abs.Env renaming know → zbj, boxed → zbk
open Go.Abs.CR renaming gr → zdg
set_option maxHeartbeats 16000000
noncomputable def EV1 : Env := E0.know 152 pf152
theorem okV1 : EnvOK Tryd.prog EV1 := ok0.know sound152
theorem EV1_te : EV1.te = te := rfl
theorem EV1_glob : EV1.glob = glob := rfl
theorem EV1_gs : EV1.gs = [] := rfl
theorem EV1_dyn : EV1.dyn = false := rfl
theorem EV1_mu (d : Nat) : EV1.mu d = false := rfl
theorem EV1_r : EV1.tbl 152 = some (.val pf152) := rfl
theorem rnd2_at {s k : List (BitVec 8)} {b : Bool} (hs : s.length = 16) (hk : k.length = 16) : pf152 [.agg (nums .u8 s), .agg (nums .u8 k), .raw (.bool b), .agg (nums .u8 boxL)] = some (.agg (nums .u8 (roundF s k b))) := by
  simp only [pf152, agg?_at hs, agg?_at hk, agg?_at boxL_len, Option.bind_some, if_true]
theorem getD_take8 {l : List (BitVec 8)} {i n : Nat} (h : i < n) : (l.take n).getD i 0#8 = l.getD i 0#8 := by
  rw [List.getD_eq_getElem?_getD, List.getElem?_take_of_lt h, ← List.getD_eq_getElem?_getD]
theorem xorK_take (s c : List (BitVec 8)) : ∀ k, k ≤ 16 → xorK s (c.take 16) k = xorK s c k
  | 0, _ => rfl
  | k + 1, h => by rw [xorK, xorK, xorK_take s c k (by omega), getD_take8 (by omega)]
theorem xorK_get (s c : List (BitVec 8)) : ∀ i, (xorK s c i).getD i 0#8 = s.getD i 0#8 := by
  have key : ∀ k i, k ≤ i → (xorK s c k).getD i 0#8 = s.getD i 0#8 := by
    intro k
    induction k with
    | zero => intros; rfl
    | succ k ih => intro i hi; rw [xorK, getD_set8 (by omega), ih i (by omega)]
  exact fun i => key i i (Nat.le_refl i)
theorem encK_zero (c s : List (BitVec 8)) : encK c s 0 = xorK s c 16 := xorK_take s c 16 (by omega)
def pf126 : List AV → Option AV
  | [v, w, u] => (agg? .u8 8 240 v).bind fun c => (agg? .u8 8 16 w).bind fun s => (agg? .u8 8 256 u).bind fun x => if x = boxL then some (.agg (nums .u8 (encB c s))) else none
  | _ => none
def tbVd0 := (And.intro (And.intro (And.intro @teE (And.intro @EV1_te @EV1_glob)) (And.intro @EV1_gs (And.intro @EV1_dyn @EV1_mu))) (And.intro (And.intro @EV1_r (And.intro @rnd2_at @nums_strip)) (And.intro @nums_set8 (And.intro @splice0 @roundF_len))))
set_option maxRecDepth 20000 in
theorem sound126 : SoundV Tryd.prog glob 126 pf126 := by
  refine SoundV.walk EV1 okV1 mixed Tryd.func126 rfl Tryd.call126 (by kernel_rfl) ?_
  intro args r hr
  unfold pf126 at hr
  split at hr
  · rename_i v w u
    simp only [Option.bind_eq_some_iff] at hr
    obtain ⟨c, h1, s, h2, x, h3, hr⟩ := hr
    obtain ⟨rfl, hc⟩ := agg?_of h1
    obtain ⟨rfl, hs⟩ := agg?_of h2
    obtain ⟨rfl, _⟩ := agg?_of h3
    split at hr
    · rename_i hx
      subst hx
      cases hr
      rw [Tryd.ntmps126, Tryd.results126]
      refine ⟨by simp, ?_⟩
      simp (maxSteps := 1000000) (disch := first | omega | (simp only [boxL_len, roundF_len, lnB] <;> omega) | fail) only [ev0, ev1, ev2, ev3, ↓reduceIte, reduceCtorEq, zaa, zab, zac, zad, zae, zaf, zag, zah, zai, zaj, zak, zal, zam, zan, zao, zap, zaq, ↓zar, ↓zas, zat, zau, zav, zaw, zax, zay, zaz, zba, zbb, zbc, zbd, zbe, zbf, zbg, zbh, zbi, zbj, zbk, zbl, zbm, zbn, zbo, zbp, zbq, zbr, zbs, zbt, zbu, zbv, zbw, zbx, zby, zbz, zca, zcb, zcc, zcd, zce, zcf, zcg, zch, zci, zcj, zck, zcl, zcm, zcn, zco, zcp, zcq, zcr, zcs, zct, zcu, zcv, zcw, zcx, zcy, zcz, zda, zdb, zdc, zdd, zde, zdf, zdg, zdh, zdi, zdj, zdk, zdl, ev5, tbVd0, glob, Nat.reduceMod, hs, hc]
      refine loopQ_of (fun n σ => ∃ i, i ≤ 16 ∧ n = 16 - i ∧ σ.slots 7 = .raw (.int .i64 (i : Int)) ∧ σ.slots 3 = .ptr (.own 0 3 1) 0 ∧ σ.slots 4 = .ptr (.own 0 4 1) 0 ∧ σ.slots 5 = .ptr (.own 0 5 1) 0 ∧ σ.slots 6 = .ptr (.own 0 6 1) 0 ∧ σ.box (.own 0 3 1) = some (nums .u8 c) ∧ σ.box (.own 0 4 1) = some (nums .u8 (xorK s c i)) ∧ σ.box (.own 0 5 1) = some (nums .u8 boxL) ∧ σ.box (.own 0 6 1) = some (nums .u8 (List.replicate 16 0#8))) 16 ?_ ?_
      · refine ⟨0, by omega, by omega, ?_⟩
        simp (maxSteps := 1000000) (disch := first | omega | (simp only [boxL_len, roundF_len, lnB] <;> omega) | fail) only [ev0, ev1, ev2, ev3, ↓reduceIte, reduceCtorEq, zaa, zab, zac, zad, zae, zaf, zag, zah, zai, zaj, zak, zal, zam, zan, zao, zap, zaq, ↓zar, ↓zas, zat, zau, zav, zaw, zax, zay, zaz, zba, zbb, zbc, zbd, zbe, zbf, zbg, zbh, zbi, zbj, zbk, zbl, zbm, zbn, zbo, zbp, zbq, zbr, zbs, zbt, zbu, zbv, zbw, zbx, zby, zbz, zca, zcb, zcc, zcd, zce, zcf, zcg, zch, zci, zcj, zck, zcl, zcm, zcn, zco, zcp, zcq, zcr, zcs, zct, zcu, zcv, zcw, zcx, zcy, zcz, zda, zdb, zdc, zdd, zde, zdf, zdg, zdh, zdi, zdj, zdk, zdl, ev5, tbVd0, glob, Nat.reduceMod, hs, hc]
        repeat' first | exact rfl | refine ⟨?_, ?_⟩
      · rintro n ⟨sl, gn, bx', us⟩ ⟨i, hi, rfl, s7, s3, s4, s5, s6, b3, b4, b5, b6⟩
        dsimp only at s7 s3 s4 s5 s6 b3 b4 b5 b6
        have lX := (xorK_len s c i).trans hs
        have hX : xorK s c (i + 1) = (xorK s c i).set i (s.getD i 0#8 ^^^ c.getD i 0#8) := rfl
        have hG : (xorK s c i).getD i 0#8 = s.getD i 0#8 := xorK_get s c i
        generalize hx : xorK s c i = y at b4 lX hX hG
        simp (maxSteps := 1000000) (disch := first | omega | (simp only [boxL_len, roundF_len, lnB] <;> omega) | fail) only [ev0, ev1, ev2, ev3, ↓reduceIte, reduceCtorEq, zaa, zab, zac, zad, zae, zaf, zag, zah, zai, zaj, zak, zal, zam, zan, zao, zap, zaq, ↓zar, ↓zas, zat, zau, zav, zaw, zax, zay, zaz, zba, zbb, zbc, zbd, zbe, zbf, zbg, zbh, zbi, zbj, zbk, zbl, zbm, zbn, zbo, zbp, zbq, zbr, zbs, zbt, zbu, zbv, zbw, zbx, zby, zbz, zca, zcb, zcc, zcd, zce, zcf, zcg, zch, zci, zcj, zck, zcl, zcm, zcn, zco, zcp, zcq, zcr, zcs, zct, zcu, zcv, zcw, zcx, zcy, zcz, zda, zdb, zdc, zdd, zde, zdf, zdg, zdh, zdi, zdj, zdk, zdl, ev5, tbVd0, glob, Nat.reduceMod, s7, s3, s4, s5, s6, b3, b4, b5, b6, lX, hc]
        refine condQ_dec (fun hlt => ?_) (fun hge => ?_)
        · have hlt : i < 16 := by omega
          simp (maxSteps := 1000000) (disch := first | omega | (simp only [boxL_len, roundF_len, lnB] <;> omega) | fail) only [ev0, ev1, ev2, ev3, ↓reduceIte, reduceCtorEq, zaa, zab, zac, zad, zae, zaf, zag, zah, zai, zaj, zak, zal, zam, zan, zao, zap, zaq, ↓zar, ↓zas, zat, zau, zav, zaw, zax, zay, zaz, zba, zbb, zbc, zbd, zbe, zbf, zbg, zbh, zbi, zbj, zbk, zbl, zbm, zbn, zbo, zbp, zbq, zbr, zbs, zbt, zbu, zbv, zbw, zbx, zby, zbz, zca, zcb, zcc, zcd, zce, zcf, zcg, zch, zci, zcj, zck, zcl, zcm, zcn, zco, zcp, zcq, zcr, zcs, zct, zcu, zcv, zcw, zcx, zcy, zcz, zda, zdb, zdc, zdd, zde, zdf, zdg, zdh, zdi, zdj, zdk, zdl, ev5, tbVd0, glob, Nat.reduceMod, s7, s3, s4, s5, s6, b3, b4, b5, b6, lX, hc, hG]
          refine ⟨16 - (i + 1), by omega, i + 1, by omega, rfl, rfl, ?_⟩
          rw [hX]
        · have hi : i = 16 := by omega
          subst hi
          rw [← encK_zero] at hx
          simp (maxSteps := 1000000) (disch := first | omega | (simp only [boxL_len, roundF_len, lnB] <;> omega) | fail) only [ev0, ev1, ev2, ev3, ↓reduceIte, reduceCtorEq, zaa, zab, zac, zad, zae, zaf, zag, zah, zai, zaj, zak, zal, zam, zan, zao, zap, zaq, ↓zar, ↓zas, zat, zau, zav, zaw, zax, zay, zaz, zba, zbb, zbc, zbd, zbe, zbf, zbg, zbh, zbi, zbj, zbk, zbl, zbm, zbn, zbo, zbp, zbq, zbr, zbs, zbt, zbu, zbv, zbw, zbx, zby, zbz, zca, zcb, zcc, zcd, zce, zcf, zcg, zch, zci, zcj, zck, zcl, zcm, zcn, zco, zcp, zcq, zcr, zcs, zct, zcu, zcv, zcw, zcx, zcy, zcz, zda, zdb, zdc, zdd, zde, zdf, zdg, zdh, zdi, zdj, zdk, zdl, ev5, tbVd0, glob, Nat.reduceMod, s7, s3, s4, s5, s6, b3, b4, b5, b6, lX, hc]
          refine loopQ_of (fun n σ => ∃ k, k ≤ 14 ∧ n = 14 - k ∧ σ.slots 8 = .raw (.int .i64 ((k : Int) + 1)) ∧ σ.slots 3 = .ptr (.own 0 3 1) 0 ∧ σ.slots 4 = .ptr (.own 0 4 1) 0 ∧ σ.slots 5 = .ptr (.own 0 5 1) 0 ∧ σ.slots 6 = .ptr (.own 0 6 1) 0 ∧ σ.box (.own 0 3 1) = some (nums .u8 c) ∧ σ.box (.own 0 4 1) = some (nums .u8 (encK c s k)) ∧ σ.box (.own 0 5 1) = some (nums .u8 boxL) ∧ σ.box (.own 0 6 1) = some (nums .u8 (List.replicate 16 0#8))) 14 ?_ ?_
          · refine ⟨0, by omega, by omega, ?_⟩
            rw [hx]
            simp (maxSteps := 1000000) (disch := first | omega | (simp only [boxL_len, roundF_len, lnB] <;> omega) | fail) only [ev0, ev1, ev2, ev3, ↓reduceIte, reduceCtorEq, zaa, zab, zac, zad, zae, zaf, zag, zah, zai, zaj, zak, zal, zam, zan, zao, zap, zaq, ↓zar, ↓zas, zat, zau, zav, zaw, zax, zay, zaz, zba, zbb, zbc, zbd, zbe, zbf, zbg, zbh, zbi, zbj, zbk, zbl, zbm, zbn, zbo, zbp, zbq, zbr, zbs, zbt, zbu, zbv, zbw, zbx, zby, zbz, zca, zcb, zcc, zcd, zce, zcf, zcg, zch, zci, zcj, zck, zcl, zcm, zcn, zco, zcp, zcq, zcr, zcs, zct, zcu, zcv, zcw, zcx, zcy, zcz, zda, zdb, zdc, zdd, zde, zdf, zdg, zdh, zdi, zdj, zdk, zdl, ev5, tbVd0, glob, Nat.reduceMod, s3, s4, s5, s6, b3, b4, b5, b6]
            exact rfl
          · rintro n ⟨sl, gn, bx', us⟩ ⟨k, hk, rfl, s8, s3, s4, s5, s6, b3, b4, b5, b6⟩
            dsimp only at s8 s3 s4 s5 s6 b3 b4 b5 b6
            have lE := encK_len (c := c) hs k
            have hE : encK c s (k + 1) = roundF (encK c s k) (rk c (k + 1)) ((k + 1 : Nat) == 14) := rfl
            generalize hy : encK c s k = y at b4 lE hE
            simp (maxSteps := 1000000) (disch := first | omega | (simp only [boxL_len, roundF_len, lnB] <;> omega) | fail) only [ev0, ev1, ev2, ev3, ↓reduceIte, reduceCtorEq, zaa, zab, zac, zad, zae, zaf, zag, zah, zai, zaj, zak, zal, zam, zan, zao, zap, zaq, ↓zar, ↓zas, zat, zau, zav, zaw, zax, zay, zaz, zba, zbb, zbc, zbd, zbe, zbf, zbg, zbh, zbi, zbj, zbk, zbl, zbm, zbn, zbo, zbp, zbq, zbr, zbs, zbt, zbu, zbv, zbw, zbx, zby, zbz, zca, zcb, zcc, zcd, zce, zcf, zcg, zch, zci, zcj, zck, zcl, zcm, zcn, zco, zcp, zcq, zcr, zcs, zct, zcu, zcv, zcw, zcx, zcy, zcz, zda, zdb, zdc, zdd, zde, zdf, zdg, zdh, zdi, zdj, zdk, zdl, ev5, tbVd0, glob, Nat.reduceMod, s8, s3, s4, s5, s6, b3, b4, b5, b6, lE, hc]
            refine condQ_dec (fun hlt => ?_) (fun hge => ?_)
            · have lR := rk_len hc (show k + 1 < 15 by omega)
              have e1 : (((k : Int) + 1) == 14) = ((k + 1 : Nat) == 14) := by
                by_cases h : k + 1 = 14
                · rw [beq_iff_eq.2 h, beq_iff_eq.2 (show (k : Int) + 1 = 14 by omega)]
                · rw [beq_eq_false_iff_ne.2 h, beq_eq_false_iff_ne.2 (show (k : Int) + 1 ≠ 14 by omega)]
              simp (maxSteps := 1000000) (disch := first | omega | (simp only [boxL_len, roundF_len, lnB] <;> omega) | fail) only [ev0, ev1, ev2, ev3, ↓reduceIte, reduceCtorEq, zaa, zab, zac, zad, zae, zaf, zag, zah, zai, zaj, zak, zal, zam, zan, zao, zap, zaq, ↓zar, ↓zas, zat, zau, zav, zaw, zax, zay, zaz, zba, zbb, zbc, zbd, zbe, zbf, zbg, zbh, zbi, zbj, zbk, zbl, zbm, zbn, zbo, zbp, zbq, zbr, zbs, zbt, zbu, zbv, zbw, zbx, zby, zbz, zca, zcb, zcc, zcd, zce, zcf, zcg, zch, zci, zcj, zck, zcl, zcm, zcn, zco, zcp, zcq, zcr, zcs, zct, zcu, zcv, zcw, zcx, zcy, zcz, zda, zdb, zdc, zdd, zde, zdf, zdg, zdh, zdi, zdj, zdk, zdl, ev5, tbVd0, glob, Nat.reduceMod, s8, s3, s4, s5, s6, b3, b4, b5, b6, lE, hc, e1]
              refine ⟨14 - (k + 1), by omega, k + 1, by omega, rfl, rfl, ?_⟩
              rw [hE]
              rfl
            · have hk : k = 14 := by omega
              subst hk
              have hF : encB c s = y := hy
              rw [hF]
              simp (maxSteps := 1000000) (disch := first | omega | (simp only [boxL_len, roundF_len, lnB] <;> omega) | fail) only [ev0, ev1, ev2, ev3, ↓reduceIte, reduceCtorEq, zaa, zab, zac, zad, zae, zaf, zag, zah, zai, zaj, zak, zal, zam, zan, zao, zap, zaq, ↓zar, ↓zas, zat, zau, zav, zaw, zax, zay, zaz, zba, zbb, zbc, zbd, zbe, zbf, zbg, zbh, zbi, zbj, zbk, zbl, zbm, zbn, zbo, zbp, zbq, zbr, zbs, zbt, zbu, zbv, zbw, zbx, zby, zbz, zca, zcb, zcc, zcd, zce, zcf, zcg, zch, zci, zcj, zck, zcl, zcm, zcn, zco, zcp, zcq, zcr, zcs, zct, zcu, zcv, zcw, zcx, zcy, zcz, zda, zdb, zdc, zdd, zde, zdf, zdg, zdh, zdi, zdj, zdk, zdl, ev5, tbVd0, glob, Nat.reduceMod, s8, s3, s4, s5, s6, b3, b4, b5, b6, lE, hc]
              exact ResQ.same rfl
    · cases hr
  · cases hr
end Go.Proofs.YtddeffdgldjdjaaDoor
