/- What the document lays over: what the walk comes to. -/
import Derived.Test.YtddeffdgldjdjaaDoorVh
namespace Go.Proofs.YtddeffdgldjdjaaDoor
set_option linter.unusedSimpArgs false
set_option linter.unusedVariables false
set_option linter.defProp false
open Go Go.Abs
open Nat renaming reduceAdd → zaa, reduceSub → zab, reduceMul → zac, reduceLT → zad, reduceLeDiff → zae, reduceEqDiff → zaf, reduceBEq → zag
open BitVec renaming reduceOfInt → zah
open Int renaming reduceLE → zai, reduceLT → zaj, reduceGT → zak, reduceGE → zal, reduceNeg → zam, reduceAdd → zan, reduceSub → zao, reduceMul → zap, reduceToNat → zaq
open Go.Abs renaming bind_go → zar, map_go → zas, wantedV → zat, isWrite → zau, grow → zav, write → zaw, ofV → zax, start → zaz, strip → zba, endQ → zbb, resV → zbc, rawsRes → zbd, rawRes → zbe, exports → zbf, export1 → zbg, isSelf → zbl, convSelf → zbm, convV → zbn, loadV → zbo, storeV → zbp, fieldAddrV → zbq, fieldV → zbr, indexAddrV → zbs, indexV → zbt, partV → zbu, isAggK → zbv, isStr → zbw, place → zbx, lenV → zby, min2V → zbz, makeV → zca, freshSl → zcb, sliceV → zcc, boundOr → zcd, bound → zce, bounds → zcf, cutFl → zcg, copyV → zch, slCells → zci, srcV → zcj, appendV → zck, room → zcl, zerosOf → zcm, eqNeg → zcn, kd → zco, takeR → zcp, hasViewL → zcq, hasView → zcr, freshR → zcs, freshC → zct, snapAll → zcu, snap → zcv, snapL → zcw, flatL → zcx, pureL → zcy, pureA → zcz, fillC → zda, arrOK → zdb, oneA → zdc, partB → zdd, ren1 → zdf, applyW → zdh, useL → zdi, isGen → zdk, startG → zdl
open Go.Abs.AV renaming cells → zay, laid → zde
open Go.Abs.AS renaming grown → zbh, put → zbi, mute → zdj
open Go.Abs.Env renaming know → zbj, boxed → zbk
open Go.Abs.CR renaming gr → zdg
set_option maxHeartbeats 4000000
theorem ctr_step {n : List (BitVec 8)} (hn : n.length = 12) (c : BitVec 32) (j : Nat) : nextB (ctrB n (c + BitVec.ofNat 32 j)) = ctrB n (c + BitVec.ofNat 32 (j + 1)) := by
  rw [next_ctr hn, BitVec.add_assoc, BitVec.ofNat_add]
def tbVi0 := (And.intro (And.intro (And.intro (And.intro @teE (And.intro @EZ_te @EZ_glob)) (And.intro @EZ_gs (And.intro @EZ_dyn @EZ_mu))) (And.intro (And.intro @EZ_e (And.intro @EZ_b @EZ_c)) (And.intro (And.intro @EZ_s @EZ_n) (And.intro @EZ_h @EZ_x)))) (And.intro (And.intro (And.intro @exp2_at (And.intro @box2_at @ctr4_at)) (And.intro (And.intro @ctr4_one @enc2_at) (And.intro @next3_at @hash3_at))) (And.intro (And.intro @xor3_go (And.intro @nums_strip @nums_set8)) (And.intro (And.intro @nums_ren @boxL_len) (And.intro @encB_len @splice0)))))
set_option maxRecDepth 20000 in
theorem sound95 : SoundV Tryd.prog glob 95 pf95 := by
  refine SoundV.walk EZ okZ mixed Tryd.func95 rfl Tryd.call95 (by kernel_rfl) ?_
  intro args r hr
  unfold pf95 at hr
  split at hr
  · rename_i v u x w
    simp only [Option.bind_eq_some_iff] at hr
    obtain ⟨k, h1, n, h2, c, h3, b, h4, hr⟩ := hr
    obtain ⟨rfl, hk⟩ := agg?_of h1
    obtain ⟨rfl, hn⟩ := agg?_of h2
    split at hr
    · rename_i hc
      cases hr
      obtain ⟨fl, rfl⟩ := row?_of h4
      rw [num?_of h3, Tryd.ntmps95, Tryd.results95]
      have lX := expF_len hk
      have lC0 := ctrB_len hn c
      have lG := gxorB_len k n c b
      have hG : ∀ x, x < b.length → (gxorB k n c b).getD x 0#8 = b.getD x 0#8 ^^^ strm (expF k) n c x := fun x hx => gxor_get hn hx
      generalize gxorB k n c b = X at lG hG
      refine ⟨by simp, ?_⟩
      simp (maxSteps := 1000000) (disch := first | omega | (simp only [updB, updI, dsB, reduceCtorEq, Nat.reduceEqDiff, Abs.Id.mk.injEq, and_false, false_and, and_true, true_and, if_false, ↓reduceIte, Option.isSome_some, *]; done) | (simp only [zpK_len, lenK_len, boxL_len, gxorB_len, encB_len, hashB_len, padB_len, lnB] <;> omega) | fail) only [ev0, ev1, ev2, ev3, ↓reduceIte, reduceCtorEq, zaa, zab, zac, zad, zae, zaf, zag, zah, zai, zaj, zak, zal, zam, zan, zao, zap, zaq, ↓zar, ↓zas, zat, zau, zav, zaw, zax, zay, zaz, zba, zbb, zbc, zbd, zbe, zbf, zbg, zbh, zbi, zbj, zbk, zbl, zbm, zbn, zbo, zbp, zbq, zbr, zbs, zbt, zbu, zbv, zbw, zbx, zby, zbz, zca, zcb, zcc, zcd, zce, zcf, zcg, zch, zci, zcj, zck, zcl, zcm, zcn, zco, zcp, zcq, zcr, zcs, zct, zcu, zcv, zcw, zcx, zcy, zcz, zda, zdb, zdc, zdd, zde, zdf, zdg, zdh, zdi, zdj, zdk, zdl, ev5, tbVi0, glob, Nat.reduceMod, hk, hn, lX, lC0]
      refine loopQ_of (fun n' σ => ∃ j i, 16 * j ≤ b.length + 15 ∧ n' = b.length + 16 - 16 * j ∧ σ.slots 11 = .sl (X.take (16 * j)).length (nums .u8 (X.take (16 * j))) (.own i 1) ∧ σ.slots 13 = .raw (.int .i64 (16 * (j : Int))) ∧ σ.slots 3 = .sl b.length (nums .u8 b) .bor ∧ σ.slots 4 = .ptr (.own 0 4 1) 0 ∧ σ.slots 5 = .ptr (.own 0 5 1) 0 ∧ σ.slots 9 = .ptr (.own 0 9 1) 0 ∧ σ.slots 10 = .ptr (.own 0 10 1) 0 ∧ σ.slots 12 = .ptr (.own 0 12 1) 0 ∧ σ.box (.own 0 4 1) = some (nums .u8 k) ∧ σ.box (.own 0 5 1) = some (nums .u8 n) ∧ σ.box (.own 0 9 1) = some (nums .u8 (expF k)) ∧ σ.box (.own 0 10 1) = some (nums .u8 boxL) ∧ σ.box (.own 0 12 1) = some (nums .u8 (ctrB n (c + BitVec.ofNat 32 j))) ∧ Free σ.used (σ.gen 57) 57 i) (b.length + 16) ?_ ?_
      · refine ⟨0, ⟨0, 19, 0, 1⟩, by omega, by omega, ?_⟩
        simp (maxSteps := 1000000) (disch := first | omega | (simp only [updB, updI, dsB, reduceCtorEq, Nat.reduceEqDiff, Abs.Id.mk.injEq, and_false, false_and, and_true, true_and, if_false, ↓reduceIte, Option.isSome_some, *]; done) | (simp only [zpK_len, lenK_len, boxL_len, gxorB_len, encB_len, hashB_len, padB_len, lnB] <;> omega) | fail) only [ev0, ev1, ev2, ev3, ↓reduceIte, reduceCtorEq, zaa, zab, zac, zad, zae, zaf, zag, zah, zai, zaj, zak, zal, zam, zan, zao, zap, zaq, ↓zar, ↓zas, zat, zau, zav, zaw, zax, zay, zaz, zba, zbb, zbc, zbd, zbe, zbf, zbg, zbh, zbi, zbj, zbk, zbl, zbm, zbn, zbo, zbp, zbq, zbr, zbs, zbt, zbu, zbv, zbw, zbx, zby, zbz, zca, zcb, zcc, zcd, zce, zcf, zcg, zch, zci, zcj, zck, zcl, zcm, zcn, zco, zcp, zcq, zcr, zcs, zct, zcu, zcv, zcw, zcx, zcy, zcz, zda, zdb, zdc, zdd, zde, zdf, zdg, zdh, zdi, zdj, zdk, zdl, ev5, tbVi0, glob, Nat.reduceMod, hk, hn, lX, lC0]
        exact ⟨rfl, by rw [BitVec.add_zero], rfl, fun g _ => rfl, by simp⟩
      · rintro n' ⟨sl, gn, bx, us⟩ ⟨j, i, hj, rfl, s11, s13, s3, s4, s5, s9, s10, s12, b4, b5, b9, b10, b12, hf⟩
        dsimp only at s11 s13 s3 s4 s5 s9 s10 s12 b4 b5 b9 b10 b12 hf
        have hf0 := hf.now
        have lC := ctrB_len hn (c + BitVec.ofNat 32 j)
        have hC := ctr_step hn c j
        simp (maxSteps := 1000000) (disch := first | omega | (simp only [updB, updI, dsB, reduceCtorEq, Nat.reduceEqDiff, Abs.Id.mk.injEq, and_false, false_and, and_true, true_and, if_false, ↓reduceIte, Option.isSome_some, *]; done) | (simp only [zpK_len, lenK_len, boxL_len, gxorB_len, encB_len, hashB_len, padB_len, lnB] <;> omega) | fail) only [ev0, ev1, ev2, ev3, ↓reduceIte, reduceCtorEq, zaa, zab, zac, zad, zae, zaf, zag, zah, zai, zaj, zak, zal, zam, zan, zao, zap, zaq, ↓zar, ↓zas, zat, zau, zav, zaw, zax, zay, zaz, zba, zbb, zbc, zbd, zbe, zbf, zbg, zbh, zbi, zbj, zbk, zbl, zbm, zbn, zbo, zbp, zbq, zbr, zbs, zbt, zbu, zbv, zbw, zbx, zby, zbz, zca, zcb, zcc, zcd, zce, zcf, zcg, zch, zci, zcj, zck, zcl, zcm, zcn, zco, zcp, zcq, zcr, zcs, zct, zcu, zcv, zcw, zcx, zcy, zcz, zda, zdb, zdc, zdd, zde, zdf, zdg, zdh, zdi, zdj, zdk, zdl, ev5, tbVi0, glob, Nat.reduceMod, s13, s3, s4, s5, s9, s10, s12, b4, b5, b9, b10, b12, s11, lX, lC, hk, hn]
        refine condQ_dec (fun hlt => ?_) (fun hge => ?_)
        · have hlt : 16 * j < b.length := by omega
          obtain ⟨s, hs⟩ : ∃ s, encB (expF k) (ctrB n (c + BitVec.ofNat 32 j)) = s := ⟨_, rfl⟩
          have lS : s.length = 16 := by rw [← hs]; exact encB_len _ _
          simp (maxSteps := 1000000) (disch := first | omega | (simp only [updB, updI, dsB, reduceCtorEq, Nat.reduceEqDiff, Abs.Id.mk.injEq, and_false, false_and, and_true, true_and, if_false, ↓reduceIte, Option.isSome_some, *]; done) | (simp only [zpK_len, lenK_len, boxL_len, gxorB_len, encB_len, hashB_len, padB_len, lnB] <;> omega) | fail) only [ev0, ev1, ev2, ev3, ↓reduceIte, reduceCtorEq, zaa, zab, zac, zad, zae, zaf, zag, zah, zai, zaj, zak, zal, zam, zan, zao, zap, zaq, ↓zar, ↓zas, zat, zau, zav, zaw, zax, zay, zaz, zba, zbb, zbc, zbd, zbe, zbf, zbg, zbh, zbi, zbj, zbk, zbl, zbm, zbn, zbo, zbp, zbq, zbr, zbs, zbt, zbu, zbv, zbw, zbx, zby, zbz, zca, zcb, zcc, zcd, zce, zcf, zcg, zch, zci, zcj, zck, zcl, zcm, zcn, zco, zcp, zcq, zcr, zcs, zct, zcu, zcv, zcw, zcx, zcy, zcz, zda, zdb, zdc, zdd, zde, zdf, zdg, zdh, zdi, zdj, zdk, zdl, ev5, tbVi0, glob, Nat.reduceMod, s13, s3, s4, s5, s9, s10, s12, b4, b5, b9, b10, b12, s11, lX, lC, hk, hn, hs, lS]
          refine loopQ_of (fun n' σ => ∃ t i, t ≤ 16 ∧ 16 * j + t ≤ b.length ∧ n' = 16 - t ∧ σ.slots 15 = .raw (.int .i64 (t : Int)) ∧ (∃ g, σ.slots 14 = .ptr (.own 0 14 g) 0 ∧ σ.box (.own 0 14 g) = some (nums .u8 s)) ∧ σ.slots 11 = .sl (X.take (16 * j + t)).length (nums .u8 (X.take (16 * j + t))) (.own i 1) ∧ σ.slots 13 = .raw (.int .i64 (16 * (j : Int))) ∧ σ.slots 3 = .sl b.length (nums .u8 b) .bor ∧ σ.slots 4 = .ptr (.own 0 4 1) 0 ∧ σ.slots 5 = .ptr (.own 0 5 1) 0 ∧ σ.slots 9 = .ptr (.own 0 9 1) 0 ∧ σ.slots 10 = .ptr (.own 0 10 1) 0 ∧ σ.slots 12 = .ptr (.own 0 12 1) 0 ∧ σ.box (.own 0 4 1) = some (nums .u8 k) ∧ σ.box (.own 0 5 1) = some (nums .u8 n) ∧ σ.box (.own 0 9 1) = some (nums .u8 (expF k)) ∧ σ.box (.own 0 10 1) = some (nums .u8 boxL) ∧ σ.box (.own 0 12 1) = some (nums .u8 (ctrB n (c + BitVec.ofNat 32 j))) ∧ Free σ.used (σ.gen 57) 57 i) 16 ?_ ?_
          · refine ⟨0, i, by omega, by omega, by omega, ?_⟩
            simp (maxSteps := 1000000) (disch := first | omega | (simp only [updB, updI, dsB, reduceCtorEq, Nat.reduceEqDiff, Abs.Id.mk.injEq, and_false, false_and, and_true, true_and, if_false, ↓reduceIte, Option.isSome_some, *]; done) | (simp only [zpK_len, lenK_len, boxL_len, gxorB_len, encB_len, hashB_len, padB_len, lnB] <;> omega) | fail) only [ev0, ev1, ev2, ev3, ↓reduceIte, reduceCtorEq, zaa, zab, zac, zad, zae, zaf, zag, zah, zai, zaj, zak, zal, zam, zan, zao, zap, zaq, ↓zar, ↓zas, zat, zau, zav, zaw, zax, zay, zaz, zba, zbb, zbc, zbd, zbe, zbf, zbg, zbh, zbi, zbj, zbk, zbl, zbm, zbn, zbo, zbp, zbq, zbr, zbs, zbt, zbu, zbv, zbw, zbx, zby, zbz, zca, zcb, zcc, zcd, zce, zcf, zcg, zch, zci, zcj, zck, zcl, zcm, zcn, zco, zcp, zcq, zcr, zcs, zct, zcu, zcv, zcw, zcx, zcy, zcz, zda, zdb, zdc, zdd, zde, zdf, zdg, zdh, zdi, zdj, zdk, zdl, ev5, tbVi0, glob, Nat.reduceMod, s13, s3, s4, s5, s9, s10, s12, b4, b5, b9, b10, b12, s11, lX, lC, hk, hn, hs, lS]
            exact ⟨rfl, ⟨_, rfl, if_pos rfl⟩, hf⟩
          · rintro n' ⟨sl, gn, bx, us⟩ ⟨t, i, ht, htb, rfl, s15, ⟨g, s14, b14⟩, s11, s13, s3, s4, s5, s9, s10, s12, b4, b5, b9, b10, b12, hf⟩
            dsimp only at s15 s14 b14 s11 s13 s3 s4 s5 s9 s10 s12 b4 b5 b9 b10 b12 hf
            have hf0 := hf.now
            have lT : (X.take (16 * j + t)).length = 16 * j + t := by rw [List.length_take]; omega
            by_cases hgo : t < 16 ∧ 16 * j + t < b.length
            · have e1 : decide ((t : Int) < 16) = true := decide_eq_true (by omega)
              have e2 : decide (16 * (j : Int) + (t : Int) < (b.length : Int)) = true := decide_eq_true (by omega)
              have hX : X.take (16 * j + (t + 1)) = X.take (16 * j + t) ++ [b.getD (16 * j + t) 0#8 ^^^ s.getD t 0#8] := by
                rw [show 16 * j + (t + 1) = 16 * j + t + 1 by omega, take_snoc (by omega), hG _ hgo.2, strm, show (16 * j + t) / 16 = j by omega, show (16 * j + t) % 16 = t by omega, hs]
              generalize hy : X.take (16 * j + t) = y at s11 lT hX
              simp (maxSteps := 1000000) (disch := first | omega | (simp only [updB, updI, dsB, reduceCtorEq, Nat.reduceEqDiff, Abs.Id.mk.injEq, and_false, false_and, and_true, true_and, if_false, ↓reduceIte, Option.isSome_some, *]; done) | (simp only [zpK_len, lenK_len, boxL_len, gxorB_len, encB_len, hashB_len, padB_len, lnB] <;> omega) | fail) only [ev0, ev1, ev2, ev3, ↓reduceIte, reduceCtorEq, zaa, zab, zac, zad, zae, zaf, zag, zah, zai, zaj, zak, zal, zam, zan, zao, zap, zaq, ↓zar, ↓zas, zat, zau, zav, zaw, zax, zay, zaz, zba, zbb, zbc, zbd, zbe, zbf, zbg, zbh, zbi, zbj, zbk, zbl, zbm, zbn, zbo, zbp, zbq, zbr, zbs, zbt, zbu, zbv, zbw, zbx, zby, zbz, zca, zcb, zcc, zcd, zce, zcf, zcg, zch, zci, zcj, zck, zcl, zcm, zcn, zco, zcp, zcq, zcr, zcs, zct, zcu, zcv, zcw, zcx, zcy, zcz, zda, zdb, zdc, zdd, zde, zdf, zdg, zdh, zdi, zdj, zdk, zdl, ev5, tbVi0, glob, Nat.reduceMod, s13, s3, s4, s5, s9, s10, s12, b4, b5, b9, b10, b12, s15, s14, b14, s11, lX, lC, hk, hn, lS, e1, e2, hf0]
              refine ⟨16 - (t + 1), by omega, t + 1, ⟨0, 57, 0, gn 57 + 1⟩, by omega, by omega, rfl, rfl, ⟨g, rfl, b14⟩, row_eq ?_ ?_, hf.go⟩
              · omega
              · rw [hX]
            · have hT : X.take (16 * j + t) = X.take (16 * (j + 1)) := by
                by_cases h16 : t = 16
                · rw [h16, Nat.mul_add, Nat.mul_one]
                · rw [List.take_of_length_le (by omega), List.take_of_length_le (by omega)]
              obtain ⟨y, hy⟩ : ∃ y, X.take (16 * (j + 1)) = y := ⟨_, rfl⟩
              rw [hT, hy] at s11 lT
              have hyl : y.length = min (16 * (j + 1)) X.length := by rw [← hy, List.length_take]
              have lC2 := ctrB_len hn (c + BitVec.ofNat 32 (j + 1))
              have e3 : (16 * (j : Int) + 16) = 16 * ((j + 1 : Nat) : Int) := by omega
              by_cases hk16 : t < 16
              · have e1 : decide ((t : Int) < 16) = true := decide_eq_true (by omega)
                have e2 : decide (16 * (j : Int) + (t : Int) < (b.length : Int)) = false := decide_eq_false (by omega)
                simp (maxSteps := 1000000) (disch := first | omega | (simp only [updB, updI, dsB, reduceCtorEq, Nat.reduceEqDiff, Abs.Id.mk.injEq, and_false, false_and, and_true, true_and, if_false, ↓reduceIte, Option.isSome_some, *]; done) | (simp only [zpK_len, lenK_len, boxL_len, gxorB_len, encB_len, hashB_len, padB_len, lnB] <;> omega) | fail) only [ev0, ev1, ev2, ev3, ↓reduceIte, reduceCtorEq, zaa, zab, zac, zad, zae, zaf, zag, zah, zai, zaj, zak, zal, zam, zan, zao, zap, zaq, ↓zar, ↓zas, zat, zau, zav, zaw, zax, zay, zaz, zba, zbb, zbc, zbd, zbe, zbf, zbg, zbh, zbi, zbj, zbk, zbl, zbm, zbn, zbo, zbp, zbq, zbr, zbs, zbt, zbu, zbv, zbw, zbx, zby, zbz, zca, zcb, zcc, zcd, zce, zcf, zcg, zch, zci, zcj, zck, zcl, zcm, zcn, zco, zcp, zcq, zcr, zcs, zct, zcu, zcv, zcw, zcx, zcy, zcz, zda, zdb, zdc, zdd, zde, zdf, zdg, zdh, zdi, zdj, zdk, zdl, ev5, tbVi0, glob, Nat.reduceMod, s13, s3, s4, s5, s9, s10, s12, b4, b5, b9, b10, b12, s15, s14, b14, s11, lX, lC, hk, hn, lS, e1, e2, hC, lC2]
                exact ⟨b.length + 16 - 16 * (j + 1), by omega, j + 1, i, by omega, rfl, row_eq hyl hy.symm, i64_eq e3, rfl, hf⟩
              · have e1 : decide ((t : Int) < 16) = false := decide_eq_false (by omega)
                simp (maxSteps := 1000000) (disch := first | omega | (simp only [updB, updI, dsB, reduceCtorEq, Nat.reduceEqDiff, Abs.Id.mk.injEq, and_false, false_and, and_true, true_and, if_false, ↓reduceIte, Option.isSome_some, *]; done) | (simp only [zpK_len, lenK_len, boxL_len, gxorB_len, encB_len, hashB_len, padB_len, lnB] <;> omega) | fail) only [ev0, ev1, ev2, ev3, ↓reduceIte, reduceCtorEq, zaa, zab, zac, zad, zae, zaf, zag, zah, zai, zaj, zak, zal, zam, zan, zao, zap, zaq, ↓zar, ↓zas, zat, zau, zav, zaw, zax, zay, zaz, zba, zbb, zbc, zbd, zbe, zbf, zbg, zbh, zbi, zbj, zbk, zbl, zbm, zbn, zbo, zbp, zbq, zbr, zbs, zbt, zbu, zbv, zbw, zbx, zby, zbz, zca, zcb, zcc, zcd, zce, zcf, zcg, zch, zci, zcj, zck, zcl, zcm, zcn, zco, zcp, zcq, zcr, zcs, zct, zcu, zcv, zcw, zcx, zcy, zcz, zda, zdb, zdc, zdd, zde, zdf, zdg, zdh, zdi, zdj, zdk, zdl, ev5, tbVi0, glob, Nat.reduceMod, s13, s3, s4, s5, s9, s10, s12, b4, b5, b9, b10, b12, s15, s14, b14, s11, lX, lC, hk, hn, lS, e1, hC, lC2]
                exact ⟨b.length + 16 - 16 * (j + 1), by omega, j + 1, i, by omega, rfl, row_eq hyl hy.symm, i64_eq e3, rfl, hf⟩
        · have hT : X.take (16 * j) = X := List.take_of_length_le (by omega)
          rw [hT] at s11
          simp (maxSteps := 1000000) (disch := first | omega | (simp only [updB, updI, dsB, reduceCtorEq, Nat.reduceEqDiff, Abs.Id.mk.injEq, and_false, false_and, and_true, true_and, if_false, ↓reduceIte, Option.isSome_some, *]; done) | (simp only [zpK_len, lenK_len, boxL_len, gxorB_len, encB_len, hashB_len, padB_len, lnB] <;> omega) | fail) only [ev0, ev1, ev2, ev3, ↓reduceIte, reduceCtorEq, zaa, zab, zac, zad, zae, zaf, zag, zah, zai, zaj, zak, zal, zam, zan, zao, zap, zaq, ↓zar, ↓zas, zat, zau, zav, zaw, zax, zay, zaz, zba, zbb, zbc, zbd, zbe, zbf, zbg, zbh, zbi, zbj, zbk, zbl, zbm, zbn, zbo, zbp, zbq, zbr, zbs, zbt, zbu, zbv, zbw, zbx, zby, zbz, zca, zcb, zcc, zcd, zce, zcf, zcg, zch, zci, zcj, zck, zcl, zcm, zcn, zco, zcp, zcq, zcr, zcs, zct, zcu, zcv, zcw, zcx, zcy, zcz, zda, zdb, zdc, zdd, zde, zdf, zdg, zdh, zdi, zdj, zdk, zdl, ev5, tbVi0, glob, Nat.reduceMod, s13, s3, s4, s5, s9, s10, s12, b4, b5, b9, b10, b12, s11, hf0]
          exact ResQ.same rfl
    · cases hr
  · cases hr
end Go.Proofs.YtddeffdgldjdjaaDoor
