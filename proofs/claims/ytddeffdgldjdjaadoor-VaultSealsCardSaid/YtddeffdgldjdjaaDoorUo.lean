/- Open, what stands beside in a box: what its walk comes to. -/
import Derived.Test.YtddeffdgldjdjaaDoorUl
namespace Go.Proofs.YtddeffdgldjdjaaDoor
set_option linter.unusedSimpArgs false
set_option linter.unusedVariables false
set_option linter.defProp false
open Go Go.Abs
open Nat renaming reduceAdd → zaa, reduceSub → zab, reduceMul → zac, reduceLT → zad, reduceLeDiff → zae, reduceEqDiff → zaf, reduceBEq → zag
open BitVec renaming reduceOfInt → zah
open Int renaming reduceLE → zai, reduceLT → zaj, reduceGT → zak, reduceGE → zal, reduceNeg → zam, reduceAdd → zan, reduceSub → zao, reduceMul → zap, reduceToNat → zaq
open Go.Abs renaming bind_go → zar, map_go → zas, wantedV → zat, isWrite → zau, grow → zav, write → zaw, ofV → zax, start → zaz, strip → zba, endQ → zbb, resV → zbc, rawsRes → zbd, rawRes → zbe, exports → zbf, export1 → zbg, isSelf → zbl, convSelf → zbm, convV → zbn, loadV → zbo, storeV → zbp, fieldAddrV → zbq, fieldV → zbr, indexAddrV → zbs, indexV → zbt, partV → zbu, isAggK → zbv, isStr → zbw, place → zbx, lenV → zby, min2V → zbz, makeV → zca, freshSl → zcb, sliceV → zcc, boundOr → zcd, bound → zce, bounds → zcf, cutFl → zcg, copyV → zch, slCells → zci, srcV → zcj, appendV → zck, room → zcl, zerosOf → zcm, eqNeg → zcn, kd → zco, takeR → zcp, hasViewL → zcq, hasView → zcr, freshR → zcs, freshC → zct, snapAll → zcu, snap → zcv, snapL → zcw, flatL → zcx, pureL → zcy, pureA → zcz, fillC → zda, arrOK → zdb, oneA → zdc, partB → zdd, ren1 → zdf, applyW → zdh, useL → zdi, isGen → zdk, startG → zdl
open Go.Abs.AV renaming cells → zay, laid → zde
open Go.Abs.AS renaming grown → zbh, put → zbi, mute → zdj
open Go.Abs.Env renaming know → zbj, boxed → zbk
open Go.Abs.CR renaming gr → zdg
set_option maxHeartbeats 16000000
/-- bytes that stand in a box, from its beginning on -/
def vw? (bx : Boxes) : AV → Option (List (BitVec 8))
  | .view r 0 n c 1 => (bx r).bind fun cs => (row? .u8 8 (.sl cs.length cs .bor)).bind fun b => if n ≤ b.length ∧ n ≤ c then some (b.take n) else none
  | _ => none
theorem vw?_of {bx : Boxes} {v : AV} {t : List (BitVec 8)} (h : vw? bx v = some t) : ∃ r c b, v = .view r 0 t.length c 1 ∧ bx r = some (nums .u8 b) ∧ b.take t.length = t ∧ t.length ≤ b.length ∧ t.length ≤ c := by
  unfold vw? at h
  split at h
  · rename_i r n c
    simp only [Option.bind_eq_some_iff] at h
    obtain ⟨cs, h1, b, h2, h3⟩ := h
    obtain ⟨fl, h4⟩ := row?_of h2
    simp only [AV.sl.injEq] at h4
    obtain ⟨_, h5, _⟩ := h4
    subst h5
    split at h3
    · rename_i hn
      cases h3
      have : (b.take n).length = n := by rw [List.length_take]; omega
      exact ⟨r, c, b, by rw [this], h1, by rw [this], by omega, by omega⟩
    · cases h3
  · cases h
theorem vw?_at {bx : Boxes} {r : Bx} {n c : Nat} {b : List (BitVec 8)} (h : bx r = some (nums .u8 b)) (hn : n ≤ b.length) (hc : n ≤ c) : vw? bx (.view r 0 n c 1) = some (b.take n) := by
  unfold vw?
  simp only [h, Option.bind_some, row?_at (show (nums .u8 b).length = b.length by simp only [nums_len]), if_pos (And.intro hn hc)]
theorem vw?_is {r : Bx} {n c : Nat} {bx : Boxes} : vw? bx (.view r 0 n c 1) = (bx r).bind fun cs => (row? .u8 8 (.sl cs.length cs .bor)).bind fun b => if n ≤ b.length ∧ n ≤ c then some (b.take n) else none := rfl
def gx68 (args : List AV) (bx : Boxes) (us : Abs.Id → Bool) : Option CR := match args with
  | [v, u, x, w] => (agg? .u8 8 32 v).bind fun k => (agg? .u8 8 12 u).bind fun n => (vw? bx x).bind fun a => (row? .u8 8 w).bind fun t => if a.length ≤ 400000 ∧ t.length ≤ 400000 then some { v := .ret (.tup [.sl (openT k n a t).length (nums .u8 (openT k n a t)) .bor, .raw (.int .i64 (openE k n a t))]) } else none
  | _ => none
def tbUo0 := (And.intro (And.intro (And.intro (And.intro @teE @E8_te) (And.intro @E8_glob @E8_gs)) (And.intro (And.intro @E8_dyn @E8_mu) (And.intro @E8_x (And.intro @E8_t @gxor_two)))) (And.intro (And.intro (And.intro @gtag_at @nums_strip) (And.intro @nums_set8 @nums_ren)) (And.intro (And.intro @splice0 @tagB_len) (And.intro @gxorB_len (And.intro @own_ne @own_ne')))))
theorem soundX68 : SoundG Tryd.prog glob 68 gx68 := by
  refine SoundG.walk E8 ok8 mixed Tryd.func68 rfl Tryd.call68 (by kernel_rfl) ?_
  intro args bx us cr hr
  unfold gx68 at hr
  split at hr
  · rename_i v u x w
    simp only [Option.bind_eq_some_iff] at hr
    obtain ⟨k, h1, n, h2, a, h3, t, h4, hr⟩ := hr
    split at hr
    · rename_i hc
      obtain ⟨ha, ht⟩ := hc
      cases hr
      obtain ⟨rfl, hk⟩ := agg?_of h1
      obtain ⟨rfl, hn⟩ := agg?_of h2
      obtain ⟨fl, rfl⟩ := row?_of h4
      obtain ⟨r, cp, bb, rfl, hb, hbt, hle, hlc⟩ := vw?_of h3
      have hbs : (bx r).isSome := by rw [hb]; rfl
      rw [Tryd.ntmps68, Tryd.results68]
      refine ⟨by simp, fun L hlow hus hbf => ?_⟩
      have hbL := (hlow r hbs).1
      by_cases h16 : t.length < 16
      · rw [show openT k n a t = [] by rw [openT, if_pos h16], show openE k n a t = 3 by rw [openE, if_pos h16]]
        have e1 : decide ((t.length : Int) - 16 < 0) = true := decide_eq_true (by omega)
        simp (maxSteps := 1000000) (disch := first | omega | (simp only [updB, updI, dsB, reduceCtorEq, Nat.reduceEqDiff, Abs.Id.mk.injEq, and_false, false_and, and_true, true_and, if_false, ↓reduceIte, Option.isSome_some, *]; done) | (simp only [gxorB_len, tagB_len, sealB_len, lnB] <;> omega) | fail) only [ev0, ev1, ev2, ev3, ↓reduceIte, reduceCtorEq, zaa, zab, zac, zad, zae, zaf, zag, zah, zai, zaj, zak, zal, zam, zan, zao, zap, zaq, ↓zar, ↓zas, zat, zau, zav, zaw, zax, zay, zaz, zba, zbb, zbc, zbd, zbe, zbf, zbg, zbh, zbi, zbj, zbk, zbl, zbm, zbn, zbo, zbp, zbq, zbr, zbs, zbt, zbu, zbv, zbw, zbx, zby, zbz, zca, zcb, zcc, zcd, zce, zcf, zcg, zch, zci, zcj, zck, zcl, zcm, zcn, zco, zcp, zcq, zcr, zcs, zct, zcu, zcv, zcw, zcx, zcy, zcz, zda, zdb, zdc, zdd, zde, zdf, zdg, zdh, zdi, zdj, zdk, zdl, ev5, tbUo0, glob, Nat.reduceMod, Bx.own.injEq, and_false, false_and, and_true, true_and, hk, hn, e1]
        change EndG _ _ _ _ _ _ _
        exact EndG.r0 [.raw (.slice none 0 0), .raw (.int .i64 3)] [_, _] rfl (.cons .nilb (.cons (.raw _) .nil)) rfl (fun b hb' => by simp only [updB, own_ne hb', if_false]) (fun _ _ => rfl)
      · obtain ⟨z, hz⟩ : ∃ z, t.length = z + 16 := ⟨t.length - 16, by omega⟩
        have e1 : decide ((t.length : Int) - 16 < 0) = false := decide_eq_false (by omega)
        have lT : (t.take z).length = z := by rw [List.length_take]; omega
        have hT : openT k n a t = if dfK (tagB k n a (t.take z)) t z 16 = 0#8 then gxorB k n 2#32 (t.take z) else [] := by
          rw [openT, if_neg h16, show t.length - 16 = z by omega]
        have hE : openE k n a t = if dfK (tagB k n a (t.take z)) t z 16 = 0#8 then 0 else 40 := by
          rw [openE, if_neg h16, show t.length - 16 = z by omega]
        obtain ⟨g, hg⟩ : ∃ g, tagB k n a (t.take z) = g := ⟨_, rfl⟩
        have lG : g.length = 16 := by rw [← hg]; exact tagB_len _ _ _ _
        have hz2 : t.length - 16 = z := by omega
        rw [hg] at hT hE
        simp (maxSteps := 1000000) (disch := first | omega | (simp only [updB, updI, dsB, reduceCtorEq, Nat.reduceEqDiff, Abs.Id.mk.injEq, and_false, false_and, and_true, true_and, if_false, ↓reduceIte, Option.isSome_some, *]; done) | (simp only [gxorB_len, tagB_len, sealB_len, lnB] <;> omega) | fail) only [ev0, ev1, ev2, ev3, ↓reduceIte, reduceCtorEq, zaa, zab, zac, zad, zae, zaf, zag, zah, zai, zaj, zak, zal, zam, zan, zao, zap, zaq, ↓zar, ↓zas, zat, zau, zav, zaw, zax, zay, zaz, zba, zbb, zbc, zbd, zbe, zbf, zbg, zbh, zbi, zbj, zbk, zbl, zbm, zbn, zbo, zbp, zbq, zbr, zbs, zbt, zbu, zbv, zbw, zbx, zby, zbz, zca, zcb, zcc, zcd, zce, zcf, zcg, zch, zci, zcj, zck, zcl, zcm, zcn, zco, zcp, zcq, zcr, zcs, zct, zcu, zcv, zcw, zcx, zcy, zcz, zda, zdb, zdc, zdd, zde, zdf, zdg, zdh, zdi, zdj, zdk, zdl, ev5, tbUo0, glob, Nat.reduceMod, Bx.own.injEq, and_false, false_and, and_true, true_and, hk, hn, e1, lT, hz2, hb, hbt, hg, lG]
        refine loopQ_of (fun n' σ => ∃ i, i ≤ 16 ∧ n' = 16 - i ∧ σ.slots 26 = .raw (.int .i64 (i : Int)) ∧ σ.slots 12 = .raw (.int .u8 ((dfK g t z i).toNat : Int)) ∧ σ.slots 11 = .ptr (.own L 11 1) 0 ∧ σ.slots 10 = .raw (.int .i64 (z : Int)) ∧ σ.slots 3 = .sl t.length (nums .u8 t) fl ∧ σ.slots 4 = .ptr (.own L 4 1) 0 ∧ σ.slots 5 = .ptr (.own L 5 1) 0 ∧ σ.box (.own L 11 1) = some (nums .u8 g) ∧ σ.box (.own L 4 1) = some (nums .u8 k) ∧ σ.box (.own L 5 1) = some (nums .u8 n) ∧ (∀ b, b.lvl < L → σ.box b = bx b) ∧ (∀ i, i.lvl < L → σ.used i = us i)) 16 ?_ ?_
        · refine ⟨0, by omega, by omega, ?_⟩
          simp (maxSteps := 1000000) (disch := first | omega | (simp only [updB, updI, dsB, reduceCtorEq, Nat.reduceEqDiff, Abs.Id.mk.injEq, and_false, false_and, and_true, true_and, if_false, ↓reduceIte, Option.isSome_some, *]; done) | (simp only [gxorB_len, tagB_len, sealB_len, lnB] <;> omega) | fail) only [ev0, ev1, ev2, ev3, ↓reduceIte, reduceCtorEq, zaa, zab, zac, zad, zae, zaf, zag, zah, zai, zaj, zak, zal, zam, zan, zao, zap, zaq, ↓zar, ↓zas, zat, zau, zav, zaw, zax, zay, zaz, zba, zbb, zbc, zbd, zbe, zbf, zbg, zbh, zbi, zbj, zbk, zbl, zbm, zbn, zbo, zbp, zbq, zbr, zbs, zbt, zbu, zbv, zbw, zbx, zby, zbz, zca, zcb, zcc, zcd, zce, zcf, zcg, zch, zci, zcj, zck, zcl, zcm, zcn, zco, zcp, zcq, zcr, zcs, zct, zcu, zcv, zcw, zcx, zcy, zcz, zda, zdb, zdc, zdd, zde, zdf, zdg, zdh, zdi, zdj, zdk, zdl, ev5, tbUo0, glob, Nat.reduceMod, Bx.own.injEq, and_false, false_and, and_true, true_and, hk, hn, e1, lT, hz2, hg, lG, hb]
          exact ⟨rfl, rfl, i64_eq (by omega), fun b hb' => by simp only [updB, own_ne hb', if_false], fun _ _ => trivial⟩
        · rintro n' ⟨sl, gn, bx1, us1⟩ ⟨i, hi, rfl, s26, s12, s11, s10, s3, s4, s5, b11, b4, b5, hbx, hux⟩
          dsimp only at s26 s12 s11 s10 s3 s4 s5 b11 b4 b5 hbx hux
          have hD : dfK g t z (i + 1) = dfK g t z i ||| (g.getD i 0#8 ^^^ t.getD (z + i) 0#8) := rfl
          by_cases h16' : i = 16
          · subst h16'
            have s26 : sl 26 = .raw (.int .i64 16) := s26
            by_cases hd : dfK g t z 16 = 0#8
            · rw [if_pos hd] at hT hE
              rw [hT, hE]
              rw [hd] at s12
              have e2 : (((0#8).toNat : Int) != 0) = false := rfl
              simp (maxSteps := 1000000) (disch := first | omega | (simp only [updB, updI, dsB, reduceCtorEq, Nat.reduceEqDiff, Abs.Id.mk.injEq, and_false, false_and, and_true, true_and, if_false, ↓reduceIte, Option.isSome_some, *]; done) | (simp only [gxorB_len, tagB_len, sealB_len, lnB] <;> omega) | fail) only [ev0, ev1, ev2, ev3, ↓reduceIte, reduceCtorEq, zaa, zab, zac, zad, zae, zaf, zag, zah, zai, zaj, zak, zal, zam, zan, zao, zap, zaq, ↓zar, ↓zas, zat, zau, zav, zaw, zax, zay, zaz, zba, zbb, zbc, zbd, zbe, zbf, zbg, zbh, zbi, zbj, zbk, zbl, zbm, zbn, zbo, zbp, zbq, zbr, zbs, zbt, zbu, zbv, zbw, zbx, zby, zbz, zca, zcb, zcc, zcd, zce, zcf, zcg, zch, zci, zcj, zck, zcl, zcm, zcn, zco, zcp, zcq, zcr, zcs, zct, zcu, zcv, zcw, zcx, zcy, zcz, zda, zdb, zdc, zdd, zde, zdf, zdg, zdh, zdi, zdj, zdk, zdl, ev5, tbUo0, glob, Nat.reduceMod, Bx.own.injEq, and_false, false_and, and_true, true_and, s26, s12, s11, s10, s3, s4, s5, b11, b4, b5, lG, hk, hn, lT, e2]
              change EndG _ _ _ _ _ _ _
              exact EndG.r0 [_, .raw (.int .i64 0)] [_, _] rfl (.cons (.bor _ _ _ (lowL_pure _ (nums_pure _))) (.cons (.raw _) .nil)) rfl hbx hux
            · rw [if_neg hd] at hT hE
              rw [hT, hE]
              have e2 : (((dfK g t z 16).toNat : Int) != 0) = true := by
                rw [bne_iff_ne]
                intro h
                exact hd (BitVec.eq_of_toNat_eq (by simpa using h))
              simp (maxSteps := 1000000) (disch := first | omega | (simp only [updB, updI, dsB, reduceCtorEq, Nat.reduceEqDiff, Abs.Id.mk.injEq, and_false, false_and, and_true, true_and, if_false, ↓reduceIte, Option.isSome_some, *]; done) | (simp only [gxorB_len, tagB_len, sealB_len, lnB] <;> omega) | fail) only [ev0, ev1, ev2, ev3, ↓reduceIte, reduceCtorEq, zaa, zab, zac, zad, zae, zaf, zag, zah, zai, zaj, zak, zal, zam, zan, zao, zap, zaq, ↓zar, ↓zas, zat, zau, zav, zaw, zax, zay, zaz, zba, zbb, zbc, zbd, zbe, zbf, zbg, zbh, zbi, zbj, zbk, zbl, zbm, zbn, zbo, zbp, zbq, zbr, zbs, zbt, zbu, zbv, zbw, zbx, zby, zbz, zca, zcb, zcc, zcd, zce, zcf, zcg, zch, zci, zcj, zck, zcl, zcm, zcn, zco, zcp, zcq, zcr, zcs, zct, zcu, zcv, zcw, zcx, zcy, zcz, zda, zdb, zdc, zdd, zde, zdf, zdg, zdh, zdi, zdj, zdk, zdl, ev5, tbUo0, glob, Nat.reduceMod, Bx.own.injEq, and_false, false_and, and_true, true_and, s26, s12, s11, s10, s3, s4, s5, b11, b4, b5, lG, hk, hn, lT, e2]
              change EndG _ _ _ _ _ _ _
              exact EndG.r0 [.raw (.slice none 0 0), .raw (.int .i64 40)] [_, _] rfl (.cons .nilb (.cons (.raw _) .nil)) rfl hbx hux
          · have hlt : decide ((i : Int) < 16) = true := decide_eq_true (by omega)
            simp (maxSteps := 1000000) (disch := first | omega | (simp only [updB, updI, dsB, reduceCtorEq, Nat.reduceEqDiff, Abs.Id.mk.injEq, and_false, false_and, and_true, true_and, if_false, ↓reduceIte, Option.isSome_some, *]; done) | (simp only [gxorB_len, tagB_len, sealB_len, lnB] <;> omega) | fail) only [ev0, ev1, ev2, ev3, ↓reduceIte, reduceCtorEq, zaa, zab, zac, zad, zae, zaf, zag, zah, zai, zaj, zak, zal, zam, zan, zao, zap, zaq, ↓zar, ↓zas, zat, zau, zav, zaw, zax, zay, zaz, zba, zbb, zbc, zbd, zbe, zbf, zbg, zbh, zbi, zbj, zbk, zbl, zbm, zbn, zbo, zbp, zbq, zbr, zbs, zbt, zbu, zbv, zbw, zbx, zby, zbz, zca, zcb, zcc, zcd, zce, zcf, zcg, zch, zci, zcj, zck, zcl, zcm, zcn, zco, zcp, zcq, zcr, zcs, zct, zcu, zcv, zcw, zcx, zcy, zcz, zda, zdb, zdc, zdd, zde, zdf, zdg, zdh, zdi, zdj, zdk, zdl, ev5, tbUo0, glob, Nat.reduceMod, Bx.own.injEq, and_false, false_and, and_true, true_and, s26, s12, s11, s10, s3, s4, s5, b11, b4, b5, lG, hk, hn, lT, hlt]
            refine ⟨16 - (i + 1), by omega, i + 1, by omega, rfl, rfl, ?_, hbx, hux⟩
            rw [hD]
    · cases hr
  · cases hr
end Go.Proofs.YtddeffdgldjdjaaDoor
