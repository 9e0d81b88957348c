/- Texts are taken from the front of bytes; rows of numbers: what the walks come to. -/
import Derived.Test.YtddeffdgldjdjaaDoorPg
namespace Go.Proofs.YtddeffdgldjdjaaDoor.W
set_option linter.unusedSimpArgs false
set_option linter.unusedVariables false
set_option linter.defProp false
open Go Go.Abs
open Nat renaming reduceAdd → zaa, reduceSub → zab, reduceMul → zac, reduceLT → zad, reduceLeDiff → zae, reduceEqDiff → zaf, reduceBEq → zag
open BitVec renaming reduceOfInt → zah
open Int renaming reduceLE → zai, reduceLT → zaj, reduceGT → zak, reduceGE → zal, reduceNeg → zam, reduceAdd → zan, reduceSub → zao, reduceMul → zap, reduceToNat → zaq
open Go.Abs renaming bind_go → zar, map_go → zas, wantedV → zat, isWrite → zau, grow → zav, write → zaw, ofV → zax, start → zaz, strip → zba, endQ → zbb, resV → zbc, rawsRes → zbd, rawRes → zbe, exports → zbf, export1 → zbg, isSelf → zbl, convSelf → zbm, convV → zbn, loadV → zbo, storeV → zbp, fieldAddrV → zbq, fieldV → zbr, indexAddrV → zbs, indexV → zbt, partV → zbu, isAggK → zbv, isStr → zbw, place → zbx, ipS → zby, lenV → zbz, min2V → zca, makeV → zcb, freshSl → zcc, sliceV → zcd, boundOr → zce, bound → zcf, bounds → zcg, cutFl → zch, copyV → zci, slCells → zcj, srcV → zck, appendV → zcl, room → zcm, zerosOf → zcn, eqNeg → zco, kd → zcp, takeR → zcq, hasViewL → zcr, hasView → zcs, freshR → zct, freshC → zcu, snapAll → zcv, snap → zcw, snapL → zcx, flatL → zcy, pureL → zcz, pureA → zda, fillC → zdb, arrOK → zdc, oneA → zdd, partB → zde, ren1 → zdg, applyW → zdi, useL → zdj, isGen → zdl, startG → zdm
open Go.Abs.AV renaming cells → zay, laid → zdf
open Go.Abs.AS renaming grown → zbh, put → zbi, mute → zdk
open Go.Abs.Env renaming know → zbj, boxed → zbk
open Go.Abs.CR renaming gr → zdh

/-- what a text's taking answers: the errno, the text, what is behind -/
def ttE (b : List (BitVec 8)) (m : Int) : Nat := if tkE b ≠ 0 then tkE b else if (tkN b : Int) > m then 2 else if tkN b > (tkR b).length then 3 else 0
def ttT (b : List (BitVec 8)) (m : Int) : List (BitVec 8) := if ttE b m = 0 then (tkR b).take (tkN b) else []
def ttR (b : List (BitVec 8)) (m : Int) : List (BitVec 8) := if ttE b m = 0 then (tkR b).drop (tkN b) else []
def pf145 : List AV → Option AV
  | [v, w] => (row? .u8 8 v).bind fun b => (int? w).bind fun m => if b.length ≤ 150000000000000 ∧ i64ok m then
      some (.tup [.sl (ttT b m).length (nums .u8 (ttT b m)) .bor, .sl (ttR b m).length (nums .u8 (ttR b m)) .bor, .raw (.int .i64 (ttE b m : Int))]) else none
  | _ => none
theorem mem1 {x y a b c d e f : Nat} (h : a ≠ d) : ((⟨x, a, b, c⟩ : Abs.Id) ∈ [(⟨y, d, e, f⟩ : Abs.Id)]) = False := by
  rw [List.mem_singleton]; exact eq_false fun h2 => h (by cases h2; rfl)
theorem resQ_4nil {v : Value} : ResQ (some (.tup [.raw (.slice none 0 0), .raw (.slice none 0 0), .raw v])) (.tup [.sl 0 [] .bor, .sl 0 [] .bor, .raw v]) :=
  ⟨_, rfl, .tup rfl fun j x r hx hr => by
    match j with
    | 0 => simp at hx hr; subst hx hr; exact .nilb _
    | 1 => simp at hx hr; subst hx hr; exact .nilb _
    | 2 => simp at hx hr; subst hx hr; exact .same _ _
    | j + 3 => simp at hx⟩
theorem resQ_4 {v : Value} {n m : Nat} {xs ys : List AV} {fl gl : Fl} : ResQ (some (.tup [.sl n xs fl, .sl m ys gl, .raw v])) (.tup [.sl n xs .bor, .sl m ys .bor, .raw v]) :=
  ⟨_, rfl, .tup rfl fun j x r hx hr => by
    match j with
    | 0 => simp at hx hr; subst hx hr; exact .bor _ _ _ _
    | 1 => simp at hx hr; subst hx hr; exact .bor _ _ _ _
    | 2 => simp at hx hr; subst hx hr; exact .same _ _
    | j + 3 => simp at hx⟩
theorem tt_no {b : List (BitVec 8)} {m : Int} {e : Nat} (h : ttE b m = e) (h0 : e ≠ 0) : AV.tup [.sl (ttT b m).length (nums .u8 (ttT b m)) .bor, .sl (ttR b m).length (nums .u8 (ttR b m)) .bor, .raw (.int .i64 (ttE b m : Int))] = .tup [.sl 0 [] .bor, .sl 0 [] .bor, .raw (.int .i64 (e : Int))] := by
  have h1 : ttT b m = [] := by rw [ttT, if_neg (by omega)]
  have h2 : ttR b m = [] := by rw [ttR, if_neg (by omega)]
  rw [h1, h2, h]
  rfl
set_option maxHeartbeats 4000000
def tbPh0 := (And.intro (And.intro (And.intro @teE (And.intro @E4_te @E4_gs)) (And.intro (And.intro @E4_dyn @E4_glob) (And.intro @E4_mu @E4_80))) (And.intro (And.intro (And.intro @E4_104 @E4_147) (And.intro @E4_90 @E4_165)) (And.intro (And.intro @pf90_at @pf80_at) (And.intro @pf165_at @ev4))))
theorem sound145 : SoundV Tryd.prog glob 145 pf145 := by
  refine SoundV.walk E4 ok4 mixed Tryd.func145 rfl Tryd.call145 (by kernel_rfl) ?_
  intro args r hr
  unfold pf145 at hr
  split at hr
  · simp only [Option.bind_eq_some_iff] at hr
    obtain ⟨b, h1, m, h2, hr⟩ := hr
    split at hr
    · rename_i hc
      obtain ⟨hc, hm⟩ := hc
      unfold i64ok at hm
      cases hr
      obtain ⟨fl, rfl⟩ := row?_of h1
      rw [int?_of h2, Tryd.ntmps145, Tryd.results145]
      refine ⟨by simp, ?_⟩
      have hE : ttE b m = if tkE b ≠ 0 then tkE b else if (tkN b : Int) > m then 2 else if tkN b > (tkR b).length then 3 else 0 := rfl
      have hle := tkR_le b
      by_cases c0 : tkE b ≠ 0
      · rw [if_pos c0] at hE
        rw [tt_no hE c0]
        have d0 : ((tkE b : Int) != 0) = true := by rw [bne_iff_ne]; omega
        simp (maxSteps := 1000000) (disch := first | omega | (simp only [nums_len, lnB] <;> omega) | fail) only [ev0, ev1, ev2, ev3, ↓reduceIte, reduceCtorEq, zaa, zab, zac, zad, zae, zaf, zag, zah, zai, zaj, zak, zal, zam, zan, zao, zap, zaq, ↓zar, ↓zas, zat, zau, zav, zaw, zax, zay, zaz, zba, zbb, zbc, zbd, zbe, zbf, zbg, zbh, zbi, zbj, zbk, zbl, zbm, zbn, zbo, zbp, zbq, zbr, zbs, zbt, zbu, zbv, zbw, zbx, zby, zbz, zca, zcb, zcc, zcd, zce, zcf, zcg, zch, zci, zcj, zck, zcl, zcm, zcn, zco, zcp, zcq, zcr, zcs, zct, zcu, zcv, zcw, zcx, zcy, zcz, zda, zdb, zdc, zdd, zde, zdf, zdg, zdh, zdi, zdj, zdk, zdl, zdm, ev5, tbPh0, glob, d0]
        exact resQ_4nil
      · rw [if_neg c0] at hE
        have d0 : ((tkE b : Int) != 0) = false := by rw [Nat.eq_zero_of_not_pos (show ¬ 0 < tkE b by omega)]; rfl
        by_cases c1 : (tkN b : Int) > m
        · rw [if_pos c1] at hE
          rw [tt_no hE (by decide)]
          have d1 : decide ((tkN b : Int) > m) = true := decide_eq_true c1
          simp (maxSteps := 1000000) (disch := first | omega | (simp only [nums_len, lnB] <;> omega) | fail) only [ev0, ev1, ev2, ev3, ↓reduceIte, reduceCtorEq, zaa, zab, zac, zad, zae, zaf, zag, zah, zai, zaj, zak, zal, zam, zan, zao, zap, zaq, ↓zar, ↓zas, zat, zau, zav, zaw, zax, zay, zaz, zba, zbb, zbc, zbd, zbe, zbf, zbg, zbh, zbi, zbj, zbk, zbl, zbm, zbn, zbo, zbp, zbq, zbr, zbs, zbt, zbu, zbv, zbw, zbx, zby, zbz, zca, zcb, zcc, zcd, zce, zcf, zcg, zch, zci, zcj, zck, zcl, zcm, zcn, zco, zcp, zcq, zcr, zcs, zct, zcu, zcv, zcw, zcx, zcy, zcz, zda, zdb, zdc, zdd, zde, zdf, zdg, zdh, zdi, zdj, zdk, zdl, zdm, ev5, tbPh0, glob, d0, d1]
          exact resQ_4nil
        · rw [if_neg c1] at hE
          have d1 : decide ((tkN b : Int) > m) = false := decide_eq_false c1
          by_cases c2 : tkN b > (tkR b).length
          · rw [if_pos c2] at hE
            rw [tt_no hE (by decide)]
            have d2 : decide ((tkN b : Int) > ((tkR b).length : Int)) = true := decide_eq_true (by omega)
            simp (maxSteps := 1000000) (disch := first | omega | (simp only [nums_len, lnB] <;> omega) | fail) only [ev0, ev1, ev2, ev3, ↓reduceIte, reduceCtorEq, zaa, zab, zac, zad, zae, zaf, zag, zah, zai, zaj, zak, zal, zam, zan, zao, zap, zaq, ↓zar, ↓zas, zat, zau, zav, zaw, zax, zay, zaz, zba, zbb, zbc, zbd, zbe, zbf, zbg, zbh, zbi, zbj, zbk, zbl, zbm, zbn, zbo, zbp, zbq, zbr, zbs, zbt, zbu, zbv, zbw, zbx, zby, zbz, zca, zcb, zcc, zcd, zce, zcf, zcg, zch, zci, zcj, zck, zcl, zcm, zcn, zco, zcp, zcq, zcr, zcs, zct, zcu, zcv, zcw, zcx, zcy, zcz, zda, zdb, zdc, zdd, zde, zdf, zdg, zdh, zdi, zdj, zdk, zdl, zdm, ev5, tbPh0, glob, d0, d1, d2]
            exact resQ_4nil
          · rw [if_neg c2] at hE
            have d2 : decide ((tkN b : Int) > ((tkR b).length : Int)) = false := decide_eq_false (by omega)
            rw [hE, show ttT b m = (tkR b).take (tkN b) by rw [ttT, if_pos hE], show ttR b m = (tkR b).drop (tkN b) by rw [ttR, if_pos hE]]
            have hmin : min (tkN b) (tkR b).length = tkN b := Nat.min_eq_left (by omega)
            simp (maxSteps := 1000000) (disch := first | omega | (simp only [nums_len, lnB] <;> omega) | fail) only [ev0, ev1, ev2, ev3, ↓reduceIte, reduceCtorEq, zaa, zab, zac, zad, zae, zaf, zag, zah, zai, zaj, zak, zal, zam, zan, zao, zap, zaq, ↓zar, ↓zas, zat, zau, zav, zaw, zax, zay, zaz, zba, zbb, zbc, zbd, zbe, zbf, zbg, zbh, zbi, zbj, zbk, zbl, zbm, zbn, zbo, zbp, zbq, zbr, zbs, zbt, zbu, zbv, zbw, zbx, zby, zbz, zca, zcb, zcc, zcd, zce, zcf, zcg, zch, zci, zcj, zck, zcl, zcm, zcn, zco, zcp, zcq, zcr, zcs, zct, zcu, zcv, zcw, zcx, zcy, zcz, zda, zdb, zdc, zdd, zde, zdf, zdg, zdh, zdi, zdj, zdk, zdl, zdm, ev5, tbPh0, glob, d0, d1, d2, mem1, not_false_eq_true, hmin]
            exact resQ_4
    · cases hr
  · cases hr
theorem sound120 : SoundV Tryd.prog glob 120 pf145 := by
  refine SoundV.walk E4 ok4 mixed Tryd.func120 rfl Tryd.call120 (by kernel_rfl) ?_
  intro args r hr
  unfold pf145 at hr
  split at hr
  · simp only [Option.bind_eq_some_iff] at hr
    obtain ⟨b, h1, m, h2, hr⟩ := hr
    split at hr
    · rename_i hc
      obtain ⟨hc, hm⟩ := hc
      unfold i64ok at hm
      cases hr
      obtain ⟨fl, rfl⟩ := row?_of h1
      rw [int?_of h2, Tryd.ntmps120, Tryd.results120]
      refine ⟨by simp, ?_⟩
      have hE : ttE b m = if tkE b ≠ 0 then tkE b else if (tkN b : Int) > m then 2 else if tkN b > (tkR b).length then 3 else 0 := rfl
      have hle := tkR_le b
      by_cases c0 : tkE b ≠ 0
      · rw [if_pos c0] at hE
        rw [tt_no hE c0]
        have d0 : ((tkE b : Int) != 0) = true := by rw [bne_iff_ne]; omega
        simp (maxSteps := 1000000) (disch := first | omega | (simp only [nums_len, lnB] <;> omega) | fail) only [ev0, ev1, ev2, ev3, ↓reduceIte, reduceCtorEq, zaa, zab, zac, zad, zae, zaf, zag, zah, zai, zaj, zak, zal, zam, zan, zao, zap, zaq, ↓zar, ↓zas, zat, zau, zav, zaw, zax, zay, zaz, zba, zbb, zbc, zbd, zbe, zbf, zbg, zbh, zbi, zbj, zbk, zbl, zbm, zbn, zbo, zbp, zbq, zbr, zbs, zbt, zbu, zbv, zbw, zbx, zby, zbz, zca, zcb, zcc, zcd, zce, zcf, zcg, zch, zci, zcj, zck, zcl, zcm, zcn, zco, zcp, zcq, zcr, zcs, zct, zcu, zcv, zcw, zcx, zcy, zcz, zda, zdb, zdc, zdd, zde, zdf, zdg, zdh, zdi, zdj, zdk, zdl, zdm, ev5, tbPh0, glob, d0]
        exact resQ_4nil
      · rw [if_neg c0] at hE
        have d0 : ((tkE b : Int) != 0) = false := by rw [Nat.eq_zero_of_not_pos (show ¬ 0 < tkE b by omega)]; rfl
        by_cases c1 : (tkN b : Int) > m
        · rw [if_pos c1] at hE
          rw [tt_no hE (by decide)]
          have d1 : decide ((tkN b : Int) > m) = true := decide_eq_true c1
          simp (maxSteps := 1000000) (disch := first | omega | (simp only [nums_len, lnB] <;> omega) | fail) only [ev0, ev1, ev2, ev3, ↓reduceIte, reduceCtorEq, zaa, zab, zac, zad, zae, zaf, zag, zah, zai, zaj, zak, zal, zam, zan, zao, zap, zaq, ↓zar, ↓zas, zat, zau, zav, zaw, zax, zay, zaz, zba, zbb, zbc, zbd, zbe, zbf, zbg, zbh, zbi, zbj, zbk, zbl, zbm, zbn, zbo, zbp, zbq, zbr, zbs, zbt, zbu, zbv, zbw, zbx, zby, zbz, zca, zcb, zcc, zcd, zce, zcf, zcg, zch, zci, zcj, zck, zcl, zcm, zcn, zco, zcp, zcq, zcr, zcs, zct, zcu, zcv, zcw, zcx, zcy, zcz, zda, zdb, zdc, zdd, zde, zdf, zdg, zdh, zdi, zdj, zdk, zdl, zdm, ev5, tbPh0, glob, d0, d1]
          exact resQ_4nil
        · rw [if_neg c1] at hE
          have d1 : decide ((tkN b : Int) > m) = false := decide_eq_false c1
          by_cases c2 : tkN b > (tkR b).length
          · rw [if_pos c2] at hE
            rw [tt_no hE (by decide)]
            have d2 : decide ((tkN b : Int) > ((tkR b).length : Int)) = true := decide_eq_true (by omega)
            simp (maxSteps := 1000000) (disch := first | omega | (simp only [nums_len, lnB] <;> omega) | fail) only [ev0, ev1, ev2, ev3, ↓reduceIte, reduceCtorEq, zaa, zab, zac, zad, zae, zaf, zag, zah, zai, zaj, zak, zal, zam, zan, zao, zap, zaq, ↓zar, ↓zas, zat, zau, zav, zaw, zax, zay, zaz, zba, zbb, zbc, zbd, zbe, zbf, zbg, zbh, zbi, zbj, zbk, zbl, zbm, zbn, zbo, zbp, zbq, zbr, zbs, zbt, zbu, zbv, zbw, zbx, zby, zbz, zca, zcb, zcc, zcd, zce, zcf, zcg, zch, zci, zcj, zck, zcl, zcm, zcn, zco, zcp, zcq, zcr, zcs, zct, zcu, zcv, zcw, zcx, zcy, zcz, zda, zdb, zdc, zdd, zde, zdf, zdg, zdh, zdi, zdj, zdk, zdl, zdm, ev5, tbPh0, glob, d0, d1, d2]
            exact resQ_4nil
          · rw [if_neg c2] at hE
            have d2 : decide ((tkN b : Int) > ((tkR b).length : Int)) = false := decide_eq_false (by omega)
            rw [hE, show ttT b m = (tkR b).take (tkN b) by rw [ttT, if_pos hE], show ttR b m = (tkR b).drop (tkN b) by rw [ttR, if_pos hE]]
            have hmin : min (tkN b) (tkR b).length = tkN b := Nat.min_eq_left (by omega)
            simp (maxSteps := 1000000) (disch := first | omega | (simp only [nums_len, lnB] <;> omega) | fail) only [ev0, ev1, ev2, ev3, ↓reduceIte, reduceCtorEq, zaa, zab, zac, zad, zae, zaf, zag, zah, zai, zaj, zak, zal, zam, zan, zao, zap, zaq, ↓zar, ↓zas, zat, zau, zav, zaw, zax, zay, zaz, zba, zbb, zbc, zbd, zbe, zbf, zbg, zbh, zbi, zbj, zbk, zbl, zbm, zbn, zbo, zbp, zbq, zbr, zbs, zbt, zbu, zbv, zbw, zbx, zby, zbz, zca, zcb, zcc, zcd, zce, zcf, zcg, zch, zci, zcj, zck, zcl, zcm, zcn, zco, zcp, zcq, zcr, zcs, zct, zcu, zcv, zcw, zcx, zcy, zcz, zda, zdb, zdc, zdd, zde, zdf, zdg, zdh, zdi, zdj, zdk, zdl, zdm, ev5, tbPh0, glob, d0, d1, d2, mem1, not_false_eq_true, hmin]
            exact resQ_4
    · cases hr
  · cases hr

end Go.Proofs.YtddeffdgldjdjaaDoor.W
