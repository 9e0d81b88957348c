/- What the document lays over, its tags, what it seals and opens: what the walks come to. -/
import Derived.Test.YtddeffdgldjdjaaDoorVd
import Derived.Test.YtddeffdgldjdjaaDoorVe
import Derived.Test.YtddeffdgldjdjaaDoorVg
import Derived.Test.YtddeffdgldjdjaaDoorUk
namespace Go.Proofs.YtddeffdgldjdjaaDoor
set_option linter.unusedSimpArgs false
set_option linter.unusedVariables false
set_option linter.defProp false
open Go Go.Abs
open Nat renaming reduceAdd → zaa, reduceSub → zab, reduceMul → zac, reduceLT → zad, reduceLeDiff → zae, reduceEqDiff → zaf, reduceBEq → zag
open BitVec renaming reduceOfInt → zah
open Int renaming reduceLE → zai, reduceLT → zaj, reduceGT → zak, reduceGE → zal, reduceNeg → zam, reduceAdd → zan, reduceSub → zao, reduceMul → zap, reduceToNat → zaq
open Go.Abs renaming bind_go → zar, map_go → zas, wantedV → zat, isWrite → zau, grow → zav, write → zaw, ofV → zax, start → zaz, strip → zba, endQ → zbb, resV → zbc, rawsRes → zbd, rawRes → zbe, exports → zbf, export1 → zbg, isSelf → zbl, convSelf → zbm, convV → zbn, loadV → zbo, storeV → zbp, fieldAddrV → zbq, fieldV → zbr, indexAddrV → zbs, indexV → zbt, partV → zbu, isAggK → zbv, isStr → zbw, place → zbx, lenV → zby, min2V → zbz, makeV → zca, freshSl → zcb, sliceV → zcc, boundOr → zcd, bound → zce, bounds → zcf, cutFl → zcg, copyV → zch, slCells → zci, srcV → zcj, appendV → zck, room → zcl, zerosOf → zcm, eqNeg → zcn, kd → zco, takeR → zcp, hasViewL → zcq, hasView → zcr, freshR → zcs, freshC → zct, snapAll → zcu, snap → zcv, snapL → zcw, flatL → zcx, pureL → zcy, pureA → zcz, fillC → zda, arrOK → zdb, oneA → zdc, partB → zdd, ren1 → zdf, applyW → zdh, useL → zdi, isGen → zdk, startG → zdl
open Go.Abs.AV renaming cells → zay, laid → zde
open Go.Abs.AS renaming grown → zbh, put → zbi, mute → zdj
open Go.Abs.Env renaming know → zbj, boxed → zbk
open Go.Abs.CR renaming gr → zdg
set_option maxHeartbeats 16000000
def ownZ : Fl := .own ⟨0, 0, 0, 0⟩ 1
/-- noughts behind, so many -/
def zpK (b : List (BitVec 8)) (d : Nat) : List (BitVec 8) := b ++ List.replicate d 0#8
theorem zpK_len (b : List (BitVec 8)) (d : Nat) : (zpK b d).length = b.length + d := by simp [zpK]
theorem snocz (l : List (BitVec 8)) : nums .u8 l ++ [.raw (.int .u8 0)] = nums .u8 (l ++ [0#8]) := nums_snoc l 0#8
def pf128 : List AV → Option AV
  | [v] => (row? .u8 8 v).bind fun b => if b.length ≤ 400000 then some (.sl (padB b).length (nums .u8 (padB b)) (.own ⟨0, 0, 0, 0⟩ 1)) else none
  | _ => none
def tbVh0 := (And.intro (And.intro @teE (And.intro @E0_te @E0_glob)) (And.intro (And.intro @E0_gs @E0_dyn) (And.intro @E0_mu @snocz)))
theorem sound128 : SoundV Tryd.prog glob 128 pf128 := by
  refine SoundV.walk E0 ok0 mixed Tryd.func128 rfl Tryd.call128 (by kernel_rfl) ?_
  intro args r hr
  unfold pf128 at hr
  split at hr
  · simp only [Option.bind_eq_some_iff] at hr
    obtain ⟨b, h1, hr⟩ := hr
    split at hr
    · rename_i hc
      cases hr
      obtain ⟨fl, rfl⟩ := row?_of h1
      rw [Tryd.ntmps128, Tryd.results128]
      refine ⟨by simp, ?_⟩
      have pN := padN_lt b.length
      have hP : padB b = zpK b (padN b.length) := rfl
      have pD : padN b.length = (16 - b.length % 16) % 16 := rfl
      simp (maxSteps := 1000000) (disch := first | omega | (simp only [updB, updI, dsB, reduceCtorEq, Nat.reduceEqDiff, Abs.Id.mk.injEq, and_false, false_and, and_true, true_and, if_false, ↓reduceIte, Option.isSome_some, *]; done) | (simp only [zpK_len, lenK_len, lnB] <;> omega) | fail) only [ev0, ev1, ev2, ev3, ↓reduceIte, reduceCtorEq, zaa, zab, zac, zad, zae, zaf, zag, zah, zai, zaj, zak, zal, zam, zan, zao, zap, zaq, ↓zar, ↓zas, zat, zau, zav, zaw, zax, zay, zaz, zba, zbb, zbc, zbd, zbe, zbf, zbg, zbh, zbi, zbj, zbk, zbl, zbm, zbn, zbo, zbp, zbq, zbr, zbs, zbt, zbu, zbv, zbw, zbx, zby, zbz, zca, zcb, zcc, zcd, zce, zcf, zcg, zch, zci, zcj, zck, zcl, zcm, zcn, zco, zcp, zcq, zcr, zcs, zct, zcu, zcv, zcw, zcx, zcy, zcz, zda, zdb, zdc, zdd, zde, zdf, zdg, zdh, zdi, zdj, zdk, zdl, ev5, tbVh0, glob]
      refine loopQ_of (fun n σ => ∃ d i, d ≤ padN b.length ∧ n = padN b.length - d ∧ σ.slots 3 = .sl (zpK b d).length (nums .u8 (zpK b d)) (.own i 1) ∧ Free σ.used (σ.gen 13) 13 i) (padN b.length) ?_ ?_
      · refine ⟨0, ⟨0, 6, 0, 1⟩, by omega, by omega, ?_⟩
        simp (maxSteps := 1000000) (disch := first | omega | (simp only [updB, updI, dsB, reduceCtorEq, Nat.reduceEqDiff, Abs.Id.mk.injEq, and_false, false_and, and_true, true_and, if_false, ↓reduceIte, Option.isSome_some, *]; done) | (simp only [zpK_len, lenK_len, lnB] <;> omega) | fail) only [ev0, ev1, ev2, ev3, ↓reduceIte, reduceCtorEq, zaa, zab, zac, zad, zae, zaf, zag, zah, zai, zaj, zak, zal, zam, zan, zao, zap, zaq, ↓zar, ↓zas, zat, zau, zav, zaw, zax, zay, zaz, zba, zbb, zbc, zbd, zbe, zbf, zbg, zbh, zbi, zbj, zbk, zbl, zbm, zbn, zbo, zbp, zbq, zbr, zbs, zbt, zbu, zbv, zbw, zbx, zby, zbz, zca, zcb, zcc, zcd, zce, zcf, zcg, zch, zci, zcj, zck, zcl, zcm, zcn, zco, zcp, zcq, zcr, zcs, zct, zcu, zcv, zcw, zcx, zcy, zcz, zda, zdb, zdc, zdd, zde, zdf, zdg, zdh, zdi, zdj, zdk, zdl, ev5, tbVh0, glob]
        exact ⟨row_eq (by simp [zpK]) (by simp [zpK]), by simp [updI], fun g _ => by simp [updI], by simp⟩
      · rintro n ⟨sl, gn, bx, us⟩ ⟨d, i, hd, rfl, s3, hf⟩
        dsimp only at s3 hf
        have hf0 := hf.now
        have lZ := zpK_len b d
        by_cases hlt : d < padN b.length
        · have e1 : decide ((((zpK b d).length : Nat) : Int) % 16 > 0) = true := decide_eq_true (by omega)
          have hZ : zpK b (d + 1) = zpK b d ++ [0#8] := by
            rw [zpK, zpK, List.replicate_succ', List.append_assoc]
          generalize hz : zpK b d = z at s3 lZ hZ e1
          simp (maxSteps := 1000000) (disch := first | omega | (simp only [updB, updI, dsB, reduceCtorEq, Nat.reduceEqDiff, Abs.Id.mk.injEq, and_false, false_and, and_true, true_and, if_false, ↓reduceIte, Option.isSome_some, *]; done) | (simp only [zpK_len, lenK_len, lnB] <;> omega) | fail) only [ev0, ev1, ev2, ev3, ↓reduceIte, reduceCtorEq, zaa, zab, zac, zad, zae, zaf, zag, zah, zai, zaj, zak, zal, zam, zan, zao, zap, zaq, ↓zar, ↓zas, zat, zau, zav, zaw, zax, zay, zaz, zba, zbb, zbc, zbd, zbe, zbf, zbg, zbh, zbi, zbj, zbk, zbl, zbm, zbn, zbo, zbp, zbq, zbr, zbs, zbt, zbu, zbv, zbw, zbx, zby, zbz, zca, zcb, zcc, zcd, zce, zcf, zcg, zch, zci, zcj, zck, zcl, zcm, zcn, zco, zcp, zcq, zcr, zcs, zct, zcu, zcv, zcw, zcx, zcy, zcz, zda, zdb, zdc, zdd, zde, zdf, zdg, zdh, zdi, zdj, zdk, zdl, ev5, tbVh0, glob, s3, hf0, e1]
          refine ⟨padN b.length - (d + 1), by omega, d + 1, ⟨0, 13, 0, gn 13 + 1⟩, by omega, rfl, ?_, hf.go⟩
          exact row_eq (by rw [hZ]; simp) hZ.symm
        · have hd : d = padN b.length := by omega
          have e1 : decide ((((zpK b d).length : Nat) : Int) % 16 > 0) = false := decide_eq_false (by omega)
          rw [hP, ← hd]
          simp (maxSteps := 1000000) (disch := first | omega | (simp only [updB, updI, dsB, reduceCtorEq, Nat.reduceEqDiff, Abs.Id.mk.injEq, and_false, false_and, and_true, true_and, if_false, ↓reduceIte, Option.isSome_some, *]; done) | (simp only [zpK_len, lenK_len, lnB] <;> omega) | fail) only [ev0, ev1, ev2, ev3, ↓reduceIte, reduceCtorEq, zaa, zab, zac, zad, zae, zaf, zag, zah, zai, zaj, zak, zal, zam, zan, zao, zap, zaq, ↓zar, ↓zas, zat, zau, zav, zaw, zax, zay, zaz, zba, zbb, zbc, zbd, zbe, zbf, zbg, zbh, zbi, zbj, zbk, zbl, zbm, zbn, zbo, zbp, zbq, zbr, zbs, zbt, zbu, zbv, zbw, zbx, zby, zbz, zca, zcb, zcc, zcd, zce, zcf, zcg, zch, zci, zcj, zck, zcl, zcm, zcn, zco, zcp, zcq, zcr, zcs, zct, zcu, zcv, zcw, zcx, zcy, zcz, zda, zdb, zdc, zdd, zde, zdf, zdg, zdh, zdi, zdj, zdk, zdl, ev5, tbVh0, glob, s3, hf0, e1]
          exact ResQ.same rfl
    · cases hr
  · cases hr
def pf129 : List AV → Option AV
  | [.raw (.int .i64 z)] => if 0 ≤ z ∧ z ≤ 400000 then some (.sl 8 (nums .u8 (lenK [] z.toNat 8)) (.own ⟨0, 0, 0, 0⟩ 1)) else none
  | _ => none
theorem sound129 : SoundV Tryd.prog glob 129 pf129 := by
  refine SoundV.walk E0 ok0 mixed Tryd.func129 rfl Tryd.call129 (by kernel_rfl) ?_
  intro args r hr
  unfold pf129 at hr
  split at hr
  · rename_i z
    split at hr
    · rename_i hz
      cases hr
      obtain ⟨m, rfl⟩ := Int.eq_ofNat_of_zero_le hz.1
      have hm : m ≤ 400000 := by omega
      rw [Tryd.ntmps129, Tryd.results129]
      refine ⟨by simp, ?_⟩
      simp (maxSteps := 1000000) (disch := first | omega | (simp only [updB, updI, dsB, reduceCtorEq, Nat.reduceEqDiff, Abs.Id.mk.injEq, and_false, false_and, and_true, true_and, if_false, ↓reduceIte, Option.isSome_some, *]; done) | (simp only [zpK_len, lenK_len, lnB] <;> omega) | fail) only [ev0, ev1, ev2, ev3, ↓reduceIte, reduceCtorEq, zaa, zab, zac, zad, zae, zaf, zag, zah, zai, zaj, zak, zal, zam, zan, zao, zap, zaq, ↓zar, ↓zas, zat, zau, zav, zaw, zax, zay, zaz, zba, zbb, zbc, zbd, zbe, zbf, zbg, zbh, zbi, zbj, zbk, zbl, zbm, zbn, zbo, zbp, zbq, zbr, zbs, zbt, zbu, zbv, zbw, zbx, zby, zbz, zca, zcb, zcc, zcd, zce, zcf, zcg, zch, zci, zcj, zck, zcl, zcm, zcn, zco, zcp, zcq, zcr, zcs, zct, zcu, zcv, zcw, zcx, zcy, zcz, zda, zdb, zdc, zdd, zde, zdf, zdg, zdh, zdi, zdj, zdk, zdl, ev5, tbVh0, glob]
      refine loopQ_wk _ (Wk.at (d := 3) (v := .sl 0 [] (.own ⟨0, 3, 0, 0⟩ 1)) (by simp (maxSteps := 1000000) (disch := first | omega | (simp only [updB, updI, dsB, reduceCtorEq, Nat.reduceEqDiff, Abs.Id.mk.injEq, and_false, false_and, and_true, true_and, if_false, ↓reduceIte, Option.isSome_some, *]; done) | (simp only [zpK_len, lenK_len, lnB] <;> omega) | fail) only [ev0, ev1, ev2, ev3, ↓reduceIte, reduceCtorEq, zaa, zab, zac, zad, zae, zaf, zag, zah, zai, zaj, zak, zal, zam, zan, zao, zap, zaq, ↓zar, ↓zas, zat, zau, zav, zaw, zax, zay, zaz, zba, zbb, zbc, zbd, zbe, zbf, zbg, zbh, zbi, zbj, zbk, zbl, zbm, zbn, zbo, zbp, zbq, zbr, zbs, zbt, zbu, zbv, zbw, zbx, zby, zbz, zca, zcb, zcc, zcd, zce, zcf, zcg, zch, zci, zcj, zck, zcl, zcm, zcn, zco, zcp, zcq, zcr, zcs, zct, zcu, zcv, zcw, zcx, zcy, zcz, zda, zdb, zdc, zdd, zde, zdf, zdg, zdh, zdi, zdj, zdk, zdl, ev5, tbVh0, glob]; exact .nil 3 1)) (fun n σ => ∃ k i, k ≤ 8 ∧ n = 8 - k ∧ σ.slots 4 = .raw (.int .i64 (7 - (k : Int))) ∧ σ.slots 0 = .raw (.int .i64 (m : Int)) ∧ σ.slots 3 = .sl (lenK [] m k).length (nums .u8 (lenK [] m k)) (.own i 1) ∧ Free σ.used (σ.gen 17) 17 i) 8 ?_ ?_
      · refine ⟨0, ⟨0, 3, 0, 0⟩, by omega, by omega, ?_⟩
        simp (maxSteps := 1000000) (disch := first | omega | (simp only [updB, updI, dsB, reduceCtorEq, Nat.reduceEqDiff, Abs.Id.mk.injEq, and_false, false_and, and_true, true_and, if_false, ↓reduceIte, Option.isSome_some, *]; done) | (simp only [zpK_len, lenK_len, lnB] <;> omega) | fail) only [ev0, ev1, ev2, ev3, ↓reduceIte, reduceCtorEq, zaa, zab, zac, zad, zae, zaf, zag, zah, zai, zaj, zak, zal, zam, zan, zao, zap, zaq, ↓zar, ↓zas, zat, zau, zav, zaw, zax, zay, zaz, zba, zbb, zbc, zbd, zbe, zbf, zbg, zbh, zbi, zbj, zbk, zbl, zbm, zbn, zbo, zbp, zbq, zbr, zbs, zbt, zbu, zbv, zbw, zbx, zby, zbz, zca, zcb, zcc, zcd, zce, zcf, zcg, zch, zci, zcj, zck, zcl, zcm, zcn, zco, zcp, zcq, zcr, zcs, zct, zcu, zcv, zcw, zcx, zcy, zcz, zda, zdb, zdc, zdd, zde, zdf, zdg, zdh, zdi, zdj, zdk, zdl, ev5, tbVh0, glob]
        exact ⟨rfl, rfl, rfl, fun g _ => rfl, by simp⟩
      · rintro n ⟨sl, gn, bx, us⟩ ⟨k, i, hk, rfl, s4, s0, s3, hf⟩
        dsimp only at s4 s0 s3 hf
        have hf0 := hf.now
        have lQ := lenK_len [] m k
        have hQ : lenK [] m (k + 1) = lenK [] m k ++ [byteI m k] := rfl
        generalize hq : lenK [] m k = q at s3 lQ hQ
        have l0 : ([] : List (BitVec 8)).length = 0 := rfl
        rw [l0] at lQ
        simp (maxSteps := 1000000) (disch := first | omega | (simp only [updB, updI, dsB, reduceCtorEq, Nat.reduceEqDiff, Abs.Id.mk.injEq, and_false, false_and, and_true, true_and, if_false, ↓reduceIte, Option.isSome_some, *]; done) | (simp only [zpK_len, lenK_len, lnB] <;> omega) | fail) only [ev0, ev1, ev2, ev3, ↓reduceIte, reduceCtorEq, zaa, zab, zac, zad, zae, zaf, zag, zah, zai, zaj, zak, zal, zam, zan, zao, zap, zaq, ↓zar, ↓zas, zat, zau, zav, zaw, zax, zay, zaz, zba, zbb, zbc, zbd, zbe, zbf, zbg, zbh, zbi, zbj, zbk, zbl, zbm, zbn, zbo, zbp, zbq, zbr, zbs, zbt, zbu, zbv, zbw, zbx, zby, zbz, zca, zcb, zcc, zcd, zce, zcf, zcg, zch, zci, zcj, zck, zcl, zcm, zcn, zco, zcp, zcq, zcr, zcs, zct, zcu, zcv, zcw, zcx, zcy, zcz, zda, zdb, zdc, zdd, zde, zdf, zdg, zdh, zdi, zdj, zdk, zdl, ev5, tbVh0, glob, s4, s0, s3, hf0]
        refine condQ_dec (fun hlt => ?_) (fun hge => ?_)
        · have hlt : k < 8 := by omega
          have e1 : (8 * (7 - (k : Int))).toNat = 56 - 8 * k := by omega
          simp (maxSteps := 1000000) (disch := first | omega | (simp only [updB, updI, dsB, reduceCtorEq, Nat.reduceEqDiff, Abs.Id.mk.injEq, and_false, false_and, and_true, true_and, if_false, ↓reduceIte, Option.isSome_some, *]; done) | (simp only [zpK_len, lenK_len, lnB] <;> omega) | fail) only [ev0, ev1, ev2, ev3, ↓reduceIte, reduceCtorEq, zaa, zab, zac, zad, zae, zaf, zag, zah, zai, zaj, zak, zal, zam, zan, zao, zap, zaq, ↓zar, ↓zas, zat, zau, zav, zaw, zax, zay, zaz, zba, zbb, zbc, zbd, zbe, zbf, zbg, zbh, zbi, zbj, zbk, zbl, zbm, zbn, zbo, zbp, zbq, zbr, zbs, zbt, zbu, zbv, zbw, zbx, zby, zbz, zca, zcb, zcc, zcd, zce, zcf, zcg, zch, zci, zcj, zck, zcl, zcm, zcn, zco, zcp, zcq, zcr, zcs, zct, zcu, zcv, zcw, zcx, zcy, zcz, zda, zdb, zdc, zdd, zde, zdf, zdg, zdh, zdi, zdj, zdk, zdl, ev5, tbVh0, glob, s4, s0, s3, hf0, e1]
          refine ⟨8 - (k + 1), by omega, k + 1, ⟨0, 17, 0, gn 17 + 1⟩, by omega, rfl, i64_eq (by omega), row_eq ?_ ?_, hf.go⟩
          · rw [hQ]; simp
          · rw [hQ]; rfl
        · have hk : k = 8 := by omega
          subst hk
          rw [hq]
          simp (maxSteps := 1000000) (disch := first | omega | (simp only [updB, updI, dsB, reduceCtorEq, Nat.reduceEqDiff, Abs.Id.mk.injEq, and_false, false_and, and_true, true_and, if_false, ↓reduceIte, Option.isSome_some, *]; done) | (simp only [zpK_len, lenK_len, lnB] <;> omega) | fail) only [ev0, ev1, ev2, ev3, ↓reduceIte, reduceCtorEq, zaa, zab, zac, zad, zae, zaf, zag, zah, zai, zaj, zak, zal, zam, zan, zao, zap, zaq, ↓zar, ↓zas, zat, zau, zav, zaw, zax, zay, zaz, zba, zbb, zbc, zbd, zbe, zbf, zbg, zbh, zbi, zbj, zbk, zbl, zbm, zbn, zbo, zbp, zbq, zbr, zbs, zbt, zbu, zbv, zbw, zbx, zby, zbz, zca, zcb, zcc, zcd, zce, zcf, zcg, zch, zci, zcj, zck, zcl, zcm, zcn, zco, zcp, zcq, zcr, zcs, zct, zcu, zcv, zcw, zcx, zcy, zcz, zda, zdb, zdc, zdd, zde, zdf, zdg, zdh, zdi, zdj, zdk, zdl, ev5, tbVh0, glob, s4, s0, s3, hf0]
          rw [lQ]
          exact ResQ.same rfl
    · cases hr
  · cases hr
/-- what is laid over, as far as m bytes -/
theorem take_snoc {l : List (BitVec 8)} {m : Nat} (h : m < l.length) : l.take (m + 1) = l.take m ++ [l.getD m 0#8] := by
  rw [List.take_add_one, List.getElem?_eq_getElem h, List.getD_eq_getElem?_getD, List.getElem?_eq_getElem h]
  rfl
def pf95 : List AV → Option AV
  | [v, u, x, w] => (agg? .u8 8 32 v).bind fun k => (agg? .u8 8 12 u).bind fun n => (num? .u32 32 x).bind fun c => (row? .u8 8 w).bind fun b => if b.length ≤ 1000000 then some (.sl (gxorB k n c b).length (nums .u8 (gxorB k n c b)) (.own ⟨0, 0, 0, 0⟩ 1)) else none
  | _ => none
noncomputable def EZ : Env := (((((((E0.know 123 pf123).know 124 pf124).know 125 pf125).know 126 pf126).know 127 pf127).know 131 pf131).know 130 pf130)
theorem okZ : EnvOK Tryd.prog EZ := (((((((ok0.know sound123).know sound124).know sound125).know sound126).know sound127).know sound131).know sound130)
theorem EZ_te : EZ.te = te := rfl
theorem EZ_glob : EZ.glob = glob := rfl
theorem EZ_gs : EZ.gs = [] := rfl
theorem EZ_dyn : EZ.dyn = false := rfl
theorem EZ_mu (d : Nat) : EZ.mu d = false := rfl
theorem EZ_e : EZ.tbl 123 = some (.val pf123) := rfl
theorem EZ_b : EZ.tbl 124 = some (.val pf124) := rfl
theorem EZ_c : EZ.tbl 125 = some (.val pf125) := rfl
theorem EZ_s : EZ.tbl 126 = some (.val pf126) := rfl
theorem EZ_n : EZ.tbl 127 = some (.val pf127) := rfl
theorem EZ_h : EZ.tbl 131 = some (.val pf131) := rfl
theorem EZ_x : EZ.tbl 130 = some (.val pf130) := rfl
theorem exp2_at {k : List (BitVec 8)} (h : k.length = 32) : pf123 [.agg (nums .u8 k)] = some (.agg (nums .u8 (expF k))) := by
  simp only [pf123, agg?_at h, Option.bind_some]
theorem box2_at : pf124 [] = some (.agg (nums .u8 boxL)) := rfl
theorem ctr4_at {n : List (BitVec 8)} {c : BitVec 32} (h : n.length = 12) : pf125 [.agg (nums .u8 n), .raw (.int .u32 (c.toNat : Int))] = some (.agg (nums .u8 (ctrB n c))) := by
  simp only [pf125, agg?_at h, num?_num, Option.bind_some]
theorem ctr4_one {n : List (BitVec 8)} (h : n.length = 12) : pf125 [.agg (nums .u8 n), .raw (.int .u32 1)] = some (.agg (nums .u8 (ctrB n 1#32))) := ctr4_at (c := 1#32) h
theorem enc2_at {c s : List (BitVec 8)} (h : c.length = 240) (h' : s.length = 16) : pf126 [.agg (nums .u8 c), .agg (nums .u8 s), .agg (nums .u8 boxL)] = some (.agg (nums .u8 (encB c s))) := by
  simp only [pf126, agg?_at h, agg?_at h', agg?_at boxL_len, Option.bind_some, if_true]
theorem next3_at {b : List (BitVec 8)} (h : b.length = 16) : pf127 [.agg (nums .u8 b)] = some (.agg (nums .u8 (nextB b))) := by
  simp only [pf127, agg?_at h, Option.bind_some]
theorem hash3_at {h b : List (BitVec 8)} {n : Nat} {fl : Fl} (hh : h.length = 16) (hn : n = b.length) (hb : b.length ≤ 1000000) : pf131 [.agg (nums .u8 h), .sl n (nums .u8 b) fl] = some (.agg (nums .u8 (hashB h b))) := by
  simp only [pf131, agg?_at hh, row?_at hn, Option.bind_some, if_pos hb]
theorem xor3_go {a b : List (BitVec 8)} (h : a.length = 16) (h' : b.length = 16) : pf130 [.agg (nums .u8 a), .agg (nums .u8 b)] = some (.agg (nums .u8 (xorB a b))) := xor3_at h h'
end Go.Proofs.YtddeffdgldjdjaaDoor
