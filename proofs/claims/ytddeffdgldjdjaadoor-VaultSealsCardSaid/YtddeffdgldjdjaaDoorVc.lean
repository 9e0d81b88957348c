/- The document's rounds, and what is encrypted by them: what the walks come to. -/
import Derived.Test.YtddeffdgldjdjaaDoorVb
import Derived.Test.YtddeffdgldjdjaaDoorUh
namespace Go.Proofs.YtddeffdgldjdjaaDoor
set_option linter.unusedSimpArgs false
set_option linter.unusedVariables false
set_option linter.defProp false
open Go Go.Abs
open Nat renaming reduceAdd → zaa, reduceSub → zab, reduceMul → zac, reduceLT → zad, reduceLeDiff → zae, reduceEqDiff → zaf, reduceBEq → zag
open BitVec renaming reduceOfInt → zah
open Int renaming reduceLE → zai, reduceLT → zaj, reduceGT → zak, reduceGE → zal, reduceNeg → zam, reduceAdd → zan, reduceSub → zao, reduceMul → zap, reduceToNat → zaq
open Go.Abs renaming bind_go → zar, map_go → zas, wantedV → zat, isWrite → zau, grow → zav, write → zaw, ofV → zax, start → zaz, strip → zba, endQ → zbb, resV → zbc, rawsRes → zbd, rawRes → zbe, exports → zbf, export1 → zbg, isSelf → zbl, convSelf → zbm, convV → zbn, loadV → zbo, storeV → zbp, fieldAddrV → zbq, fieldV → zbr, indexAddrV → zbs, indexV → zbt, partV → zbu, isAggK → zbv, isStr → zbw, place → zbx, lenV → zby, min2V → zbz, makeV → zca, freshSl → zcb, sliceV → zcc, boundOr → zcd, bound → zce, bounds → zcf, cutFl → zcg, copyV → zch, slCells → zci, srcV → zcj, appendV → zck, room → zcl, zerosOf → zcm, eqNeg → zcn, kd → zco, takeR → zcp, hasViewL → zcq, hasView → zcr, freshR → zcs, freshC → zct, snapAll → zcu, snap → zcv, snapL → zcw, flatL → zcx, pureL → zcy, pureA → zcz, fillC → zda, arrOK → zdb, oneA → zdc, partB → zdd, ren1 → zdf, applyW → zdh, useL → zdi, isGen → zdk, startG → zdl
open Go.Abs.AV renaming cells → zay, laid → zde
open Go.Abs.AS renaming grown → zbh, put → zbi, mute → zdj
open Go.Abs.Env renaming know → zbj, boxed → zbk
open Go.Abs.CR renaming gr → zdg
set_option maxHeartbeats 64000000
theorem mul1_two (x : BitVec 8) : mul1 x 2#8 = t2 x := by
  have all : ∀ n : Fin 256, mul1 (BitVec.ofFin n) 2#8 = t2 (BitVec.ofFin n) := by decide +kernel
  exact all ⟨x.toNat, x.isLt⟩
theorem mul1_three (x : BitVec 8) : mul1 x 3#8 = t2 x ^^^ x := by
  have all : ∀ n : Fin 256, mul1 (BitVec.ofFin n) 3#8 = t2 (BitVec.ofFin n) ^^^ BitVec.ofFin n := by decide +kernel
  exact all ⟨x.toNat, x.isLt⟩
theorem t2_if (x : BitVec 8) : t2 x = if x.getLsbD 7 then (x <<< 1) ^^^ 27#8 else x <<< 1 := by
  have all : ∀ n : Fin 256, t2 (BitVec.ofFin n) = if (BitVec.ofFin n : BitVec 8).getLsbD 7 then (BitVec.ofFin n <<< 1) ^^^ 27#8 else BitVec.ofFin n <<< 1 := by decide +kernel
  exact all ⟨x.toNat, x.isLt⟩
theorem shl_xor (x y : BitVec 8) : (x ^^^ y) <<< 1 = x <<< 1 ^^^ y <<< 1 := by
  apply BitVec.eq_of_getLsbD_eq
  intro i hi
  simp only [BitVec.getLsbD_xor, BitVec.getLsbD_shiftLeft]
  cases decide (i < 8) <;> cases decide (i < 1) <;> simp
theorem xor_swap4 (a b c : BitVec 8) : a ^^^ c ^^^ (b ^^^ c) = a ^^^ b := by
  apply BitVec.eq_of_getLsbD_eq
  intro i hi
  simp only [BitVec.getLsbD_xor]
  cases a.getLsbD i <;> cases b.getLsbD i <;> cases c.getLsbD i <;> rfl
theorem xor_out (a b c : BitVec 8) : a ^^^ b ^^^ c = a ^^^ c ^^^ b := by
  apply BitVec.eq_of_getLsbD_eq
  intro i hi
  simp only [BitVec.getLsbD_xor]
  cases a.getLsbD i <;> cases b.getLsbD i <;> cases c.getLsbD i <;> rfl
theorem t2_xor (x y : BitVec 8) : t2 (x ^^^ y) = t2 x ^^^ t2 y := by
  rw [t2_if, t2_if x, t2_if y, BitVec.getLsbD_xor, shl_xor]
  cases x.getLsbD 7 <;> cases y.getLsbD 7
  · rfl
  · simp only [Bool.false_xor, if_true, Bool.false_eq_true, if_false, BitVec.xor_assoc]
  · simp only [Bool.xor_false, if_true, Bool.false_eq_true, if_false]
    exact (xor_out _ _ _).symm ▸ rfl
  · simp only [Bool.xor_self, if_true, Bool.false_eq_true, if_false]
    exact (xor_swap4 _ _ _).symm
theorem mixR1 (a b c d p q : BitVec 8) : p ^^^ (q ^^^ b) ^^^ c ^^^ d = a ^^^ (a ^^^ b ^^^ c ^^^ d) ^^^ (p ^^^ q) := by
  apply BitVec.eq_of_getLsbD_eq
  intro i hi
  simp only [BitVec.getLsbD_xor]
  cases a.getLsbD i <;> cases b.getLsbD i <;> cases c.getLsbD i <;> cases d.getLsbD i <;> cases p.getLsbD i <;> cases q.getLsbD i <;> rfl
theorem all_turn (a b c d : BitVec 8) : a ^^^ b ^^^ c ^^^ d = b ^^^ c ^^^ d ^^^ a := by
  apply BitVec.eq_of_getLsbD_eq
  intro i hi
  simp only [BitVec.getLsbD_xor]
  cases a.getLsbD i <;> cases b.getLsbD i <;> cases c.getLsbD i <;> cases d.getLsbD i <;> rfl
theorem mixR (a b c d : BitVec 8) : [mul1 a 2#8 ^^^ mul1 b 3#8 ^^^ c ^^^ d, mul1 b 2#8 ^^^ mul1 c 3#8 ^^^ d ^^^ a, mul1 c 2#8 ^^^ mul1 d 3#8 ^^^ a ^^^ b, mul1 d 2#8 ^^^ mul1 a 3#8 ^^^ b ^^^ c] = mixedF [a, b, c, d] := by
  simp only [mul1_two, mul1_three]
  rw [mixR1 a b c d, mixR1 b c d a, mixR1 c d a b, mixR1 d a b c, ← t2_xor, ← t2_xor, ← t2_xor, ← t2_xor, ← all_turn a b c d, ← all_turn b c d a, ← all_turn a b c d, ← all_turn c d a b, ← all_turn b c d a, ← all_turn a b c d]
  rfl
/-- a column, mixed where it stands -/
def mxR (t : List (BitVec 8)) (c r0 r1 r2 r3 : Nat) : BitVec 8 := mul1 (t.getD (4 * c + r0) 0#8) 2#8 ^^^ mul1 (t.getD (4 * c + r1) 0#8) 3#8 ^^^ t.getD (4 * c + r2) 0#8 ^^^ t.getD (4 * c + r3) 0#8
def oC (t : List (BitVec 8)) : Nat → List (BitVec 8)
  | 0 => t
  | c + 1 => ((((oC t c).set (4 * c + 0) (mxR t c 0 1 2 3)).set (4 * c + 1) (mxR t c 1 2 3 0)).set (4 * c + 2) (mxR t c 2 3 0 1)).set (4 * c + 3) (mxR t c 3 0 1 2)
theorem oC_len (t : List (BitVec 8)) (c : Nat) : (oC t c).length = t.length := by
  induction c with
  | zero => rfl
  | succ c ih => simp [oC, ih]
theorem oC_is (x0 x1 x2 x3 x4 x5 x6 x7 x8 x9 x10 x11 x12 x13 x14 x15 : BitVec 8) : oC [x0, x1, x2, x3, x4, x5, x6, x7, x8, x9, x10, x11, x12, x13, x14, x15] 4 = mixedF [x0, x1, x2, x3] ++ mixedF [x4, x5, x6, x7] ++ mixedF [x8, x9, x10, x11] ++ mixedF [x12, x13, x14, x15] := by
  rw [← mixR, ← mixR, ← mixR, ← mixR]; rfl
def tF (s : List (BitVec 8)) : List (BitVec 8) := colF s 0 ++ colF s 1 ++ colF s 2 ++ colF s 3
theorem tF_len (s : List (BitVec 8)) : (tF s).length = 16 := rfl
theorem round_last (s k : List (BitVec 8)) : roundF s k true = xorB (tF s) k := rfl
theorem round_mix (s k : List (BitVec 8)) : roundF s k false = xorB (oC (tF s) 4) k := by
  rw [show oC (tF s) 4 = mixedF (colF s 0) ++ mixedF (colF s 1) ++ mixedF (colF s 2) ++ mixedF (colF s 3) from oC_is _ _ _ _ _ _ _ _ _ _ _ _ _ _ _ _]
  rfl
set_option maxRecDepth 100000 in
theorem boxL_len : boxL.length = 256 := by decide
theorem box_at (x : BitVec 8) : (nums .u8 boxL)[x.toNat]? = some (.raw (.int .u8 ((bx x).toNat : Int))) := by
  have h := boxL_len
  have := x.isLt
  rw [nums_get _ _ (by omega)]
  rfl
theorem lt256 (x : BitVec 8) : ((x.toNat : Int) < 256) = True := by
  have := x.isLt
  rw [eq_iff_iff, iff_true]
  omega
def pf152 : List AV → Option AV
  | [v, w, .raw (.bool b), u] => (agg? .u8 8 16 v).bind fun s => (agg? .u8 8 16 w).bind fun k => (agg? .u8 8 256 u).bind fun x => if x = boxL then some (.agg (nums .u8 (roundF s k b))) else none
  | _ => none
def tbVc0 := (And.intro (And.intro (And.intro @teE (And.intro @evY @EB1_te)) (And.intro (And.intro @EB1_glob @EB1_gs) (And.intro @EB1_dyn @EB1_mu))) (And.intro (And.intro (And.intro @EB1_m @mul1_2) (And.intro @mul1_3 @nums_strip)) (And.intro (And.intro @nums_set8 @getD_set8) (And.intro @box_at @lt256))))
set_option maxRecDepth 20000 in
theorem sound152 : SoundV Tryd.prog glob 152 pf152 := by
  refine SoundV.walkY EB1 [(0, 5), (2, 5), (6, 5), (8, 17)] okB1 mixed Tryd.func152 rfl Tryd.call152 (by kernel_rfl) ?_
  intro args r hr
  unfold pf152 at hr
  split at hr
  · rename_i v w b u
    simp only [Option.bind_eq_some_iff] at hr
    obtain ⟨s, h1, k, h2, x, h3, hr⟩ := hr
    obtain ⟨rfl, hs⟩ := agg?_of h1
    obtain ⟨rfl, hk⟩ := agg?_of h2
    obtain ⟨rfl, _⟩ := agg?_of h3
    split at hr
    · rename_i hx
      subst hx
      cases hr
      rw [Tryd.ntmps152, Tryd.results152]
      refine ⟨by simp, ?_⟩
      cases b
      · rw [round_mix]
        simp (maxSteps := 1000000) (disch := first | omega | (simp only [tF_len, oC_len, boxL_len, lnB] <;> omega) | fail) only [ev0, ev1, ev2, ev3, ↓reduceIte, reduceCtorEq, zaa, zab, zac, zad, zae, zaf, zag, zah, zai, zaj, zak, zal, zam, zan, zao, zap, zaq, ↓zar, ↓zas, zat, zau, zav, zaw, zax, zay, zaz, zba, zbb, zbc, zbd, zbe, zbf, zbg, zbh, zbi, zbj, zbk, zbl, zbm, zbn, zbo, zbp, zbq, zbr, zbs, zbt, zbu, zbv, zbw, zbx, zby, zbz, zca, zcb, zcc, zcd, zce, zcf, zcg, zch, zci, zcj, zck, zcl, zcm, zcn, zco, zcp, zcq, zcr, zcs, zct, zcu, zcv, zcw, zcx, zcy, zcz, zda, zdb, zdc, zdd, zde, zdf, zdg, zdh, zdi, zdj, zdk, zdl, ev5, tbVc0, glob, Nat.reduceMod, hs, hk]
        refine loopQ_of (fun n σ => ∃ c, c ≤ 4 ∧ n = 4 - c ∧ σ.slots 13 = .raw (.int .i64 (c : Int)) ∧ σ.slots 2 = .raw (.bool false) ∧ σ.slots 5 = .ptr (.own 0 5 1) 0 ∧ σ.slots 8 = .ptr (.own 0 8 1) 0 ∧ σ.slots 9 = .ptr (.own 0 9 1) 0 ∧ σ.slots 12 = .ptr (.own 0 12 1) 0 ∧ σ.box (.own 0 5 1) = some (nums .u8 k) ∧ σ.box (.own 0 8 1) = some (nums .u8 (List.replicate 16 0#8)) ∧ σ.box (.own 0 9 1) = some (nums .u8 (tF s)) ∧ σ.box (.own 0 12 1) = some (nums .u8 (oC (tF s) c))) 4 ?_ ?_
        · refine ⟨0, by omega, by omega, ?_⟩
          simp (maxSteps := 1000000) (disch := first | omega | (simp only [tF_len, oC_len, boxL_len, lnB] <;> omega) | fail) only [ev0, ev1, ev2, ev3, ↓reduceIte, reduceCtorEq, zaa, zab, zac, zad, zae, zaf, zag, zah, zai, zaj, zak, zal, zam, zan, zao, zap, zaq, ↓zar, ↓zas, zat, zau, zav, zaw, zax, zay, zaz, zba, zbb, zbc, zbd, zbe, zbf, zbg, zbh, zbi, zbj, zbk, zbl, zbm, zbn, zbo, zbp, zbq, zbr, zbs, zbt, zbu, zbv, zbw, zbx, zby, zbz, zca, zcb, zcc, zcd, zce, zcf, zcg, zch, zci, zcj, zck, zcl, zcm, zcn, zco, zcp, zcq, zcr, zcs, zct, zcu, zcv, zcw, zcx, zcy, zcz, zda, zdb, zdc, zdd, zde, zdf, zdg, zdh, zdi, zdj, zdk, zdl, ev5, tbVc0, glob, Nat.reduceMod, hs, hk]
          repeat' first | exact rfl | refine ⟨?_, ?_⟩
        · rintro n ⟨sl, gn, bx', us⟩ ⟨c, hc, rfl, s13, s2, s5, s8, s9, s12, b5, b8, b9, b12⟩
          dsimp only at s13 s2 s5 s8 s9 s12 b5 b8 b9 b12
          have lT := tF_len s
          have lO := (oC_len (tF s) c).trans lT
          have hO : oC (tF s) (c + 1) = ((((oC (tF s) c).set (4 * c + 0) (mxR (tF s) c 0 1 2 3)).set (4 * c + 1) (mxR (tF s) c 1 2 3 0)).set (4 * c + 2) (mxR (tF s) c 2 3 0 1)).set (4 * c + 3) (mxR (tF s) c 3 0 1 2) := rfl
          generalize tF s = t at b9 b12 lT lO hO
          generalize ho : oC t c = o at b12 lO hO
          by_cases hlt : c < 4
          · have e1 : decide ((c : Int) < 4) = true := decide_eq_true (by omega)
            simp (maxSteps := 1000000) (disch := first | omega | (simp only [tF_len, oC_len, boxL_len, lnB] <;> omega) | fail) only [ev0, ev1, ev2, ev3, ↓reduceIte, reduceCtorEq, zaa, zab, zac, zad, zae, zaf, zag, zah, zai, zaj, zak, zal, zam, zan, zao, zap, zaq, ↓zar, ↓zas, zat, zau, zav, zaw, zax, zay, zaz, zba, zbb, zbc, zbd, zbe, zbf, zbg, zbh, zbi, zbj, zbk, zbl, zbm, zbn, zbo, zbp, zbq, zbr, zbs, zbt, zbu, zbv, zbw, zbx, zby, zbz, zca, zcb, zcc, zcd, zce, zcf, zcg, zch, zci, zcj, zck, zcl, zcm, zcn, zco, zcp, zcq, zcr, zcs, zct, zcu, zcv, zcw, zcx, zcy, zcz, zda, zdb, zdc, zdd, zde, zdf, zdg, zdh, zdi, zdj, zdk, zdl, ev5, tbVc0, glob, Nat.reduceMod, s13, s2, s5, s8, s9, s12, b5, b8, b9, b12, lT, lO, hk, e1]
            refine ⟨4 - (c + 1), by omega, c + 1, by omega, rfl, ?_⟩
            rw [hO]
            exact ⟨rfl, rfl⟩
          · have hc : c = 4 := by omega
            subst hc
            have e1 : decide (((4 : Nat) : Int) < 4) = false := rfl
            rw [ho]
            simp (maxSteps := 1000000) (disch := first | omega | (simp only [tF_len, oC_len, boxL_len, lnB] <;> omega) | fail) only [ev0, ev1, ev2, ev3, ↓reduceIte, reduceCtorEq, zaa, zab, zac, zad, zae, zaf, zag, zah, zai, zaj, zak, zal, zam, zan, zao, zap, zaq, ↓zar, ↓zas, zat, zau, zav, zaw, zax, zay, zaz, zba, zbb, zbc, zbd, zbe, zbf, zbg, zbh, zbi, zbj, zbk, zbl, zbm, zbn, zbo, zbp, zbq, zbr, zbs, zbt, zbu, zbv, zbw, zbx, zby, zbz, zca, zcb, zcc, zcd, zce, zcf, zcg, zch, zci, zcj, zck, zcl, zcm, zcn, zco, zcp, zcq, zcr, zcs, zct, zcu, zcv, zcw, zcx, zcy, zcz, zda, zdb, zdc, zdd, zde, zdf, zdg, zdh, zdi, zdj, zdk, zdl, ev5, tbVc0, glob, Nat.reduceMod, s13, s2, s5, s8, s9, s12, b5, b8, b9, b12, lT, lO, hk, e1]
            exact ResQ.same rfl
      · rw [round_last]
        simp (maxSteps := 1000000) (disch := first | omega | (simp only [tF_len, oC_len, boxL_len, lnB] <;> omega) | fail) only [ev0, ev1, ev2, ev3, ↓reduceIte, reduceCtorEq, zaa, zab, zac, zad, zae, zaf, zag, zah, zai, zaj, zak, zal, zam, zan, zao, zap, zaq, ↓zar, ↓zas, zat, zau, zav, zaw, zax, zay, zaz, zba, zbb, zbc, zbd, zbe, zbf, zbg, zbh, zbi, zbj, zbk, zbl, zbm, zbn, zbo, zbp, zbq, zbr, zbs, zbt, zbu, zbv, zbw, zbx, zby, zbz, zca, zcb, zcc, zcd, zce, zcf, zcg, zch, zci, zcj, zck, zcl, zcm, zcn, zco, zcp, zcq, zcr, zcs, zct, zcu, zcv, zcw, zcx, zcy, zcz, zda, zdb, zdc, zdd, zde, zdf, zdg, zdh, zdi, zdj, zdk, zdl, ev5, tbVc0, glob, Nat.reduceMod, hs, hk]
        refine loopQ_of (fun n σ => ∃ c, c ≤ 0 ∧ n = 0 - c ∧ σ.slots 13 = .raw (.int .i64 (c : Int)) ∧ σ.slots 2 = .raw (.bool true) ∧ σ.slots 5 = .ptr (.own 0 5 1) 0 ∧ σ.slots 8 = .ptr (.own 0 8 1) 0 ∧ σ.slots 9 = .ptr (.own 0 9 1) 0 ∧ σ.slots 12 = .ptr (.own 0 12 1) 0 ∧ σ.box (.own 0 5 1) = some (nums .u8 k) ∧ σ.box (.own 0 8 1) = some (nums .u8 (List.replicate 16 0#8)) ∧ σ.box (.own 0 9 1) = some (nums .u8 (tF s)) ∧ σ.box (.own 0 12 1) = some (nums .u8 (oC (tF s) c))) 0 ?_ ?_
        · refine ⟨0, by omega, by omega, ?_⟩
          simp (maxSteps := 1000000) (disch := first | omega | (simp only [tF_len, oC_len, boxL_len, lnB] <;> omega) | fail) only [ev0, ev1, ev2, ev3, ↓reduceIte, reduceCtorEq, zaa, zab, zac, zad, zae, zaf, zag, zah, zai, zaj, zak, zal, zam, zan, zao, zap, zaq, ↓zar, ↓zas, zat, zau, zav, zaw, zax, zay, zaz, zba, zbb, zbc, zbd, zbe, zbf, zbg, zbh, zbi, zbj, zbk, zbl, zbm, zbn, zbo, zbp, zbq, zbr, zbs, zbt, zbu, zbv, zbw, zbx, zby, zbz, zca, zcb, zcc, zcd, zce, zcf, zcg, zch, zci, zcj, zck, zcl, zcm, zcn, zco, zcp, zcq, zcr, zcs, zct, zcu, zcv, zcw, zcx, zcy, zcz, zda, zdb, zdc, zdd, zde, zdf, zdg, zdh, zdi, zdj, zdk, zdl, ev5, tbVc0, glob, Nat.reduceMod, hs, hk]
          repeat' first | exact rfl | refine ⟨?_, ?_⟩
        · rintro n ⟨sl, gn, bx', us⟩ ⟨c, hc, rfl, s13, s2, s5, s8, s9, s12, b5, b8, b9, b12⟩
          dsimp only at s13 s2 s5 s8 s9 s12 b5 b8 b9 b12
          have lT := tF_len s
          have lO := (oC_len (tF s) c).trans lT
          have hO : oC (tF s) (c + 1) = ((((oC (tF s) c).set (4 * c + 0) (mxR (tF s) c 0 1 2 3)).set (4 * c + 1) (mxR (tF s) c 1 2 3 0)).set (4 * c + 2) (mxR (tF s) c 2 3 0 1)).set (4 * c + 3) (mxR (tF s) c 3 0 1 2) := rfl
          generalize tF s = t at b9 b12 lT lO hO
          generalize ho : oC t c = o at b12 lO hO
          have hc : c = 0 := by omega
          subst hc
          have e1 : decide (((0 : Nat) : Int) < 4) = true := rfl
          simp (maxSteps := 1000000) (disch := first | omega | (simp only [tF_len, oC_len, boxL_len, lnB] <;> omega) | fail) only [ev0, ev1, ev2, ev3, ↓reduceIte, reduceCtorEq, zaa, zab, zac, zad, zae, zaf, zag, zah, zai, zaj, zak, zal, zam, zan, zao, zap, zaq, ↓zar, ↓zas, zat, zau, zav, zaw, zax, zay, zaz, zba, zbb, zbc, zbd, zbe, zbf, zbg, zbh, zbi, zbj, zbk, zbl, zbm, zbn, zbo, zbp, zbq, zbr, zbs, zbt, zbu, zbv, zbw, zbx, zby, zbz, zca, zcb, zcc, zcd, zce, zcf, zcg, zch, zci, zcj, zck, zcl, zcm, zcn, zco, zcp, zcq, zcr, zcs, zct, zcu, zcv, zcw, zcx, zcy, zcz, zda, zdb, zdc, zdd, zde, zdf, zdg, zdh, zdi, zdj, zdk, zdl, ev5, tbVc0, glob, Nat.reduceMod, s13, s2, s5, s8, s9, s12, b5, b8, b9, b12, lT, lO, hk, e1]
          rw [show t = o from ho]
          exact ResQ.same rfl
    · cases hr
  · cases hr
end Go.Proofs.YtddeffdgldjdjaaDoor
