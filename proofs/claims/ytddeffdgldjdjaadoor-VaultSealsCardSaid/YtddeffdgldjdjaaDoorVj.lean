/- The document's tags, what it seals and opens: what the walks come to. -/
import Derived.Test.YtddeffdgldjdjaaDoorVi
import Derived.Test.YtddeffdgldjdjaaDoorUl
import Derived.Test.YtddeffdgldjdjaaDoorUn
namespace Go.Proofs.YtddeffdgldjdjaaDoor
set_option linter.unusedSimpArgs false
set_option linter.unusedVariables false
set_option linter.defProp false
open Go Go.Abs
open Nat renaming reduceAdd → zaa, reduceSub → zab, reduceMul → zac, reduceLT → zad, reduceLeDiff → zae, reduceEqDiff → zaf, reduceBEq → zag
open BitVec renaming reduceOfInt → zah
open Int renaming reduceLE → zai, reduceLT → zaj, reduceGT → zak, reduceGE → zal, reduceNeg → zam, reduceAdd → zan, reduceSub → zao, reduceMul → zap, reduceToNat → zaq
open Go.Abs renaming bind_go → zar, map_go → zas, wantedV → zat, isWrite → zau, grow → zav, write → zaw, ofV → zax, start → zaz, strip → zba, endQ → zbb, resV → zbc, rawsRes → zbd, rawRes → zbe, exports → zbf, export1 → zbg, isSelf → zbl, convSelf → zbm, convV → zbn, loadV → zbo, storeV → zbp, fieldAddrV → zbq, fieldV → zbr, indexAddrV → zbs, indexV → zbt, partV → zbu, isAggK → zbv, isStr → zbw, place → zbx, lenV → zby, min2V → zbz, makeV → zca, freshSl → zcb, sliceV → zcc, boundOr → zcd, bound → zce, bounds → zcf, cutFl → zcg, copyV → zch, slCells → zci, srcV → zcj, appendV → zck, room → zcl, zerosOf → zcm, eqNeg → zcn, kd → zco, takeR → zcp, hasViewL → zcq, hasView → zcr, freshR → zcs, freshC → zct, snapAll → zcu, snap → zcv, snapL → zcw, flatL → zcx, pureL → zcy, pureA → zcz, fillC → zda, arrOK → zdb, oneA → zdc, partB → zdd, ren1 → zdf, applyW → zdh, useL → zdi, isGen → zdk, startG → zdl
open Go.Abs.AV renaming cells → zay, laid → zde
open Go.Abs.AS renaming grown → zbh, put → zbi, mute → zdj
open Go.Abs.Env renaming know → zbj, boxed → zbk
open Go.Abs.CR renaming gr → zdg
set_option maxHeartbeats 4000000
theorem lenK_app (y : List (BitVec 8)) (n : Nat) : ∀ k, lenK y n k = y ++ lenK [] n k
  | 0 => (List.append_nil y).symm
  | k + 1 => by rw [lenK, lenK, lenK_app y n k, List.append_assoc]
theorem padB_app (a t : List (BitVec 8)) : padB (padB a ++ t) = padB a ++ padB t := by
  have h : padN (padB a ++ t).length = padN t.length := by
    rw [List.length_append, padB_len, padN, padN, padN]; omega
  rw [padB, h, padB, padB, List.append_assoc]
theorem tagged_is (a t : List (BitVec 8)) : taggedB a t = padB a ++ padB t ++ lenK [] a.length 8 ++ lenK [] t.length 8 := by
  rw [taggedB, lenK_app, lenK_app (padB (padB a ++ t)), padB_app]
noncomputable def EY : Env := ((EZ.know 128 (fun xs => pf128 (xs.map norm))).know 129 pf129)
theorem okY : EnvOK Tryd.prog EY := ((okZ.know sound128.norm).know sound129)
theorem EY_te : EY.te = te := rfl
theorem EY_glob : EY.glob = glob := rfl
theorem EY_gs : EY.gs = [] := rfl
theorem EY_dyn : EY.dyn = false := rfl
theorem EY_mu (d : Nat) : EY.mu d = false := rfl
theorem EY_e : EY.tbl 123 = some (.val pf123) := rfl
theorem EY_b : EY.tbl 124 = some (.val pf124) := rfl
theorem EY_c : EY.tbl 125 = some (.val pf125) := rfl
theorem EY_s : EY.tbl 126 = some (.val pf126) := rfl
theorem EY_h : EY.tbl 131 = some (.val pf131) := rfl
theorem EY_x : EY.tbl 130 = some (.val pf130) := rfl
theorem EY_w : EY.tbl 128 = some (.val (fun xs => pf128 (xs.map norm))) := rfl
theorem EY_i : EY.tbl 129 = some (.val pf129) := rfl
theorem whole4_at {n : Nat} {b : List (BitVec 8)} {fl : Fl} (hn : n = b.length) (hb : b.length ≤ 400000) : pf128 [.sl n (nums .u8 b) fl] = some (.sl (padB b).length (nums .u8 (padB b)) (.own ⟨0, 0, 0, 0⟩ 1)) := by
  simp only [pf128, row?_at hn, Option.bind_some, if_pos hb]
theorem bits4_at {m : Nat} (h : m ≤ 400000) : pf129 [.raw (.int .i64 (m : Int))] = some (.sl 8 (nums .u8 (lenK [] m 8)) (.own ⟨0, 0, 0, 0⟩ 1)) := by
  have hz : (0 : Int) ≤ (m : Int) ∧ (m : Int) ≤ 400000 := by omega
  simp only [pf129, if_pos hz, Int.toNat_natCast]
def pf96 : List AV → Option AV
  | [v, u, x, w] => (agg? .u8 8 32 v).bind fun k => (agg? .u8 8 12 u).bind fun n => (row? .u8 8 x).bind fun a => (row? .u8 8 w).bind fun t => if a.length ≤ 400000 ∧ t.length ≤ 400000 then some (.agg (nums .u8 (tagB k n a t))) else none
  | _ => none
theorem z8 (n : Nat) : (lenK [] n 8).length = 8 := lenK_len [] n 8
set_option maxRecDepth 20000 in
theorem sound96 : SoundV Tryd.prog glob 96 pf96 := by
  refine SoundV.walk EY okY mixed Tryd.func96 rfl Tryd.call96 (by kernel_rfl) ?_
  intro args r hr
  unfold pf96 at hr
  split at hr
  · rename_i v u x w
    simp only [Option.bind_eq_some_iff] at hr
    obtain ⟨k, h1, n, h2, a, h3, t, h4, hr⟩ := hr
    split at hr
    · rename_i hc
      obtain ⟨ha, ht⟩ := hc
      cases hr
      obtain ⟨rfl, hk⟩ := agg?_of h1
      obtain ⟨rfl, hn⟩ := agg?_of h2
      obtain ⟨fl, rfl⟩ := row?_of h3
      obtain ⟨fl', rfl⟩ := row?_of h4
      rw [Tryd.ntmps96, Tryd.results96]
      have lX := expF_len hk
      have lC := ctrB_len hn 1#32
      have pa := padN_lt a.length
      have pt := padN_lt t.length
      have hT : tagB k n a t = xorB (hashB (encB (expF k) (List.replicate 16 0#8)) (padB a ++ padB t ++ lenK [] a.length 8 ++ lenK [] t.length 8)) (encB (expF k) (ctrB n 1#32)) := by rw [tagB, tagged_is]
      have lP : (padB a ++ padB t ++ lenK [] a.length 8 ++ lenK [] t.length 8).length ≤ 1000000 := by
        simp only [List.length_append, padB_len, z8]; omega
      rw [hT]
      have lF : (xorB (hashB (encB (expF k) (List.replicate 16 0#8)) (padB a ++ padB t ++ lenK [] a.length 8 ++ lenK [] t.length 8)) (encB (expF k) (ctrB n 1#32))).length = 16 := xorB_len (hashB_len _ _)
      refine ⟨by simp, ?_⟩
      simp (maxSteps := 1000000) (disch := first | omega | (simp only [updB, updI, dsB, reduceCtorEq, Nat.reduceEqDiff, Abs.Id.mk.injEq, and_false, false_and, and_true, true_and, if_false, ↓reduceIte, Option.isSome_some, *]; done) | (simp only [z8, boxL_len, encB_len, hashB_len, padB_len, lnB] <;> omega) | fail) only [ev0, ev1, ev2, ev3, ↓reduceIte, reduceCtorEq, zaa, zab, zac, zad, zae, zaf, zag, zah, zai, zaj, zak, zal, zam, zan, zao, zap, zaq, ↓zar, ↓zas, zat, zau, zav, zaw, zax, zay, zaz, zba, zbb, zbc, zbd, zbe, zbf, zbg, zbh, zbi, zbj, zbk, zbl, zbm, zbn, zbo, zbp, zbq, zbr, zbs, zbt, zbu, zbv, zbw, zbx, zby, zbz, zca, zcb, zcc, zcd, zce, zcf, zcg, zch, zci, zcj, zck, zcl, zcm, zcn, zco, zcp, zcq, zcr, zcs, zct, zcu, zcv, zcw, zcx, zcy, zcz, zda, zdb, zdc, zdd, zde, zdf, zdg, zdh, zdi, zdj, zdk, zdl, ev5, teE, EY_te, EY_glob, EY_gs, EY_dyn, EY_mu, EY_e, EY_b, EY_c, EY_s, EY_h, EY_x, EY_w, EY_i, exp2_at, box2_at, ctr4_one, enc2_at, hash3_at, xor3_go, whole4_at, bits4_at, nums_strip, nums_set8, nums_ren, boxL_len, encB_len, hashB_len, z8, glob, Nat.reduceMod, splice0, hk, hn, lX, lC, lP, lF]
      exact ResQ.same rfl
    · cases hr
  · cases hr
noncomputable def EQ : Env := (E0.know 95 pf95).know 96 pf96
theorem okQ : EnvOK Tryd.prog EQ := (ok0.know sound95).know sound96
theorem EQ_te : EQ.te = te := rfl
theorem EQ_glob : EQ.glob = glob := rfl
theorem EQ_gs : EQ.gs = [] := rfl
theorem EQ_dyn : EQ.dyn = false := rfl
theorem EQ_mu (d : Nat) : EQ.mu d = false := rfl
theorem EQ_x : EQ.tbl 95 = some (.val pf95) := rfl
theorem EQ_t : EQ.tbl 96 = some (.val pf96) := rfl
theorem xor4_at {k n : List (BitVec 8)} {c : BitVec 32} {m : Nat} {b : List (BitVec 8)} {fl : Fl} (hk : k.length = 32) (hn : n.length = 12) (hm : m = b.length) (hb : b.length ≤ 1000000) : pf95 [.agg (nums .u8 k), .agg (nums .u8 n), .raw (.int .u32 (c.toNat : Int)), .sl m (nums .u8 b) fl] = some (.sl (gxorB k n c b).length (nums .u8 (gxorB k n c b)) (.own ⟨0, 0, 0, 0⟩ 1)) := by
  simp only [pf95, agg?_at hk, agg?_at hn, num?_num, row?_at hm, Option.bind_some, if_pos hb]
theorem xor4_two {k n : List (BitVec 8)} {m : Nat} {b : List (BitVec 8)} {fl : Fl} (hk : k.length = 32) (hn : n.length = 12) (hm : m = b.length) (hb : b.length ≤ 1000000) : pf95 [.agg (nums .u8 k), .agg (nums .u8 n), .raw (.int .u32 2), .sl m (nums .u8 b) fl] = some (.sl (gxorB k n 2#32 b).length (nums .u8 (gxorB k n 2#32 b)) (.own ⟨0, 0, 0, 0⟩ 1)) := xor4_at (c := 2#32) hk hn hm hb
theorem tag4_at {k n : List (BitVec 8)} {m m' : Nat} {a b : List (BitVec 8)} {fl fl' : Fl} (hk : k.length = 32) (hn : n.length = 12) (hm : m = a.length) (hm' : m' = b.length) (ha : a.length ≤ 400000) (hb : b.length ≤ 400000) : pf96 [.agg (nums .u8 k), .agg (nums .u8 n), .sl m (nums .u8 a) fl, .sl m' (nums .u8 b) fl'] = some (.agg (nums .u8 (tagB k n a b))) := by
  have hc : a.length ≤ 400000 ∧ b.length ≤ 400000 := ⟨ha, hb⟩
  simp only [pf96, agg?_at hk, agg?_at hn, row?_at hm, row?_at hm', Option.bind_some, if_pos hc]
def pf67 : List AV → Option AV
  | [v, u, x, w] => (agg? .u8 8 32 v).bind fun k => (agg? .u8 8 12 u).bind fun n => (row? .u8 8 x).bind fun a => (row? .u8 8 w).bind fun t => if a.length ≤ 400000 ∧ t.length ≤ 400000 then some (.sl (sealB k n a t).length (nums .u8 (sealB k n a t)) (.own ⟨0, 0, 0, 0⟩ 1)) else none
  | _ => none
def tbVj1 := (And.intro (And.intro (And.intro @teE (And.intro @EQ_te @EQ_glob)) (And.intro (And.intro @EQ_gs @EQ_dyn) (And.intro @EQ_mu @EQ_x))) (And.intro (And.intro (And.intro @EQ_t @xor4_two) (And.intro @tag4_at @nums_strip)) (And.intro (And.intro @nums_set8 @splice0) (And.intro @tagB_len @gxorB_len))))
theorem sound67 : SoundV Tryd.prog glob 67 pf67 := by
  refine SoundV.walk EQ okQ mixed Tryd.func67 rfl Tryd.call67 (by kernel_rfl) ?_
  intro args r hr
  unfold pf67 at hr
  split at hr
  · rename_i v u x w
    simp only [Option.bind_eq_some_iff] at hr
    obtain ⟨k, h1, n, h2, a, h3, t, h4, hr⟩ := hr
    split at hr
    · rename_i hc
      obtain ⟨ha, ht⟩ := hc
      cases hr
      obtain ⟨rfl, hk⟩ := agg?_of h1
      obtain ⟨rfl, hn⟩ := agg?_of h2
      obtain ⟨fl, rfl⟩ := row?_of h3
      obtain ⟨fl', rfl⟩ := row?_of h4
      rw [Tryd.ntmps67, Tryd.results67]
      refine ⟨by simp, ?_⟩
      simp (maxSteps := 1000000) (disch := first | omega | (simp only [updB, updI, dsB, reduceCtorEq, Nat.reduceEqDiff, Abs.Id.mk.injEq, and_false, false_and, and_true, true_and, if_false, ↓reduceIte, Option.isSome_some, *]; done) | (simp only [gxorB_len, tagB_len, sealB_len, lnB] <;> omega) | fail) only [ev0, ev1, ev2, ev3, ↓reduceIte, reduceCtorEq, zaa, zab, zac, zad, zae, zaf, zag, zah, zai, zaj, zak, zal, zam, zan, zao, zap, zaq, ↓zar, ↓zas, zat, zau, zav, zaw, zax, zay, zaz, zba, zbb, zbc, zbd, zbe, zbf, zbg, zbh, zbi, zbj, zbk, zbl, zbm, zbn, zbo, zbp, zbq, zbr, zbs, zbt, zbu, zbv, zbw, zbx, zby, zbz, zca, zcb, zcc, zcd, zce, zcf, zcg, zch, zci, zcj, zck, zcl, zcm, zcn, zco, zcp, zcq, zcr, zcs, zct, zcu, zcv, zcw, zcx, zcy, zcz, zda, zdb, zdc, zdd, zde, zdf, zdg, zdh, zdi, zdj, zdk, zdl, ev5, tbVj1, glob, Nat.reduceMod, hk, hn]
      exact ResQ.same (row_eq (sealB_len k n a t).symm rfl)
    · cases hr
  · cases hr
def pf69 : List AV → Option AV
  | [v, u, x, w] => (agg? .u8 8 32 v).bind fun k => (agg? .u8 8 12 u).bind fun n => (row? .u8 8 x).bind fun a => (row? .u8 8 w).bind fun t => if a.length ≤ 400000 ∧ t.length ≤ 400000 then some (.tup [.sl (openT k n a t).length (nums .u8 (openT k n a t)) .bor, .raw (.int .i64 (openE k n a t))]) else none
  | _ => none
theorem map_u8_inj {l m : List (BitVec 8)} (h : l.map UInt8.ofBitVec = m.map UInt8.ofBitVec) : l = m := by
  have := congrArg (List.map UInt8.toBitVec) h
  simpa [List.map_map, Function.comp_def] using this
theorem sound69 : SoundV Tryd.prog glob 69 pf69 := by
  refine SoundV.walk EQ okQ mixed Tryd.func69 rfl Tryd.call69 (by kernel_rfl) ?_
  intro args r hr
  unfold pf69 at hr
  split at hr
  · rename_i v u x w
    simp only [Option.bind_eq_some_iff] at hr
    obtain ⟨k, h1, n, h2, a, h3, t, h4, hr⟩ := hr
    split at hr
    · rename_i hc
      obtain ⟨ha, ht⟩ := hc
      cases hr
      obtain ⟨rfl, hk⟩ := agg?_of h1
      obtain ⟨rfl, hn⟩ := agg?_of h2
      obtain ⟨fl, rfl⟩ := row?_of h3
      obtain ⟨fl', rfl⟩ := row?_of h4
      rw [Tryd.ntmps69, Tryd.results69]
      refine ⟨by simp, ?_⟩
      by_cases h16 : t.length < 16
      · rw [show openT k n a t = [] by rw [openT, if_pos h16], show openE k n a t = 3 by rw [openE, if_pos h16]]
        have e1 : decide ((t.length : Int) - 16 < 0) = true := decide_eq_true (by omega)
        simp (maxSteps := 1000000) (disch := first | omega | (simp only [updB, updI, dsB, reduceCtorEq, Nat.reduceEqDiff, Abs.Id.mk.injEq, and_false, false_and, and_true, true_and, if_false, ↓reduceIte, Option.isSome_some, *]; done) | (simp only [gxorB_len, tagB_len, sealB_len, lnB] <;> omega) | fail) only [ev0, ev1, ev2, ev3, ↓reduceIte, reduceCtorEq, zaa, zab, zac, zad, zae, zaf, zag, zah, zai, zaj, zak, zal, zam, zan, zao, zap, zaq, ↓zar, ↓zas, zat, zau, zav, zaw, zax, zay, zaz, zba, zbb, zbc, zbd, zbe, zbf, zbg, zbh, zbi, zbj, zbk, zbl, zbm, zbn, zbo, zbp, zbq, zbr, zbs, zbt, zbu, zbv, zbw, zbx, zby, zbz, zca, zcb, zcc, zcd, zce, zcf, zcg, zch, zci, zcj, zck, zcl, zcm, zcn, zco, zcp, zcq, zcr, zcs, zct, zcu, zcv, zcw, zcx, zcy, zcz, zda, zdb, zdc, zdd, zde, zdf, zdg, zdh, zdi, zdj, zdk, zdl, ev5, tbVj1, glob, Nat.reduceMod, hk, hn, e1]
        exact resQ_2nil
      · obtain ⟨z, hz⟩ : ∃ z, t.length = z + 16 := ⟨t.length - 16, by omega⟩
        have e1 : decide ((t.length : Int) - 16 < 0) = false := decide_eq_false (by omega)
        have lT : (t.take z).length = z := by rw [List.length_take]; omega
        have hT : openT k n a t = if dfK (tagB k n a (t.take z)) t z 16 = 0#8 then gxorB k n 2#32 (t.take z) else [] := by
          rw [openT, if_neg h16, show t.length - 16 = z by omega]
        have hE : openE k n a t = if dfK (tagB k n a (t.take z)) t z 16 = 0#8 then 0 else 40 := by
          rw [openE, if_neg h16, show t.length - 16 = z by omega]
        obtain ⟨g, hg⟩ : ∃ g, tagB k n a (t.take z) = g := ⟨_, rfl⟩
        have lG : g.length = 16 := by rw [← hg]; exact tagB_len _ _ _ _
        have hz2 : t.length - 16 = z := by omega
        rw [hg] at hT hE
        have hD : dfK g t z 16 = 0#8 ↔ g = t.drop z := by
          rw [dfK_zero]
          constructor
          · intro h
            refine ext_getD (by rw [lG, List.length_drop]; omega) fun i hi => ?_
            rw [getD_dropD]
            exact h i (by omega)
          · intro h i hi
            rw [h, getD_dropD]
        by_cases hd : dfK g t z 16 = 0#8
        · rw [if_pos hd] at hT hE
          rw [hT, hE]
          have e2 : (g.map UInt8.ofBitVec == (t.drop z).map UInt8.ofBitVec) = true := by rw [← hD.1 hd]; exact beq_self_eq_true _
          have e3 : t.length - z = 16 := by omega
          simp (maxSteps := 1000000) (disch := first | omega | (simp only [updB, updI, dsB, reduceCtorEq, Nat.reduceEqDiff, Abs.Id.mk.injEq, and_false, false_and, and_true, true_and, if_false, ↓reduceIte, Option.isSome_some, *]; done) | (simp only [gxorB_len, tagB_len, sealB_len, lnB] <;> omega) | fail) only [ev0, ev1, ev2, ev3, ↓reduceIte, reduceCtorEq, zaa, zab, zac, zad, zae, zaf, zag, zah, zai, zaj, zak, zal, zam, zan, zao, zap, zaq, ↓zar, ↓zas, zat, zau, zav, zaw, zax, zay, zaz, zba, zbb, zbc, zbd, zbe, zbf, zbg, zbh, zbi, zbj, zbk, zbl, zbm, zbn, zbo, zbp, zbq, zbr, zbs, zbt, zbu, zbv, zbw, zbx, zby, zbz, zca, zcb, zcc, zcd, zce, zcf, zcg, zch, zci, zcj, zck, zcl, zcm, zcn, zco, zcp, zcq, zcr, zcs, zct, zcu, zcv, zcw, zcx, zcy, zcz, zda, zdb, zdc, zdd, zde, zdf, zdg, zdh, zdi, zdj, zdk, zdl, ev5, tbVj1, glob, Nat.reduceMod, hk, hn, e1, lT, hz2, hg, lG, e2, e3]
          exact resQ_2
        · rw [if_neg hd] at hT hE
          rw [hT, hE]
          have e2 : (g.map UInt8.ofBitVec == (t.drop z).map UInt8.ofBitVec) = false := by
            rw [beq_eq_false_iff_ne]
            exact fun h => hd (hD.2 (map_u8_inj h))
          have e3 : t.length - z = 16 := by omega
          simp (maxSteps := 1000000) (disch := first | omega | (simp only [updB, updI, dsB, reduceCtorEq, Nat.reduceEqDiff, Abs.Id.mk.injEq, and_false, false_and, and_true, true_and, if_false, ↓reduceIte, Option.isSome_some, *]; done) | (simp only [gxorB_len, tagB_len, sealB_len, lnB] <;> omega) | fail) only [ev0, ev1, ev2, ev3, ↓reduceIte, reduceCtorEq, zaa, zab, zac, zad, zae, zaf, zag, zah, zai, zaj, zak, zal, zam, zan, zao, zap, zaq, ↓zar, ↓zas, zat, zau, zav, zaw, zax, zay, zaz, zba, zbb, zbc, zbd, zbe, zbf, zbg, zbh, zbi, zbj, zbk, zbl, zbm, zbn, zbo, zbp, zbq, zbr, zbs, zbt, zbu, zbv, zbw, zbx, zby, zbz, zca, zcb, zcc, zcd, zce, zcf, zcg, zch, zci, zcj, zck, zcl, zcm, zcn, zco, zcp, zcq, zcr, zcs, zct, zcu, zcv, zcw, zcx, zcy, zcz, zda, zdb, zdc, zdd, zde, zdf, zdg, zdh, zdi, zdj, zdk, zdl, ev5, tbVj1, glob, Nat.reduceMod, hk, hn, e1, lT, hz2, hg, lG, e2, e3]
          exact resQ_2nil
    · cases hr
  · cases hr
end Go.Proofs.YtddeffdgldjdjaaDoor
