/- The document's vault, and VaultSeals: what their walks come to. -/
import Derived.Test.YtddeffdgldjdjaaDoorGh
import Derived.Test.YtddeffdgldjdjaaDoorGd
namespace Go.Proofs.YtddeffdgldjdjaaDoor
set_option linter.unusedSimpArgs false
set_option linter.unusedVariables false
set_option linter.defProp false
open Go Go.Abs
open Nat renaming reduceAdd → zaa, reduceSub → zab, reduceMul → zac, reduceLT → zad, reduceLeDiff → zae, reduceEqDiff → zaf, reduceBEq → zag
open BitVec renaming reduceOfInt → zah
open Int renaming reduceLE → zai, reduceLT → zaj, reduceGT → zak, reduceGE → zal, reduceNeg → zam, reduceAdd → zan, reduceSub → zao, reduceMul → zap, reduceToNat → zaq
open Go.Abs renaming bind_go → zar, map_go → zas, wantedV → zat, isWrite → zau, grow → zav, write → zaw, ofV → zax, start → zaz, strip → zba, endQ → zbb, resV → zbc, rawsRes → zbd, rawRes → zbe, exports → zbf, export1 → zbg, isSelf → zbl, convSelf → zbm, convV → zbn, loadV → zbo, storeV → zbp, fieldAddrV → zbq, fieldV → zbr, indexAddrV → zbs, indexV → zbt, partV → zbu, isAggK → zbv, isStr → zbw, place → zbx, lenV → zby, min2V → zbz, makeV → zca, freshSl → zcb, sliceV → zcc, boundOr → zcd, bound → zce, bounds → zcf, cutFl → zcg, copyV → zch, slCells → zci, srcV → zcj, appendV → zck, room → zcl, zerosOf → zcm, eqNeg → zcn, kd → zco, takeR → zcp, hasViewL → zcq, hasView → zcr, freshR → zcs, freshC → zct, snapAll → zcu, snap → zcv, snapL → zcw, flatL → zcx, pureL → zcy, pureA → zcz, fillC → zda, arrOK → zdb, oneA → zdc, partB → zdd, ren1 → zdf, applyW → zdh, useL → zdi, isGen → zdk, startG → zdl
open Go.Abs.AV renaming cells → zay, laid → zde
open Go.Abs.AS renaming grown → zbh, put → zbi, mute → zdj
open Go.Abs.Env renaming know → zbj, boxed → zbk
open Go.Abs.CR renaming gr → zdg
set_option maxHeartbeats 16000000
noncomputable def ERW : Env := (((ES0.know 37 pf36).know 35 pf34).know 67 (fun xs => pf67 (xs.map norm))).know 69 (fun xs => po69 (xs.map norm))
theorem okRW : EnvOK Tryd.prog ERW := (((okS0.know (toS sound37)).know sound35).know (toS sound67).norm).know (toS soundo69).norm
theorem ERW_te : ERW.te = te := rfl
theorem ERW_glob : ERW.glob = globS := rfl
theorem ERW_gs : ERW.gs = [] := rfl
theorem ERW_dyn : ERW.dyn = false := rfl
theorem ERW_mu (d : Nat) : ERW.mu d = false := rfl
theorem ERW_n : ERW.tbl 37 = some (.val pf36) := rfl
theorem ERW_k : ERW.tbl 35 = some (.val pf34) := rfl
theorem ERW_s : ERW.tbl 67 = some (.val (fun xs => pf67 (xs.map norm))) := rfl
theorem ERW_o : ERW.tbl 69 = some (.val (fun xs => po69 (xs.map norm))) := rfl
theorem seal4_at {k n : List (BitVec 8)} {m m' : Nat} {a b : List (BitVec 8)} {fl fl' : Fl} (hk : k.length = 32) (hn : n.length = 12) (hm : m = a.length) (hm' : m' = b.length) (ha : a.length ≤ 400000) (hb : b.length ≤ 400000) : pf67 [.agg (nums .u8 k), .agg (nums .u8 n), .sl m (nums .u8 a) fl, .sl m' (nums .u8 b) fl'] = some (.sl (sealB k n a b).length (nums .u8 (sealB k n a b)) (.own ⟨0, 0, 0, 0⟩ 1)) := by
  have hc : a.length ≤ 400000 ∧ b.length ≤ 400000 := ⟨ha, hb⟩
  simp only [pf67, agg?_at hk, agg?_at hn, row?_at hm, row?_at hm', Option.bind_some, if_pos hc]
theorem open4_y {k n : List (BitVec 8)} {m m' : Nat} {a b : List (BitVec 8)} {fl fl' : Fl} (hk : k.length = 32) (hn : n.length = 12) (hm : m = a.length) (hm' : m' = b.length) (ha : a.length ≤ 400000) (hb : b.length ≤ 400000) (hz : openE k n a b = 0) : po69 [.agg (nums .u8 k), .agg (nums .u8 n), .sl m (nums .u8 a) fl, .sl m' (nums .u8 b) fl'] = some (.tup [.sl (openT k n a b).length (nums .u8 (openT k n a b)) (.own ⟨0, 0, 0, 0⟩ 1), .raw (.int .i64 0)]) := by
  have hc : a.length ≤ 400000 ∧ b.length ≤ 400000 := ⟨ha, hb⟩
  simp only [po69, agg?_at hk, agg?_at hn, row?_at hm, row?_at hm', Option.bind_some, if_pos hc, if_pos hz]
theorem open4_n {k n : List (BitVec 8)} {m m' : Nat} {a b : List (BitVec 8)} {fl fl' : Fl} (hk : k.length = 32) (hn : n.length = 12) (hm : m = a.length) (hm' : m' = b.length) (ha : a.length ≤ 400000) (hb : b.length ≤ 400000) (hz : openE k n a b ≠ 0) : po69 [.agg (nums .u8 k), .agg (nums .u8 n), .sl m (nums .u8 a) fl, .sl m' (nums .u8 b) fl'] = some (.tup [.raw (.slice none 0 0), .raw (.int .i64 (openE k n a b))]) := by
  have hc : a.length ≤ 400000 ∧ b.length ≤ 400000 := ⟨ha, hb⟩
  simp only [po69, agg?_at hk, agg?_at hn, row?_at hm, row?_at hm', Option.bind_some, if_pos hc, if_neg hz]
theorem openT_no {k n a b : List (BitVec 8)} (h : openE k n a b ≠ 0) : openT k n a b = [] := by
  unfold openE at h; unfold openT
  split at h
  · rename_i h16; rw [if_pos h16]
  · rename_i h16
    rw [if_neg h16]
    split at h
    · exact absurd rfl h
    · rename_i hd; rw [if_neg hd]
def tbGi0 := (And.intro (And.intro (And.intro (And.intro @teE @ERW_te) (And.intro @ERW_glob (And.intro @ERW_gs @ERW_dyn))) (And.intro (And.intro @ERW_mu (And.intro @ERW_n @ERW_k)) (And.intro @ERW_s (And.intro @ERW_o @nonce_at)))) (And.intro (And.intro (And.intro @key_at (And.intro @seal4_at @ns_strip)) (And.intro @ns_set (And.intro @sp12 @tk12))) (And.intro (And.intro @le12 (And.intro @sp32 @tk32)) (And.intro @nonce_len (And.intro @nonceV_len @keyV_len)))))
theorem sound40 : SoundV Tryd.prog globS 40 pv39 := by
  refine SoundV.walk ERW okRW mixed Tryd.func40 rfl Tryd.call40 (by kernel_rfl) ?_
  intro args r hr
  unfold pv39 at hr
  split at hr
  · rename_i k x y z w
    simp only [Option.bind_eq_some_iff] at hr
    obtain ⟨m, h0, d, h1, t, h2, i, h3, b, h4, hr⟩ := hr
    split at hr
    · rename_i hl
      cases hr
      obtain ⟨rfl, hm⟩ := agg?_of h0
      obtain ⟨fl, rfl⟩ := row?_of h4
      rw [int?_of h1, int?_of h2, int?_of h3, Tryd.ntmps40, Tryd.results40]
      refine ⟨by simp, ?_⟩
      by_cases hb : argOK d t i
      · have e1 : nonceE d t i = 0 := if_pos hb
        have v1 : nonceV d t i = nonce d t i := if_pos hb
        have w1 : vsT m d t i b = vsB m d t i b := if_pos hb
        rw [e1, w1]
        simp (maxSteps := 1000000) (disch := first | omega | (simp only [nums_len, keyV_len, nonce_len, nonceV_len, lnB] <;> omega) | fail) only [ev0, ev1, ev2, ev3, ↓reduceIte, reduceCtorEq, zaa, zab, zac, zad, zae, zaf, zag, zah, zai, zaj, zak, zal, zam, zan, zao, zap, zaq, ↓zar, ↓zas, zat, zau, zav, zaw, zax, zay, zaz, zba, zbb, zbc, zbd, zbe, zbf, zbg, zbh, zbi, zbj, zbk, zbl, zbm, zbn, zbo, zbp, zbq, zbr, zbs, zbt, zbu, zbv, zbw, zbx, zby, zbz, zca, zcb, zcc, zcd, zce, zcf, zcg, zch, zci, zcj, zck, zcl, zcm, zcn, zco, zcp, zcq, zcr, zcs, zct, zcu, zcv, zcw, zcx, zcy, zcz, zda, zdb, zdc, zdd, zde, zdf, zdg, zdh, zdi, zdj, zdk, zdl, ev5, tbGi0, globS, if_true, Int.reduceBEq, Int.reduceBNe, e1, v1, hm, hl]
        exact resQ_2
      · have e1 : nonceE d t i = 1 := if_neg hb
        have w1 : vsT m d t i b = [] := if_neg hb
        rw [e1, w1]
        simp (maxSteps := 1000000) (disch := first | omega | (simp only [nums_len, keyV_len, nonce_len, nonceV_len, lnB] <;> omega) | fail) only [ev0, ev1, ev2, ev3, ↓reduceIte, reduceCtorEq, zaa, zab, zac, zad, zae, zaf, zag, zah, zai, zaj, zak, zal, zam, zan, zao, zap, zaq, ↓zar, ↓zas, zat, zau, zav, zaw, zax, zay, zaz, zba, zbb, zbc, zbd, zbe, zbf, zbg, zbh, zbi, zbj, zbk, zbl, zbm, zbn, zbo, zbp, zbq, zbr, zbs, zbt, zbu, zbv, zbw, zbx, zby, zbz, zca, zcb, zcc, zcd, zce, zcf, zcg, zch, zci, zcj, zck, zcl, zcm, zcn, zco, zcp, zcq, zcr, zcs, zct, zcu, zcv, zcw, zcx, zcy, zcz, zda, zdb, zdc, zdd, zde, zdf, zdg, zdh, zdi, zdj, zdk, zdl, ev5, tbGi0, globS, if_true, Int.reduceBEq, Int.reduceBNe, e1, hm]
        exact resQ_2nil
    · cases hr
  · cases hr
def tbGi1 := (And.intro (And.intro (And.intro (And.intro @teE (And.intro @ERW_te @ERW_glob)) (And.intro @ERW_gs (And.intro @ERW_dyn @ERW_mu))) (And.intro (And.intro @ERW_n (And.intro @ERW_k @ERW_s)) (And.intro @ERW_o (And.intro @nonce_at @key_at)))) (And.intro (And.intro (And.intro @open4_y (And.intro @open4_n @ns_strip)) (And.intro @ns_set (And.intro @sp12 @tk12))) (And.intro (And.intro @le12 (And.intro @sp32 @tk32)) (And.intro @nonce_len (And.intro @nonceV_len @keyV_len)))))
theorem sound42 : SoundV Tryd.prog globS 42 pv41 := by
  refine SoundV.walk ERW okRW mixed Tryd.func42 rfl Tryd.call42 (by kernel_rfl) ?_
  intro args r hr
  unfold pv41 at hr
  split at hr
  · rename_i k x y z w
    simp only [Option.bind_eq_some_iff] at hr
    obtain ⟨m, h0, d, h1, t, h2, i, h3, b, h4, hr⟩ := hr
    split at hr
    · rename_i hl
      cases hr
      obtain ⟨rfl, hm⟩ := agg?_of h0
      obtain ⟨fl, rfl⟩ := row?_of h4
      rw [int?_of h1, int?_of h2, int?_of h3, Tryd.ntmps42, Tryd.results42]
      refine ⟨by simp, ?_⟩
      by_cases hb : argOK d t i
      · have e1 : nonceE d t i = 0 := if_pos hb
        have v1 : nonceV d t i = nonce d t i := if_pos hb
        have w2 : voT m d t i b = voB m d t i b := if_pos hb
        have w3 : voF m d t i b = voE m d t i b := if_pos hb
        rw [w2, w3]
        by_cases hz : openE (keyV m d) (nonce d t i) (nonce d t i) b = 0
        · have w4 : voE m d t i b = 0 := hz
          rw [w4]
          simp (maxSteps := 1000000) (disch := first | omega | (simp only [nums_len, keyV_len, nonce_len, nonceV_len, lnB] <;> omega) | fail) only [ev0, ev1, ev2, ev3, ↓reduceIte, reduceCtorEq, zaa, zab, zac, zad, zae, zaf, zag, zah, zai, zaj, zak, zal, zam, zan, zao, zap, zaq, ↓zar, ↓zas, zat, zau, zav, zaw, zax, zay, zaz, zba, zbb, zbc, zbd, zbe, zbf, zbg, zbh, zbi, zbj, zbk, zbl, zbm, zbn, zbo, zbp, zbq, zbr, zbs, zbt, zbu, zbv, zbw, zbx, zby, zbz, zca, zcb, zcc, zcd, zce, zcf, zcg, zch, zci, zcj, zck, zcl, zcm, zcn, zco, zcp, zcq, zcr, zcs, zct, zcu, zcv, zcw, zcx, zcy, zcz, zda, zdb, zdc, zdd, zde, zdf, zdg, zdh, zdi, zdj, zdk, zdl, ev5, tbGi1, globS, if_true, Int.reduceBEq, Int.reduceBNe, e1, v1, hm, hl, hz]
          exact resQ_2
        · have w4 : voE m d t i b = openE (keyV m d) (nonce d t i) (nonce d t i) b := rfl
          have w5 : voB m d t i b = [] := openT_no hz
          rw [w4, w5]
          simp (maxSteps := 1000000) (disch := first | omega | (simp only [nums_len, keyV_len, nonce_len, nonceV_len, lnB] <;> omega) | fail) only [ev0, ev1, ev2, ev3, ↓reduceIte, reduceCtorEq, zaa, zab, zac, zad, zae, zaf, zag, zah, zai, zaj, zak, zal, zam, zan, zao, zap, zaq, ↓zar, ↓zas, zat, zau, zav, zaw, zax, zay, zaz, zba, zbb, zbc, zbd, zbe, zbf, zbg, zbh, zbi, zbj, zbk, zbl, zbm, zbn, zbo, zbp, zbq, zbr, zbs, zbt, zbu, zbv, zbw, zbx, zby, zbz, zca, zcb, zcc, zcd, zce, zcf, zcg, zch, zci, zcj, zck, zcl, zcm, zcn, zco, zcp, zcq, zcr, zcs, zct, zcu, zcv, zcw, zcx, zcy, zcz, zda, zdb, zdc, zdd, zde, zdf, zdg, zdh, zdi, zdj, zdk, zdl, ev5, tbGi1, globS, if_true, Int.reduceBEq, Int.reduceBNe, e1, v1, hm, hl, hz]
          exact resQ_2nil
      · have e1 : nonceE d t i = 1 := if_neg hb
        have w2 : voT m d t i b = [] := if_neg hb
        have w3 : voF m d t i b = 1 := if_neg hb
        rw [w2, w3]
        simp (maxSteps := 1000000) (disch := first | omega | (simp only [nums_len, keyV_len, nonce_len, nonceV_len, lnB] <;> omega) | fail) only [ev0, ev1, ev2, ev3, ↓reduceIte, reduceCtorEq, zaa, zab, zac, zad, zae, zaf, zag, zah, zai, zaj, zak, zal, zam, zan, zao, zap, zaq, ↓zar, ↓zas, zat, zau, zav, zaw, zax, zay, zaz, zba, zbb, zbc, zbd, zbe, zbf, zbg, zbh, zbi, zbj, zbk, zbl, zbm, zbn, zbo, zbp, zbq, zbr, zbs, zbt, zbu, zbv, zbw, zbx, zby, zbz, zca, zcb, zcc, zcd, zce, zcf, zcg, zch, zci, zcj, zck, zcl, zcm, zcn, zco, zcp, zcq, zcr, zcs, zct, zcu, zcv, zcw, zcx, zcy, zcz, zda, zdb, zdc, zdd, zde, zdf, zdg, zdh, zdi, zdj, zdk, zdl, ev5, tbGi1, globS, if_true, Int.reduceBEq, Int.reduceBNe, e1, hm]
        exact resQ_2nil
    · cases hr
  · cases hr
noncomputable def ELS : Env := (((((ES0.know 39 (fun xs => pv39 (xs.map norm))).know 41 (fun xs => pv41 (xs.map norm))).know 40 (fun xs => pv39 (xs.map norm))).know 42 (fun xs => pv41 (xs.map norm))).know 38 (fun xs => pf38 (xs.map norm))).know 33 pf33
theorem okLS : EnvOK Tryd.prog ELS := (((((okS0.know soundv39.norm).know soundv41.norm).know sound40.norm).know sound42.norm).know (toS sound38).norm).know (toS sound33)
theorem ELS_te : ELS.te = te := rfl
theorem ELS_glob : ELS.glob = globS := rfl
theorem ELS_gs : ELS.gs = [] := rfl
theorem ELS_dyn : ELS.dyn = false := rfl
theorem ELS_mu (d : Nat) : ELS.mu d = false := rfl
theorem ELS_s : ELS.tbl 39 = some (.val (fun xs => pv39 (xs.map norm))) := rfl
theorem ELS_o : ELS.tbl 41 = some (.val (fun xs => pv41 (xs.map norm))) := rfl
theorem ELS_rs : ELS.tbl 40 = some (.val (fun xs => pv39 (xs.map norm))) := rfl
theorem ELS_ro : ELS.tbl 42 = some (.val (fun xs => pv41 (xs.map norm))) := rfl
theorem ELS_f : ELS.tbl 38 = some (.val (fun xs => pf38 (xs.map norm))) := rfl
theorem ELS_h : ELS.tbl 33 = some (.val pf33) := rfl
def pf10 : List AV → Option AV
  | [k, .agg [x, y, z], w] => (agg? .u8 8 32 k).bind fun _ => (int? x).bind fun _ => (int? y).bind fun _ => (int? z).bind fun _ => (row? .u8 8 w).bind fun b => if b.length ≤ 9223372036854775807 then some (.raw (.bool true)) else none
  | _ => none
theorem sound10 : SoundV Tryd.prog globS 10 pf10 := by
  refine SoundV.walk ELS okLS mixed Tryd.func10 rfl Tryd.call10 (by kernel_rfl) ?_
  intro args r hr
  unfold pf10 at hr
  split at hr
  · rename_i k x y z w
    simp only [Option.bind_eq_some_iff] at hr
    obtain ⟨m, h0, d, h1, t, h2, i, h3, b, h4, hr⟩ := hr
    split at hr
    · rename_i hl
      cases hr
      obtain ⟨rfl, hm⟩ := agg?_of h0
      obtain ⟨fl, rfl⟩ := row?_of h4
      rw [int?_of h1, int?_of h2, int?_of h3, Tryd.ntmps10, Tryd.results10]
      refine ⟨by simp, ?_⟩
      have hb5 : (b.take 500).length ≤ 500 := by rw [List.length_take]; exact Nat.min_le_left _ _
      generalize b.take 500 = c at hb5
      have hb6 : c.length ≤ 400000 := by omega
      simp (maxSteps := 1000000) (disch := first | omega | (simp only [nums_len, keyV_len, nonce_len, nonceV_len, lnB] <;> omega) | fail) only [ev0, ev1, ev2, ev3, ↓reduceIte, reduceCtorEq, zaa, zab, zac, zad, zae, zaf, zag, zah, zai, zaj, zak, zal, zam, zan, zao, zap, zaq, ↓zar, ↓zas, zat, zau, zav, zaw, zax, zay, zaz, zba, zbb, zbc, zbd, zbe, zbf, zbg, zbh, zbi, zbj, zbk, zbl, zbm, zbn, zbo, zbp, zbq, zbr, zbs, zbt, zbu, zbv, zbw, zbx, zby, zbz, zca, zcb, zcc, zcd, zce, zcf, zcg, zch, zci, zcj, zck, zcl, zcm, zcn, zco, zcp, zcq, zcr, zcs, zct, zcu, zcv, zcw, zcx, zcy, zcz, zda, zdb, zdc, zdd, zde, zdf, zdg, zdh, zdi, zdj, zdk, zdl, ev5, teE, ELS_te, ELS_glob, ELS_gs, ELS_dyn, ELS_mu, ELS_s, ELS_o, ELS_rs, ELS_ro, ELS_f, ELS_h, vseal_at, vopen_at, few_at, shown_at, ns_strip, ns_set, globS, sp12, tk12, le12, sp32, tk32, nonce_len, nonceV_len, keyV_len, if_true, Int.reduceBEq, Int.reduceBNe, Nat.le_refl, beq_self_eq_true, hm, hb6]
      exact ResQ.same rfl
    · cases hr
  · cases hr
end Go.Proofs.YtddeffdgldjdjaaDoor
