/- The document's hash and pressing, with the tables known: what the walks of the functions come to. -/
import Derived.Test.YtddeffdgldjdjaaDoorIe
import Derived.Test.YtddeffdgldjdjaaDoorKe
import Derived.Test.YtddeffdgldjdjaaDoorHh
namespace Go.Proofs.YtddeffdgldjdjaaDoor
set_option linter.unusedSimpArgs false
set_option linter.unusedVariables false
set_option linter.defProp false
open Go Go.Abs
open Nat renaming reduceAdd → zaa, reduceSub → zab, reduceMul → zac, reduceLT → zad, reduceLeDiff → zae, reduceEqDiff → zaf, reduceBEq → zag
open BitVec renaming reduceOfInt → zah
open Int renaming reduceLE → zai, reduceLT → zaj, reduceGT → zak, reduceGE → zal, reduceNeg → zam, reduceAdd → zan, reduceSub → zao, reduceMul → zap, reduceToNat → zaq
open Go.Abs renaming bind_go → zar, map_go → zas, wantedV → zat, isWrite → zau, grow → zav, write → zaw, ofV → zax, start → zaz, strip → zba, endQ → zbb, resV → zbc, rawsRes → zbd, rawRes → zbe, exports → zbf, export1 → zbg, isSelf → zbl, convSelf → zbm, convV → zbn, loadV → zbo, storeV → zbp, fieldAddrV → zbq, fieldV → zbr, indexAddrV → zbs, indexV → zbt, partV → zbu, isAggK → zbv, isStr → zbw, place → zbx, lenV → zby, min2V → zbz, makeV → zca, freshSl → zcb, sliceV → zcc, boundOr → zcd, bound → zce, bounds → zcf, cutFl → zcg, copyV → zch, slCells → zci, srcV → zcj, appendV → zck, room → zcl, zerosOf → zcm, eqNeg → zcn, kd → zco, takeR → zcp, hasViewL → zcq, hasView → zcr, freshR → zcs, freshC → zct, snapAll → zcu, snap → zcv, snapL → zcw, flatL → zcx, pureL → zcy, pureA → zcz, fillC → zda, arrOK → zdb, oneA → zdc, partB → zdd, ren1 → zdf, applyW → zdh, useL → zdi, isGen → zdk, startG → zdl
open Go.Abs.AV renaming cells → zay, laid → zde
open Go.Abs.AS renaming grown → zbh, put → zbi, mute → zdj
open Go.Abs.Env renaming know → zbj, boxed → zbk
open Go.Abs.CR renaming gr → zdg

def pf47' : List AV → Option AV
  | [] => some (.agg (.sl 64 (nums .u32 addL) .bor :: nums .u32 beginL))
  | _ => none
def pf75' : List AV → Option AV
  | [] => some (.sl 64 (nums .u32 addL) .bor)
  | _ => none
theorem sound47' : SoundV Tryd.prog globS 47 pf47' := by
  have e : pf47 = pf47' := by
    funext args
    cases args with
    | nil => simp only [pf47, pf47', thirds_eq, secs_eq]
    | cons => rfl
  rw [← e]; exact sound47
theorem sound75' : SoundV Tryd.prog globS 75 pf75' := by
  have e : pf75 = pf75' := by
    funext args
    cases args with
    | nil => simp only [pf75, pf75', thirds_eq]
    | cons => rfl
  rw [← e]; exact sound75
theorem shaB_lenR (b : List (BitVec 8)) : (shaB b).length = 32 := by rw [shaB, outB_len]
set_option maxHeartbeats 4000000
def ES10 : Env := ((ES0.know 47 pf47').know 74 (fun xs => pf74 (xs.map norm))).know 75 pf75'
theorem okS10 : EnvOK Tryd.prog ES10 := ((okS0.know sound47').know sound74.norm).know sound75'
theorem ES10_te : ES10.te = te := rfl
theorem ES10_gs : ES10.gs = [] := rfl
theorem ES10_dyn : ES10.dyn = false := rfl
theorem ES10_glob : ES10.glob = globS := rfl
theorem ES10_mu (d : Nat) : ES10.mu d = false := rfl
theorem ES10_47 : ES10.tbl 47 = some (.val pf47') := rfl
theorem ES10_74 : ES10.tbl 74 = some (.val (fun xs => pf74 (xs.map norm))) := rfl
theorem ES10_75 : ES10.tbl 75 = some (.val pf75') := rfl
theorem pf74_at {n l : Nat} {K H : List (BitVec 32)} {m : List (BitVec 8)} {fl fl' : Fl} (h1 : n = K.length) (h2 : K.length = 64) (h3 : H.length = 8) (h4 : l = m.length) (h5 : m.length ≤ 1099511627776) : pf74 [.agg (.sl n (nums .u32 K) fl :: nums .u32 H), .sl l (nums .u8 m) fl'] = some (.agg (nums .u8 (sumK K H m))) := by
  simp only [pf74, tab?, row?_at h1, row?_at h4, deNums_nums, Option.bind_some, h2, h3, h5, and_self, if_true]
theorem pf47_at : pf47' [] = some (.agg (.sl 64 (nums .u32 addL) .bor :: nums .u32 beginL)) := rfl
theorem pf75_at : pf75' [] = some (.sl 64 (nums .u32 addL) .bor) := rfl
theorem addL_len : addL.length = 64 := by decide
theorem beginL_len : beginL.length = 8 := by decide
theorem sumK_len (K H : List (BitVec 32)) (b : List (BitVec 8)) : (sumK K H b).length = 32 := by rw [sumK, outB_len]
end Go.Proofs.YtddeffdgldjdjaaDoor

/- The document's sums by a key: what their walks come to. -/
namespace Go.Proofs.YtddeffdgldjdjaaDoor
set_option linter.unusedSimpArgs false
set_option linter.unusedVariables false
set_option linter.defProp false
open Go Go.Abs
open Nat renaming reduceAdd → zaa, reduceSub → zab, reduceMul → zac, reduceLT → zad, reduceLeDiff → zae, reduceEqDiff → zaf, reduceBEq → zag
open BitVec renaming reduceOfInt → zah
open Int renaming reduceLE → zai, reduceLT → zaj, reduceGT → zak, reduceGE → zal, reduceNeg → zam, reduceAdd → zan, reduceSub → zao, reduceMul → zap, reduceToNat → zaq
open Go.Abs renaming bind_go → zar, map_go → zas, wantedV → zat, isWrite → zau, grow → zav, write → zaw, ofV → zax, start → zaz, strip → zba, endQ → zbb, resV → zbc, rawsRes → zbd, rawRes → zbe, exports → zbf, export1 → zbg, isSelf → zbl, convSelf → zbm, convV → zbn, loadV → zbo, storeV → zbp, fieldAddrV → zbq, fieldV → zbr, indexAddrV → zbs, indexV → zbt, partV → zbu, isAggK → zbv, isStr → zbw, place → zbx, lenV → zby, min2V → zbz, makeV → zca, freshSl → zcb, sliceV → zcc, boundOr → zcd, bound → zce, bounds → zcf, cutFl → zcg, copyV → zch, slCells → zci, srcV → zcj, appendV → zck, room → zcl, zerosOf → zcm, eqNeg → zcn, kd → zco, takeR → zcp, hasViewL → zcq, hasView → zcr, freshR → zcs, freshC → zct, snapAll → zcu, snap → zcv, snapL → zcw, flatL → zcx, pureL → zcy, pureA → zcz, fillC → zda, arrOK → zdb, oneA → zdc, partB → zdd, ren1 → zdf, applyW → zdh, useL → zdi, isGen → zdk, startG → zdl
open Go.Abs.AV renaming cells → zay, laid → zde
open Go.Abs.AS renaming grown → zbh, put → zbi, mute → zdj
open Go.Abs.Env renaming know → zbj, boxed → zbk
open Go.Abs.CR renaming gr → zdg

def ES18 : Env := ES0.know 74 (fun xs => pf74 (xs.map norm))
theorem okS18 : EnvOK Tryd.prog ES18 := okS0.know sound74.norm
theorem ES18_te : ES18.te = te := rfl
theorem ES18_gs : ES18.gs = [] := rfl
theorem ES18_dyn : ES18.dyn = false := rfl
theorem ES18_glob : ES18.glob = globS := rfl
theorem ES18_mu (d : Nat) : ES18.mu d = false := rfl
theorem ES18_74 : ES18.tbl 74 = some (.val (fun xs => pf74 (xs.map norm))) := rfl

/-- the first k bytes, turned by c -/
def mapF (c : BitVec 8) (l : List (BitVec 8)) : Nat → List (BitVec 8)
  | 0 => []
  | k + 1 => mapF c l k ++ [l.getD k 0#8 ^^^ c]
theorem mapF_len (c : BitVec 8) (l : List (BitVec 8)) (k : Nat) : (mapF c l k).length = k := by
  induction k with
  | zero => rfl
  | succ k ih => simp [mapF, ih]
theorem xorF_at (c : BitVec 8) (l : List (BitVec 8)) (k : Nat) (h : k ≤ l.length) : xorF c l k = mapF c l k ++ l.drop k := by
  induction k with
  | zero => rfl
  | succ k ih =>
    rw [xorF, ih (by omega), mapF]
    have hk : k < l.length := by omega
    have hm := mapF_len c l k
    rw [List.drop_eq_getElem_cons hk, List.set_append_right _ _ (by omega), hm, Nat.sub_self, List.set_cons_zero]
    rw [List.getD_eq_getElem?_getD, List.getElem?_append_right (by omega), hm, Nat.sub_self, List.getElem?_cons_zero]
    rw [List.append_assoc, List.getD_eq_getElem?_getD, List.getElem?_eq_getElem hk]
    rfl
theorem xorF_all (c : BitVec 8) (l : List (BitVec 8)) (h : l.length = 64) : xorF c l 64 = mapF c l 64 := by
  rw [xorF_at c l 64 (by omega), List.drop_eq_nil_of_le (by omega), List.append_nil]
theorem padK_get (l : List (BitVec 8)) (k : Nat) (h : k < 64) : (padK l).getD k 0#8 = if k < l.length then l.getD k 0#8 else 0#8 := by
  unfold padK
  by_cases hk : k < l.length
  · rw [if_pos hk, List.getD_eq_getElem?_getD, List.getElem?_append_left hk, List.getD_eq_getElem?_getD]
  · rw [if_neg hk, List.getD_eq_getElem?_getD, List.getElem?_append_right (by omega), List.getElem?_replicate, if_pos (by omega)]
    rfl

def pf63 : List AV → Option AV
  | [.agg (t :: ts), k, v] => (row? .u32 32 t).bind fun K => (deNums .u32 32 ts).bind fun H => (row? .u8 8 k).bind fun key => (row? .u8 8 v).bind fun b => if (K = addL ∧ H = beginL) ∧ key.length ≤ 1000000000 ∧ b.length ≤ 1000000000 then some (.agg (nums .u8 (sumB key b))) else none
  | _ => none

set_option maxHeartbeats 4000000
def tbIg0 := (And.intro (And.intro (And.intro @teE (And.intro @ES18_te @ES18_gs)) (And.intro (And.intro @ES18_dyn @ES18_glob) (And.intro @ES18_mu @ES18_74))) (And.intro (And.intro (And.intro @pf74_at @ns_strip) (And.intro @ns_set @shaB_len)) (And.intro (And.intro @sumK_is @addL_len) (And.intro @beginL_len @mapF_len))))
theorem sound63 : SoundV Tryd.prog globS 63 pf63 := by
  refine SoundV.walk ES18 okS18 mixed Tryd.func63 rfl Tryd.call63 (by kernel_rfl) ?_
  intro args r hr
  unfold pf63 at hr
  split at hr
  · rename_i t ts kv bv
    simp only [Option.bind_eq_some_iff] at hr
    obtain ⟨K, h1, H, h2, key, h3, b, h4, hr⟩ := hr
    split at hr
    · rename_i hc
      obtain ⟨⟨rfl, rfl⟩, hc1, hc2⟩ := hc
      cases hr
      obtain ⟨fl, rfl⟩ := row?_of h1
      rw [deNums_of h2]
      obtain ⟨fl', rfl⟩ := row?_of h3
      obtain ⟨fl'', rfl⟩ := row?_of h4
      clear h1 h2 h3 h4
      rw [Tryd.ntmps63, Tryd.results63]
      refine ⟨by simp, ?_⟩
      have hm : macK key = if key.length > 64 then shaB key else key := rfl
      have hml := macK_len key
      have hpl := padK_len (macK key) hml
      have hsum : sumB key b = shaB (mapF 92#8 (padK (macK key)) 64 ++ shaB (mapF 54#8 (padK (macK key)) 64 ++ b)) := by rw [sumB, xorF_all _ _ hpl, xorF_all _ _ hpl]
      simp (maxSteps := 1000000) (disch := first | omega | (simp only [shaB_len, sumB_len, mapF_len, padK_len, macK_len, addL_len, beginL_len, lnB] <;> omega) | fail) only [ev0, ev1, ev2, ev3, ↓reduceIte, reduceCtorEq, zaa, zab, zac, zad, zae, zaf, zag, zah, zai, zaj, zak, zal, zam, zan, zao, zap, zaq, ↓zar, ↓zas, zat, zau, zav, zaw, zax, zay, zaz, zba, zbb, zbc, zbd, zbe, zbf, zbg, zbh, zbi, zbj, zbk, zbl, zbm, zbn, zbo, zbp, zbq, zbr, zbs, zbt, zbu, zbv, zbw, zbx, zby, zbz, zca, zcb, zcc, zcd, zce, zcf, zcg, zch, zci, zcj, zck, zcl, zcm, zcn, zco, zcp, zcq, zcr, zcs, zct, zcu, zcv, zcw, zcx, zcy, zcz, zda, zdb, zdc, zdd, zde, zdf, zdg, zdh, zdi, zdj, zdk, zdl, ev5, tbIg0, globS]
      refine condQ_dec (fun hgt => ?_) (fun hle => ?_)
      have hgt' : key.length > 64 := by omega
      rw [if_pos hgt'] at hm
      simp (maxSteps := 1000000) (disch := first | omega | (simp only [shaB_len, sumB_len, mapF_len, padK_len, macK_len, addL_len, beginL_len, lnB] <;> omega) | fail) only [ev0, ev1, ev2, ev3, ↓reduceIte, reduceCtorEq, zaa, zab, zac, zad, zae, zaf, zag, zah, zai, zaj, zak, zal, zam, zan, zao, zap, zaq, ↓zar, ↓zas, zat, zau, zav, zaw, zax, zay, zaz, zba, zbb, zbc, zbd, zbe, zbf, zbg, zbh, zbi, zbj, zbk, zbl, zbm, zbn, zbo, zbp, zbq, zbr, zbs, zbt, zbu, zbv, zbw, zbx, zby, zbz, zca, zcb, zcc, zcd, zce, zcf, zcg, zch, zci, zcj, zck, zcl, zcm, zcn, zco, zcp, zcq, zcr, zcs, zct, zcu, zcv, zcw, zcx, zcy, zcz, zda, zdb, zdc, zdd, zde, zdf, zdg, zdh, zdi, zdj, zdk, zdl, ev5, tbIg0, globS]
      rotate_left
      have hle' : ¬ key.length > 64 := by omega
      rw [if_neg hle'] at hm
      simp (maxSteps := 1000000) (disch := first | omega | (simp only [shaB_len, sumB_len, mapF_len, padK_len, macK_len, addL_len, beginL_len, lnB] <;> omega) | fail) only [ev0, ev1, ev2, ev3, ↓reduceIte, reduceCtorEq, zaa, zab, zac, zad, zae, zaf, zag, zah, zai, zaj, zak, zal, zam, zan, zao, zap, zaq, ↓zar, ↓zas, zat, zau, zav, zaw, zax, zay, zaz, zba, zbb, zbc, zbd, zbe, zbf, zbg, zbh, zbi, zbj, zbk, zbl, zbm, zbn, zbo, zbp, zbq, zbr, zbs, zbt, zbu, zbv, zbw, zbx, zby, zbz, zca, zcb, zcc, zcd, zce, zcf, zcg, zch, zci, zcj, zck, zcl, zcm, zcn, zco, zcp, zcq, zcr, zcs, zct, zcu, zcv, zcw, zcx, zcy, zcz, zda, zdb, zdc, zdd, zde, zdf, zdg, zdh, zdi, zdj, zdk, zdl, ev5, tbIg0, globS]
      all_goals (
        generalize hPk : macK key = P at hm hml hpl hsum
        refine loopQ_wk _ (Wk.trans1 (d := 9) (v := .sl 0 [] (.own ⟨0, 9, 0, 0⟩ 1)) (Wk.at (d := 8) (v := .sl 0 [] (.own ⟨0, 8, 0, 0⟩ 1)) (by simp (maxSteps := 1000000) (disch := first | omega | (simp only [shaB_len, sumB_len, mapF_len, padK_len, macK_len, addL_len, beginL_len, lnB] <;> omega) | fail) only [ev0, ev1, ev2, ev3, ↓reduceIte, reduceCtorEq, zaa, zab, zac, zad, zae, zaf, zag, zah, zai, zaj, zak, zal, zam, zan, zao, zap, zaq, ↓zar, ↓zas, zat, zau, zav, zaw, zax, zay, zaz, zba, zbb, zbc, zbd, zbe, zbf, zbg, zbh, zbi, zbj, zbk, zbl, zbm, zbn, zbo, zbp, zbq, zbr, zbs, zbt, zbu, zbv, zbw, zbx, zby, zbz, zca, zcb, zcc, zcd, zce, zcf, zcg, zch, zci, zcj, zck, zcl, zcm, zcn, zco, zcp, zcq, zcr, zcs, zct, zcu, zcv, zcw, zcx, zcy, zcz, zda, zdb, zdc, zdd, zde, zdf, zdg, zdh, zdi, zdj, zdk, zdl, ev5, tbIg0, globS]; exact .nil 8 1)) (by simp (maxSteps := 1000000) (disch := first | omega | (simp only [shaB_len, sumB_len, mapF_len, padK_len, macK_len, addL_len, beginL_len, lnB] <;> omega) | fail) only [ev0, ev1, ev2, ev3, ↓reduceIte, reduceCtorEq, zaa, zab, zac, zad, zae, zaf, zag, zah, zai, zaj, zak, zal, zam, zan, zao, zap, zaq, ↓zar, ↓zas, zat, zau, zav, zaw, zax, zay, zaz, zba, zbb, zbc, zbd, zbe, zbf, zbg, zbh, zbi, zbj, zbk, zbl, zbm, zbn, zbo, zbp, zbq, zbr, zbs, zbt, zbu, zbv, zbw, zbx, zby, zbz, zca, zcb, zcc, zcd, zce, zcf, zcg, zch, zci, zcj, zck, zcl, zcm, zcn, zco, zcp, zcq, zcr, zcs, zct, zcu, zcv, zcw, zcx, zcy, zcz, zda, zdb, zdc, zdd, zde, zdf, zdg, zdh, zdi, zdj, zdk, zdl, ev5, tbIg0, globS]) (by simp (maxSteps := 1000000) (disch := first | omega | (simp only [shaB_len, sumB_len, mapF_len, padK_len, macK_len, addL_len, beginL_len, lnB] <;> omega) | fail) only [ev0, ev1, ev2, ev3, ↓reduceIte, reduceCtorEq, zaa, zab, zac, zad, zae, zaf, zag, zah, zai, zaj, zak, zal, zam, zan, zao, zap, zaq, ↓zar, ↓zas, zat, zau, zav, zaw, zax, zay, zaz, zba, zbb, zbc, zbd, zbe, zbf, zbg, zbh, zbi, zbj, zbk, zbl, zbm, zbn, zbo, zbp, zbq, zbr, zbs, zbt, zbu, zbv, zbw, zbx, zby, zbz, zca, zcb, zcc, zcd, zce, zcf, zcg, zch, zci, zcj, zck, zcl, zcm, zcn, zco, zcp, zcq, zcr, zcs, zct, zcu, zcv, zcw, zcx, zcy, zcz, zda, zdb, zdc, zdd, zde, zdf, zdg, zdh, zdi, zdj, zdk, zdl, ev5, tbIg0, globS]; exact .nil 9 1)) (fun n σ => ∃ k i j, k ≤ 64 ∧ n = 64 - k ∧ σ.slots 10 = .raw (.int .i64 (k : Int)) ∧ σ.slots 2 = .sl b.length (nums .u8 b) .bor ∧ σ.slots 3 = .ptr (.own 0 3 1) 0 ∧ σ.slots 6 = .ptr (.own 0 6 1) 0 ∧
          σ.slots 8 = .sl k (nums .u8 (mapF 54#8 (padK P) k)) (.own i 1) ∧ σ.slots 9 = .sl k (nums .u8 (mapF 92#8 (padK P) k)) (.own j 1) ∧ (i.slot = 8 ∨ i.slot = 36) ∧ (j.slot = 9 ∨ j.slot = 41) ∧ Free σ.used (σ.gen 36) 36 i ∧ Free σ.used (σ.gen 41) 41 j ∧
          σ.box (.own 0 3 1) = some (.sl addL.length (nums .u32 addL) .bor :: nums .u32 beginL) ∧ σ.box (.own 0 6 1) = some (nums .u8 (List.replicate 32 0#8)) ∧
          ((σ.slots 1 = .sl P.length (nums .u8 P) .bor ∧ True ∧ True) ∨ (σ.slots 1 = .view (.own 0 7 1) 0 32 32 1 ∧ σ.box (.own 0 7 1) = some (nums .u8 P) ∧ P.length = 32))) 64 ?_ ?_
        · refine ⟨0, ⟨0, 8, 0, 0⟩, ⟨0, 9, 0, 0⟩, by omega, by omega, ?_⟩
          simp (maxSteps := 1000000) (disch := first | omega | (simp only [shaB_len, sumB_len, mapF_len, padK_len, macK_len, addL_len, beginL_len, lnB] <;> omega) | fail) only [ev0, ev1, ev2, ev3, ↓reduceIte, reduceCtorEq, zaa, zab, zac, zad, zae, zaf, zag, zah, zai, zaj, zak, zal, zam, zan, zao, zap, zaq, ↓zar, ↓zas, zat, zau, zav, zaw, zax, zay, zaz, zba, zbb, zbc, zbd, zbe, zbf, zbg, zbh, zbi, zbj, zbk, zbl, zbm, zbn, zbo, zbp, zbq, zbr, zbs, zbt, zbu, zbv, zbw, zbx, zby, zbz, zca, zcb, zcc, zcd, zce, zcf, zcg, zch, zci, zcj, zck, zcl, zcm, zcn, zco, zcp, zcq, zcr, zcs, zct, zcu, zcv, zcw, zcx, zcy, zcz, zda, zdb, zdc, zdd, zde, zdf, zdg, zdh, zdi, zdj, zdk, zdl, ev5, tbIg0, globS]
          refine ⟨rfl, rfl, rfl, ⟨rfl, fun _ _ => rfl, by simp⟩, ⟨rfl, fun _ _ => rfl, by simp⟩, ?_⟩
          first | exact ⟨by rw [hm], by rw [hm, shaB_len]⟩ | rw [hm]
        · rintro n ⟨sl, gn, bx, us⟩ ⟨k, i, j, hk, rfl, s10, s2, s3, s6, s8, s9, hi, hj, hf, hg, b3, b6, h1⟩
          dsimp only at s10 s2 s3 s6 s8 s9 hf hg b3 b6 h1
          have hf0 := hf.now
          have hg0 := hg.now
          have hij : i ≠ j := slot_ne (by omega)
          have hji := eq_false hij.symm
          have l1 := mapF_len 54#8 (padK P) k
          have l2 := mapF_len 92#8 (padK P) k
          simp (maxSteps := 1000000) (disch := first | omega | (simp only [shaB_len, sumB_len, mapF_len, padK_len, macK_len, addL_len, beginL_len, lnB] <;> omega) | fail) only [ev0, ev1, ev2, ev3, ↓reduceIte, reduceCtorEq, zaa, zab, zac, zad, zae, zaf, zag, zah, zai, zaj, zak, zal, zam, zan, zao, zap, zaq, ↓zar, ↓zas, zat, zau, zav, zaw, zax, zay, zaz, zba, zbb, zbc, zbd, zbe, zbf, zbg, zbh, zbi, zbj, zbk, zbl, zbm, zbn, zbo, zbp, zbq, zbr, zbs, zbt, zbu, zbv, zbw, zbx, zby, zbz, zca, zcb, zcc, zcd, zce, zcf, zcg, zch, zci, zcj, zck, zcl, zcm, zcn, zco, zcp, zcq, zcr, zcs, zct, zcu, zcv, zcw, zcx, zcy, zcz, zda, zdb, zdc, zdd, zde, zdf, zdg, zdh, zdi, zdj, zdk, zdl, ev5, tbIg0, globS, s10, s2, s3, s6, s8, s9, hf0, hg0, hji, b3, b6, l1, l2]
          refine condQ_dec (fun hlt => ?_) (fun hge => ?_)
          · have hlt : k < 64 := by omega
            have hpk := padK_get P k hlt
            rcases h1 with ⟨s1, b7, l7⟩ | ⟨s1, b7, l7⟩
            all_goals (
              simp (maxSteps := 1000000) (disch := first | omega | (simp only [shaB_len, sumB_len, mapF_len, padK_len, macK_len, addL_len, beginL_len, lnB] <;> omega) | fail) only [ev0, ev1, ev2, ev3, ↓reduceIte, reduceCtorEq, zaa, zab, zac, zad, zae, zaf, zag, zah, zai, zaj, zak, zal, zam, zan, zao, zap, zaq, ↓zar, ↓zas, zat, zau, zav, zaw, zax, zay, zaz, zba, zbb, zbc, zbd, zbe, zbf, zbg, zbh, zbi, zbj, zbk, zbl, zbm, zbn, zbo, zbp, zbq, zbr, zbs, zbt, zbu, zbv, zbw, zbx, zby, zbz, zca, zcb, zcc, zcd, zce, zcf, zcg, zch, zci, zcj, zck, zcl, zcm, zcn, zco, zcp, zcq, zcr, zcs, zct, zcu, zcv, zcw, zcx, zcy, zcz, zda, zdb, zdc, zdd, zde, zdf, zdg, zdh, zdi, zdj, zdk, zdl, ev5, tbIg0, globS, s10, s2, s3, s6, s8, s9, hf0, hg0, hji, b3, b6, l1, l2, s1, b7, l7]
              refine condQ_dec (fun hlt2 => ?_) (fun hge2 => ?_)
              · have hlt2 : k < P.length := by omega
                rw [if_pos hlt2] at hpk
                simp (maxSteps := 1000000) (disch := first | omega | (simp only [shaB_len, sumB_len, mapF_len, padK_len, macK_len, addL_len, beginL_len, lnB] <;> omega) | fail) only [ev0, ev1, ev2, ev3, ↓reduceIte, reduceCtorEq, zaa, zab, zac, zad, zae, zaf, zag, zah, zai, zaj, zak, zal, zam, zan, zao, zap, zaq, ↓zar, ↓zas, zat, zau, zav, zaw, zax, zay, zaz, zba, zbb, zbc, zbd, zbe, zbf, zbg, zbh, zbi, zbj, zbk, zbl, zbm, zbn, zbo, zbp, zbq, zbr, zbs, zbt, zbu, zbv, zbw, zbx, zby, zbz, zca, zcb, zcc, zcd, zce, zcf, zcg, zch, zci, zcj, zck, zcl, zcm, zcn, zco, zcp, zcq, zcr, zcs, zct, zcu, zcv, zcw, zcx, zcy, zcz, zda, zdb, zdc, zdd, zde, zdf, zdg, zdh, zdi, zdj, zdk, zdl, ev5, tbIg0, globS, s10, s2, s3, s6, s8, s9, hf0, hg0, hji, b3, b6, l1, l2, s1, b7, l7]
                refine ⟨64 - (k + 1), by omega, k + 1, ⟨0, 36, 0, gn 36 + 1⟩, ⟨0, 41, 0, gn 41 + 1⟩, by omega, rfl, rfl, row_eq rfl ?_, row_eq rfl ?_, .inr rfl, .inr rfl, hf.go.keep (by omega) (slot_ne (show 36 ≠ j.slot by omega)), (hg.keep (by omega) hij.symm).go⟩
                · rw [mapF, hpk]
                · rw [mapF, hpk]
              · have hlt2 : ¬ k < P.length := by omega
                rw [if_neg hlt2] at hpk
                simp (maxSteps := 1000000) (disch := first | omega | (simp only [shaB_len, sumB_len, mapF_len, padK_len, macK_len, addL_len, beginL_len, lnB] <;> omega) | fail) only [ev0, ev1, ev2, ev3, ↓reduceIte, reduceCtorEq, zaa, zab, zac, zad, zae, zaf, zag, zah, zai, zaj, zak, zal, zam, zan, zao, zap, zaq, ↓zar, ↓zas, zat, zau, zav, zaw, zax, zay, zaz, zba, zbb, zbc, zbd, zbe, zbf, zbg, zbh, zbi, zbj, zbk, zbl, zbm, zbn, zbo, zbp, zbq, zbr, zbs, zbt, zbu, zbv, zbw, zbx, zby, zbz, zca, zcb, zcc, zcd, zce, zcf, zcg, zch, zci, zcj, zck, zcl, zcm, zcn, zco, zcp, zcq, zcr, zcs, zct, zcu, zcv, zcw, zcx, zcy, zcz, zda, zdb, zdc, zdd, zde, zdf, zdg, zdh, zdi, zdj, zdk, zdl, ev5, tbIg0, globS, s10, s2, s3, s6, s8, s9, hf0, hg0, hji, b3, b6, l1, l2, s1, b7, l7]
                refine ⟨64 - (k + 1), by omega, k + 1, ⟨0, 36, 0, gn 36 + 1⟩, ⟨0, 41, 0, gn 41 + 1⟩, by omega, rfl, rfl, row_eq rfl ?_, row_eq rfl ?_, .inr rfl, .inr rfl, hf.go.keep (by omega) (slot_ne (show 36 ≠ j.slot by omega)), (hg.keep (by omega) hij.symm).go⟩
                · rw [mapF, hpk]
                · rw [mapF, hpk])
          · have hk : k = 64 := by omega
            subst hk
            clear h1
            simp (maxSteps := 1000000) (disch := first | omega | (simp only [shaB_len, sumB_len, mapF_len, padK_len, macK_len, addL_len, beginL_len, lnB] <;> omega) | fail) only [ev0, ev1, ev2, ev3, ↓reduceIte, reduceCtorEq, zaa, zab, zac, zad, zae, zaf, zag, zah, zai, zaj, zak, zal, zam, zan, zao, zap, zaq, ↓zar, ↓zas, zat, zau, zav, zaw, zax, zay, zaz, zba, zbb, zbc, zbd, zbe, zbf, zbg, zbh, zbi, zbj, zbk, zbl, zbm, zbn, zbo, zbp, zbq, zbr, zbs, zbt, zbu, zbv, zbw, zbx, zby, zbz, zca, zcb, zcc, zcd, zce, zcf, zcg, zch, zci, zcj, zck, zcl, zcm, zcn, zco, zcp, zcq, zcr, zcs, zct, zcu, zcv, zcw, zcx, zcy, zcz, zda, zdb, zdc, zdd, zde, zdf, zdg, zdh, zdi, zdj, zdk, zdl, ev5, tbIg0, globS, s10, s2, s3, s6, s8, s9, hf0, hg0, hji, b3, b6, l1, l2]
            rw [hsum]
            exact ResQ.same rfl)
    · cases hr
  · cases hr

def ES19 : Env := ((ES0.know 63 (fun xs => pf63 (xs.map norm))).know 47 pf47')
theorem okS19 : EnvOK Tryd.prog ES19 := (okS0.know sound63.norm).know sound47'
theorem ES19_te : ES19.te = te := rfl
theorem ES19_gs : ES19.gs = [] := rfl
theorem ES19_dyn : ES19.dyn = false := rfl
theorem ES19_glob : ES19.glob = globS := rfl
theorem ES19_mu (d : Nat) : ES19.mu d = false := rfl
theorem ES19_63 : ES19.tbl 63 = some (.val (fun xs => pf63 (xs.map norm))) := rfl
theorem ES19_47 : ES19.tbl 47 = some (.val pf47') := rfl
theorem pf63_at {n n' n'' : Nat} {k b : List (BitVec 8)} {fl fl' fl'' : Fl} (h0 : n = addL.length) (h1 : n' = k.length) (h2 : n'' = b.length) (h3 : k.length ≤ 1000000000) (h4 : b.length ≤ 1000000000) : pf63 [.agg (.sl n (nums .u32 addL) fl :: nums .u32 beginL), .sl n' (nums .u8 k) fl', .sl n'' (nums .u8 b) fl''] = some (.agg (nums .u8 (sumB k b))) := by
  simp only [pf63, row?_at h0, row?_at h1, row?_at h2, deNums_nums, Option.bind_some, h3, h4, and_self, if_true]
def Clear3 (us : Abs.Id → Bool) (a b c : Nat) : Prop := ∀ s g, (s = 30 ∧ a < g) ∨ (s = 32 ∧ b < g) ∨ (s = 34 ∧ c < g) → us ⟨0, s, 0, g⟩ = false
def pf94 : List AV → Option AV
  | [.agg (t :: ts), k, v, m] => (row? .u32 32 t).bind fun K => (deNums .u32 32 ts).bind fun H => (row? .u8 8 k).bind fun key => (row? .u8 8 v).bind fun info => (int? m).bind fun n => if (K = addL ∧ H = beginL) ∧ key.length ≤ 1000000 ∧ info.length ≤ 1000000 then
      (if n < 0 ∨ n > 8160 then some (.tup [.sl 0 [] .bor, .raw (.int .i64 1)]) else some (.tup [.sl n.toNat (nums .u8 (expandB key info n.toNat)) (xfl n.toNat), .raw (.int .i64 0)])) else none
  | _ => none
def tbIg1 := (And.intro (And.intro (And.intro @teE (And.intro @ES19_te @ES19_gs)) (And.intro (And.intro @ES19_dyn @ES19_glob) (And.intro @ES19_mu @ES19_63))) (And.intro (And.intro (And.intro @ES19_47 @pf63_at) (And.intro @pf47_at @ns_strip)) (And.intro (And.intro @ns_set @sumB_len) (And.intro @addL_len @beginL_len))))
theorem sound94 : SoundV Tryd.prog globS 94 pf94 := by
  refine SoundV.walk ES19 okS19 mixed Tryd.func94 rfl Tryd.call94 (by kernel_rfl) ?_
  intro args r hr
  unfold pf94 at hr
  split at hr
  · rename_i t ts kv bv mv
    simp only [Option.bind_eq_some_iff] at hr
    obtain ⟨K, h1, H, h2, key, h3, info, h4, n, h5, hr⟩ := hr
    split at hr
    · rename_i hc
      obtain ⟨⟨rfl, rfl⟩, hc1, hc2⟩ := hc
      obtain ⟨fl, rfl⟩ := row?_of h1
      rw [deNums_of h2]
      obtain ⟨fl', rfl⟩ := row?_of h3
      obtain ⟨fl'', rfl⟩ := row?_of h4
      rw [int?_of h5]
      clear h1 h2 h3 h4 h5
      rw [Tryd.ntmps94, Tryd.results94]
      refine ⟨by simp, ?_⟩
      by_cases hn : n < 0
      · rw [if_pos (.inl hn)] at hr
        cases hr
        simp (maxSteps := 1000000) (disch := first | omega | (simp only [shaB_len, sumB_len, mapF_len, padK_len, macK_len, addL_len, beginL_len, expO_len, expL_len, lnB] <;> omega) | fail) only [ev0, ev1, ev2, ev3, ↓reduceIte, reduceCtorEq, zaa, zab, zac, zad, zae, zaf, zag, zah, zai, zaj, zak, zal, zam, zan, zao, zap, zaq, ↓zar, ↓zas, zat, zau, zav, zaw, zax, zay, zaz, zba, zbb, zbc, zbd, zbe, zbf, zbg, zbh, zbi, zbj, zbk, zbl, zbm, zbn, zbo, zbp, zbq, zbr, zbs, zbt, zbu, zbv, zbw, zbx, zby, zbz, zca, zcb, zcc, zcd, zce, zcf, zcg, zch, zci, zcj, zck, zcl, zcm, zcn, zco, zcp, zcq, zcr, zcs, zct, zcu, zcv, zcw, zcx, zcy, zcz, zda, zdb, zdc, zdd, zde, zdf, zdg, zdh, zdi, zdj, zdk, zdl, ev5, tbIg1, globS, hn]
        exact resQ_two_nil
      · by_cases hn2 : n > 8160
        · rw [if_pos (.inr hn2)] at hr
          cases hr
          simp (maxSteps := 1000000) (disch := first | omega | (simp only [shaB_len, sumB_len, mapF_len, padK_len, macK_len, addL_len, beginL_len, expO_len, expL_len, lnB] <;> omega) | fail) only [ev0, ev1, ev2, ev3, ↓reduceIte, reduceCtorEq, zaa, zab, zac, zad, zae, zaf, zag, zah, zai, zaj, zak, zal, zam, zan, zao, zap, zaq, ↓zar, ↓zas, zat, zau, zav, zaw, zax, zay, zaz, zba, zbb, zbc, zbd, zbe, zbf, zbg, zbh, zbi, zbj, zbk, zbl, zbm, zbn, zbo, zbp, zbq, zbr, zbs, zbt, zbu, zbv, zbw, zbx, zby, zbz, zca, zcb, zcc, zcd, zce, zcf, zcg, zch, zci, zcj, zck, zcl, zcm, zcn, zco, zcp, zcq, zcr, zcs, zct, zcu, zcv, zcw, zcx, zcy, zcz, zda, zdb, zdc, zdd, zde, zdf, zdg, zdh, zdi, zdj, zdk, zdl, ev5, tbIg1, globS, hn, hn2]
          exact resQ_two_nil
        · rw [if_neg (by omega)] at hr
          cases hr
          obtain ⟨m, rfl⟩ := Int.eq_ofNat_of_zero_le (show 0 ≤ n by omega)
          simp (maxSteps := 1000000) (disch := first | omega | (simp only [shaB_len, sumB_len, mapF_len, padK_len, macK_len, addL_len, beginL_len, expO_len, expL_len, lnB] <;> omega) | fail) only [ev0, ev1, ev2, ev3, ↓reduceIte, reduceCtorEq, zaa, zab, zac, zad, zae, zaf, zag, zah, zai, zaj, zak, zal, zam, zan, zao, zap, zaq, ↓zar, ↓zas, zat, zau, zav, zaw, zax, zay, zaz, zba, zbb, zbc, zbd, zbe, zbf, zbg, zbh, zbi, zbj, zbk, zbl, zbm, zbn, zbo, zbp, zbq, zbr, zbs, zbt, zbu, zbv, zbw, zbx, zby, zbz, zca, zcb, zcc, zcd, zce, zcf, zcg, zch, zci, zcj, zck, zcl, zcm, zcn, zco, zcp, zcq, zcr, zcs, zct, zcu, zcv, zcw, zcx, zcy, zcz, zda, zdb, zdc, zdd, zde, zdf, zdg, zdh, zdi, zdj, zdk, zdl, ev5, tbIg1, globS, hn, hn2]
          obtain ⟨c, hcd⟩ : ∃ c, c = (m + 31) / 32 := ⟨_, rfl⟩
          refine loopQ_of (fun n σ => ∃ k i, k ≤ c ∧ n = c - k ∧ σ.slots 12 = .raw (.int .i64 ((k : Int) + 1)) ∧ σ.slots 1 = .sl key.length (nums .u8 key) .bor ∧ σ.slots 2 = .sl info.length (nums .u8 info) .bor ∧ σ.slots 3 = .raw (.int .i64 (m : Int)) ∧ σ.slots 4 = .ptr (.own 0 4 1) 0 ∧
            σ.box (.own 0 4 1) = some (.sl addL.length (nums .u32 addL) .bor :: nums .u32 beginL) ∧ σ.slots 10 = .sl (32 * k) (nums .u8 (expO key info k)) (.own i 1) ∧ (i.slot = 20 ∨ i.slot = 43) ∧ Free σ.used (σ.gen 43) 43 i ∧ Clear3 σ.used (σ.gen 30) (σ.gen 32) (σ.gen 34) ∧
            ((k = 0 ∧ ∃ f, σ.slots 11 = .sl 0 [] f) ∨ (0 < k ∧ ∃ g, σ.slots 11 = .view (.own 0 13 g) 0 32 32 1 ∧ σ.box (.own 0 13 g) = some (nums .u8 (expL key info k))))) c ?_ ?_
          · refine ⟨0, ⟨0, 20, 0, 1⟩, by omega, by omega, ?_⟩
            simp (maxSteps := 1000000) (disch := first | omega | (simp only [shaB_len, sumB_len, mapF_len, padK_len, macK_len, addL_len, beginL_len, expO_len, expL_len, lnB] <;> omega) | fail) only [ev0, ev1, ev2, ev3, ↓reduceIte, reduceCtorEq, zaa, zab, zac, zad, zae, zaf, zag, zah, zai, zaj, zak, zal, zam, zan, zao, zap, zaq, ↓zar, ↓zas, zat, zau, zav, zaw, zax, zay, zaz, zba, zbb, zbc, zbd, zbe, zbf, zbg, zbh, zbi, zbj, zbk, zbl, zbm, zbn, zbo, zbp, zbq, zbr, zbs, zbt, zbu, zbv, zbw, zbx, zby, zbz, zca, zcb, zcc, zcd, zce, zcf, zcg, zch, zci, zcj, zck, zcl, zcm, zcn, zco, zcp, zcq, zcr, zcs, zct, zcu, zcv, zcw, zcx, zcy, zcz, zda, zdb, zdc, zdd, zde, zdf, zdg, zdh, zdi, zdj, zdk, zdl, ev5, tbIg1, globS]
            exact ⟨rfl, rfl, ⟨rfl, fun _ _ => rfl, by simp⟩, fun _ _ _ => rfl, _, rfl⟩
          · rintro n ⟨sl, gn, bx, us⟩ ⟨k, i, hk, rfl, s12, s1, s2, s3, s4, b4, s10, hi, hf, hu, h11⟩
            dsimp only at s12 s1 s2 s3 s4 b4 s10 hf hu h11
            have hf0 := hf.now
            have lo := expO_len key info k
            have u1 := hu 30 (gn 30 + 1) (.inl ⟨rfl, by omega⟩)
            have u2 := hu 32 (gn 32 + 1) (.inr (.inl ⟨rfl, by omega⟩))
            have u3 := hu 34 (gn 34 + 1) (.inr (.inr ⟨rfl, by omega⟩))
            have n30 := slot_ne (i := i) (j := ⟨0, 30, 0, gn 30 + 1⟩) (show i.slot ≠ 30 by omega)
            have n32 := slot_ne (i := i) (j := ⟨0, 32, 0, gn 32 + 1⟩) (show i.slot ≠ 32 by omega)
            have n34 := slot_ne (i := i) (j := ⟨0, 34, 0, gn 34 + 1⟩) (show i.slot ≠ 34 by omega)
            have e30 := eq_false n30
            have e32 := eq_false n32
            have e34 := eq_false n34
            have hf' := (((hf.keep (j := ⟨0, 30, 0, gn 30 + 1⟩) (by show 30 ≠ 43; decide) n30).keep (j := ⟨0, 32, 0, gn 32 + 1⟩) (by show 32 ≠ 43; decide) n32).keep (j := ⟨0, 34, 0, gn 34 + 1⟩) (by show 34 ≠ 43; decide) n34).go
            have hu' : Clear3 (updI (updI (updI (updI us ⟨0, 30, 0, gn 30 + 1⟩) ⟨0, 32, 0, gn 32 + 1⟩) ⟨0, 34, 0, gn 34 + 1⟩) i) (gn 30 + 1) (gn 32 + 1) (gn 34 + 1) := by
              intro s g h
              rw [updI_at, updI_at, updI_at, updI_at, if_neg, if_neg, if_neg, if_neg]
              · exact hu s g (by omega)
              all_goals (intro e; have e1 := congrArg Abs.Id.slot e; have e2 := congrArg Abs.Id.gen e; dsimp only at e1 e2; omega)
            simp (maxSteps := 1000000) (disch := first | omega | (simp only [shaB_len, sumB_len, mapF_len, padK_len, macK_len, addL_len, beginL_len, expO_len, expL_len, lnB] <;> omega) | fail) only [ev0, ev1, ev2, ev3, ↓reduceIte, reduceCtorEq, zaa, zab, zac, zad, zae, zaf, zag, zah, zai, zaj, zak, zal, zam, zan, zao, zap, zaq, ↓zar, ↓zas, zat, zau, zav, zaw, zax, zay, zaz, zba, zbb, zbc, zbd, zbe, zbf, zbg, zbh, zbi, zbj, zbk, zbl, zbm, zbn, zbo, zbp, zbq, zbr, zbs, zbt, zbu, zbv, zbw, zbx, zby, zbz, zca, zcb, zcc, zcd, zce, zcf, zcg, zch, zci, zcj, zck, zcl, zcm, zcn, zco, zcp, zcq, zcr, zcs, zct, zcu, zcv, zcw, zcx, zcy, zcz, zda, zdb, zdc, zdd, zde, zdf, zdg, zdh, zdi, zdj, zdk, zdl, ev5, tbIg1, globS, s12, s1, s2, s3, s4, b4, s10, hf0]
            refine condQ_dec (fun hlt => ?_) (fun hge => ?_)
            · have hlt : k < c := by omega
              rcases h11 with ⟨h0, f, s11⟩ | ⟨h0, g, s11, b11⟩
              · subst h0
                simp (maxSteps := 1000000) (disch := first | omega | (simp only [shaB_len, sumB_len, mapF_len, padK_len, macK_len, addL_len, beginL_len, expO_len, expL_len, lnB] <;> omega) | fail) only [ev0, ev1, ev2, ev3, ↓reduceIte, reduceCtorEq, zaa, zab, zac, zad, zae, zaf, zag, zah, zai, zaj, zak, zal, zam, zan, zao, zap, zaq, ↓zar, ↓zas, zat, zau, zav, zaw, zax, zay, zaz, zba, zbb, zbc, zbd, zbe, zbf, zbg, zbh, zbi, zbj, zbk, zbl, zbm, zbn, zbo, zbp, zbq, zbr, zbs, zbt, zbu, zbv, zbw, zbx, zby, zbz, zca, zcb, zcc, zcd, zce, zcf, zcg, zch, zci, zcj, zck, zcl, zcm, zcn, zco, zcp, zcq, zcr, zcs, zct, zcu, zcv, zcw, zcx, zcy, zcz, zda, zdb, zdc, zdd, zde, zdf, zdg, zdh, zdi, zdj, zdk, zdl, ev5, tbIg1, globS, s12, s1, s2, s3, s4, b4, s10, hf0, s11, lo, u1, u2, u3, e30, e32, e34]
                refine ⟨c - (0 + 1), by omega, 0 + 1, ⟨0, 43, 0, gn 43 + 1⟩, by omega, rfl, rfl, row_eq (by omega) rfl, .inr rfl, hf', hu', .inr ⟨by omega, gn 13 + 1, rfl, ?_⟩⟩
                rw [if_pos rfl]
                rfl
              · have ll : (expL key info k).length = 32 := by
                  obtain ⟨j, rfl⟩ : ∃ j, k = j + 1 := ⟨k - 1, by omega⟩
                  exact expL_len key info j
                simp (maxSteps := 1000000) (disch := first | omega | (simp only [shaB_len, sumB_len, mapF_len, padK_len, macK_len, addL_len, beginL_len, expO_len, expL_len, lnB] <;> omega) | fail) only [ev0, ev1, ev2, ev3, ↓reduceIte, reduceCtorEq, zaa, zab, zac, zad, zae, zaf, zag, zah, zai, zaj, zak, zal, zam, zan, zao, zap, zaq, ↓zar, ↓zas, zat, zau, zav, zaw, zax, zay, zaz, zba, zbb, zbc, zbd, zbe, zbf, zbg, zbh, zbi, zbj, zbk, zbl, zbm, zbn, zbo, zbp, zbq, zbr, zbs, zbt, zbu, zbv, zbw, zbx, zby, zbz, zca, zcb, zcc, zcd, zce, zcf, zcg, zch, zci, zcj, zck, zcl, zcm, zcn, zco, zcp, zcq, zcr, zcs, zct, zcu, zcv, zcw, zcx, zcy, zcz, zda, zdb, zdc, zdd, zde, zdf, zdg, zdh, zdi, zdj, zdk, zdl, ev5, tbIg1, globS, s12, s1, s2, s3, s4, b4, s10, hf0, s11, b11, ll, lo, u1, u2, u3, e30, e32, e34]
                refine ⟨c - (k + 1), by omega, k + 1, ⟨0, 43, 0, gn 43 + 1⟩, by omega, rfl, i64_eq (by omega), row_eq (by omega) rfl, .inr rfl, hf', hu', .inr ⟨by omega, gn 13 + 1, rfl, ?_⟩⟩
                rw [if_pos rfl]
                rfl
            · have hk : k = c := by omega
              subst hk
              have hexp : expandB key info m = (expO key info k).take m := by rw [expandB, ← hcd]
              by_cases hmc : m = 32 * k
              · have hme := eq_true hmc
                simp (maxSteps := 1000000) (disch := first | omega | (simp only [shaB_len, sumB_len, mapF_len, padK_len, macK_len, addL_len, beginL_len, expO_len, expL_len, lnB] <;> omega) | fail) only [ev0, ev1, ev2, ev3, ↓reduceIte, reduceCtorEq, zaa, zab, zac, zad, zae, zaf, zag, zah, zai, zaj, zak, zal, zam, zan, zao, zap, zaq, ↓zar, ↓zas, zat, zau, zav, zaw, zax, zay, zaz, zba, zbb, zbc, zbd, zbe, zbf, zbg, zbh, zbi, zbj, zbk, zbl, zbm, zbn, zbo, zbp, zbq, zbr, zbs, zbt, zbu, zbv, zbw, zbx, zby, zbz, zca, zcb, zcc, zcd, zce, zcf, zcg, zch, zci, zcj, zck, zcl, zcm, zcn, zco, zcp, zcq, zcr, zcs, zct, zcu, zcv, zcw, zcx, zcy, zcz, zda, zdb, zdc, zdd, zde, zdf, zdg, zdh, zdi, zdj, zdk, zdl, ev5, tbIg1, globS, s12, s1, s2, s3, s4, b4, s10, hf0, lo, hme]
                rw [hexp, List.take_of_length_le (by omega), show xfl m = .own ⟨0, 0, 0, 0⟩ 1 from if_pos (by omega)]
                exact ResQ.same rfl
              · have hme := eq_false hmc
                simp (maxSteps := 1000000) (disch := first | omega | (simp only [shaB_len, sumB_len, mapF_len, padK_len, macK_len, addL_len, beginL_len, expO_len, expL_len, lnB] <;> omega) | fail) only [ev0, ev1, ev2, ev3, ↓reduceIte, reduceCtorEq, zaa, zab, zac, zad, zae, zaf, zag, zah, zai, zaj, zak, zal, zam, zan, zao, zap, zaq, ↓zar, ↓zas, zat, zau, zav, zaw, zax, zay, zaz, zba, zbb, zbc, zbd, zbe, zbf, zbg, zbh, zbi, zbj, zbk, zbl, zbm, zbn, zbo, zbp, zbq, zbr, zbs, zbt, zbu, zbv, zbw, zbx, zby, zbz, zca, zcb, zcc, zcd, zce, zcf, zcg, zch, zci, zcj, zck, zcl, zcm, zcn, zco, zcp, zcq, zcr, zcs, zct, zcu, zcv, zcw, zcx, zcy, zcz, zda, zdb, zdc, zdd, zde, zdf, zdg, zdh, zdi, zdj, zdk, zdl, ev5, tbIg1, globS, s12, s1, s2, s3, s4, b4, s10, hf0, lo, hme]
                rw [hexp, show xfl m = .bor from if_neg (by omega)]
                exact resQ_two
    · cases hr
  · cases hr

def ES20 : Env := (ES0.know 94 (fun xs => pf94 (xs.map norm))).know 47 pf47'
theorem okS20 : EnvOK Tryd.prog ES20 := (okS0.know sound94.norm).know sound47'
theorem ES20_te : ES20.te = te := rfl
theorem ES20_gs : ES20.gs = [] := rfl
theorem ES20_dyn : ES20.dyn = false := rfl
theorem ES20_glob : ES20.glob = globS := rfl
theorem ES20_mu (d : Nat) : ES20.mu d = false := rfl
theorem ES20_94 : ES20.tbl 94 = some (.val (fun xs => pf94 (xs.map norm))) := rfl
theorem ES20_47 : ES20.tbl 47 = some (.val pf47') := rfl
theorem pf94_no {l n' n'' : Nat} {k b : List (BitVec 8)} {fl fl' fl'' : Fl} {n : Int} (h0 : l = addL.length) (h1 : n' = k.length) (h2 : n'' = b.length) (h3 : k.length ≤ 1000000) (h4 : b.length ≤ 1000000) (hn : n < 0 ∨ n > 8160) : pf94 [.agg (.sl l (nums .u32 addL) fl :: nums .u32 beginL), .sl n' (nums .u8 k) fl', .sl n'' (nums .u8 b) fl'', .raw (.int .i64 n)] = some (.tup [.sl 0 [] .bor, .raw (.int .i64 1)]) := by
  simp only [pf94, row?_at h0, row?_at h1, row?_at h2, deNums_nums, int?_at, Option.bind_some, h3, h4, and_self, if_true, if_pos hn]
theorem pf94_at {l n' n'' : Nat} {k b : List (BitVec 8)} {fl fl' fl'' : Fl} {n : Int} (h0 : l = addL.length) (h1 : n' = k.length) (h2 : n'' = b.length) (h3 : k.length ≤ 1000000) (h4 : b.length ≤ 1000000) (hn : 0 ≤ n) (hn2 : n ≤ 8160) : pf94 [.agg (.sl l (nums .u32 addL) fl :: nums .u32 beginL), .sl n' (nums .u8 k) fl', .sl n'' (nums .u8 b) fl'', .raw (.int .i64 n)] = some (.tup [.sl n.toNat (nums .u8 (expandB k b n.toNat)) (xfl n.toNat), .raw (.int .i64 0)]) := by
  simp only [pf94, row?_at h0, row?_at h1, row?_at h2, deNums_nums, int?_at, Option.bind_some, h3, h4, and_self, if_true, if_neg (show ¬ (n < 0 ∨ n > 8160) by omega)]
theorem pf64_no {n' n'' : Nat} {k b : List (BitVec 8)} {fl' fl'' : Fl} {n : Int} (h1 : n' = k.length) (h2 : n'' = b.length) (h3 : k.length ≤ 1000000) (h4 : b.length ≤ 1000000) (hn : n < 0 ∨ n > 8160) : pf64 [.sl n' (nums .u8 k) fl', .sl n'' (nums .u8 b) fl'', .raw (.int .i64 n)] = some (.tup [.sl 0 [] .bor, .raw (.int .i64 1)]) := by
  simp only [pf64, row?_at h1, row?_at h2, int?_at, Option.bind_some, h3, h4, and_self, if_true, if_pos hn]
theorem pf64_at {n' n'' : Nat} {k b : List (BitVec 8)} {fl' fl'' : Fl} {n : Int} (h1 : n' = k.length) (h2 : n'' = b.length) (h3 : k.length ≤ 1000000) (h4 : b.length ≤ 1000000) (hn : 0 ≤ n) (hn2 : n ≤ 8160) : pf64 [.sl n' (nums .u8 k) fl', .sl n'' (nums .u8 b) fl'', .raw (.int .i64 n)] = some (.tup [.sl n.toNat (nums .u8 (expandB k b n.toNat)) (xfl n.toNat), .raw (.int .i64 0)]) := by
  simp only [pf64, row?_at h1, row?_at h2, int?_at, Option.bind_some, h3, h4, and_self, if_true, if_neg (show ¬ (n < 0 ∨ n > 8160) by omega)]
theorem xfl_or (n : Nat) : xfl n = .own ⟨0, 0, 0, 0⟩ 1 ∨ xfl n = .bor := by unfold xfl; split <;> simp
def tbIg2 := (And.intro (And.intro (And.intro (And.intro @teE @ES20_te) (And.intro @ES20_gs @ES20_dyn)) (And.intro (And.intro @ES20_glob @ES20_mu) (And.intro @ES20_94 @ES20_47))) (And.intro (And.intro (And.intro @pf94_at @pf94_no) (And.intro @pf47_at @ns_strip)) (And.intro (And.intro @ns_set @sumB_len) (And.intro @addL_len @beginL_len))))
theorem sound66 : SoundV Tryd.prog globS 66 pf64 := by
  refine SoundV.walk ES20 okS20 mixed Tryd.func66 rfl Tryd.call66 (by kernel_rfl) ?_
  intro args r hr
  unfold pf64 at hr
  split at hr
  · simp only [Option.bind_eq_some_iff] at hr
    obtain ⟨key, h1, info, h2, n, h3, hr⟩ := hr
    split at hr
    · rename_i hc
      obtain ⟨hc1, hc2⟩ := hc
      obtain ⟨fl, rfl⟩ := row?_of h1
      obtain ⟨fl', rfl⟩ := row?_of h2
      rw [int?_of h3]
      rw [Tryd.ntmps66, Tryd.results66]
      refine ⟨by simp, ?_⟩
      by_cases hn : n < 0 ∨ n > 8160
      · rw [if_pos hn] at hr
        cases hr
        simp (maxSteps := 1000000) (disch := first | omega | (simp only [shaB_len, sumB_len, addL_len, beginL_len, expandB_len, lnB] <;> omega) | fail) only [ev0, ev1, ev2, ev3, ↓reduceIte, reduceCtorEq, zaa, zab, zac, zad, zae, zaf, zag, zah, zai, zaj, zak, zal, zam, zan, zao, zap, zaq, ↓zar, ↓zas, zat, zau, zav, zaw, zax, zay, zaz, zba, zbb, zbc, zbd, zbe, zbf, zbg, zbh, zbi, zbj, zbk, zbl, zbm, zbn, zbo, zbp, zbq, zbr, zbs, zbt, zbu, zbv, zbw, zbx, zby, zbz, zca, zcb, zcc, zcd, zce, zcf, zcg, zch, zci, zcj, zck, zcl, zcm, zcn, zco, zcp, zcq, zcr, zcs, zct, zcu, zcv, zcw, zcx, zcy, zcz, zda, zdb, zdc, zdd, zde, zdf, zdg, zdh, zdi, zdj, zdk, zdl, ev5, tbIg2, globS]
        exact resQ_two
      · rw [if_neg hn] at hr
        cases hr
        rcases xfl_or n.toNat with e | e
        · rw [e]
          simp (maxSteps := 1000000) (disch := first | omega | (simp only [shaB_len, sumB_len, addL_len, beginL_len, expandB_len, lnB] <;> omega) | fail) only [ev0, ev1, ev2, ev3, ↓reduceIte, reduceCtorEq, zaa, zab, zac, zad, zae, zaf, zag, zah, zai, zaj, zak, zal, zam, zan, zao, zap, zaq, ↓zar, ↓zas, zat, zau, zav, zaw, zax, zay, zaz, zba, zbb, zbc, zbd, zbe, zbf, zbg, zbh, zbi, zbj, zbk, zbl, zbm, zbn, zbo, zbp, zbq, zbr, zbs, zbt, zbu, zbv, zbw, zbx, zby, zbz, zca, zcb, zcc, zcd, zce, zcf, zcg, zch, zci, zcj, zck, zcl, zcm, zcn, zco, zcp, zcq, zcr, zcs, zct, zcu, zcv, zcw, zcx, zcy, zcz, zda, zdb, zdc, zdd, zde, zdf, zdg, zdh, zdi, zdj, zdk, zdl, ev5, tbIg2, globS, e]
          exact ResQ.same rfl
        · rw [e]
          simp (maxSteps := 1000000) (disch := first | omega | (simp only [shaB_len, sumB_len, addL_len, beginL_len, expandB_len, lnB] <;> omega) | fail) only [ev0, ev1, ev2, ev3, ↓reduceIte, reduceCtorEq, zaa, zab, zac, zad, zae, zaf, zag, zah, zai, zaj, zak, zal, zam, zan, zao, zap, zaq, ↓zar, ↓zas, zat, zau, zav, zaw, zax, zay, zaz, zba, zbb, zbc, zbd, zbe, zbf, zbg, zbh, zbi, zbj, zbk, zbl, zbm, zbn, zbo, zbp, zbq, zbr, zbs, zbt, zbu, zbv, zbw, zbx, zby, zbz, zca, zcb, zcc, zcd, zce, zcf, zcg, zch, zci, zcj, zck, zcl, zcm, zcn, zco, zcp, zcq, zcr, zcs, zct, zcu, zcv, zcw, zcx, zcy, zcz, zda, zdb, zdc, zdd, zde, zdf, zdg, zdh, zdi, zdj, zdk, zdl, ev5, tbIg2, globS, e]
          exact resQ_two
    · cases hr
  · cases hr
end Go.Proofs.YtddeffdgldjdjaaDoor
