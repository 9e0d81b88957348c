/- JournalBases: what the walk comes to. -/
import Derived.Test.YtddeffdgldjdjaaDoorNn
namespace Go.Proofs.YtddeffdgldjdjaaDoor.W
set_option linter.unusedSimpArgs false
set_option linter.unusedVariables false
set_option linter.defProp false
open Go Go.Abs
open Nat renaming reduceAdd → zaa, reduceSub → zab, reduceMul → zac, reduceLT → zad, reduceLeDiff → zae, reduceEqDiff → zaf, reduceBEq → zag
open BitVec renaming reduceOfInt → zah
open Int renaming reduceLE → zai, reduceLT → zaj, reduceGT → zak, reduceGE → zal, reduceNeg → zam, reduceAdd → zan, reduceSub → zao, reduceMul → zap, reduceToNat → zaq
open Go.Abs renaming bind_go → zar, map_go → zas, wantedV → zat, isWrite → zau, grow → zav, write → zaw, ofV → zax, start → zaz, strip → zba, endQ → zbb, resV → zbc, rawsRes → zbd, rawRes → zbe, exports → zbf, export1 → zbg, isSelf → zbl, convSelf → zbm, convV → zbn, loadV → zbo, storeV → zbp, fieldAddrV → zbq, fieldV → zbr, indexAddrV → zbs, indexV → zbt, partV → zbu, isAggK → zbv, isStr → zbw, place → zbx, ipS → zby, lenV → zbz, min2V → zca, makeV → zcb, freshSl → zcc, sliceV → zcd, boundOr → zce, bound → zcf, bounds → zcg, cutFl → zch, copyV → zci, slCells → zcj, srcV → zck, appendV → zcl, room → zcm, zerosOf → zcn, eqNeg → zco, kd → zcp, takeR → zcq, hasViewL → zcr, hasView → zcs, freshR → zct, freshC → zcu, snapAll → zcv, snap → zcw, snapL → zcx, flatL → zcy, pureL → zcz, pureA → zda, fillC → zdb, arrOK → zdc, oneA → zdd, partB → zde, ren1 → zdg, applyW → zdi, useL → zdj, isGen → zdl, startG → zdm
open Go.Abs.AV renaming cells → zay, laid → zdf
open Go.Abs.AS renaming grown → zbh, put → zbi, mute → zdk
open Go.Abs.Env renaming know → zbj, boxed → zbk
open Go.Abs.CR renaming gr → zdh
set_option maxHeartbeats 16000000
/-- the other term -/
def oth (x : Int) : Int := IntKind.i64.wrap ((BitVec.ofInt 64 x ^^^ BitVec.ofInt 64 1).toNat : Int)
theorem oth_ne (x : Int) (h : i64ok x) : oth x ≠ x := by
  intro e
  rw [oth, wrap_ofInt] at e
  have h1 : ∀ y : BitVec 64, BitVec.ofInt 64 ((y.toNat : Int)) = y := fun y => by simp
  rw [h1] at e
  have h2 : BitVec.ofInt 64 ((BitVec.ofInt 64 x ^^^ BitVec.ofInt 64 1).toInt) = BitVec.ofInt 64 x := by rw [e]
  rw [bv64_back] at h2
  have h3 := congrArg (fun y => BitVec.ofInt 64 x ^^^ y) h2
  simp only [← BitVec.xor_assoc, BitVec.xor_self, BitVec.zero_xor] at h3
  exact absurd h3 (by decide)
def baR (i t n : Int) : Rec := ⟨3, i, t, n, 0, 0, noE⟩
def haR : Rec := ⟨1, 0, 0, 0, 5, 2, noE⟩
theorem fold_three (l : List Int) {n k : Nat} (hk : k < n) (t : Int) : foldL (rowL l n ++ [baR ((k : Int) + 1) t 1, baR (k : Int) 77 2, haR]) = some ⟨5, 2, (k : Int) + 1, t, 1, if t = l.getD k 0 then some ((entT l n).drop (k + 1)) else none⟩ := by
  rw [show rowL l n ++ [baR ((k : Int) + 1) t 1, baR (k : Int) 77 2, haR] = ((rowL l n ++ [baR ((k : Int) + 1) t 1]) ++ [baR (k : Int) 77 2]) ++ [haR] by simp]
  rw [foldL_snoc, foldL_snoc, foldL_snoc, fold_rows, Option.bind_some]
  have hl := stT_len l n
  have he := stT_es l n
  have hi : (stT l n).i = 0 := rfl
  have e1 : foldS (stT l n) (baR ((k : Int) + 1) t 1) = some ⟨0, 0, (k : Int) + 1, t, 1, if t = l.getD k 0 then some ((entT l n).drop (k + 1)) else none⟩ := by
    have b1 : (baR ((k : Int) + 1) t 1).i = (k : Int) + 1 := rfl
    have b2 : (baR ((k : Int) + 1) t 1).t = t := rfl
    rw [foldS, if_neg (by simp [baR]), if_neg (by simp [baR]), if_pos (by rfl)]
    rw [foldB_is (by rw [b1, hi]; omega) rfl, b1, b2, hi, he, entT_len]
    rw [if_neg (by omega), show ((k : Int) + 1 - 0 - 1).toNat = k by omega, entT_at l hk, show ((k : Int) + 1 - 0).toNat = k + 1 by omega]
    by_cases ht : t = l.getD k 0
    · rw [if_pos ht, if_pos ⟨by omega, by omega, ht.symm⟩]; rfl
    · rw [if_neg ht, if_neg (fun h => ht h.2.2.symm)]; rfl
  rw [e1, Option.bind_some]
  generalize (if t = l.getD k 0 then some ((entT l n).drop (k + 1)) else none) = es
  have e2 : foldS ⟨0, 0, (k : Int) + 1, t, 1, es⟩ (baR (k : Int) 77 2) = some ⟨0, 0, (k : Int) + 1, t, 1, es⟩ := by
    rw [foldS, if_neg (by simp [baR]), if_neg (by simp [baR]), if_pos (by rfl), foldB_neg (by show (k : Int) < (k : Int) + 1; omega)]
  rw [e2, Option.bind_some]
  rfl
theorem three_small (l : List Int) {n k : Nat} (hn : n ≤ 1000) (hk : k < n) (t : Int) : ∀ r ∈ rowL l n ++ [baR ((k : Int) + 1) t 1, baR (k : Int) 77 2, haR], smallI r.i := fun r hr => by
  rcases List.mem_append.1 hr with hr | hr
  · exact rowL_small l hn r hr
  · simp only [List.mem_cons, List.not_mem_nil, or_false] at hr
    rcases hr with rfl | rfl | rfl <;> (simp only [baR, haR, smallI]; omega)
theorem recs30 (A : List Rec) (x t y : Int) : recsA A ++ [.raw (.int .i64 3), .raw (.int .i64 x), .raw (.int .i64 t), .raw (.int .i64 1), .raw (.int .i64 0), .raw (.int .i64 0), .raw (.int .i64 0), .raw (.int .i64 0), .raw (.slice none 0 0), .raw (.slice none 0 0), .raw (.int .i64 3), .raw (.int .i64 y), .raw (.int .i64 77), .raw (.int .i64 2), .raw (.int .i64 0), .raw (.int .i64 0), .raw (.int .i64 0), .raw (.int .i64 0), .raw (.slice none 0 0), .raw (.slice none 0 0), .raw (.int .i64 1), .raw (.int .i64 0), .raw (.int .i64 0), .raw (.int .i64 0), .raw (.int .i64 5), .raw (.int .i64 2), .raw (.int .i64 0), .raw (.int .i64 0), .raw (.slice none 0 0), .raw (.slice none 0 0)] = recsA (A ++ [baR x t 1, baR y 77 2, haR]) := by
  simp only [recsA, List.flatMap_append]; rfl
theorem xor_is (x : Int) : intV .xor .i64 x 1 = some (.raw (.int .i64 (oth x))) := rfl
theorem hard_eq (h v h' v' : Int) : binV te .eql 63 (.agg [.raw (.int .i64 h), .raw (.int .i64 v)]) (.agg [.raw (.int .i64 h'), .raw (.int .i64 v')]) = some (.raw (.bool (([h, v] == [h', v'])))) := by
  simp only [binV, hard_kd, asInts, Option.map_some]
  simp [eqNeg, TK.isI64, kd, te3, List.range, List.range.loop]
theorem q52 : (([5, 2] : List Int) == [5, 2]) = true := rfl
theorem three_at {l : List Int} {n k : Nat} {t : Int} {fl : Fl} (hn : n ≤ 1000) (hk : k < n) : pf54 [.sl (n + 3) (recsA (rowL l n ++ [baR ((k : Int) + 1) t 1, baR (k : Int) 77 2, haR])) fl] = some (.tup [.agg (stA ⟨5, 2, (k : Int) + 1, t, 1, if t = l.getD k 0 then some ((entT l n).drop (k + 1)) else none⟩ .bor), .raw (.int .i64 0)]) := by
  rw [pf54_at (by rw [List.length_append, rowL_len]; rfl) (by rw [List.length_append, rowL_len]; simp only [List.length_cons, List.length_nil]; omega) (three_small l hn hk t), fold_three l hk]
theorem same_at {l : List Int} {n k : Nat} {fl : Fl} (hn : n ≤ 1000) (hk : k < n) : pf54 [.sl (n + 3) (recsA (rowL l n ++ [baR ((k : Int) + 1) (l.getD k 0) 1, baR (k : Int) 77 2, haR])) fl] = some (.tup [.agg [.raw (.int .i64 5), .raw (.int .i64 2), .raw (.int .i64 ((k : Int) + 1)), .raw (.int .i64 (l.getD k 0)), .raw (.int .i64 1), .sl (n - (k + 1)) (entsA ((entT l n).drop (k + 1))) .bor], .raw (.int .i64 0)]) := by
  rw [three_at hn hk, if_pos rfl, stA_is, esA_some, List.length_drop, entT_len]
theorem other_at {l : List Int} {n k : Nat} {fl : Fl} (hn : n ≤ 1000) (hk : k < n) (h : i64ok (l.getD k 0)) : pf54 [.sl (n + 3) (recsA (rowL l n ++ [baR ((k : Int) + 1) (oth (l.getD k 0)) 1, baR (k : Int) 77 2, haR])) fl] = some (.tup [.agg [.raw (.int .i64 5), .raw (.int .i64 2), .raw (.int .i64 ((k : Int) + 1)), .raw (.int .i64 (oth (l.getD k 0))), .raw (.int .i64 1), .raw (.slice none 0 0)], .raw (.int .i64 0)]) := by
  rw [three_at hn hk, if_neg (oth_ne _ h), stA_is, esA_none]
noncomputable def pf18 : List AV → Option AV
  | [v, w, x] => (irow? v).bind fun l => (int? w).bind fun a => (bool? x).bind fun b => if l.length ≤ 9223372036854775807 ∧ -9223372036854775808 ≤ a ∧ a ≤ 9223372036854775807 then some (.raw (.bool true)) else none
  | _ => none
def tbNo0 := (And.intro (And.intro (And.intro (And.intro (And.intro @teE @recs30) (And.intro @xor_is @hard_eq)) (And.intro (And.intro @q52 @splice_4) (And.intro @rep3_len (And.intro @rep3_drop @rep_zero)))) (And.intro (And.intro (And.intro @rep_one @ELR_te) (And.intro @ELR_glob @ELR_gs)) (And.intro (And.intro @ELR_dyn @ELR_mu) (And.intro @ELR_s (And.intro @ELR_e @ELR_f))))) (And.intro (And.intro (And.intro (And.intro @ev4 @zeroRec) (And.intro @zeroSt @shown_at)) (And.intro (And.intro @pf57_at @recA_len) (And.intro @recA_strip (And.intro @recA_oneA @recA_snap)))) (And.intro (And.intro (And.intro @recA_noview @splice_rec) (And.intro @recsA_nil @recsA_snap)) (And.intro (And.intro @recsA_noview @recsA_len) (And.intro @recsA_oneA (And.intro @recsA_pure @recsA_snoc))))))
theorem sound18 : SoundV Tryd.prog globS 18 pf18 := by
  refine SoundV.walk ELR okLR mixed Tryd.func18 rfl Tryd.call18 (by kernel_rfl) ?_
  intro args r hr
  unfold pf18 at hr
  split at hr
  · simp only [Option.bind_eq_some_iff] at hr
    obtain ⟨l, h1, a, h2, b, h3, hr⟩ := hr
    split at hr
    · rename_i hc
      obtain ⟨hc, ha1, ha2⟩ := hc
      cases hr
      obtain ⟨⟨fl, rfl⟩, hl⟩ := irow?_of h1
      rw [int?_of h2, bool?_of h3, Tryd.ntmps18, Tryd.results18]
      refine ⟨by simp, ?_⟩
      simp (maxSteps := 1000000) (disch := first | omega | (simp only [nums_len, rowL_len, entT_len, lnB] <;> omega) | fail) only [ev0, ev1, ev2, ev3, ↓reduceIte, reduceCtorEq, zaa, zab, zac, zad, zae, zaf, zag, zah, zai, zaj, zak, zal, zam, zan, zao, zap, zaq, ↓zar, ↓zas, zat, zau, zav, zaw, zax, zay, zaz, zba, zbb, zbc, zbd, zbe, zbf, zbg, zbh, zbi, zbj, zbk, zbl, zbm, zbn, zbo, zbp, zbq, zbr, zbs, zbt, zbu, zbv, zbw, zbx, zby, zbz, zca, zcb, zcc, zcd, zce, zcf, zcg, zch, zci, zcj, zck, zcl, zcm, zcn, zco, zcp, zcq, zcr, zcs, zct, zcu, zcv, zcw, zcx, zcy, zcz, zda, zdb, zdc, zdd, zde, zdf, zdg, zdh, zdi, zdj, zdk, zdl, zdm, ev5, tbNo0, globS, List.size_toArray, Array.size_empty, List.length_nil, List.map_nil, List.all_nil, Int.reduceBEq, Int.reduceBNe, beq_self_eq_true]
      refine loopQ_cut 0 (fun σ => ∃ k i, k ≤ l.length ∧ k ≤ 30 ∧ σ.slots 0 = .sl l.length (ints .i64 l) .bor ∧ σ.slots 7 = .raw (.bool true) ∧ σ.slots 1 = .raw (.int .i64 a) ∧ σ.slots 2 = .raw (.bool b) ∧ σ.slots 8 = .sl k (recsA (rowL l k)) (.own i 10) ∧ σ.used i = false) (loopQ_of (fun m σ => ∃ k i, k ≤ l.length ∧ k ≤ 30 ∧ m = 30 - k ∧ σ.slots 9 = .raw (.int .i64 (k : Int)) ∧ σ.slots 0 = .sl l.length (ints .i64 l) .bor ∧ σ.slots 7 = .raw (.bool true) ∧ σ.slots 1 = .raw (.int .i64 a) ∧ σ.slots 2 = .raw (.bool b) ∧
        σ.slots 8 = .sl k (recsA (rowL l k)) (.own i 10) ∧ Free σ.used (σ.gen 37) 37 i) 30 ?_ ?_) ?_
      · refine ⟨0, ⟨0, 17, 0, 1⟩, by omega, by omega, by omega, ?_⟩
        simp (maxSteps := 1000000) (disch := first | omega | (simp only [nums_len, rowL_len, entT_len, lnB] <;> omega) | fail) only [ev0, ev1, ev2, ev3, ↓reduceIte, reduceCtorEq, zaa, zab, zac, zad, zae, zaf, zag, zah, zai, zaj, zak, zal, zam, zan, zao, zap, zaq, ↓zar, ↓zas, zat, zau, zav, zaw, zax, zay, zaz, zba, zbb, zbc, zbd, zbe, zbf, zbg, zbh, zbi, zbj, zbk, zbl, zbm, zbn, zbo, zbp, zbq, zbr, zbs, zbt, zbu, zbv, zbw, zbx, zby, zbz, zca, zcb, zcc, zcd, zce, zcf, zcg, zch, zci, zcj, zck, zcl, zcm, zcn, zco, zcp, zcq, zcr, zcs, zct, zcu, zcv, zcw, zcx, zcy, zcz, zda, zdb, zdc, zdd, zde, zdf, zdg, zdh, zdi, zdj, zdk, zdl, zdm, ev5, tbNo0, globS, List.size_toArray, Array.size_empty, List.length_nil, List.map_nil, List.all_nil, Int.reduceBEq, Int.reduceBNe, beq_self_eq_true]
        exact ⟨rfl, rfl, rfl, fun _ _ => rfl, by simp⟩
      · rintro m ⟨sl, gn, bx, us⟩ ⟨k, i, hk, hk3, rfl, s9, s0, s7, s1, s2, s8, hf⟩
        dsimp only at s9 s0 s7 s1 s2 s8 hf
        have hf0 := hf.now
        by_cases c1 : k < l.length
        · by_cases c2 : k < 30
          · have d1 : decide ((k : Int) < (l.length : Int)) = true := decide_eq_true (by omega)
            have d2 : decide ((k : Int) < 30) = true := decide_eq_true (by omega)
            simp (maxSteps := 1000000) (disch := first | omega | (simp only [nums_len, rowL_len, entT_len, lnB] <;> omega) | fail) only [ev0, ev1, ev2, ev3, ↓reduceIte, reduceCtorEq, zaa, zab, zac, zad, zae, zaf, zag, zah, zai, zaj, zak, zal, zam, zan, zao, zap, zaq, ↓zar, ↓zas, zat, zau, zav, zaw, zax, zay, zaz, zba, zbb, zbc, zbd, zbe, zbf, zbg, zbh, zbi, zbj, zbk, zbl, zbm, zbn, zbo, zbp, zbq, zbr, zbs, zbt, zbu, zbv, zbw, zbx, zby, zbz, zca, zcb, zcc, zcd, zce, zcf, zcg, zch, zci, zcj, zck, zcl, zcm, zcn, zco, zcp, zcq, zcr, zcs, zct, zcu, zcv, zcw, zcx, zcy, zcz, zda, zdb, zdc, zdd, zde, zdf, zdg, zdh, zdi, zdj, zdk, zdl, zdm, ev5, tbNo0, globS, List.size_toArray, Array.size_empty, List.length_nil, List.map_nil, List.all_nil, Int.reduceBEq, Int.reduceBNe, beq_self_eq_true, s9, s0, s7, s1, s2, s8, hf0, d1, d2]
            refine ⟨30 - (k + 1), by omega, k + 1, ⟨0, 37, 0, gn 37 + 1⟩, by omega, by omega, rfl, rfl, ?_, hf.go⟩
            rw [rowL_succ]
          · have d1 : decide ((k : Int) < (l.length : Int)) = true := decide_eq_true (by omega)
            have d2 : decide ((k : Int) < 30) = false := decide_eq_false (by omega)
            simp (maxSteps := 1000000) (disch := first | omega | (simp only [nums_len, rowL_len, entT_len, lnB] <;> omega) | fail) only [ev0, ev1, ev2, ev3, ↓reduceIte, reduceCtorEq, zaa, zab, zac, zad, zae, zaf, zag, zah, zai, zaj, zak, zal, zam, zan, zao, zap, zaq, ↓zar, ↓zas, zat, zau, zav, zaw, zax, zay, zaz, zba, zbb, zbc, zbd, zbe, zbf, zbg, zbh, zbi, zbj, zbk, zbl, zbm, zbn, zbo, zbp, zbq, zbr, zbs, zbt, zbu, zbv, zbw, zbx, zby, zbz, zca, zcb, zcc, zcd, zce, zcf, zcg, zch, zci, zcj, zck, zcl, zcm, zcn, zco, zcp, zcq, zcr, zcs, zct, zcu, zcv, zcw, zcx, zcy, zcz, zda, zdb, zdc, zdd, zde, zdf, zdg, zdh, zdi, zdj, zdk, zdl, zdm, ev5, tbNo0, globS, List.size_toArray, Array.size_empty, List.length_nil, List.map_nil, List.all_nil, Int.reduceBEq, Int.reduceBNe, beq_self_eq_true, s9, s0, s7, s1, s2, s8, hf0, d1, d2]
            exact ⟨k, i, hk, hk3, rfl, hf0⟩
        · have d1 : decide ((k : Int) < (l.length : Int)) = false := decide_eq_false (by omega)
          simp (maxSteps := 1000000) (disch := first | omega | (simp only [nums_len, rowL_len, entT_len, lnB] <;> omega) | fail) only [ev0, ev1, ev2, ev3, ↓reduceIte, reduceCtorEq, zaa, zab, zac, zad, zae, zaf, zag, zah, zai, zaj, zak, zal, zam, zan, zao, zap, zaq, ↓zar, ↓zas, zat, zau, zav, zaw, zax, zay, zaz, zba, zbb, zbc, zbd, zbe, zbf, zbg, zbh, zbi, zbj, zbk, zbl, zbm, zbn, zbo, zbp, zbq, zbr, zbs, zbt, zbu, zbv, zbw, zbx, zby, zbz, zca, zcb, zcc, zcd, zce, zcf, zcg, zch, zci, zcj, zck, zcl, zcm, zcn, zco, zcp, zcq, zcr, zcs, zct, zcu, zcv, zcw, zcx, zcy, zcz, zda, zdb, zdc, zdd, zde, zdf, zdg, zdh, zdi, zdj, zdk, zdl, zdm, ev5, tbNo0, globS, List.size_toArray, Array.size_empty, List.length_nil, List.map_nil, List.all_nil, Int.reduceBEq, Int.reduceBNe, beq_self_eq_true, s9, s0, s7, s1, s2, s8, hf0, d1]
          exact ⟨k, i, hk, hk3, rfl, hf0⟩
      · rintro ⟨sl, gn, bx, us⟩ ⟨n, i, hk, hk3, s0, s7, s1, s2, s8, hf0⟩
        dsimp only at s0 s7 s1 s2 s8 hf0
        have hz : ((n : Int) = 0) = (n = 0) := by simp only [eq_iff_iff]; omega
        by_cases k0 : n = 0
        · have d0 : ((n : Int) == 0) = true := by rw [k0]; rfl
          simp (maxSteps := 1000000) (disch := first | omega | (simp only [nums_len, rowL_len, entT_len, lnB] <;> omega) | fail) only [ev0, ev1, ev2, ev3, ↓reduceIte, reduceCtorEq, zaa, zab, zac, zad, zae, zaf, zag, zah, zai, zaj, zak, zal, zam, zan, zao, zap, zaq, ↓zar, ↓zas, zat, zau, zav, zaw, zax, zay, zaz, zba, zbb, zbc, zbd, zbe, zbf, zbg, zbh, zbi, zbj, zbk, zbl, zbm, zbn, zbo, zbp, zbq, zbr, zbs, zbt, zbu, zbv, zbw, zbx, zby, zbz, zca, zcb, zcc, zcd, zce, zcf, zcg, zch, zci, zcj, zck, zcl, zcm, zcn, zco, zcp, zcq, zcr, zcs, zct, zcu, zcv, zcw, zcx, zcy, zcz, zda, zdb, zdc, zdd, zde, zdf, zdg, zdh, zdi, zdj, zdk, zdl, zdm, ev5, tbNo0, globS, List.size_toArray, Array.size_empty, List.length_nil, List.map_nil, List.all_nil, Int.reduceBEq, Int.reduceBNe, beq_self_eq_true, s0, s7, s1, s2, s8, hf0, d0]
          exact ResQ.same rfl
        · have d0 : ((n : Int) == 0) = false := beq_eq_false_iff_ne.2 (by omega)
          have hz := eq_false (show ¬ (n : Int) = 0 by omega)
          by_cases ca : a < 0
          · have da := decide_eq_true ca
            obtain ⟨k, hq⟩ := Int.eq_ofNat_of_zero_le (show 0 ≤ (0 - (a + 1)) % (n : Int) from Int.emod_nonneg _ (by omega))
            have hkn : k < n := by have := Int.emod_lt_of_pos (0 - (a + 1)) (show 0 < (n : Int) by omega); omega
            have hio := hl _ (getD_mem (show k < l.length by omega))
            have f1 := fun fl => same_at (l := l) (fl := fl) (show n ≤ 1000 by omega) hkn
            have f2 := fun fl => other_at (l := l) (fl := fl) (show n ≤ 1000 by omega) hkn hio
            have dl : (((n - (k + 1) : Nat) : Int) == (n : Int) - (k : Int) - 1) = true := by rw [beq_iff_eq]; omega
            cases b
            · simp (maxSteps := 1000000) (disch := first | omega | (simp only [nums_len, rowL_len, entT_len, lnB] <;> omega) | fail) only [ev0, ev1, ev2, ev3, ↓reduceIte, reduceCtorEq, zaa, zab, zac, zad, zae, zaf, zag, zah, zai, zaj, zak, zal, zam, zan, zao, zap, zaq, ↓zar, ↓zas, zat, zau, zav, zaw, zax, zay, zaz, zba, zbb, zbc, zbd, zbe, zbf, zbg, zbh, zbi, zbj, zbk, zbl, zbm, zbn, zbo, zbp, zbq, zbr, zbs, zbt, zbu, zbv, zbw, zbx, zby, zbz, zca, zcb, zcc, zcd, zce, zcf, zcg, zch, zci, zcj, zck, zcl, zcm, zcn, zco, zcp, zcq, zcr, zcs, zct, zcu, zcv, zcw, zcx, zcy, zcz, zda, zdb, zdc, zdd, zde, zdf, zdg, zdh, zdi, zdj, zdk, zdl, zdm, ev5, tbNo0, globS, List.size_toArray, Array.size_empty, List.length_nil, List.map_nil, List.all_nil, Int.reduceBEq, Int.reduceBNe, beq_self_eq_true, s0, s7, s1, s2, s8, hf0, d0, hz, da, hq, f1, f2, dl]
              exact ResQ.same rfl
            · simp (maxSteps := 1000000) (disch := first | omega | (simp only [nums_len, rowL_len, entT_len, lnB] <;> omega) | fail) only [ev0, ev1, ev2, ev3, ↓reduceIte, reduceCtorEq, zaa, zab, zac, zad, zae, zaf, zag, zah, zai, zaj, zak, zal, zam, zan, zao, zap, zaq, ↓zar, ↓zas, zat, zau, zav, zaw, zax, zay, zaz, zba, zbb, zbc, zbd, zbe, zbf, zbg, zbh, zbi, zbj, zbk, zbl, zbm, zbn, zbo, zbp, zbq, zbr, zbs, zbt, zbu, zbv, zbw, zbx, zby, zbz, zca, zcb, zcc, zcd, zce, zcf, zcg, zch, zci, zcj, zck, zcl, zcm, zcn, zco, zcp, zcq, zcr, zcs, zct, zcu, zcv, zcw, zcx, zcy, zcz, zda, zdb, zdc, zdd, zde, zdf, zdg, zdh, zdi, zdj, zdk, zdl, zdm, ev5, tbNo0, globS, List.size_toArray, Array.size_empty, List.length_nil, List.map_nil, List.all_nil, Int.reduceBEq, Int.reduceBNe, beq_self_eq_true, s0, s7, s1, s2, s8, hf0, d0, hz, da, hq, f1, f2, dl]
              exact ResQ.same rfl
          · have da := decide_eq_false ca
            obtain ⟨k, hq⟩ := Int.eq_ofNat_of_zero_le (show 0 ≤ a % (n : Int) from Int.emod_nonneg _ (by omega))
            have hkn : k < n := by have := Int.emod_lt_of_pos a (show 0 < (n : Int) by omega); omega
            have hio := hl _ (getD_mem (show k < l.length by omega))
            have f1 := fun fl => same_at (l := l) (fl := fl) (show n ≤ 1000 by omega) hkn
            have f2 := fun fl => other_at (l := l) (fl := fl) (show n ≤ 1000 by omega) hkn hio
            have dl : (((n - (k + 1) : Nat) : Int) == (n : Int) - (k : Int) - 1) = true := by rw [beq_iff_eq]; omega
            cases b
            · simp (maxSteps := 1000000) (disch := first | omega | (simp only [nums_len, rowL_len, entT_len, lnB] <;> omega) | fail) only [ev0, ev1, ev2, ev3, ↓reduceIte, reduceCtorEq, zaa, zab, zac, zad, zae, zaf, zag, zah, zai, zaj, zak, zal, zam, zan, zao, zap, zaq, ↓zar, ↓zas, zat, zau, zav, zaw, zax, zay, zaz, zba, zbb, zbc, zbd, zbe, zbf, zbg, zbh, zbi, zbj, zbk, zbl, zbm, zbn, zbo, zbp, zbq, zbr, zbs, zbt, zbu, zbv, zbw, zbx, zby, zbz, zca, zcb, zcc, zcd, zce, zcf, zcg, zch, zci, zcj, zck, zcl, zcm, zcn, zco, zcp, zcq, zcr, zcs, zct, zcu, zcv, zcw, zcx, zcy, zcz, zda, zdb, zdc, zdd, zde, zdf, zdg, zdh, zdi, zdj, zdk, zdl, zdm, ev5, tbNo0, globS, List.size_toArray, Array.size_empty, List.length_nil, List.map_nil, List.all_nil, Int.reduceBEq, Int.reduceBNe, beq_self_eq_true, s0, s7, s1, s2, s8, hf0, d0, hz, da, hq, f1, f2, dl]
              exact ResQ.same rfl
            · simp (maxSteps := 1000000) (disch := first | omega | (simp only [nums_len, rowL_len, entT_len, lnB] <;> omega) | fail) only [ev0, ev1, ev2, ev3, ↓reduceIte, reduceCtorEq, zaa, zab, zac, zad, zae, zaf, zag, zah, zai, zaj, zak, zal, zam, zan, zao, zap, zaq, ↓zar, ↓zas, zat, zau, zav, zaw, zax, zay, zaz, zba, zbb, zbc, zbd, zbe, zbf, zbg, zbh, zbi, zbj, zbk, zbl, zbm, zbn, zbo, zbp, zbq, zbr, zbs, zbt, zbu, zbv, zbw, zbx, zby, zbz, zca, zcb, zcc, zcd, zce, zcf, zcg, zch, zci, zcj, zck, zcl, zcm, zcn, zco, zcp, zcq, zcr, zcs, zct, zcu, zcv, zcw, zcx, zcy, zcz, zda, zdb, zdc, zdd, zde, zdf, zdg, zdh, zdi, zdj, zdk, zdl, zdm, ev5, tbNo0, globS, List.size_toArray, Array.size_empty, List.length_nil, List.map_nil, List.all_nil, Int.reduceBEq, Int.reduceBNe, beq_self_eq_true, s0, s7, s1, s2, s8, hf0, d0, hz, da, hq, f1, f2, dl]
              exact ResQ.same rfl
    · cases hr
  · cases hr
end Go.Proofs.YtddeffdgldjdjaaDoor.W
