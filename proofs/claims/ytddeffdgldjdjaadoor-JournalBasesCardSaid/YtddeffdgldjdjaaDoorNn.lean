/- JournalRows: what the walk comes to. -/
import Derived.Test.YtddeffdgldjdjaaDoorNm
namespace Go.Proofs.YtddeffdgldjdjaaDoor.W
set_option linter.unusedSimpArgs false
set_option linter.unusedVariables false
set_option linter.defProp false
open Go Go.Abs
open Nat renaming reduceAdd → zaa, reduceSub → zab, reduceMul → zac, reduceLT → zad, reduceLeDiff → zae, reduceEqDiff → zaf, reduceBEq → zag
open BitVec renaming reduceOfInt → zah
open Int renaming reduceLE → zai, reduceLT → zaj, reduceGT → zak, reduceGE → zal, reduceNeg → zam, reduceAdd → zan, reduceSub → zao, reduceMul → zap, reduceToNat → zaq
open Go.Abs renaming bind_go → zar, map_go → zas, wantedV → zat, isWrite → zau, grow → zav, write → zaw, ofV → zax, start → zaz, strip → zba, endQ → zbb, resV → zbc, rawsRes → zbd, rawRes → zbe, exports → zbf, export1 → zbg, isSelf → zbl, convSelf → zbm, convV → zbn, loadV → zbo, storeV → zbp, fieldAddrV → zbq, fieldV → zbr, indexAddrV → zbs, indexV → zbt, partV → zbu, isAggK → zbv, isStr → zbw, place → zbx, ipS → zby, lenV → zbz, min2V → zca, makeV → zcb, freshSl → zcc, sliceV → zcd, boundOr → zce, bound → zcf, bounds → zcg, cutFl → zch, copyV → zci, slCells → zcj, srcV → zck, appendV → zcl, room → zcm, zerosOf → zcn, eqNeg → zco, kd → zcp, takeR → zcq, hasViewL → zcr, hasView → zcs, freshR → zct, freshC → zcu, snapAll → zcv, snap → zcw, snapL → zcx, flatL → zcy, pureL → zcz, pureA → zda, fillC → zdb, arrOK → zdc, oneA → zdd, partB → zde, ren1 → zdg, applyW → zdi, useL → zdj, isGen → zdl, startG → zdm
open Go.Abs.AV renaming cells → zay, laid → zdf
open Go.Abs.AS renaming grown → zbh, put → zbi, mute → zdk
open Go.Abs.Env renaming know → zbj, boxed → zbk
open Go.Abs.CR renaming gr → zdh
set_option maxHeartbeats 16000000
/-- records of entries of some terms, one behind the other -/
def rowL (l : List Int) (k : Nat) : List Rec := (List.range k).map fun (j : Nat) => entR' ((j : Int) + 1) (l.getD j 0)
theorem rowL_len (l : List Int) (k : Nat) : (rowL l k).length = k := by simp [rowL]
theorem rowL_succ (l : List Int) (k : Nat) : rowL l (k + 1) = rowL l k ++ [entR' ((k : Int) + 1) (l.getD k 0)] := by simp [rowL, List.range_succ]
def entT (l : List Int) (k : Nat) : List Eny := (List.range k).map fun (j : Nat) => ⟨l.getD j 0, 0, none, none⟩
theorem entT_len (l : List Int) (k : Nat) : (entT l k).length = k := by simp [entT]
theorem entT_succ (l : List Int) (k : Nat) : entT l (k + 1) = entT l k ++ [⟨l.getD k 0, 0, none, none⟩] := by simp [entT, List.range_succ]
theorem entT_take (l : List Int) {k n : Nat} (h : k ≤ n) : (entT l n).take k = entT l k := by
  rw [entT, ← List.map_take, List.take_range, Nat.min_eq_left h, entT]
theorem rowL_take (l : List Int) {k n : Nat} (h : k ≤ n) : (rowL l n).take k = rowL l k := by
  rw [rowL, ← List.map_take, List.take_range, Nat.min_eq_left h, rowL]
theorem entT_at (l : List Int) {j n : Nat} (h : j < n) : (entT l n).getD j noE = ⟨l.getD j 0, 0, none, none⟩ := by
  rw [List.getD_eq_getElem?_getD]
  simp [entT, h]
def stT (l : List Int) (k : Nat) : St := ⟨0, 0, 0, 0, 0, if k = 0 then none else some (entT l k)⟩
theorem stT_len (l : List Int) (k : Nat) : (esL (stT l k).es).length = k := by
  unfold stT
  by_cases h : k = 0
  · subst h; rfl
  · simp [h, esL, entT_len]
theorem stT_es (l : List Int) (k : Nat) : esL (stT l k).es = entT l k := by
  unfold stT
  by_cases h : k = 0
  · subst h; rfl
  · simp [h, esL]
/-- one more entry, at index m + 1 -/
theorem fold_ent {l : List Int} {n m : Nat} {t : Int} (h : m ≤ n) : foldS (stT l n) (entR' ((m : Int) + 1) t) = some ⟨0, 0, 0, 0, 0, some (entT l m ++ [⟨t, 0, none, none⟩])⟩ := by
  have hl := stT_len l n
  have he := stT_es l n
  rw [foldS, if_neg (by simp [entR']), if_pos (by rfl)]
  have hi : (stT l n).i = 0 := rfl
  have h1 : (entR' ((m : Int) + 1) t).i = (m : Int) + 1 := rfl
  rw [hi, h1, if_neg (by omega), if_neg (by rw [hl]; omega), he, show ((m : Int) + 1 - 0 - 1).toNat = m by omega, entT_take l h]
  rfl
theorem fold_no {l : List Int} {n : Nat} {t : Int} : foldS (stT l n) (entR' ((n : Int) + 2) t) = none := by
  have hl := stT_len l n
  rw [foldS, if_neg (by simp [entR']), if_pos (by rfl)]
  have hi : (stT l n).i = 0 := rfl
  have h1 : (entR' ((n : Int) + 2) t).i = (n : Int) + 2 := rfl
  rw [hi, h1, if_neg (by omega), if_pos (by rw [hl]; omega)]
theorem foldK_app (a b : List Rec) : ∀ j, j ≤ a.length → foldK (a ++ b) j = foldK a j
  | 0, _ => rfl
  | j + 1, h => by
    rw [foldK, foldK, foldK_app a b j (by omega), List.getD_eq_getElem?_getD, List.getD_eq_getElem?_getD, List.getElem?_append_left (by omega)]
theorem foldL_snoc (a : List Rec) (r : Rec) : foldL (a ++ [r]) = (foldL a).bind fun s => foldS s r := by
  rw [foldL, List.length_append, List.length_singleton, foldK, foldK_app a [r] a.length (Nat.le_refl _), foldL, List.getD_eq_getElem?_getD]
  simp
theorem fold_rows (l : List Int) : ∀ k, foldL (rowL l k) = some (stT l k)
  | 0 => rfl
  | k + 1 => by
    rw [rowL_succ, foldL_snoc, fold_rows l k, Option.bind_some, fold_ent (Nat.le_refl k)]
    simp [stT, entT_succ]
theorem rowL_small (l : List Int) {k : Nat} (h : k ≤ 1000) : ∀ r ∈ rowL l k, smallI r.i := fun r hr => by
  obtain ⟨j, hj, rfl⟩ := List.mem_map.1 hr
  have := List.mem_range.1 hj
  simp only [entR', smallI]; omega
theorem small_snoc {l : List Rec} {r : Rec} (h : ∀ r ∈ l, smallI r.i) (h2 : smallI r.i) : ∀ q ∈ l ++ [r], smallI q.i := fun q hq => by
  rcases List.mem_append.1 hq with hq | hq
  · exact h q hq
  · rw [List.mem_singleton.1 hq]; exact h2
theorem rows_at {l : List Int} {k n : Nat} {fl : Fl} (hn : n = k) (h : k ≤ 1000) : pf54 [.sl n (recsA (rowL l k)) fl] = some (.tup [.agg (stA (stT l k) .bor), .raw (.int .i64 0)]) := by
  rw [pf54_at (by rw [rowL_len]; exact hn) (by rw [rowL_len]; omega) (rowL_small l h), fold_rows]
theorem rows1_at {l : List Int} {k n m : Nat} {t : Int} {fl : Fl} (hn : n = k + 1) (h : k ≤ 1000) (hm : m ≤ k) : pf54 [.sl n (recsA (rowL l k ++ [entR' ((m : Int) + 1) t])) fl] = some (.tup [.agg (stA ⟨0, 0, 0, 0, 0, some (entT l m ++ [⟨t, 0, none, none⟩])⟩ .bor), .raw (.int .i64 0)]) := by
  rw [pf54_at (by rw [List.length_append, rowL_len]; exact hn) (by rw [List.length_append, rowL_len, List.length_singleton]; omega) (small_snoc (rowL_small l h) (by simp only [entR', smallI]; omega)), foldL_snoc, fold_rows, Option.bind_some, fold_ent hm]
theorem rows2_at {l : List Int} {k n : Nat} {t : Int} {fl : Fl} (hn : n = k + 1) (h : k ≤ 1000) : pf54 [.sl n (recsA (rowL l k ++ [entR' ((k : Int) + 2) t])) fl] = some (.tup [.agg (stA st0 .bor), .raw (.int .i64 110)]) := by
  rw [pf54_at (by rw [List.length_append, rowL_len]; exact hn) (by rw [List.length_append, rowL_len, List.length_singleton]; omega) (small_snoc (rowL_small l h) (by simp only [entR', smallI]; omega)), foldL_snoc, fold_rows, Option.bind_some, fold_no]
theorem recsA_take (l : List Rec) (k : Nat) : (recsA l).take (k * 10) = recsA (l.take k) := by
  induction k generalizing l with
  | zero => simp [recsA]
  | succ k ih =>
    cases l with
    | nil => simp [recsA]
    | cons e l =>
      rw [recsA_cons, List.take_succ_cons, recsA_cons, ← ih l, show (k + 1) * 10 = (recA e).length + k * 10 by rw [recA_len]; omega, List.take_append]
      simp [recA_len]
      exact List.take_of_length_le (by rw [recA_len]; omega)
theorem loopQ_cut {E : Env} {lvl n : Nat} {c : Code} {Q : AX → AS → Prop} {σ : AS} (i : Nat) (R : AS → Prop) (h1 : loopQ lvl (awpO E lvl n c) (fun x s => x = .exit i ∧ R s) σ) (h2 : ∀ s, R s → Q (.exit i) s) : loopQ lvl (awpO E lvl n c) Q σ := by
  rw [awpO_eq] at *
  exact loopQ_mono (fun Q Q' σ => awp_mono c Q Q' σ) (fun x s h => by obtain ⟨rfl, h⟩ := h; exact h2 s h) h1
noncomputable def ELR : Env := ((ES0.know 44 pf44).know 57 pf57).know 54 (fun xs => pf54 (xs.map norm))
theorem okLR : EnvOK Tryd.prog ELR := ((okS0.know sound44).know sound57).know sound54.norm
theorem ELR_te : ELR.te = te := rfl
theorem ELR_glob : ELR.glob = globS := rfl
theorem ELR_gs : ELR.gs = [] := rfl
theorem ELR_dyn : ELR.dyn = false := rfl
theorem ELR_mu (d : Nat) : ELR.mu d = false := rfl
theorem ELR_s : ELR.tbl 44 = some (.val pf44) := rfl
theorem ELR_e : ELR.tbl 57 = some (.val pf57) := rfl
theorem ELR_f : ELR.tbl 54 = some (.val (fun xs => pf54 (xs.map norm))) := rfl
theorem shown_at : pf44 [] = some (.raw (.bool true)) := rfl
noncomputable def pf17 : List AV → Option AV
  | [v, w, x] => (irow? v).bind fun l => (int? w).bind fun a => (int? x).bind fun t => if l.length ≤ 9223372036854775807 ∧ -9223372036854775808 ≤ a ∧ a ≤ 9223372036854775807 then some (.raw (.bool true)) else none
  | _ => none
def tbNn0 := (And.intro (And.intro (And.intro (And.intro @teE (And.intro @rep_zero @rep_one)) (And.intro (And.intro @ELR_te @ELR_glob) (And.intro @ELR_gs @ELR_dyn))) (And.intro (And.intro @ELR_mu (And.intro @ELR_s @ELR_e)) (And.intro (And.intro @ELR_f @ev4) (And.intro @zeroRec @zeroSt)))) (And.intro (And.intro (And.intro @shown_at (And.intro @pf57_at @recA_len)) (And.intro (And.intro @recA_strip @recA_oneA) (And.intro @recA_snap @recA_noview))) (And.intro (And.intro (And.intro @splice_rec @recsA_nil) (And.intro @recsA_snap @recsA_noview)) (And.intro (And.intro @recsA_len @recsA_oneA) (And.intro @recsA_pure @recsA_snoc)))))
theorem sound17 : SoundV Tryd.prog globS 17 pf17 := by
  refine SoundV.walk ELR okLR mixed Tryd.func17 rfl Tryd.call17 (by kernel_rfl) ?_
  intro args r hr
  unfold pf17 at hr
  split at hr
  · simp only [Option.bind_eq_some_iff] at hr
    obtain ⟨l, h1, a, h2, t, h3, hr⟩ := hr
    split at hr
    · rename_i hc
      obtain ⟨hc, ha1, ha2⟩ := hc
      cases hr
      obtain ⟨⟨fl, rfl⟩, hl⟩ := irow?_of h1
      rw [int?_of h2, int?_of h3, Tryd.ntmps17, Tryd.results17]
      refine ⟨by simp, ?_⟩
      simp (maxSteps := 1000000) (disch := first | omega | (simp only [nums_len, rowL_len, entT_len, lnB] <;> omega) | fail) only [ev0, ev1, ev2, ev3, ↓reduceIte, reduceCtorEq, zaa, zab, zac, zad, zae, zaf, zag, zah, zai, zaj, zak, zal, zam, zan, zao, zap, zaq, ↓zar, ↓zas, zat, zau, zav, zaw, zax, zay, zaz, zba, zbb, zbc, zbd, zbe, zbf, zbg, zbh, zbi, zbj, zbk, zbl, zbm, zbn, zbo, zbp, zbq, zbr, zbs, zbt, zbu, zbv, zbw, zbx, zby, zbz, zca, zcb, zcc, zcd, zce, zcf, zcg, zch, zci, zcj, zck, zcl, zcm, zcn, zco, zcp, zcq, zcr, zcs, zct, zcu, zcv, zcw, zcx, zcy, zcz, zda, zdb, zdc, zdd, zde, zdf, zdg, zdh, zdi, zdj, zdk, zdl, zdm, ev5, tbNn0, globS, List.size_toArray, Array.size_empty, List.length_nil, List.map_nil, List.all_nil, Int.reduceBEq, Int.reduceBNe, beq_self_eq_true]
      refine loopQ_cut 0 (fun σ => ∃ k i, k ≤ l.length ∧ k ≤ 30 ∧ σ.slots 0 = .sl l.length (ints .i64 l) .bor ∧ σ.slots 7 = .raw (.bool true) ∧ σ.slots 1 = .raw (.int .i64 a) ∧ σ.slots 2 = .raw (.int .i64 t) ∧ σ.slots 8 = .sl k (recsA (rowL l k)) (.own i 10) ∧ σ.used i = false) (loopQ_of (fun m σ => ∃ k i, k ≤ l.length ∧ k ≤ 30 ∧ m = 30 - k ∧ σ.slots 9 = .raw (.int .i64 (k : Int)) ∧ σ.slots 0 = .sl l.length (ints .i64 l) .bor ∧ σ.slots 7 = .raw (.bool true) ∧ σ.slots 1 = .raw (.int .i64 a) ∧ σ.slots 2 = .raw (.int .i64 t) ∧
        σ.slots 8 = .sl k (recsA (rowL l k)) (.own i 10) ∧ Free σ.used (σ.gen 40) 40 i) 30 ?_ ?_) ?_
      · refine ⟨0, ⟨0, 20, 0, 1⟩, by omega, by omega, by omega, ?_⟩
        simp (maxSteps := 1000000) (disch := first | omega | (simp only [nums_len, rowL_len, entT_len, lnB] <;> omega) | fail) only [ev0, ev1, ev2, ev3, ↓reduceIte, reduceCtorEq, zaa, zab, zac, zad, zae, zaf, zag, zah, zai, zaj, zak, zal, zam, zan, zao, zap, zaq, ↓zar, ↓zas, zat, zau, zav, zaw, zax, zay, zaz, zba, zbb, zbc, zbd, zbe, zbf, zbg, zbh, zbi, zbj, zbk, zbl, zbm, zbn, zbo, zbp, zbq, zbr, zbs, zbt, zbu, zbv, zbw, zbx, zby, zbz, zca, zcb, zcc, zcd, zce, zcf, zcg, zch, zci, zcj, zck, zcl, zcm, zcn, zco, zcp, zcq, zcr, zcs, zct, zcu, zcv, zcw, zcx, zcy, zcz, zda, zdb, zdc, zdd, zde, zdf, zdg, zdh, zdi, zdj, zdk, zdl, zdm, ev5, tbNn0, globS, List.size_toArray, Array.size_empty, List.length_nil, List.map_nil, List.all_nil, Int.reduceBEq, Int.reduceBNe, beq_self_eq_true]
        exact ⟨rfl, rfl, rfl, fun _ _ => rfl, by simp⟩
      · rintro m ⟨sl, gn, bx, us⟩ ⟨k, i, hk, hk3, rfl, s9, s0, s7, s1, s2, s8, hf⟩
        dsimp only at s9 s0 s7 s1 s2 s8 hf
        have hf0 := hf.now
        by_cases c1 : k < l.length
        · by_cases c2 : k < 30
          · have d1 : decide ((k : Int) < (l.length : Int)) = true := decide_eq_true (by omega)
            have d2 : decide ((k : Int) < 30) = true := decide_eq_true (by omega)
            simp (maxSteps := 1000000) (disch := first | omega | (simp only [nums_len, rowL_len, entT_len, lnB] <;> omega) | fail) only [ev0, ev1, ev2, ev3, ↓reduceIte, reduceCtorEq, zaa, zab, zac, zad, zae, zaf, zag, zah, zai, zaj, zak, zal, zam, zan, zao, zap, zaq, ↓zar, ↓zas, zat, zau, zav, zaw, zax, zay, zaz, zba, zbb, zbc, zbd, zbe, zbf, zbg, zbh, zbi, zbj, zbk, zbl, zbm, zbn, zbo, zbp, zbq, zbr, zbs, zbt, zbu, zbv, zbw, zbx, zby, zbz, zca, zcb, zcc, zcd, zce, zcf, zcg, zch, zci, zcj, zck, zcl, zcm, zcn, zco, zcp, zcq, zcr, zcs, zct, zcu, zcv, zcw, zcx, zcy, zcz, zda, zdb, zdc, zdd, zde, zdf, zdg, zdh, zdi, zdj, zdk, zdl, zdm, ev5, tbNn0, globS, List.size_toArray, Array.size_empty, List.length_nil, List.map_nil, List.all_nil, Int.reduceBEq, Int.reduceBNe, beq_self_eq_true, s9, s0, s7, s1, s2, s8, hf0, d1, d2]
            refine ⟨30 - (k + 1), by omega, k + 1, ⟨0, 40, 0, gn 40 + 1⟩, by omega, by omega, rfl, rfl, ?_, hf.go⟩
            rw [rowL_succ]
          · have d1 : decide ((k : Int) < (l.length : Int)) = true := decide_eq_true (by omega)
            have d2 : decide ((k : Int) < 30) = false := decide_eq_false (by omega)
            simp (maxSteps := 1000000) (disch := first | omega | (simp only [nums_len, rowL_len, entT_len, lnB] <;> omega) | fail) only [ev0, ev1, ev2, ev3, ↓reduceIte, reduceCtorEq, zaa, zab, zac, zad, zae, zaf, zag, zah, zai, zaj, zak, zal, zam, zan, zao, zap, zaq, ↓zar, ↓zas, zat, zau, zav, zaw, zax, zay, zaz, zba, zbb, zbc, zbd, zbe, zbf, zbg, zbh, zbi, zbj, zbk, zbl, zbm, zbn, zbo, zbp, zbq, zbr, zbs, zbt, zbu, zbv, zbw, zbx, zby, zbz, zca, zcb, zcc, zcd, zce, zcf, zcg, zch, zci, zcj, zck, zcl, zcm, zcn, zco, zcp, zcq, zcr, zcs, zct, zcu, zcv, zcw, zcx, zcy, zcz, zda, zdb, zdc, zdd, zde, zdf, zdg, zdh, zdi, zdj, zdk, zdl, zdm, ev5, tbNn0, globS, List.size_toArray, Array.size_empty, List.length_nil, List.map_nil, List.all_nil, Int.reduceBEq, Int.reduceBNe, beq_self_eq_true, s9, s0, s7, s1, s2, s8, hf0, d1, d2]
            exact ⟨k, i, hk, hk3, rfl, hf0⟩
        · have d1 : decide ((k : Int) < (l.length : Int)) = false := decide_eq_false (by omega)
          simp (maxSteps := 1000000) (disch := first | omega | (simp only [nums_len, rowL_len, entT_len, lnB] <;> omega) | fail) only [ev0, ev1, ev2, ev3, ↓reduceIte, reduceCtorEq, zaa, zab, zac, zad, zae, zaf, zag, zah, zai, zaj, zak, zal, zam, zan, zao, zap, zaq, ↓zar, ↓zas, zat, zau, zav, zaw, zax, zay, zaz, zba, zbb, zbc, zbd, zbe, zbf, zbg, zbh, zbi, zbj, zbk, zbl, zbm, zbn, zbo, zbp, zbq, zbr, zbs, zbt, zbu, zbv, zbw, zbx, zby, zbz, zca, zcb, zcc, zcd, zce, zcf, zcg, zch, zci, zcj, zck, zcl, zcm, zcn, zco, zcp, zcq, zcr, zcs, zct, zcu, zcv, zcw, zcx, zcy, zcz, zda, zdb, zdc, zdd, zde, zdf, zdg, zdh, zdi, zdj, zdk, zdl, zdm, ev5, tbNn0, globS, List.size_toArray, Array.size_empty, List.length_nil, List.map_nil, List.all_nil, Int.reduceBEq, Int.reduceBNe, beq_self_eq_true, s9, s0, s7, s1, s2, s8, hf0, d1]
          exact ⟨k, i, hk, hk3, rfl, hf0⟩
      · rintro ⟨sl, gn, bx, us⟩ ⟨k, i, hk, hk3, s0, s7, s1, s2, s8, hf0⟩
        dsimp only at s0 s7 s1 s2 s8 hf0
        have hR := fun fl => rows_at (l := l) (k := k) (n := k) (fl := fl) rfl (by omega)
        have hz : ((k : Int) + 1 = 0) = False := eq_false (by omega)
        by_cases k0 : k = 0
        · rw [show stA (stT l k) .bor = [.raw (.int .i64 0), .raw (.int .i64 0), .raw (.int .i64 0), .raw (.int .i64 0), .raw (.int .i64 0), .raw (.slice none 0 0)] by rw [k0]; rfl] at hR
          have dk : ((0 : Int) != (k : Int)) = false := by rw [k0]; rfl
          have dl : decide ((0 : Int) < (k : Int)) = false := decide_eq_false (by omega)
          simp (maxSteps := 1000000) (disch := first | omega | (simp only [nums_len, rowL_len, entT_len, lnB] <;> omega) | fail) only [ev0, ev1, ev2, ev3, ↓reduceIte, reduceCtorEq, zaa, zab, zac, zad, zae, zaf, zag, zah, zai, zaj, zak, zal, zam, zan, zao, zap, zaq, ↓zar, ↓zas, zat, zau, zav, zaw, zax, zay, zaz, zba, zbb, zbc, zbd, zbe, zbf, zbg, zbh, zbi, zbj, zbk, zbl, zbm, zbn, zbo, zbp, zbq, zbr, zbs, zbt, zbu, zbv, zbw, zbx, zby, zbz, zca, zcb, zcc, zcd, zce, zcf, zcg, zch, zci, zcj, zck, zcl, zcm, zcn, zco, zcp, zcq, zcr, zcs, zct, zcu, zcv, zcw, zcx, zcy, zcz, zda, zdb, zdc, zdd, zde, zdf, zdg, zdh, zdi, zdj, zdk, zdl, zdm, ev5, tbNn0, globS, List.size_toArray, Array.size_empty, List.length_nil, List.map_nil, List.all_nil, Int.reduceBEq, Int.reduceBNe, beq_self_eq_true, s0, s7, s1, s2, s8, hf0, hR, dk]
          refine loopQ_cut 2 (fun σ => σ.slots 10 = .raw (.int .i64 (k : Int)) ∧ σ.slots 1 = .raw (.int .i64 a) ∧ σ.slots 2 = .raw (.int .i64 t) ∧ σ.slots 8 = .sl k (recsA (rowL l k)) (.own i 10) ∧ σ.used i = false) (loopQ_of (fun m σ => σ.slots 13 = .raw (.int .i64 0) ∧ σ.slots 10 = .raw (.int .i64 (k : Int)) ∧ σ.slots 1 = .raw (.int .i64 a) ∧ σ.slots 2 = .raw (.int .i64 t) ∧ σ.slots 8 = .sl k (recsA (rowL l k)) (.own i 10) ∧ σ.used i = false) 0 ?_ ?_) ?_
          · simp (maxSteps := 1000000) (disch := first | omega | (simp only [nums_len, rowL_len, entT_len, lnB] <;> omega) | fail) only [ev0, ev1, ev2, ev3, ↓reduceIte, reduceCtorEq, zaa, zab, zac, zad, zae, zaf, zag, zah, zai, zaj, zak, zal, zam, zan, zao, zap, zaq, ↓zar, ↓zas, zat, zau, zav, zaw, zax, zay, zaz, zba, zbb, zbc, zbd, zbe, zbf, zbg, zbh, zbi, zbj, zbk, zbl, zbm, zbn, zbo, zbp, zbq, zbr, zbs, zbt, zbu, zbv, zbw, zbx, zby, zbz, zca, zcb, zcc, zcd, zce, zcf, zcg, zch, zci, zcj, zck, zcl, zcm, zcn, zco, zcp, zcq, zcr, zcs, zct, zcu, zcv, zcw, zcx, zcy, zcz, zda, zdb, zdc, zdd, zde, zdf, zdg, zdh, zdi, zdj, zdk, zdl, zdm, ev5, tbNn0, globS, List.size_toArray, Array.size_empty, List.length_nil, List.map_nil, List.all_nil, Int.reduceBEq, Int.reduceBNe, beq_self_eq_true, s0, s7, s1, s2, s8, hf0, hR, dk]
          · rintro m ⟨sl, gn, bx, us⟩ ⟨s13, s10, s1, s2, s8, hf0⟩
            dsimp only at s13 s10 s1 s2 s8 hf0
            simp (maxSteps := 1000000) (disch := first | omega | (simp only [nums_len, rowL_len, entT_len, lnB] <;> omega) | fail) only [ev0, ev1, ev2, ev3, ↓reduceIte, reduceCtorEq, zaa, zab, zac, zad, zae, zaf, zag, zah, zai, zaj, zak, zal, zam, zan, zao, zap, zaq, ↓zar, ↓zas, zat, zau, zav, zaw, zax, zay, zaz, zba, zbb, zbc, zbd, zbe, zbf, zbg, zbh, zbi, zbj, zbk, zbl, zbm, zbn, zbo, zbp, zbq, zbr, zbs, zbt, zbu, zbv, zbw, zbx, zby, zbz, zca, zcb, zcc, zcd, zce, zcf, zcg, zch, zci, zcj, zck, zcl, zcm, zcn, zco, zcp, zcq, zcr, zcs, zct, zcu, zcv, zcw, zcx, zcy, zcz, zda, zdb, zdc, zdd, zde, zdf, zdg, zdh, zdi, zdj, zdk, zdl, zdm, ev5, tbNn0, globS, List.size_toArray, Array.size_empty, List.length_nil, List.map_nil, List.all_nil, Int.reduceBEq, Int.reduceBNe, beq_self_eq_true, s13, s10, s1, s2, s8, hf0, dl]
          · clear s0 s7 s1 s2 s8 hf0
            rintro ⟨sl, gn, bx, us⟩ ⟨s10, s1, s2, s8, hf0⟩
            dsimp only at s10 s1 s2 s8 hf0
            have fin : ∀ q : Nat, q ≤ k → (pf54 [.sl (k + 1) (recsA (rowL l k ++ [entR' ((q : Int) + 1) t])) .bor] = some (.tup [.agg [.raw (.int .i64 0), .raw (.int .i64 0), .raw (.int .i64 0), .raw (.int .i64 0), .raw (.int .i64 0), .sl (q + 1) (entsA (entT l q ++ [⟨t, 0, none, none⟩])) .bor], .raw (.int .i64 0)])) ∧
                (pf54 [.sl (q + 1) (recsA (rowL l q ++ [entR' ((q : Int) + 2) t])) .bor] = some (.tup [.agg [.raw (.int .i64 0), .raw (.int .i64 0), .raw (.int .i64 0), .raw (.int .i64 0), .raw (.int .i64 0), .raw (.slice none 0 0)], .raw (.int .i64 110)])) ∧
                ((entsA (entT l q ++ [⟨t, 0, none, none⟩])).drop (q * 4))[0]? = some (.raw (.int .i64 t)) ∧ (recsA (rowL l k)).take (q * 10) = recsA (rowL l q) := fun q hq => by
              refine ⟨?_, rows2_at rfl (by omega), ?_, by rw [recsA_take, rowL_take l hq]⟩
              · rw [rows1_at rfl (by omega) hq, stA_is, esA_some, List.length_append, entT_len]; rfl
              · have := ents_t (entT l q ++ [⟨t, 0, none, none⟩]) q (by rw [List.length_append, entT_len]; simp)
                rw [this, List.getD_eq_getElem?_getD, List.getElem?_append_right (by rw [entT_len]; exact Nat.le_refl _), entT_len]
                simp
            have dn : (t != t) = false := by simp
            by_cases ca : a < 0
            · have da := decide_eq_true ca
              obtain ⟨q, hq⟩ := Int.eq_ofNat_of_zero_le (show 0 ≤ (0 - (a + 1)) % ((k : Int) + 1) from Int.emod_nonneg _ (by omega))
              have hqk : q ≤ k := by have := Int.emod_lt_of_pos (0 - (a + 1)) (show 0 < (k : Int) + 1 by omega); omega
              obtain ⟨f1, f2, f3, f4⟩ := fin q hqk
              have dq : (((q + 1 : Nat) : Int) != ((q : Int) + 1)) = false := by simp
              simp (maxSteps := 1000000) (disch := first | omega | (simp only [nums_len, rowL_len, entT_len, lnB] <;> omega) | fail) only [ev0, ev1, ev2, ev3, ↓reduceIte, reduceCtorEq, zaa, zab, zac, zad, zae, zaf, zag, zah, zai, zaj, zak, zal, zam, zan, zao, zap, zaq, ↓zar, ↓zas, zat, zau, zav, zaw, zax, zay, zaz, zba, zbb, zbc, zbd, zbe, zbf, zbg, zbh, zbi, zbj, zbk, zbl, zbm, zbn, zbo, zbp, zbq, zbr, zbs, zbt, zbu, zbv, zbw, zbx, zby, zbz, zca, zcb, zcc, zcd, zce, zcf, zcg, zch, zci, zcj, zck, zcl, zcm, zcn, zco, zcp, zcq, zcr, zcs, zct, zcu, zcv, zcw, zcx, zcy, zcz, zda, zdb, zdc, zdd, zde, zdf, zdg, zdh, zdi, zdj, zdk, zdl, zdm, ev5, tbNn0, globS, List.size_toArray, Array.size_empty, List.length_nil, List.map_nil, List.all_nil, Int.reduceBEq, Int.reduceBNe, beq_self_eq_true, s10, s1, s2, s8, hf0, hz, da, hq, f1, f2, f3, f4, dq, dn]
              exact ResQ.same rfl
            · have da := decide_eq_false ca
              obtain ⟨q, hq⟩ := Int.eq_ofNat_of_zero_le (show 0 ≤ a % ((k : Int) + 1) from Int.emod_nonneg _ (by omega))
              have hqk : q ≤ k := by have := Int.emod_lt_of_pos a (show 0 < (k : Int) + 1 by omega); omega
              obtain ⟨f1, f2, f3, f4⟩ := fin q hqk
              have dq : (((q + 1 : Nat) : Int) != ((q : Int) + 1)) = false := by simp
              simp (maxSteps := 1000000) (disch := first | omega | (simp only [nums_len, rowL_len, entT_len, lnB] <;> omega) | fail) only [ev0, ev1, ev2, ev3, ↓reduceIte, reduceCtorEq, zaa, zab, zac, zad, zae, zaf, zag, zah, zai, zaj, zak, zal, zam, zan, zao, zap, zaq, ↓zar, ↓zas, zat, zau, zav, zaw, zax, zay, zaz, zba, zbb, zbc, zbd, zbe, zbf, zbg, zbh, zbi, zbj, zbk, zbl, zbm, zbn, zbo, zbp, zbq, zbr, zbs, zbt, zbu, zbv, zbw, zbx, zby, zbz, zca, zcb, zcc, zcd, zce, zcf, zcg, zch, zci, zcj, zck, zcl, zcm, zcn, zco, zcp, zcq, zcr, zcs, zct, zcu, zcv, zcw, zcx, zcy, zcz, zda, zdb, zdc, zdd, zde, zdf, zdg, zdh, zdi, zdj, zdk, zdl, zdm, ev5, tbNn0, globS, List.size_toArray, Array.size_empty, List.length_nil, List.map_nil, List.all_nil, Int.reduceBEq, Int.reduceBNe, beq_self_eq_true, s10, s1, s2, s8, hf0, hz, da, hq, f1, f2, f3, f4, dq, dn]
              exact ResQ.same rfl
        · rw [show stA (stT l k) .bor = [.raw (.int .i64 0), .raw (.int .i64 0), .raw (.int .i64 0), .raw (.int .i64 0), .raw (.int .i64 0), .sl k (entsA (entT l k)) .bor] by rw [stA_is, stT, if_neg k0]; simp only [esA, entT_len]] at hR
          have dk : ((k : Int) != (k : Int)) = false := by simp
          simp (maxSteps := 1000000) (disch := first | omega | (simp only [nums_len, rowL_len, entT_len, lnB] <;> omega) | fail) only [ev0, ev1, ev2, ev3, ↓reduceIte, reduceCtorEq, zaa, zab, zac, zad, zae, zaf, zag, zah, zai, zaj, zak, zal, zam, zan, zao, zap, zaq, ↓zar, ↓zas, zat, zau, zav, zaw, zax, zay, zaz, zba, zbb, zbc, zbd, zbe, zbf, zbg, zbh, zbi, zbj, zbk, zbl, zbm, zbn, zbo, zbp, zbq, zbr, zbs, zbt, zbu, zbv, zbw, zbx, zby, zbz, zca, zcb, zcc, zcd, zce, zcf, zcg, zch, zci, zcj, zck, zcl, zcm, zcn, zco, zcp, zcq, zcr, zcs, zct, zcu, zcv, zcw, zcx, zcy, zcz, zda, zdb, zdc, zdd, zde, zdf, zdg, zdh, zdi, zdj, zdk, zdl, zdm, ev5, tbNn0, globS, List.size_toArray, Array.size_empty, List.length_nil, List.map_nil, List.all_nil, Int.reduceBEq, Int.reduceBNe, beq_self_eq_true, s0, s7, s1, s2, s8, hf0, hR, dk]
          refine loopQ_cut 2 (fun σ => σ.slots 10 = .raw (.int .i64 (k : Int)) ∧ σ.slots 1 = .raw (.int .i64 a) ∧ σ.slots 2 = .raw (.int .i64 t) ∧ σ.slots 8 = .sl k (recsA (rowL l k)) (.own i 10) ∧ σ.used i = false) (loopQ_of (fun m σ => ∃ j, j ≤ k ∧ m = k - j ∧ σ.slots 0 = .sl l.length (ints .i64 l) .bor ∧ σ.slots 13 = .raw (.int .i64 (j : Int)) ∧ σ.slots 11 = .ptr (.own 0 11 (gn 11 + 1)) 0 ∧ σ.box (.own 0 11 (gn 11 + 1)) = some [.raw (.int .i64 0), .raw (.int .i64 0), .raw (.int .i64 0), .raw (.int .i64 0), .raw (.int .i64 0), .sl k (entsA (entT l k)) .bor] ∧ σ.slots 10 = .raw (.int .i64 (k : Int)) ∧ σ.slots 1 = .raw (.int .i64 a) ∧ σ.slots 2 = .raw (.int .i64 t) ∧ σ.slots 8 = .sl k (recsA (rowL l k)) (.own i 10) ∧ σ.used i = false) k ?_ ?_) ?_
          · refine ⟨0, by omega, by omega, ?_⟩
            simp (maxSteps := 1000000) (disch := first | omega | (simp only [nums_len, rowL_len, entT_len, lnB] <;> omega) | fail) only [ev0, ev1, ev2, ev3, ↓reduceIte, reduceCtorEq, zaa, zab, zac, zad, zae, zaf, zag, zah, zai, zaj, zak, zal, zam, zan, zao, zap, zaq, ↓zar, ↓zas, zat, zau, zav, zaw, zax, zay, zaz, zba, zbb, zbc, zbd, zbe, zbf, zbg, zbh, zbi, zbj, zbk, zbl, zbm, zbn, zbo, zbp, zbq, zbr, zbs, zbt, zbu, zbv, zbw, zbx, zby, zbz, zca, zcb, zcc, zcd, zce, zcf, zcg, zch, zci, zcj, zck, zcl, zcm, zcn, zco, zcp, zcq, zcr, zcs, zct, zcu, zcv, zcw, zcx, zcy, zcz, zda, zdb, zdc, zdd, zde, zdf, zdg, zdh, zdi, zdj, zdk, zdl, zdm, ev5, tbNn0, globS, List.size_toArray, Array.size_empty, List.length_nil, List.map_nil, List.all_nil, Int.reduceBEq, Int.reduceBNe, beq_self_eq_true, s0, s7, s1, s2, s8, hf0, hR, dk]
            rfl
          · rintro m ⟨sl, gn, bx, us⟩ ⟨j, hj, rfl, s0, s13, s11, b11, s10, s1, s2, s8, hf0⟩
            dsimp only at s0 s13 s11 b11 s10 s1 s2 s8 hf0
            simp (maxSteps := 1000000) (disch := first | omega | (simp only [nums_len, rowL_len, entT_len, lnB] <;> omega) | fail) only [ev0, ev1, ev2, ev3, ↓reduceIte, reduceCtorEq, zaa, zab, zac, zad, zae, zaf, zag, zah, zai, zaj, zak, zal, zam, zan, zao, zap, zaq, ↓zar, ↓zas, zat, zau, zav, zaw, zax, zay, zaz, zba, zbb, zbc, zbd, zbe, zbf, zbg, zbh, zbi, zbj, zbk, zbl, zbm, zbn, zbo, zbp, zbq, zbr, zbs, zbt, zbu, zbv, zbw, zbx, zby, zbz, zca, zcb, zcc, zcd, zce, zcf, zcg, zch, zci, zcj, zck, zcl, zcm, zcn, zco, zcp, zcq, zcr, zcs, zct, zcu, zcv, zcw, zcx, zcy, zcz, zda, zdb, zdc, zdd, zde, zdf, zdg, zdh, zdi, zdj, zdk, zdl, zdm, ev5, tbNn0, globS, List.size_toArray, Array.size_empty, List.length_nil, List.map_nil, List.all_nil, Int.reduceBEq, Int.reduceBNe, beq_self_eq_true, s0, s13, s11, b11, s10, s1, s2, s8, hf0]
            refine condQ_dec (fun hlt => ?_) (fun hge => ?_)
            · have hlt : j < k := by omega
              have e1 := ents_t (entT l k) j (by rw [entT_len]; exact hlt)
              rw [entT_at l hlt] at e1
              have dn : (l.getD j 0 != l.getD j 0) = false := by simp
              simp (maxSteps := 1000000) (disch := first | omega | (simp only [nums_len, rowL_len, entT_len, lnB] <;> omega) | fail) only [ev0, ev1, ev2, ev3, ↓reduceIte, reduceCtorEq, zaa, zab, zac, zad, zae, zaf, zag, zah, zai, zaj, zak, zal, zam, zan, zao, zap, zaq, ↓zar, ↓zas, zat, zau, zav, zaw, zax, zay, zaz, zba, zbb, zbc, zbd, zbe, zbf, zbg, zbh, zbi, zbj, zbk, zbl, zbm, zbn, zbo, zbp, zbq, zbr, zbs, zbt, zbu, zbv, zbw, zbx, zby, zbz, zca, zcb, zcc, zcd, zce, zcf, zcg, zch, zci, zcj, zck, zcl, zcm, zcn, zco, zcp, zcq, zcr, zcs, zct, zcu, zcv, zcw, zcx, zcy, zcz, zda, zdb, zdc, zdd, zde, zdf, zdg, zdh, zdi, zdj, zdk, zdl, zdm, ev5, tbNn0, globS, List.size_toArray, Array.size_empty, List.length_nil, List.map_nil, List.all_nil, Int.reduceBEq, Int.reduceBNe, beq_self_eq_true, s0, s13, s11, b11, s10, s1, s2, s8, hf0, e1, dn]
              exact ⟨k - (j + 1), by omega, j + 1, by omega, rfl, rfl⟩
            · simp (maxSteps := 1000000) (disch := first | omega | (simp only [nums_len, rowL_len, entT_len, lnB] <;> omega) | fail) only [ev0, ev1, ev2, ev3, ↓reduceIte, reduceCtorEq, zaa, zab, zac, zad, zae, zaf, zag, zah, zai, zaj, zak, zal, zam, zan, zao, zap, zaq, ↓zar, ↓zas, zat, zau, zav, zaw, zax, zay, zaz, zba, zbb, zbc, zbd, zbe, zbf, zbg, zbh, zbi, zbj, zbk, zbl, zbm, zbn, zbo, zbp, zbq, zbr, zbs, zbt, zbu, zbv, zbw, zbx, zby, zbz, zca, zcb, zcc, zcd, zce, zcf, zcg, zch, zci, zcj, zck, zcl, zcm, zcn, zco, zcp, zcq, zcr, zcs, zct, zcu, zcv, zcw, zcx, zcy, zcz, zda, zdb, zdc, zdd, zde, zdf, zdg, zdh, zdi, zdj, zdk, zdl, zdm, ev5, tbNn0, globS, List.size_toArray, Array.size_empty, List.length_nil, List.map_nil, List.all_nil, Int.reduceBEq, Int.reduceBNe, beq_self_eq_true, s0, s13, s11, b11, s10, s1, s2, s8, hf0]
          · clear s0 s7 s1 s2 s8 hf0
            rintro ⟨sl, gn, bx, us⟩ ⟨s10, s1, s2, s8, hf0⟩
            dsimp only at s10 s1 s2 s8 hf0
            have fin : ∀ q : Nat, q ≤ k → (pf54 [.sl (k + 1) (recsA (rowL l k ++ [entR' ((q : Int) + 1) t])) .bor] = some (.tup [.agg [.raw (.int .i64 0), .raw (.int .i64 0), .raw (.int .i64 0), .raw (.int .i64 0), .raw (.int .i64 0), .sl (q + 1) (entsA (entT l q ++ [⟨t, 0, none, none⟩])) .bor], .raw (.int .i64 0)])) ∧
                (pf54 [.sl (q + 1) (recsA (rowL l q ++ [entR' ((q : Int) + 2) t])) .bor] = some (.tup [.agg [.raw (.int .i64 0), .raw (.int .i64 0), .raw (.int .i64 0), .raw (.int .i64 0), .raw (.int .i64 0), .raw (.slice none 0 0)], .raw (.int .i64 110)])) ∧
                ((entsA (entT l q ++ [⟨t, 0, none, none⟩])).drop (q * 4))[0]? = some (.raw (.int .i64 t)) ∧ (recsA (rowL l k)).take (q * 10) = recsA (rowL l q) := fun q hq => by
              refine ⟨?_, rows2_at rfl (by omega), ?_, by rw [recsA_take, rowL_take l hq]⟩
              · rw [rows1_at rfl (by omega) hq, stA_is, esA_some, List.length_append, entT_len]; rfl
              · have := ents_t (entT l q ++ [⟨t, 0, none, none⟩]) q (by rw [List.length_append, entT_len]; simp)
                rw [this, List.getD_eq_getElem?_getD, List.getElem?_append_right (by rw [entT_len]; exact Nat.le_refl _), entT_len]
                simp
            have dn : (t != t) = false := by simp
            by_cases ca : a < 0
            · have da := decide_eq_true ca
              obtain ⟨q, hq⟩ := Int.eq_ofNat_of_zero_le (show 0 ≤ (0 - (a + 1)) % ((k : Int) + 1) from Int.emod_nonneg _ (by omega))
              have hqk : q ≤ k := by have := Int.emod_lt_of_pos (0 - (a + 1)) (show 0 < (k : Int) + 1 by omega); omega
              obtain ⟨f1, f2, f3, f4⟩ := fin q hqk
              have dq : (((q + 1 : Nat) : Int) != ((q : Int) + 1)) = false := by simp
              simp (maxSteps := 1000000) (disch := first | omega | (simp only [nums_len, rowL_len, entT_len, lnB] <;> omega) | fail) only [ev0, ev1, ev2, ev3, ↓reduceIte, reduceCtorEq, zaa, zab, zac, zad, zae, zaf, zag, zah, zai, zaj, zak, zal, zam, zan, zao, zap, zaq, ↓zar, ↓zas, zat, zau, zav, zaw, zax, zay, zaz, zba, zbb, zbc, zbd, zbe, zbf, zbg, zbh, zbi, zbj, zbk, zbl, zbm, zbn, zbo, zbp, zbq, zbr, zbs, zbt, zbu, zbv, zbw, zbx, zby, zbz, zca, zcb, zcc, zcd, zce, zcf, zcg, zch, zci, zcj, zck, zcl, zcm, zcn, zco, zcp, zcq, zcr, zcs, zct, zcu, zcv, zcw, zcx, zcy, zcz, zda, zdb, zdc, zdd, zde, zdf, zdg, zdh, zdi, zdj, zdk, zdl, zdm, ev5, tbNn0, globS, List.size_toArray, Array.size_empty, List.length_nil, List.map_nil, List.all_nil, Int.reduceBEq, Int.reduceBNe, beq_self_eq_true, s10, s1, s2, s8, hf0, hz, da, hq, f1, f2, f3, f4, dq, dn]
              exact ResQ.same rfl
            · have da := decide_eq_false ca
              obtain ⟨q, hq⟩ := Int.eq_ofNat_of_zero_le (show 0 ≤ a % ((k : Int) + 1) from Int.emod_nonneg _ (by omega))
              have hqk : q ≤ k := by have := Int.emod_lt_of_pos a (show 0 < (k : Int) + 1 by omega); omega
              obtain ⟨f1, f2, f3, f4⟩ := fin q hqk
              have dq : (((q + 1 : Nat) : Int) != ((q : Int) + 1)) = false := by simp
              simp (maxSteps := 1000000) (disch := first | omega | (simp only [nums_len, rowL_len, entT_len, lnB] <;> omega) | fail) only [ev0, ev1, ev2, ev3, ↓reduceIte, reduceCtorEq, zaa, zab, zac, zad, zae, zaf, zag, zah, zai, zaj, zak, zal, zam, zan, zao, zap, zaq, ↓zar, ↓zas, zat, zau, zav, zaw, zax, zay, zaz, zba, zbb, zbc, zbd, zbe, zbf, zbg, zbh, zbi, zbj, zbk, zbl, zbm, zbn, zbo, zbp, zbq, zbr, zbs, zbt, zbu, zbv, zbw, zbx, zby, zbz, zca, zcb, zcc, zcd, zce, zcf, zcg, zch, zci, zcj, zck, zcl, zcm, zcn, zco, zcp, zcq, zcr, zcs, zct, zcu, zcv, zcw, zcx, zcy, zcz, zda, zdb, zdc, zdd, zde, zdf, zdg, zdh, zdi, zdj, zdk, zdl, zdm, ev5, tbNn0, globS, List.size_toArray, Array.size_empty, List.length_nil, List.map_nil, List.all_nil, Int.reduceBEq, Int.reduceBNe, beq_self_eq_true, s10, s1, s2, s8, hf0, hz, da, hq, f1, f2, f3, f4, dq, dn]
              exact ResQ.same rfl
    · cases hr
  · cases hr
end Go.Proofs.YtddeffdgldjdjaaDoor.W
