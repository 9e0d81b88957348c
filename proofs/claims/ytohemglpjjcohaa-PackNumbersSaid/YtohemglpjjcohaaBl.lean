/- The document's examples of layer 8, as the program's function checks them. -/
import Derived.Test.YtohemglpjjcohaaBk
namespace Go.Proofs.Ytohemglpjjcohaa
set_option linter.unusedSimpArgs false
set_option linter.unusedVariables false
open Go Go.Abs

def E8 : Env := (((((((((E7.know 13 (fun xs => pf28 (xs.map norm))).know 15 (fun xs => pf15 (xs.map norm))).know 16 (fun xs => pf15 (xs.map norm))).know 17 (fun xs => pf17 (xs.map norm))).know 18 (fun xs => pf17 (xs.map norm))).know 19 (fun xs => pf19 (xs.map norm))).know 20 (fun xs => pf20 (xs.map norm))).know 21 (fun xs => pf20 (xs.map norm))).know 22 (fun xs => pf22 (xs.map norm))).know 23 (fun xs => pf22 (xs.map norm))
theorem ok8 : EnvOK Try.prog E8 := (((((((((ok7.know sound13.norm).know sound15.norm).know sound16.norm).know sound17.norm).know sound18.norm).know sound19.norm).know sound20.norm).know sound21.norm).know sound22.norm).know sound23.norm
theorem E8_te : E8.te = te := rfl
theorem E8_glob : E8.glob = glob := rfl
theorem E8_mu (d : Nat) : E8.mu d = false := rfl
theorem E8_11 : E8.tbl 11 = some (.val (fun xs => pf11 (xs.map norm))) := rfl
theorem E8_12 : E8.tbl 12 = some (.val (fun xs => pf11 (xs.map norm))) := rfl
theorem E8_13 : E8.tbl 13 = some (.val (fun xs => pf28 (xs.map norm))) := rfl
theorem E8_14 : E8.tbl 14 = some (.val (fun xs => pf28 (xs.map norm))) := rfl
theorem E8_15 : E8.tbl 15 = some (.val (fun xs => pf15 (xs.map norm))) := rfl
theorem E8_16 : E8.tbl 16 = some (.val (fun xs => pf15 (xs.map norm))) := rfl
theorem E8_17 : E8.tbl 17 = some (.val (fun xs => pf17 (xs.map norm))) := rfl
theorem E8_18 : E8.tbl 18 = some (.val (fun xs => pf17 (xs.map norm))) := rfl
theorem E8_19 : E8.tbl 19 = some (.val (fun xs => pf19 (xs.map norm))) := rfl
theorem E8_20 : E8.tbl 20 = some (.val (fun xs => pf20 (xs.map norm))) := rfl
theorem E8_21 : E8.tbl 21 = some (.val (fun xs => pf20 (xs.map norm))) := rfl
theorem E8_22 : E8.tbl 22 = some (.val (fun xs => pf22 (xs.map norm))) := rfl
theorem E8_23 : E8.tbl 23 = some (.val (fun xs => pf22 (xs.map norm))) := rfl
theorem apc {α : Type} (a : α) (l m : List α) : List.append (a :: l) m = a :: List.append l m := rfl
theorem apn {α : Type} (m : List α) : List.append [] m = m := rfl
theorem rep2 (x : AV) : rep 2 [x] = [x, x] := rfl
theorem two_le (x y : AV) : (2 ≤ [x, y].length) = True := by simp
def o0 : Fl := .own ⟨0, 0, 0⟩ 1
theorem sh1 {fl : Fl} : pf11 [.sl 0 [] fl, .raw (.int .i64 0)] = some (.tup [.sl 1 (nums .u8 [0#8]) (.own ⟨0, 0, 0⟩ 1), .raw (.int .i64 0)]) := by
  have h : putB [] (0 : Int).toNat = [0#8] := by decide +kernel
  have := pf11_at (b := []) (fl := fl) (n := 0) rfl (by simp) (by decide) (by decide)
  rw [h] at this
  exact this
theorem sh2 {fl : Fl} : pf11 [.sl 0 [] fl, .raw (.int .i64 256)] = some (.tup [.sl 3 (nums .u8 [2#8, 1#8, 0#8]) (.own ⟨0, 0, 0⟩ 1), .raw (.int .i64 0)]) := by
  have h : putB [] (256 : Int).toNat = [2#8, 1#8, 0#8] := by decide +kernel
  have := pf11_at (b := []) (fl := fl) (n := 256) rfl (by simp) (by decide) (by decide)
  rw [h] at this
  exact this
theorem sh3 {fl : Fl} : pf11 [.sl 0 [] fl, .raw (.int .i64 (-1))] = some (.tup [.sl 0 [] (.own ⟨0, 0, 0⟩ 1), .raw (.int .i64 1)]) := by
  exact pf11_neg (b := []) (fl := fl) (n := -1) rfl (by simp) (by decide) (by decide)
theorem sh4 {fl : Fl} : pf28 [.sl 4 [.raw (.int .u8 2), .raw (.int .u8 1), .raw (.int .u8 0), .raw (.int .u8 97)] fl] = some (.tup [.raw (.int .i64 256), .sl 1 (nums .u8 [97#8]) .bor, .raw (.int .i64 0)]) := by
  have h1 : tkN [2#8, 1#8, 0#8, 97#8] = 256 := by decide +kernel
  have h2 : tkR [2#8, 1#8, 0#8, 97#8] = [97#8] := by decide +kernel
  have h3 : tkE [2#8, 1#8, 0#8, 97#8] = 0 := by decide +kernel
  have := pf28_at (b := [2#8, 1#8, 0#8, 97#8]) (fl := fl) rfl (by decide)
  rw [h1, h2, h3] at this
  exact this
theorem sh5 {fl : Fl} : pf28 [.sl 2 [.raw (.int .u8 1), .raw (.int .u8 0)] fl] = some (.tup [.raw (.int .i64 0), .sl 0 [] .bor, .raw (.int .i64 80)]) := by
  have h1 : tkN [1#8, 0#8] = 0 := by decide +kernel
  have h2 : tkR [1#8, 0#8] = [] := by decide +kernel
  have h3 : tkE [1#8, 0#8] = 80 := by decide +kernel
  have := pf28_at (b := [1#8, 0#8]) (fl := fl) rfl (by decide)
  rw [h1, h2, h3] at this
  exact this
theorem sh6 {fl : Fl} : pf28 [.sl 1 [.raw (.int .u8 9)] fl] = some (.tup [.raw (.int .i64 0), .sl 0 [] .bor, .raw (.int .i64 80)]) := by
  have h1 : tkN [9#8] = 0 := by decide +kernel
  have h2 : tkR [9#8] = [] := by decide +kernel
  have h3 : tkE [9#8] = 80 := by decide +kernel
  have := pf28_at (b := [9#8]) (fl := fl) rfl (by decide)
  rw [h1, h2, h3] at this
  exact this
theorem sh7 {fl : Fl} : pf28 [.sl 2 [.raw (.int .u8 2), .raw (.int .u8 1)] fl] = some (.tup [.raw (.int .i64 0), .sl 0 [] .bor, .raw (.int .i64 3)]) := by
  have h1 : tkN [2#8, 1#8] = 0 := by decide +kernel
  have h2 : tkR [2#8, 1#8] = [] := by decide +kernel
  have h3 : tkE [2#8, 1#8] = 3 := by decide +kernel
  have := pf28_at (b := [2#8, 1#8]) (fl := fl) rfl (by decide)
  rw [h1, h2, h3] at this
  exact this
theorem pf15_at {l l' : Nat} {b t : List (BitVec 8)} {fl fl' : Fl} (h : l = b.length) (h' : l' = t.length) (h2 : b.length ≤ 150000000000000) (h3 : t.length ≤ 4096) : pf15 [.sl l (nums .u8 b) fl, .sl l' (nums .u8 t) fl'] = some (.tup [.sl (putB b t.length ++ t).length (nums .u8 (putB b t.length ++ t)) (.own ⟨0, 0, 0⟩ 1), .raw (.int .i64 0)]) := by
  simp only [pf15, row?_at h, row?_at h', Option.bind_some, if_pos h2, if_neg (show ¬ t.length > 4096 by omega)]
theorem sh8 {fl fl' : Fl} : pf15 [.sl 0 [] fl, .sl 2 [.raw (.int .u8 97), .raw (.int .u8 98)] fl'] = some (.tup [.sl 4 (nums .u8 [1#8, 2#8, 97#8, 98#8]) (.own ⟨0, 0, 0⟩ 1), .raw (.int .i64 0)]) := by
  have h : putB [] ([97#8, 98#8] : List (BitVec 8)).length ++ [97#8, 98#8] = [1#8, 2#8, 97#8, 98#8] := by decide +kernel
  have := pf15_at (b := []) (t := [97#8, 98#8]) (fl := fl) (fl' := fl') rfl rfl (by decide) (by decide)
  rw [h] at this
  exact this
theorem pf17_at {n : Nat} {b : List (BitVec 8)} {m : Int} {fl : Fl} (h : n = b.length) (h2 : b.length ≤ 150000000000000) (h3 : i64ok m) : pf17 [.sl n (nums .u8 b) fl, .raw (.int .i64 m)] = some (.tup [.sl (ttT b m).length (nums .u8 (ttT b m)) .bor, .sl (ttR b m).length (nums .u8 (ttR b m)) .bor, .raw (.int .i64 (ttE b m : Int))]) := by
  simp only [pf17, row?_at h, int?_at, Option.bind_some, if_pos (And.intro h2 h3)]
theorem sh9 {fl : Fl} : pf17 [.sl 3 [.raw (.int .u8 1), .raw (.int .u8 2), .raw (.int .u8 97)] fl, .raw (.int .i64 9)] = some (.tup [.sl 0 [] .bor, .sl 0 [] .bor, .raw (.int .i64 3)]) := by
  have h1 : ttT [1#8, 2#8, 97#8] 9 = [] := by decide +kernel
  have h2 : ttR [1#8, 2#8, 97#8] 9 = [] := by decide +kernel
  have h3 : ttE [1#8, 2#8, 97#8] 9 = 3 := by decide +kernel
  have := pf17_at (b := [1#8, 2#8, 97#8]) (m := 9) (fl := fl) rfl (by decide) (by decide)
  rw [h1, h2, h3] at this
  exact this
theorem pf20_at {l l' : Nat} {b : List (BitVec 8)} {t : List Int} {fl fl' : Fl} (h : l = b.length) (h' : l' = t.length) (ht : ∀ n ∈ t, i64ok n) (h2 : b.length ≤ 1000000000) (h3 : t.length ≤ 4096) (h4 : neg t = false) : pf20 [.sl l (nums .u8 b) fl, .sl l' (ints .i64 t) fl'] = some (.tup [.sl (putL b t).length (nums .u8 (putL b t)) .bor, .raw (.int .i64 0)]) := by
  simp only [pf20, row?_at h, irow?_at h' ht, Option.bind_some, if_pos (And.intro h2 (show t.length ≤ 1000000000 by omega)), if_neg (show ¬ t.length > 4096 by omega), if_neg (show ¬ neg t = true by rw [h4]; decide)]
theorem pf20_neg {l l' : Nat} {b : List (BitVec 8)} {t : List Int} {fl fl' : Fl} (h : l = b.length) (h' : l' = t.length) (ht : ∀ n ∈ t, i64ok n) (h2 : b.length ≤ 1000000000) (h3 : t.length ≤ 4096) (h4 : neg t = true) : pf20 [.sl l (nums .u8 b) fl, .sl l' (ints .i64 t) fl'] = some (.tup [.sl 0 [] .bor, .raw (.int .i64 1)]) := by
  simp only [pf20, row?_at h, irow?_at h' ht, Option.bind_some, if_pos (And.intro h2 (show t.length ≤ 1000000000 by omega)), if_neg (show ¬ t.length > 4096 by omega), if_pos h4]
theorem pf22_at {n : Nat} {b : List (BitVec 8)} {m : Int} {fl : Fl} (h : n = b.length) (h2 : b.length ≤ 150000000000000) (h3 : -9223372036854775808 ≤ m ∧ m ≤ 1000000) : pf22 [.sl n (nums .u8 b) fl, .raw (.int .i64 m)] = some (.tup [.sl (tlL b m).length (ints .i64 (tlL b m)) .bor, .sl (tlR b m).length (nums .u8 (tlR b m)) .bor, .raw (.int .i64 (tlE b m : Int))]) := by
  simp only [pf22, row?_at h, int?_at, Option.bind_some, if_pos (And.intro h2 h3)]
theorem sh10 {fl fl' : Fl} : pf20 [.sl 0 [] fl, .sl 2 [.raw (.int .i64 0), .raw (.int .i64 5)] fl'] = some (.tup [.sl 5 (nums .u8 [1#8, 2#8, 0#8, 1#8, 5#8]) .bor, .raw (.int .i64 0)]) := by
  have h : putL [] [0, 5] = [1#8, 2#8, 0#8, 1#8, 5#8] := by decide +kernel
  have := pf20_at (b := []) (t := [0, 5]) (fl := fl) (fl' := fl') rfl rfl (by decide) (by decide) (by decide) (by decide)
  rw [h] at this
  exact this
theorem st1 : ([UInt8.ofBitVec 0#8] == ([0] : List UInt8)) = true := by decide
theorem st2 : ([UInt8.ofBitVec 2#8, UInt8.ofBitVec 1#8, UInt8.ofBitVec 0#8] == ([2, 1, 0] : List UInt8)) = true := by decide
theorem st4 : ([UInt8.ofBitVec 97#8] == ([97] : List UInt8)) = true := by decide
theorem st8 : ([UInt8.ofBitVec 1#8, UInt8.ofBitVec 2#8, UInt8.ofBitVec 97#8, UInt8.ofBitVec 98#8] == ([1, 2, 97, 98] : List UInt8)) = true := by decide
theorem st10 : ([UInt8.ofBitVec 1#8, UInt8.ofBitVec 2#8, UInt8.ofBitVec 0#8, UInt8.ofBitVec 1#8, UInt8.ofBitVec 5#8] == ([1, 2, 0, 1, 5] : List UInt8)) = true := by decide
theorem bq0 : ((0 : Int) == 0) = true := rfl
theorem bq1 : ((1 : Int) == 1) = true := rfl
theorem bq3 : ((3 : Int) == 3) = true := rfl
theorem bq80 : ((80 : Int) == 80) = true := rfl
theorem bq256 : ((256 : Int) == 256) = true := rfl
def pf10 : List AV → Option AV
  | [] => some (.raw (.bool true))
  | _ => none
set_option maxHeartbeats 8000000
set_option maxRecDepth 20000
theorem sound10 : SoundV Try.prog glob 10 pf10 := by
  refine SoundV.walk E8 ok8 mixed Try.func10 rfl Try.call10 (by kernel_rfl) ?_
  intro args r hr
  unfold pf10 at hr
  split at hr
  · cases hr
    rw [Try.ntmps10, Try.results10]
    refine ⟨by simp, ?_⟩
    simp (maxSteps := 1000000) (disch := first | omega | (simp only [nums_len, nums_len, List.length_cons, List.length_nil, List.length_append, List.length_take, List.length_drop, List.length_replicate, List.length_set, List.length_map] <;> omega) | fail) only [ev0, ev1, ev2, ev3, ↓reduceIte, reduceCtorEq, Nat.reduceAdd, Nat.reduceSub, Nat.reduceMul, Nat.reduceLT, Nat.reduceLeDiff, Nat.reduceEqDiff, Nat.reduceBEq, BitVec.reduceOfInt, Int.reduceLE, Int.reduceLT, Int.reduceGT, Int.reduceGE, Int.reduceNeg, Int.reduceAdd, Int.reduceSub, Int.reduceMul, Int.reduceToNat, ↓bind_go, ↓map_go, wantedV, isWrite, grow, write, ofV, AV.cells, Abs.start, Abs.strip, endQ, resV, rawsRes, rawRes, exports, export1, AS.grown, AS.put, Env.know, Env.boxed, isSelf, convSelf, convV, loadV, storeV, fieldAddrV, fieldV, indexAddrV, indexV, partV, isAggK, isStr, place, lenV, min2V, makeV, freshSl, sliceV, boundOr, bound, bounds, cutFl, copyV, slCells, srcV, appendV, room, zerosOf, eqNeg, kd, takeR, hasViewL, hasView, freshR, freshC, snapAll, snap, snapL, flatL, pureL, pureA, fillC, arrOK, oneA, te2, te3, te4, te5, te9, te22, te24, te36, te46, te52, te54, E8_te, E8_glob, E8_mu, E8_11, E8_13, E8_15, E8_17, E8_20, glob, ev4, undef_is, sh1, sh2, sh3, sh4, sh5, sh6, sh7, sh8, sh9, sh10, st1, st2, st4, st8, st10, bq0, bq1, bq3, bq80, bq256, rep2, two_le, apc, apn]
    exact ResQ.same rfl
  · cases hr
end Go.Proofs.Ytohemglpjjcohaa
