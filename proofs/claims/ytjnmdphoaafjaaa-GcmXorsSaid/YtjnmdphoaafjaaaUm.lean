/- The law's few, and the document's examples: what the walks come to. -/
import Derived.Test.YtjnmdphoaafjaaaUl
namespace Go.Proofs.Ytjnmdphoaafjaaa
set_option linter.unusedSimpArgs false
set_option linter.unusedVariables false
set_option linter.defProp false
open Go Go.Abs
set_option maxHeartbeats 16000000
def pf47 : List AV → Option AV
  | [v] => (row? .u8 8 v).bind fun b => if b.length ≤ 9223372036854775807 then some (.sl (b.take 1000).length (nums .u8 (b.take 1000)) .bor) else none
  | _ => none
theorem few_at {n : Nat} {b : List (BitVec 8)} {fl : Fl} (h : n = b.length) (h2 : b.length ≤ 9223372036854775807) : pf47 [.sl n (nums .u8 b) fl] = some (.sl (b.take 1000).length (nums .u8 (b.take 1000)) .bor) := by
  simp only [pf47, row?_at h, Option.bind_some, if_pos h2]
def tbUm0 := (And.intro (And.intro @teE (And.intro @E0_te @E0_glob)) (And.intro @E0_gs (And.intro @E0_dyn @E0_mu)))
theorem sound47 : SoundV Try.prog glob 47 pf47 := by
  refine SoundV.walk E0 ok0 mixed Try.func47 rfl Try.call47 (by kernel_rfl) ?_
  intro args r hr
  unfold pf47 at hr
  split at hr
  · rename_i v
    simp only [Option.bind_eq_some_iff] at hr
    obtain ⟨b, h1, hr⟩ := hr
    split at hr
    · rename_i hc
      cases hr
      obtain ⟨fl, rfl⟩ := row?_of h1
      rw [Try.ntmps47, Try.results47]
      refine ⟨by simp, ?_⟩
      by_cases h : b.length > 1000
      · have e1 : decide ((b.length : Int) > 1000) = true := decide_eq_true (by omega)
        simp (maxSteps := 1000000) (disch := first | omega | (simp only [nums_len, lnB] <;> omega) | fail) only [ev0, ev1, ev2, ev3, ↓reduceIte, reduceCtorEq, Nat.reduceAdd, Nat.reduceSub, Nat.reduceMul, Nat.reduceLT, Nat.reduceLeDiff, Nat.reduceEqDiff, Nat.reduceBEq, BitVec.reduceOfInt, Int.reduceLE, Int.reduceLT, Int.reduceGT, Int.reduceGE, Int.reduceNeg, Int.reduceAdd, Int.reduceSub, Int.reduceMul, Int.reduceToNat, ↓bind_go, ↓map_go, wantedV, isWrite, grow, write, ofV, AV.cells, Abs.start, Abs.strip, endQ, resV, rawsRes, rawRes, exports, export1, AS.grown, AS.put, Env.know, Env.boxed, isSelf, convSelf, convV, loadV, storeV, fieldAddrV, fieldV, indexAddrV, indexV, partV, isAggK, isStr, place, lenV, min2V, makeV, freshSl, sliceV, boundOr, bound, bounds, cutFl, copyV, slCells, srcV, appendV, room, zerosOf, eqNeg, kd, takeR, hasViewL, hasView, freshR, freshC, snapAll, snap, snapL, flatL, pureL, pureA, fillC, arrOK, oneA, partB, AV.laid, ren1, CR.gr, applyW, useL, AS.mute, isGen, startG, ev5, tbUm0, glob, e1]
        rw [Nat.min_eq_left (by omega)]
        exact ResQ.same rfl
      · have e1 : decide ((b.length : Int) > 1000) = false := decide_eq_false (by omega)
        simp (maxSteps := 1000000) (disch := first | omega | (simp only [nums_len, lnB] <;> omega) | fail) only [ev0, ev1, ev2, ev3, ↓reduceIte, reduceCtorEq, Nat.reduceAdd, Nat.reduceSub, Nat.reduceMul, Nat.reduceLT, Nat.reduceLeDiff, Nat.reduceEqDiff, Nat.reduceBEq, BitVec.reduceOfInt, Int.reduceLE, Int.reduceLT, Int.reduceGT, Int.reduceGE, Int.reduceNeg, Int.reduceAdd, Int.reduceSub, Int.reduceMul, Int.reduceToNat, ↓bind_go, ↓map_go, wantedV, isWrite, grow, write, ofV, AV.cells, Abs.start, Abs.strip, endQ, resV, rawsRes, rawRes, exports, export1, AS.grown, AS.put, Env.know, Env.boxed, isSelf, convSelf, convV, loadV, storeV, fieldAddrV, fieldV, indexAddrV, indexV, partV, isAggK, isStr, place, lenV, min2V, makeV, freshSl, sliceV, boundOr, bound, bounds, cutFl, copyV, slCells, srcV, appendV, room, zerosOf, eqNeg, kd, takeR, hasViewL, hasView, freshR, freshC, snapAll, snap, snapL, flatL, pureL, pureA, fillC, arrOK, oneA, partB, AV.laid, ren1, CR.gr, applyW, useL, AS.mute, isGen, startG, ev5, tbUm0, glob, e1]
        exact ResQ.same rfl
    · cases hr
  · cases hr
noncomputable def E9 : Env := (((E8.know 52 (fun xs => pf52 (xs.map norm))).know 53 (fun xs => pf53 (xs.map norm))).know 47 (fun xs => pf47 (xs.map norm)))
theorem ok9 : EnvOK Try.prog E9 := (((ok8.know sound52.norm).know sound53.norm).know sound47.norm)
theorem E9_te : E9.te = te := rfl
theorem E9_glob : E9.glob = glob := rfl
theorem E9_gs : E9.gs = [] := rfl
theorem E9_dyn : E9.dyn = false := rfl
theorem E9_mu (d : Nat) : E9.mu d = false := rfl
theorem E9_x : E9.tbl 48 = some (.val (fun xs => pf48 (xs.map norm))) := rfl
theorem E9_t : E9.tbl 50 = some (.val (fun xs => pf50 (xs.map norm))) := rfl
theorem E9_s : E9.tbl 52 = some (.val (fun xs => pf52 (xs.map norm))) := rfl
theorem E9_o : E9.tbl 53 = some (.val (fun xs => pf53 (xs.map norm))) := rfl
theorem E9_f : E9.tbl 47 = some (.val (fun xs => pf47 (xs.map norm))) := rfl
theorem gseal_at {k n : List (BitVec 8)} {m m' : Nat} {a b : List (BitVec 8)} {fl fl' : Fl} (hk : k.length = 32) (hn : n.length = 12) (hm : m = a.length) (hm' : m' = b.length) (ha : a.length ≤ 400000) (hb : b.length ≤ 400000) : pf52 [.agg (nums .u8 k), .agg (nums .u8 n), .sl m (nums .u8 a) fl, .sl m' (nums .u8 b) fl'] = some (.sl (sealB k n a b).length (nums .u8 (sealB k n a b)) .bor) := by
  have hc : a.length ≤ 400000 ∧ b.length ≤ 400000 := ⟨ha, hb⟩
  simp only [pf52, agg?_at hk, agg?_at hn, row?_at hm, row?_at hm', Option.bind_some, if_pos hc]
theorem gopen_at {k n : List (BitVec 8)} {m m' : Nat} {a b : List (BitVec 8)} {fl fl' : Fl} (hk : k.length = 32) (hn : n.length = 12) (hm : m = a.length) (hm' : m' = b.length) (ha : a.length ≤ 400000) (hb : b.length ≤ 400000) : pf53 [.agg (nums .u8 k), .agg (nums .u8 n), .sl m (nums .u8 a) fl, .sl m' (nums .u8 b) fl'] = some (.tup [.sl (openT k n a b).length (nums .u8 (openT k n a b)) .bor, .raw (.int .i64 (openE k n a b))]) := by
  have hc : a.length ≤ 400000 ∧ b.length ≤ 400000 := ⟨ha, hb⟩
  simp only [pf53, agg?_at hk, agg?_at hn, row?_at hm, row?_at hm', Option.bind_some, if_pos hc]
def z32 : List (BitVec 8) := List.replicate 32 0#8
def z12 : List (BitVec 8) := List.replicate 12 0#8
def v1 : List (BitVec 8) := [83#8, 15#8, 138#8, 251#8, 199#8, 69#8, 54#8, 185#8, 169#8, 99#8, 180#8, 241#8, 196#8, 203#8, 115#8, 139#8]
def v2 : List (BitVec 8) := [206#8, 167#8, 64#8, 61#8, 77#8, 96#8, 107#8, 110#8, 7#8, 78#8, 197#8, 211#8, 186#8, 243#8, 157#8, 24#8, 208#8, 209#8, 200#8, 167#8, 153#8, 153#8, 107#8, 240#8, 38#8, 91#8, 152#8, 181#8, 212#8, 138#8, 185#8, 25#8]
theorem s1 : sealB z32 z12 [] [] = v1 := by decide +kernel
theorem s2 : sealB z32 z12 [] (List.replicate 16 0#8) = v2 := by decide +kernel
theorem sh1 {fl fl' : Fl} : pf52 [.agg (nums .u8 (List.replicate 32 0#8)), .agg (nums .u8 (List.replicate 12 0#8)), .sl 0 [] fl, .sl 0 [] fl'] = some (.sl 16 (nums .u8 v1) .bor) := by
  have := gseal_at (k := z32) (n := z12) (a := []) (b := []) (fl := fl) (fl' := fl') rfl rfl rfl rfl (by decide) (by decide)
  rw [s1] at this
  exact this
theorem sh2 {fl fl' : Fl} : pf52 [.agg (nums .u8 (List.replicate 32 0#8)), .agg (nums .u8 (List.replicate 12 0#8)), .sl 0 [] fl, .sl 16 (nums .u8 (List.replicate 16 0#8)) fl'] = some (.sl 32 (nums .u8 v2) .bor) := by
  have := gseal_at (k := z32) (n := z12) (a := []) (b := List.replicate 16 0#8) (fl := fl) (fl' := fl') rfl rfl rfl rfl (by decide) (by decide)
  rw [s2] at this
  exact this
theorem sh3 {fl fl' : Fl} : pf53 [.agg (nums .u8 (List.replicate 32 0#8)), .agg (nums .u8 (List.replicate 12 0#8)), .sl 0 [] fl, .sl 15 (nums .u8 (List.replicate 15 0#8)) fl'] = some (.tup [.sl 0 [] .bor, .raw (.int .i64 3)]) := by
  have := gopen_at (k := z32) (n := z12) (a := []) (b := List.replicate 15 0#8) (fl := fl) (fl' := fl') rfl rfl rfl rfl (by decide) (by decide)
  have e1 : openT z32 z12 [] (List.replicate 15 0#8) = [] := if_pos (by decide)
  have e2 : openE z32 z12 [] (List.replicate 15 0#8) = 3 := if_pos (by decide)
  rw [e1, e2] at this
  exact this
theorem v1_len : v1.length = 16 := rfl
theorem v2_len : v2.length = 32 := rfl
theorem st1 : (v1.map UInt8.ofBitVec == ([83, 15, 138, 251, 199, 69, 54, 185, 169, 99, 180, 241, 196, 203, 115, 139] : List UInt8)) = true := by decide
theorem st2 : (v2.map UInt8.ofBitVec == ([206, 167, 64, 61, 77, 96, 107, 110, 7, 78, 197, 211, 186, 243, 157, 24, 208, 209, 200, 167, 153, 153, 107, 240, 38, 91, 152, 181, 212, 138, 185, 25] : List UInt8)) = true := by decide
theorem apc {α : Type} (a : α) (l m : List α) : List.append (a :: l) m = a :: List.append l m := rfl
theorem apn {α : Type} (m : List α) : List.append [] m = m := rfl
theorem bq3 : ((3 : Int) == 3) = true := rfl
def pf46 : List AV → Option AV
  | [] => some (.raw (.bool true))
  | _ => none
set_option maxRecDepth 20000 in
theorem sound46 : SoundV Try.prog glob 46 pf46 := by
  refine SoundV.walk E9 ok9 mixed Try.func46 rfl Try.call46 (by kernel_rfl) ?_
  intro args r hr
  unfold pf46 at hr
  split at hr
  · cases hr
    rw [Try.ntmps46, Try.results46]
    refine ⟨by simp, ?_⟩
    simp (maxSteps := 1000000) (disch := first | omega | (simp only [nums_len, lnB] <;> omega) | fail) only [ev0, ev1, ev2, ev3, ↓reduceIte, reduceCtorEq, Nat.reduceAdd, Nat.reduceSub, Nat.reduceMul, Nat.reduceLT, Nat.reduceLeDiff, Nat.reduceEqDiff, Nat.reduceBEq, BitVec.reduceOfInt, Int.reduceLE, Int.reduceLT, Int.reduceGT, Int.reduceGE, Int.reduceNeg, Int.reduceAdd, Int.reduceSub, Int.reduceMul, Int.reduceToNat, ↓bind_go, ↓map_go, wantedV, isWrite, grow, write, ofV, AV.cells, Abs.start, Abs.strip, endQ, resV, rawsRes, rawRes, exports, export1, AS.grown, AS.put, Env.know, Env.boxed, isSelf, convSelf, convV, loadV, storeV, fieldAddrV, fieldV, indexAddrV, indexV, partV, isAggK, isStr, place, lenV, min2V, makeV, freshSl, sliceV, boundOr, bound, bounds, cutFl, copyV, slCells, srcV, appendV, room, zerosOf, eqNeg, kd, takeR, hasViewL, hasView, freshR, freshC, snapAll, snap, snapL, flatL, pureL, pureA, fillC, arrOK, oneA, partB, AV.laid, ren1, CR.gr, applyW, useL, AS.mute, isGen, startG, ev5, teE, E9_te, E9_glob, E9_gs, E9_dyn, E9_mu, E9_x, E9_t, E9_s, E9_o, E9_f, glob, sh1, sh2, sh3, bq3, v1_len, v2_len, st1, st2, apc, apn]
    exact ResQ.same rfl
  · cases hr
end Go.Proofs.Ytjnmdphoaafjaaa
