/- The laws that hold the program against the document: what their walks come to. -/
import Derived.Test.YtjnmdphoaafjaaaVj
import Derived.Test.YtjnmdphoaafjaaaUo
namespace Go.Proofs.Ytjnmdphoaafjaaa
set_option linter.unusedSimpArgs false
set_option linter.unusedVariables false
set_option linter.defProp false
open Go Go.Abs
set_option maxHeartbeats 16000000
noncomputable def ER : Env := ((((EA.know 49 (fun xs => pf49 (xs.map norm))).know 51 (fun xs => pf51 (xs.map norm))).know 55 (fun xs => pf55 (xs.map norm))).know 54 (fun xs => pf54 (xs.map norm)))
theorem okR : EnvOK Try.prog ER := ((((okA.know sound49.norm).know sound51.norm).know sound55.norm).know sound54.norm)
theorem ER_te : ER.te = te := rfl
theorem ER_glob : ER.glob = glob := rfl
theorem ER_gs : ER.gs = [] := rfl
theorem ER_dyn : ER.dyn = false := rfl
theorem ER_mu (d : Nat) : ER.mu d = false := rfl
theorem ER_x : ER.tbl 48 = some (.val (fun xs => pf48 (xs.map norm))) := rfl
theorem ER_t : ER.tbl 50 = some (.val (fun xs => pf50 (xs.map norm))) := rfl
theorem ER_s : ER.tbl 52 = some (.val (fun xs => pf52 (xs.map norm))) := rfl
theorem ER_o : ER.tbl 53 = some (.val (fun xs => pf53 (xs.map norm))) := rfl
theorem ER_f : ER.tbl 47 = some (.val (fun xs => pf47 (xs.map norm))) := rfl
theorem ER_w : ER.tbl 46 = some (.val pf46) := rfl
theorem ER_x4 : ER.tbl 49 = some (.val (fun xs => pf49 (xs.map norm))) := rfl
theorem ER_t4 : ER.tbl 51 = some (.val (fun xs => pf51 (xs.map norm))) := rfl
theorem ER_s4 : ER.tbl 55 = some (.val (fun xs => pf55 (xs.map norm))) := rfl
theorem ER_o4 : ER.tbl 54 = some (.val (fun xs => pf54 (xs.map norm))) := rfl
theorem seal4_at {k n : List (BitVec 8)} {m m' : Nat} {a b : List (BitVec 8)} {fl fl' : Fl} (hk : k.length = 32) (hn : n.length = 12) (hm : m = a.length) (hm' : m' = b.length) (ha : a.length ≤ 400000) (hb : b.length ≤ 400000) : pf55 [.agg (nums .u8 k), .agg (nums .u8 n), .sl m (nums .u8 a) fl, .sl m' (nums .u8 b) fl'] = some (.sl (sealB k n a b).length (nums .u8 (sealB k n a b)) (.own ⟨0, 0, 0, 0⟩ 1)) := by
  have hc : a.length ≤ 400000 ∧ b.length ≤ 400000 := ⟨ha, hb⟩
  simp only [pf55, agg?_at hk, agg?_at hn, row?_at hm, row?_at hm', Option.bind_some, if_pos hc]
theorem open4_at {k n : List (BitVec 8)} {m m' : Nat} {a b : List (BitVec 8)} {fl fl' : Fl} (hk : k.length = 32) (hn : n.length = 12) (hm : m = a.length) (hm' : m' = b.length) (ha : a.length ≤ 400000) (hb : b.length ≤ 400000) : pf54 [.agg (nums .u8 k), .agg (nums .u8 n), .sl m (nums .u8 a) fl, .sl m' (nums .u8 b) fl'] = some (.tup [.sl (openT k n a b).length (nums .u8 (openT k n a b)) .bor, .raw (.int .i64 (openE k n a b))]) := by
  have hc : a.length ≤ 400000 ∧ b.length ≤ 400000 := ⟨ha, hb⟩
  simp only [pf54, agg?_at hk, agg?_at hn, row?_at hm, row?_at hm', Option.bind_some, if_pos hc]
theorem eq75 {op : BinOp} (l m : List (BitVec 8)) (hl : l.length = 16) (hm : m.length = 16) : binV te op 75 (.agg (nums .u8 l)) (.agg (nums .u8 m)) = eqNeg op (l == m) := bin_agg l m rfl te5 hl hm
noncomputable def pf11 : List AV → Option AV
  | [v, u, w] => (bk? v).bind fun c => (num? .u32 32 u).bind fun f => (row? .u8 8 w).bind fun t => if t.length ≤ 9223372036854775807 then some (.raw (.bool true)) else none
  | _ => none
def tbVk0 := (And.intro (And.intro (And.intro (And.intro (And.intro @teE @ER_te) (And.intro @ER_glob @ER_gs)) (And.intro (And.intro @ER_dyn @ER_mu) (And.intro @ER_x @ER_t))) (And.intro (And.intro (And.intro @ER_s @ER_o) (And.intro @ER_f @ER_w)) (And.intro (And.intro @ER_x4 @ER_t4) (And.intro @ER_s4 (And.intro @ER_o4 @shown_at))))) (And.intro (And.intro (And.intro (And.intro @few_at @gseal_at) (And.intro @gopen_at @gtag_at)) (And.intro (And.intro @gxor_at @xor4_at) (And.intro @tag4_at (And.intro @seal4_at @open4_at)))) (And.intro (And.intro (And.intro @eq75 @bkA_strip) (And.intro @bkA_key @bkA_nonce)) (And.intro (And.intro @bkA_a @nums_strip) (And.intro @tagB_len (And.intro @gxorB_len @sealB_len))))))
theorem sound11 : SoundV Try.prog glob 11 pf11 := by
  refine SoundV.walk ER okR mixed Try.func11 rfl Try.call11 (by kernel_rfl) ?_
  intro args r hr
  unfold pf11 at hr
  split at hr
  · rename_i v u w
    simp only [Option.bind_eq_some_iff] at hr
    obtain ⟨c, h1, f, h3, t, h2, hr⟩ := hr
    split at hr
    · rename_i ht
      cases hr
      obtain ⟨rfl, hok⟩ := bk?_of h1
      obtain ⟨fl, rfl⟩ := row?_of h2
      have lB := bkA_len hok
      obtain ⟨hk, hn, ha⟩ := hok
      rw [num?_of h3, Try.ntmps11, Try.results11]
      refine ⟨by simp, ?_⟩
      have e1 : gxorB c.k c.n f (gxorB c.k c.n f (t.take 1000)) = t.take 1000 := gxor_inv hn
      simp (maxSteps := 1000000) (disch := first | omega | (simp only [gxorB_len, tagB_len, sealB_len, lnB] <;> omega) | fail) only [ev0, ev1, ev2, ev3, ↓reduceIte, reduceCtorEq, Nat.reduceAdd, Nat.reduceSub, Nat.reduceMul, Nat.reduceLT, Nat.reduceLeDiff, Nat.reduceEqDiff, Nat.reduceBEq, BitVec.reduceOfInt, Int.reduceLE, Int.reduceLT, Int.reduceGT, Int.reduceGE, Int.reduceNeg, Int.reduceAdd, Int.reduceSub, Int.reduceMul, Int.reduceToNat, ↓bind_go, ↓map_go, wantedV, isWrite, grow, write, ofV, AV.cells, Abs.start, Abs.strip, endQ, resV, rawsRes, rawRes, exports, export1, AS.grown, AS.put, Env.know, Env.boxed, isSelf, convSelf, convV, loadV, storeV, fieldAddrV, fieldV, indexAddrV, indexV, partV, isAggK, isStr, place, lenV, min2V, makeV, freshSl, sliceV, boundOr, bound, bounds, cutFl, copyV, slCells, srcV, appendV, room, zerosOf, eqNeg, kd, takeR, hasViewL, hasView, freshR, freshC, snapAll, snap, snapL, flatL, pureL, pureA, fillC, arrOK, oneA, partB, AV.laid, ren1, CR.gr, applyW, useL, AS.mute, isGen, startG, ev5, tbVk0, glob, hk, hn, lB, e1]
      exact ResQ.same rfl
    · cases hr
  · cases hr
noncomputable def pf12 : List AV → Option AV
  | [v, w] => (bk? v).bind fun c => (row? .u8 8 w).bind fun t => if t.length ≤ 9223372036854775807 then some (.raw (.bool true)) else none
  | _ => none
theorem sound12 : SoundV Try.prog glob 12 pf12 := by
  refine SoundV.walk ER okR mixed Try.func12 rfl Try.call12 (by kernel_rfl) ?_
  intro args r hr
  unfold pf12 at hr
  split at hr
  · rename_i v w
    simp only [Option.bind_eq_some_iff] at hr
    obtain ⟨c, h1, t, h2, hr⟩ := hr
    split at hr
    · rename_i ht
      cases hr
      obtain ⟨rfl, hok⟩ := bk?_of h1
      obtain ⟨fl, rfl⟩ := row?_of h2
      have lB := bkA_len hok
      obtain ⟨hk, hn, ha⟩ := hok
      rw [Try.ntmps12, Try.results12]
      refine ⟨by simp, ?_⟩
      simp (maxSteps := 1000000) (disch := first | omega | (simp only [gxorB_len, tagB_len, sealB_len, lnB] <;> omega) | fail) only [ev0, ev1, ev2, ev3, ↓reduceIte, reduceCtorEq, Nat.reduceAdd, Nat.reduceSub, Nat.reduceMul, Nat.reduceLT, Nat.reduceLeDiff, Nat.reduceEqDiff, Nat.reduceBEq, BitVec.reduceOfInt, Int.reduceLE, Int.reduceLT, Int.reduceGT, Int.reduceGE, Int.reduceNeg, Int.reduceAdd, Int.reduceSub, Int.reduceMul, Int.reduceToNat, ↓bind_go, ↓map_go, wantedV, isWrite, grow, write, ofV, AV.cells, Abs.start, Abs.strip, endQ, resV, rawsRes, rawRes, exports, export1, AS.grown, AS.put, Env.know, Env.boxed, isSelf, convSelf, convV, loadV, storeV, fieldAddrV, fieldV, indexAddrV, indexV, partV, isAggK, isStr, place, lenV, min2V, makeV, freshSl, sliceV, boundOr, bound, bounds, cutFl, copyV, slCells, srcV, appendV, room, zerosOf, eqNeg, kd, takeR, hasViewL, hasView, freshR, freshC, snapAll, snap, snapL, flatL, pureL, pureA, fillC, arrOK, oneA, partB, AV.laid, ren1, CR.gr, applyW, useL, AS.mute, isGen, startG, ev5, tbVk0, glob, hk, hn, lB]
      exact ResQ.same rfl
    · cases hr
  · cases hr
noncomputable def pf13 : List AV → Option AV
  | [v, u, w] => (bk? v).bind fun c => (row? .u8 8 u).bind fun x => (row? .u8 8 w).bind fun t => if x.length ≤ 9223372036854775807 ∧ t.length ≤ 9223372036854775807 then some (.raw (.bool true)) else none
  | _ => none
theorem sound13 : SoundV Try.prog glob 13 pf13 := by
  refine SoundV.walk ER okR mixed Try.func13 rfl Try.call13 (by kernel_rfl) ?_
  intro args r hr
  unfold pf13 at hr
  split at hr
  · rename_i v u w
    simp only [Option.bind_eq_some_iff] at hr
    obtain ⟨c, h1, x, h3, t, h2, hr⟩ := hr
    split at hr
    · rename_i ht
      cases hr
      obtain ⟨rfl, hok⟩ := bk?_of h1
      obtain ⟨fl, rfl⟩ := row?_of h2
      obtain ⟨fl', rfl⟩ := row?_of h3
      have lB := bkA_len hok
      obtain ⟨hk, hn, ha⟩ := hok
      obtain ⟨hx, ht⟩ := ht
      rw [Try.ntmps13, Try.results13]
      refine ⟨by simp, ?_⟩
      simp (maxSteps := 1000000) (disch := first | omega | (simp only [gxorB_len, tagB_len, sealB_len, lnB] <;> omega) | fail) only [ev0, ev1, ev2, ev3, ↓reduceIte, reduceCtorEq, Nat.reduceAdd, Nat.reduceSub, Nat.reduceMul, Nat.reduceLT, Nat.reduceLeDiff, Nat.reduceEqDiff, Nat.reduceBEq, BitVec.reduceOfInt, Int.reduceLE, Int.reduceLT, Int.reduceGT, Int.reduceGE, Int.reduceNeg, Int.reduceAdd, Int.reduceSub, Int.reduceMul, Int.reduceToNat, ↓bind_go, ↓map_go, wantedV, isWrite, grow, write, ofV, AV.cells, Abs.start, Abs.strip, endQ, resV, rawsRes, rawRes, exports, export1, AS.grown, AS.put, Env.know, Env.boxed, isSelf, convSelf, convV, loadV, storeV, fieldAddrV, fieldV, indexAddrV, indexV, partV, isAggK, isStr, place, lenV, min2V, makeV, freshSl, sliceV, boundOr, bound, bounds, cutFl, copyV, slCells, srcV, appendV, room, zerosOf, eqNeg, kd, takeR, hasViewL, hasView, freshR, freshC, snapAll, snap, snapL, flatL, pureL, pureA, fillC, arrOK, oneA, partB, AV.laid, ren1, CR.gr, applyW, useL, AS.mute, isGen, startG, ev5, tbVk0, glob, hk, hn, lB]
      exact ResQ.same rfl
    · cases hr
  · cases hr
end Go.Proofs.Ytjnmdphoaafjaaa
