/- Texts are taken from the front of bytes; rows of numbers: what the walks come to. -/
import Derived.Test.YtohemglpjjcohaaBg
namespace Go.Proofs.Ytohemglpjjcohaa
set_option linter.unusedSimpArgs false
set_option linter.unusedVariables false
open Go Go.Abs

/-- what a text's taking answers: the errno, the text, what is behind -/
def ttE (b : List (BitVec 8)) (m : Int) : Nat := if tkE b ≠ 0 then tkE b else if (tkN b : Int) > m then 2 else if tkN b > (tkR b).length then 3 else 0
def ttT (b : List (BitVec 8)) (m : Int) : List (BitVec 8) := if ttE b m = 0 then (tkR b).take (tkN b) else []
def ttR (b : List (BitVec 8)) (m : Int) : List (BitVec 8) := if ttE b m = 0 then (tkR b).drop (tkN b) else []
def pf17 : List AV → Option AV
  | [v, w] => (row? .u8 8 v).bind fun b => (int? w).bind fun m => if b.length ≤ 150000000000000 ∧ i64ok m then
      some (.tup [.sl (ttT b m).length (nums .u8 (ttT b m)) .bor, .sl (ttR b m).length (nums .u8 (ttR b m)) .bor, .raw (.int .i64 (ttE b m : Int))]) else none
  | _ => none
theorem mem1 {a b c d e f : Nat} (h : a ≠ d) : ((⟨a, b, c⟩ : Abs.Id) ∈ [(⟨d, e, f⟩ : Abs.Id)]) = False := by
  rw [List.mem_singleton]; exact eq_false fun h2 => h (by cases h2; rfl)
theorem resQ_4nil {v : Value} : ResQ (some (.tup [.raw (.slice none 0 0), .raw (.slice none 0 0), .raw v])) (.tup [.sl 0 [] .bor, .sl 0 [] .bor, .raw v]) :=
  ⟨_, rfl, .tup rfl fun j x r hx hr => by
    match j with
    | 0 => simp at hx hr; subst hx hr; exact .nilb _
    | 1 => simp at hx hr; subst hx hr; exact .nilb _
    | 2 => simp at hx hr; subst hx hr; exact .same _ _
    | j + 3 => simp at hx⟩
theorem resQ_4 {v : Value} {n m : Nat} {xs ys : List AV} {fl gl : Fl} : ResQ (some (.tup [.sl n xs fl, .sl m ys gl, .raw v])) (.tup [.sl n xs .bor, .sl m ys .bor, .raw v]) :=
  ⟨_, rfl, .tup rfl fun j x r hx hr => by
    match j with
    | 0 => simp at hx hr; subst hx hr; exact .bor _ _ _ _
    | 1 => simp at hx hr; subst hx hr; exact .bor _ _ _ _
    | 2 => simp at hx hr; subst hx hr; exact .same _ _
    | j + 3 => simp at hx⟩
theorem tt_no {b : List (BitVec 8)} {m : Int} {e : Nat} (h : ttE b m = e) (h0 : e ≠ 0) : AV.tup [.sl (ttT b m).length (nums .u8 (ttT b m)) .bor, .sl (ttR b m).length (nums .u8 (ttR b m)) .bor, .raw (.int .i64 (ttE b m : Int))] = .tup [.sl 0 [] .bor, .sl 0 [] .bor, .raw (.int .i64 (e : Int))] := by
  have h1 : ttT b m = [] := by rw [ttT, if_neg (by omega)]
  have h2 : ttR b m = [] := by rw [ttR, if_neg (by omega)]
  rw [h1, h2, h]
  rfl
set_option maxHeartbeats 4000000
theorem sound17 : SoundV Try.prog glob 17 pf17 := by
  refine SoundV.walk E4 ok4 mixed Try.func17 rfl Try.call17 (by kernel_rfl) ?_
  intro args r hr
  unfold pf17 at hr
  split at hr
  · simp only [Option.bind_eq_some_iff] at hr
    obtain ⟨b, h1, m, h2, hr⟩ := hr
    split at hr
    · rename_i hc
      obtain ⟨hc, hm⟩ := hc
      unfold i64ok at hm
      cases hr
      obtain ⟨fl, rfl⟩ := row?_of h1
      rw [int?_of h2, Try.ntmps17, Try.results17]
      refine ⟨by simp, ?_⟩
      have hE : ttE b m = if tkE b ≠ 0 then tkE b else if (tkN b : Int) > m then 2 else if tkN b > (tkR b).length then 3 else 0 := rfl
      have hle := tkR_le b
      by_cases c0 : tkE b ≠ 0
      · rw [if_pos c0] at hE
        rw [tt_no hE c0]
        have d0 : ((tkE b : Int) != 0) = true := by rw [bne_iff_ne]; omega
        simp (maxSteps := 1000000) (disch := first | omega | (simp only [nums_len, nums_len, List.length_cons, List.length_nil, List.length_append, List.length_take, List.length_drop, List.length_replicate, List.length_set, List.length_map] <;> omega) | fail) only [ev0, ev1, ev2, ev3, ↓reduceIte, reduceCtorEq, Nat.reduceAdd, Nat.reduceSub, Nat.reduceMul, Nat.reduceLT, Nat.reduceLeDiff, Nat.reduceEqDiff, Nat.reduceBEq, BitVec.reduceOfInt, Int.reduceLE, Int.reduceLT, Int.reduceGT, Int.reduceGE, Int.reduceNeg, Int.reduceAdd, Int.reduceSub, Int.reduceMul, Int.reduceToNat, ↓bind_go, ↓map_go, wantedV, isWrite, grow, write, ofV, AV.cells, Abs.start, Abs.strip, endQ, resV, rawsRes, rawRes, exports, export1, AS.grown, AS.put, Env.know, Env.boxed, isSelf, convSelf, convV, loadV, storeV, fieldAddrV, fieldV, indexAddrV, indexV, partV, isAggK, isStr, place, lenV, min2V, makeV, freshSl, sliceV, boundOr, bound, bounds, cutFl, copyV, slCells, srcV, appendV, room, zerosOf, eqNeg, kd, takeR, hasViewL, hasView, freshR, freshC, snapAll, snap, snapL, flatL, pureL, pureA, fillC, arrOK, oneA, te2, te3, te4, te5, te9, te22, te24, te36, te46, te52, te54, E4_te, E4_glob, E4_mu, E4_11, E4_12, E4_14, E4_26, E4_28, pf26_at, pf11_at, pf28_at, glob, ev4, d0]
        exact resQ_4nil
      · rw [if_neg c0] at hE
        have d0 : ((tkE b : Int) != 0) = false := by rw [Nat.eq_zero_of_not_pos (show ¬ 0 < tkE b by omega)]; rfl
        by_cases c1 : (tkN b : Int) > m
        · rw [if_pos c1] at hE
          rw [tt_no hE (by decide)]
          have d1 : decide ((tkN b : Int) > m) = true := decide_eq_true c1
          simp (maxSteps := 1000000) (disch := first | omega | (simp only [nums_len, nums_len, List.length_cons, List.length_nil, List.length_append, List.length_take, List.length_drop, List.length_replicate, List.length_set, List.length_map] <;> omega) | fail) only [ev0, ev1, ev2, ev3, ↓reduceIte, reduceCtorEq, Nat.reduceAdd, Nat.reduceSub, Nat.reduceMul, Nat.reduceLT, Nat.reduceLeDiff, Nat.reduceEqDiff, Nat.reduceBEq, BitVec.reduceOfInt, Int.reduceLE, Int.reduceLT, Int.reduceGT, Int.reduceGE, Int.reduceNeg, Int.reduceAdd, Int.reduceSub, Int.reduceMul, Int.reduceToNat, ↓bind_go, ↓map_go, wantedV, isWrite, grow, write, ofV, AV.cells, Abs.start, Abs.strip, endQ, resV, rawsRes, rawRes, exports, export1, AS.grown, AS.put, Env.know, Env.boxed, isSelf, convSelf, convV, loadV, storeV, fieldAddrV, fieldV, indexAddrV, indexV, partV, isAggK, isStr, place, lenV, min2V, makeV, freshSl, sliceV, boundOr, bound, bounds, cutFl, copyV, slCells, srcV, appendV, room, zerosOf, eqNeg, kd, takeR, hasViewL, hasView, freshR, freshC, snapAll, snap, snapL, flatL, pureL, pureA, fillC, arrOK, oneA, te2, te3, te4, te5, te9, te22, te24, te36, te46, te52, te54, E4_te, E4_glob, E4_mu, E4_11, E4_12, E4_14, E4_26, E4_28, pf26_at, pf11_at, pf28_at, glob, ev4, d0, d1]
          exact resQ_4nil
        · rw [if_neg c1] at hE
          have d1 : decide ((tkN b : Int) > m) = false := decide_eq_false c1
          by_cases c2 : tkN b > (tkR b).length
          · rw [if_pos c2] at hE
            rw [tt_no hE (by decide)]
            have d2 : decide ((tkN b : Int) > ((tkR b).length : Int)) = true := decide_eq_true (by omega)
            simp (maxSteps := 1000000) (disch := first | omega | (simp only [nums_len, nums_len, List.length_cons, List.length_nil, List.length_append, List.length_take, List.length_drop, List.length_replicate, List.length_set, List.length_map] <;> omega) | fail) only [ev0, ev1, ev2, ev3, ↓reduceIte, reduceCtorEq, Nat.reduceAdd, Nat.reduceSub, Nat.reduceMul, Nat.reduceLT, Nat.reduceLeDiff, Nat.reduceEqDiff, Nat.reduceBEq, BitVec.reduceOfInt, Int.reduceLE, Int.reduceLT, Int.reduceGT, Int.reduceGE, Int.reduceNeg, Int.reduceAdd, Int.reduceSub, Int.reduceMul, Int.reduceToNat, ↓bind_go, ↓map_go, wantedV, isWrite, grow, write, ofV, AV.cells, Abs.start, Abs.strip, endQ, resV, rawsRes, rawRes, exports, export1, AS.grown, AS.put, Env.know, Env.boxed, isSelf, convSelf, convV, loadV, storeV, fieldAddrV, fieldV, indexAddrV, indexV, partV, isAggK, isStr, place, lenV, min2V, makeV, freshSl, sliceV, boundOr, bound, bounds, cutFl, copyV, slCells, srcV, appendV, room, zerosOf, eqNeg, kd, takeR, hasViewL, hasView, freshR, freshC, snapAll, snap, snapL, flatL, pureL, pureA, fillC, arrOK, oneA, te2, te3, te4, te5, te9, te22, te24, te36, te46, te52, te54, E4_te, E4_glob, E4_mu, E4_11, E4_12, E4_14, E4_26, E4_28, pf26_at, pf11_at, pf28_at, glob, ev4, d0, d1, d2]
            exact resQ_4nil
          · rw [if_neg c2] at hE
            have d2 : decide ((tkN b : Int) > ((tkR b).length : Int)) = false := decide_eq_false (by omega)
            rw [hE, show ttT b m = (tkR b).take (tkN b) by rw [ttT, if_pos hE], show ttR b m = (tkR b).drop (tkN b) by rw [ttR, if_pos hE]]
            have hmin : min (tkN b) (tkR b).length = tkN b := Nat.min_eq_left (by omega)
            simp (maxSteps := 1000000) (disch := first | omega | (simp only [nums_len, nums_len, List.length_cons, List.length_nil, List.length_append, List.length_take, List.length_drop, List.length_replicate, List.length_set, List.length_map] <;> omega) | fail) only [ev0, ev1, ev2, ev3, ↓reduceIte, reduceCtorEq, Nat.reduceAdd, Nat.reduceSub, Nat.reduceMul, Nat.reduceLT, Nat.reduceLeDiff, Nat.reduceEqDiff, Nat.reduceBEq, BitVec.reduceOfInt, Int.reduceLE, Int.reduceLT, Int.reduceGT, Int.reduceGE, Int.reduceNeg, Int.reduceAdd, Int.reduceSub, Int.reduceMul, Int.reduceToNat, ↓bind_go, ↓map_go, wantedV, isWrite, grow, write, ofV, AV.cells, Abs.start, Abs.strip, endQ, resV, rawsRes, rawRes, exports, export1, AS.grown, AS.put, Env.know, Env.boxed, isSelf, convSelf, convV, loadV, storeV, fieldAddrV, fieldV, indexAddrV, indexV, partV, isAggK, isStr, place, lenV, min2V, makeV, freshSl, sliceV, boundOr, bound, bounds, cutFl, copyV, slCells, srcV, appendV, room, zerosOf, eqNeg, kd, takeR, hasViewL, hasView, freshR, freshC, snapAll, snap, snapL, flatL, pureL, pureA, fillC, arrOK, oneA, te2, te3, te4, te5, te9, te22, te24, te36, te46, te52, te54, E4_te, E4_glob, E4_mu, E4_11, E4_12, E4_14, E4_26, E4_28, pf26_at, pf11_at, pf28_at, glob, ev4, d0, d1, d2, mem1, not_false_eq_true, hmin]
            exact resQ_4
    · cases hr
  · cases hr
theorem sound18 : SoundV Try.prog glob 18 pf17 := by
  refine SoundV.walk E4 ok4 mixed Try.func18 rfl Try.call18 (by kernel_rfl) ?_
  intro args r hr
  unfold pf17 at hr
  split at hr
  · simp only [Option.bind_eq_some_iff] at hr
    obtain ⟨b, h1, m, h2, hr⟩ := hr
    split at hr
    · rename_i hc
      obtain ⟨hc, hm⟩ := hc
      unfold i64ok at hm
      cases hr
      obtain ⟨fl, rfl⟩ := row?_of h1
      rw [int?_of h2, Try.ntmps18, Try.results18]
      refine ⟨by simp, ?_⟩
      have hE : ttE b m = if tkE b ≠ 0 then tkE b else if (tkN b : Int) > m then 2 else if tkN b > (tkR b).length then 3 else 0 := rfl
      have hle := tkR_le b
      by_cases c0 : tkE b ≠ 0
      · rw [if_pos c0] at hE
        rw [tt_no hE c0]
        have d0 : ((tkE b : Int) != 0) = true := by rw [bne_iff_ne]; omega
        simp (maxSteps := 1000000) (disch := first | omega | (simp only [nums_len, nums_len, List.length_cons, List.length_nil, List.length_append, List.length_take, List.length_drop, List.length_replicate, List.length_set, List.length_map] <;> omega) | fail) only [ev0, ev1, ev2, ev3, ↓reduceIte, reduceCtorEq, Nat.reduceAdd, Nat.reduceSub, Nat.reduceMul, Nat.reduceLT, Nat.reduceLeDiff, Nat.reduceEqDiff, Nat.reduceBEq, BitVec.reduceOfInt, Int.reduceLE, Int.reduceLT, Int.reduceGT, Int.reduceGE, Int.reduceNeg, Int.reduceAdd, Int.reduceSub, Int.reduceMul, Int.reduceToNat, ↓bind_go, ↓map_go, wantedV, isWrite, grow, write, ofV, AV.cells, Abs.start, Abs.strip, endQ, resV, rawsRes, rawRes, exports, export1, AS.grown, AS.put, Env.know, Env.boxed, isSelf, convSelf, convV, loadV, storeV, fieldAddrV, fieldV, indexAddrV, indexV, partV, isAggK, isStr, place, lenV, min2V, makeV, freshSl, sliceV, boundOr, bound, bounds, cutFl, copyV, slCells, srcV, appendV, room, zerosOf, eqNeg, kd, takeR, hasViewL, hasView, freshR, freshC, snapAll, snap, snapL, flatL, pureL, pureA, fillC, arrOK, oneA, te2, te3, te4, te5, te9, te22, te24, te36, te46, te52, te54, E4_te, E4_glob, E4_mu, E4_11, E4_12, E4_14, E4_26, E4_28, pf26_at, pf11_at, pf28_at, glob, ev4, d0]
        exact resQ_4nil
      · rw [if_neg c0] at hE
        have d0 : ((tkE b : Int) != 0) = false := by rw [Nat.eq_zero_of_not_pos (show ¬ 0 < tkE b by omega)]; rfl
        by_cases c1 : (tkN b : Int) > m
        · rw [if_pos c1] at hE
          rw [tt_no hE (by decide)]
          have d1 : decide ((tkN b : Int) > m) = true := decide_eq_true c1
          simp (maxSteps := 1000000) (disch := first | omega | (simp only [nums_len, nums_len, List.length_cons, List.length_nil, List.length_append, List.length_take, List.length_drop, List.length_replicate, List.length_set, List.length_map] <;> omega) | fail) only [ev0, ev1, ev2, ev3, ↓reduceIte, reduceCtorEq, Nat.reduceAdd, Nat.reduceSub, Nat.reduceMul, Nat.reduceLT, Nat.reduceLeDiff, Nat.reduceEqDiff, Nat.reduceBEq, BitVec.reduceOfInt, Int.reduceLE, Int.reduceLT, Int.reduceGT, Int.reduceGE, Int.reduceNeg, Int.reduceAdd, Int.reduceSub, Int.reduceMul, Int.reduceToNat, ↓bind_go, ↓map_go, wantedV, isWrite, grow, write, ofV, AV.cells, Abs.start, Abs.strip, endQ, resV, rawsRes, rawRes, exports, export1, AS.grown, AS.put, Env.know, Env.boxed, isSelf, convSelf, convV, loadV, storeV, fieldAddrV, fieldV, indexAddrV, indexV, partV, isAggK, isStr, place, lenV, min2V, makeV, freshSl, sliceV, boundOr, bound, bounds, cutFl, copyV, slCells, srcV, appendV, room, zerosOf, eqNeg, kd, takeR, hasViewL, hasView, freshR, freshC, snapAll, snap, snapL, flatL, pureL, pureA, fillC, arrOK, oneA, te2, te3, te4, te5, te9, te22, te24, te36, te46, te52, te54, E4_te, E4_glob, E4_mu, E4_11, E4_12, E4_14, E4_26, E4_28, pf26_at, pf11_at, pf28_at, glob, ev4, d0, d1]
          exact resQ_4nil
        · rw [if_neg c1] at hE
          have d1 : decide ((tkN b : Int) > m) = false := decide_eq_false c1
          by_cases c2 : tkN b > (tkR b).length
          · rw [if_pos c2] at hE
            rw [tt_no hE (by decide)]
            have d2 : decide ((tkN b : Int) > ((tkR b).length : Int)) = true := decide_eq_true (by omega)
            simp (maxSteps := 1000000) (disch := first | omega | (simp only [nums_len, nums_len, List.length_cons, List.length_nil, List.length_append, List.length_take, List.length_drop, List.length_replicate, List.length_set, List.length_map] <;> omega) | fail) only [ev0, ev1, ev2, ev3, ↓reduceIte, reduceCtorEq, Nat.reduceAdd, Nat.reduceSub, Nat.reduceMul, Nat.reduceLT, Nat.reduceLeDiff, Nat.reduceEqDiff, Nat.reduceBEq, BitVec.reduceOfInt, Int.reduceLE, Int.reduceLT, Int.reduceGT, Int.reduceGE, Int.reduceNeg, Int.reduceAdd, Int.reduceSub, Int.reduceMul, Int.reduceToNat, ↓bind_go, ↓map_go, wantedV, isWrite, grow, write, ofV, AV.cells, Abs.start, Abs.strip, endQ, resV, rawsRes, rawRes, exports, export1, AS.grown, AS.put, Env.know, Env.boxed, isSelf, convSelf, convV, loadV, storeV, fieldAddrV, fieldV, indexAddrV, indexV, partV, isAggK, isStr, place, lenV, min2V, makeV, freshSl, sliceV, boundOr, bound, bounds, cutFl, copyV, slCells, srcV, appendV, room, zerosOf, eqNeg, kd, takeR, hasViewL, hasView, freshR, freshC, snapAll, snap, snapL, flatL, pureL, pureA, fillC, arrOK, oneA, te2, te3, te4, te5, te9, te22, te24, te36, te46, te52, te54, E4_te, E4_glob, E4_mu, E4_11, E4_12, E4_14, E4_26, E4_28, pf26_at, pf11_at, pf28_at, glob, ev4, d0, d1, d2]
            exact resQ_4nil
          · rw [if_neg c2] at hE
            have d2 : decide ((tkN b : Int) > ((tkR b).length : Int)) = false := decide_eq_false (by omega)
            rw [hE, show ttT b m = (tkR b).take (tkN b) by rw [ttT, if_pos hE], show ttR b m = (tkR b).drop (tkN b) by rw [ttR, if_pos hE]]
            have hmin : min (tkN b) (tkR b).length = tkN b := Nat.min_eq_left (by omega)
            simp (maxSteps := 1000000) (disch := first | omega | (simp only [nums_len, nums_len, List.length_cons, List.length_nil, List.length_append, List.length_take, List.length_drop, List.length_replicate, List.length_set, List.length_map] <;> omega) | fail) only [ev0, ev1, ev2, ev3, ↓reduceIte, reduceCtorEq, Nat.reduceAdd, Nat.reduceSub, Nat.reduceMul, Nat.reduceLT, Nat.reduceLeDiff, Nat.reduceEqDiff, Nat.reduceBEq, BitVec.reduceOfInt, Int.reduceLE, Int.reduceLT, Int.reduceGT, Int.reduceGE, Int.reduceNeg, Int.reduceAdd, Int.reduceSub, Int.reduceMul, Int.reduceToNat, ↓bind_go, ↓map_go, wantedV, isWrite, grow, write, ofV, AV.cells, Abs.start, Abs.strip, endQ, resV, rawsRes, rawRes, exports, export1, AS.grown, AS.put, Env.know, Env.boxed, isSelf, convSelf, convV, loadV, storeV, fieldAddrV, fieldV, indexAddrV, indexV, partV, isAggK, isStr, place, lenV, min2V, makeV, freshSl, sliceV, boundOr, bound, bounds, cutFl, copyV, slCells, srcV, appendV, room, zerosOf, eqNeg, kd, takeR, hasViewL, hasView, freshR, freshC, snapAll, snap, snapL, flatL, pureL, pureA, fillC, arrOK, oneA, te2, te3, te4, te5, te9, te22, te24, te36, te46, te52, te54, E4_te, E4_glob, E4_mu, E4_11, E4_12, E4_14, E4_26, E4_28, pf26_at, pf11_at, pf28_at, glob, ev4, d0, d1, d2, mem1, not_false_eq_true, hmin]
            exact resQ_4
    · cases hr
  · cases hr

def fewF (l : List Int) : List Int := l.take 200
def pf19 : List AV → Option AV
  | [v] => (irow? v).bind fun l => if l.length ≤ maxLen then some (.sl (fewF l).length (ints .i64 (fewF l)) .bor) else none
  | _ => none
theorem sound19 : SoundV Try.prog glob 19 pf19 := by
  refine SoundV.walk E4 ok4 mixed Try.func19 rfl Try.call19 (by kernel_rfl) ?_
  intro args r hr
  unfold pf19 at hr
  split at hr
  · simp only [Option.bind_eq_some_iff] at hr
    obtain ⟨l, h1, hr⟩ := hr
    split at hr
    · rename_i hc
      have hc : l.length ≤ 9223372036854775807 := hc
      cases hr
      obtain ⟨⟨fl, rfl⟩, hl⟩ := irow?_of h1
      rw [Try.ntmps19, Try.results19]
      refine ⟨by simp, ?_⟩
      unfold fewF
      by_cases c : l.length > 200
      · have d : decide ((l.length : Int) > 200) = true := decide_eq_true (by omega)
        simp (maxSteps := 1000000) (disch := first | omega | (simp only [nums_len, nums_len, List.length_cons, List.length_nil, List.length_append, List.length_take, List.length_drop, List.length_replicate, List.length_set, List.length_map] <;> omega) | fail) only [ev0, ev1, ev2, ev3, ↓reduceIte, reduceCtorEq, Nat.reduceAdd, Nat.reduceSub, Nat.reduceMul, Nat.reduceLT, Nat.reduceLeDiff, Nat.reduceEqDiff, Nat.reduceBEq, BitVec.reduceOfInt, Int.reduceLE, Int.reduceLT, Int.reduceGT, Int.reduceGE, Int.reduceNeg, Int.reduceAdd, Int.reduceSub, Int.reduceMul, Int.reduceToNat, ↓bind_go, ↓map_go, wantedV, isWrite, grow, write, ofV, AV.cells, Abs.start, Abs.strip, endQ, resV, rawsRes, rawRes, exports, export1, AS.grown, AS.put, Env.know, Env.boxed, isSelf, convSelf, convV, loadV, storeV, fieldAddrV, fieldV, indexAddrV, indexV, partV, isAggK, isStr, place, lenV, min2V, makeV, freshSl, sliceV, boundOr, bound, bounds, cutFl, copyV, slCells, srcV, appendV, room, zerosOf, eqNeg, kd, takeR, hasViewL, hasView, freshR, freshC, snapAll, snap, snapL, flatL, pureL, pureA, fillC, arrOK, oneA, te2, te3, te4, te5, te9, te22, te24, te36, te46, te52, te54, E4_te, E4_glob, E4_mu, E4_11, E4_12, E4_14, E4_26, E4_28, pf26_at, pf11_at, pf28_at, glob, ev4, d]
        rw [Nat.min_eq_left (by omega)]
        exact ResQ.bor
      · have d : decide ((l.length : Int) > 200) = false := decide_eq_false (by omega)
        simp (maxSteps := 1000000) (disch := first | omega | (simp only [nums_len, nums_len, List.length_cons, List.length_nil, List.length_append, List.length_take, List.length_drop, List.length_replicate, List.length_set, List.length_map] <;> omega) | fail) only [ev0, ev1, ev2, ev3, ↓reduceIte, reduceCtorEq, Nat.reduceAdd, Nat.reduceSub, Nat.reduceMul, Nat.reduceLT, Nat.reduceLeDiff, Nat.reduceEqDiff, Nat.reduceBEq, BitVec.reduceOfInt, Int.reduceLE, Int.reduceLT, Int.reduceGT, Int.reduceGE, Int.reduceNeg, Int.reduceAdd, Int.reduceSub, Int.reduceMul, Int.reduceToNat, ↓bind_go, ↓map_go, wantedV, isWrite, grow, write, ofV, AV.cells, Abs.start, Abs.strip, endQ, resV, rawsRes, rawRes, exports, export1, AS.grown, AS.put, Env.know, Env.boxed, isSelf, convSelf, convV, loadV, storeV, fieldAddrV, fieldV, indexAddrV, indexV, partV, isAggK, isStr, place, lenV, min2V, makeV, freshSl, sliceV, boundOr, bound, bounds, cutFl, copyV, slCells, srcV, appendV, room, zerosOf, eqNeg, kd, takeR, hasViewL, hasView, freshR, freshC, snapAll, snap, snapL, flatL, pureL, pureA, fillC, arrOK, oneA, te2, te3, te4, te5, te9, te22, te24, te36, te46, te52, te54, E4_te, E4_glob, E4_mu, E4_11, E4_12, E4_14, E4_26, E4_28, pf26_at, pf11_at, pf28_at, glob, ev4, d]
        exact ResQ.bor
    · cases hr
  · cases hr

def pf24 : List AV → Option AV
  | [v, w] => (irow? v).bind fun l => (irow? w).bind fun m => if l.length ≤ 1000000000 ∧ m.length ≤ 1000000000 then some (.raw (.bool (l == m))) else none
  | _ => none
theorem sound24 : SoundV Try.prog glob 24 pf24 := by
  refine SoundV.walk E4 ok4 mixed Try.func24 rfl Try.call24 (by kernel_rfl) ?_
  intro args r hr
  unfold pf24 at hr
  split at hr
  · simp only [Option.bind_eq_some_iff] at hr
    obtain ⟨l, h1, m, h2, hr⟩ := hr
    split at hr
    · rename_i hc
      cases hr
      obtain ⟨⟨fl, rfl⟩, hl⟩ := irow?_of h1
      obtain ⟨⟨gl, rfl⟩, hm⟩ := irow?_of h2
      rw [Try.ntmps24, Try.results24]
      refine ⟨by simp, ?_⟩
      by_cases c : l.length = m.length
      · have d : ((l.length : Int) != (m.length : Int)) = false := by rw [c]; simp
        simp (maxSteps := 1000000) (disch := first | omega | (simp only [nums_len, nums_len, List.length_cons, List.length_nil, List.length_append, List.length_take, List.length_drop, List.length_replicate, List.length_set, List.length_map] <;> omega) | fail) only [ev0, ev1, ev2, ev3, ↓reduceIte, reduceCtorEq, Nat.reduceAdd, Nat.reduceSub, Nat.reduceMul, Nat.reduceLT, Nat.reduceLeDiff, Nat.reduceEqDiff, Nat.reduceBEq, BitVec.reduceOfInt, Int.reduceLE, Int.reduceLT, Int.reduceGT, Int.reduceGE, Int.reduceNeg, Int.reduceAdd, Int.reduceSub, Int.reduceMul, Int.reduceToNat, ↓bind_go, ↓map_go, wantedV, isWrite, grow, write, ofV, AV.cells, Abs.start, Abs.strip, endQ, resV, rawsRes, rawRes, exports, export1, AS.grown, AS.put, Env.know, Env.boxed, isSelf, convSelf, convV, loadV, storeV, fieldAddrV, fieldV, indexAddrV, indexV, partV, isAggK, isStr, place, lenV, min2V, makeV, freshSl, sliceV, boundOr, bound, bounds, cutFl, copyV, slCells, srcV, appendV, room, zerosOf, eqNeg, kd, takeR, hasViewL, hasView, freshR, freshC, snapAll, snap, snapL, flatL, pureL, pureA, fillC, arrOK, oneA, te2, te3, te4, te5, te9, te22, te24, te36, te46, te52, te54, E4_te, E4_glob, E4_mu, E4_11, E4_12, E4_14, E4_26, E4_28, pf26_at, pf11_at, pf28_at, glob, ev4, d]
        refine loopQ_of (fun n σ => ∃ k, k ≤ l.length ∧ n = l.length - k ∧ (∀ i, i < k → l.getD i 0 = m.getD i 0) ∧ σ.slots 5 = .raw (.int .i64 (k : Int)) ∧ σ.slots 0 = .sl l.length (ints .i64 l) .bor ∧ σ.slots 1 = .sl m.length (ints .i64 m) .bor) l.length ?_ ?_
        · refine ⟨0, by omega, by omega, by omega, ?_⟩
          simp (maxSteps := 1000000) (disch := first | omega | (simp only [nums_len, nums_len, List.length_cons, List.length_nil, List.length_append, List.length_take, List.length_drop, List.length_replicate, List.length_set, List.length_map] <;> omega) | fail) only [ev0, ev1, ev2, ev3, ↓reduceIte, reduceCtorEq, Nat.reduceAdd, Nat.reduceSub, Nat.reduceMul, Nat.reduceLT, Nat.reduceLeDiff, Nat.reduceEqDiff, Nat.reduceBEq, BitVec.reduceOfInt, Int.reduceLE, Int.reduceLT, Int.reduceGT, Int.reduceGE, Int.reduceNeg, Int.reduceAdd, Int.reduceSub, Int.reduceMul, Int.reduceToNat, ↓bind_go, ↓map_go, wantedV, isWrite, grow, write, ofV, AV.cells, Abs.start, Abs.strip, endQ, resV, rawsRes, rawRes, exports, export1, AS.grown, AS.put, Env.know, Env.boxed, isSelf, convSelf, convV, loadV, storeV, fieldAddrV, fieldV, indexAddrV, indexV, partV, isAggK, isStr, place, lenV, min2V, makeV, freshSl, sliceV, boundOr, bound, bounds, cutFl, copyV, slCells, srcV, appendV, room, zerosOf, eqNeg, kd, takeR, hasViewL, hasView, freshR, freshC, snapAll, snap, snapL, flatL, pureL, pureA, fillC, arrOK, oneA, te2, te3, te4, te5, te9, te22, te24, te36, te46, te52, te54, E4_te, E4_glob, E4_mu, E4_11, E4_12, E4_14, E4_26, E4_28, pf26_at, pf11_at, pf28_at, glob, ev4]
          rfl
        · rintro n ⟨sl, gn, bx, us⟩ ⟨k, hk, rfl, hs, s5, s0, s1⟩
          dsimp only at s5 s0 s1
          simp (maxSteps := 1000000) (disch := first | omega | (simp only [nums_len, nums_len, List.length_cons, List.length_nil, List.length_append, List.length_take, List.length_drop, List.length_replicate, List.length_set, List.length_map] <;> omega) | fail) only [ev0, ev1, ev2, ev3, ↓reduceIte, reduceCtorEq, Nat.reduceAdd, Nat.reduceSub, Nat.reduceMul, Nat.reduceLT, Nat.reduceLeDiff, Nat.reduceEqDiff, Nat.reduceBEq, BitVec.reduceOfInt, Int.reduceLE, Int.reduceLT, Int.reduceGT, Int.reduceGE, Int.reduceNeg, Int.reduceAdd, Int.reduceSub, Int.reduceMul, Int.reduceToNat, ↓bind_go, ↓map_go, wantedV, isWrite, grow, write, ofV, AV.cells, Abs.start, Abs.strip, endQ, resV, rawsRes, rawRes, exports, export1, AS.grown, AS.put, Env.know, Env.boxed, isSelf, convSelf, convV, loadV, storeV, fieldAddrV, fieldV, indexAddrV, indexV, partV, isAggK, isStr, place, lenV, min2V, makeV, freshSl, sliceV, boundOr, bound, bounds, cutFl, copyV, slCells, srcV, appendV, room, zerosOf, eqNeg, kd, takeR, hasViewL, hasView, freshR, freshC, snapAll, snap, snapL, flatL, pureL, pureA, fillC, arrOK, oneA, te2, te3, te4, te5, te9, te22, te24, te36, te46, te52, te54, E4_te, E4_glob, E4_mu, E4_11, E4_12, E4_14, E4_26, E4_28, pf26_at, pf11_at, pf28_at, glob, ev4, s5, s0, s1]
          refine condQ_dec (fun hlt => ?_) (fun hge => ?_)
          · have hlt : k < l.length := by omega
            simp (maxSteps := 1000000) (disch := first | omega | (simp only [nums_len, nums_len, List.length_cons, List.length_nil, List.length_append, List.length_take, List.length_drop, List.length_replicate, List.length_set, List.length_map] <;> omega) | fail) only [ev0, ev1, ev2, ev3, ↓reduceIte, reduceCtorEq, Nat.reduceAdd, Nat.reduceSub, Nat.reduceMul, Nat.reduceLT, Nat.reduceLeDiff, Nat.reduceEqDiff, Nat.reduceBEq, BitVec.reduceOfInt, Int.reduceLE, Int.reduceLT, Int.reduceGT, Int.reduceGE, Int.reduceNeg, Int.reduceAdd, Int.reduceSub, Int.reduceMul, Int.reduceToNat, ↓bind_go, ↓map_go, wantedV, isWrite, grow, write, ofV, AV.cells, Abs.start, Abs.strip, endQ, resV, rawsRes, rawRes, exports, export1, AS.grown, AS.put, Env.know, Env.boxed, isSelf, convSelf, convV, loadV, storeV, fieldAddrV, fieldV, indexAddrV, indexV, partV, isAggK, isStr, place, lenV, min2V, makeV, freshSl, sliceV, boundOr, bound, bounds, cutFl, copyV, slCells, srcV, appendV, room, zerosOf, eqNeg, kd, takeR, hasViewL, hasView, freshR, freshC, snapAll, snap, snapL, flatL, pureL, pureA, fillC, arrOK, oneA, te2, te3, te4, te5, te9, te22, te24, te36, te46, te52, te54, E4_te, E4_glob, E4_mu, E4_11, E4_12, E4_14, E4_26, E4_28, pf26_at, pf11_at, pf28_at, glob, ev4, s5, s0, s1]
            by_cases ce : l.getD k 0 = m.getD k 0
            · have de : (l.getD k 0 != m.getD k 0) = false := by rw [ce]; simp
              simp (maxSteps := 1000000) (disch := first | omega | (simp only [nums_len, nums_len, List.length_cons, List.length_nil, List.length_append, List.length_take, List.length_drop, List.length_replicate, List.length_set, List.length_map] <;> omega) | fail) only [ev0, ev1, ev2, ev3, ↓reduceIte, reduceCtorEq, Nat.reduceAdd, Nat.reduceSub, Nat.reduceMul, Nat.reduceLT, Nat.reduceLeDiff, Nat.reduceEqDiff, Nat.reduceBEq, BitVec.reduceOfInt, Int.reduceLE, Int.reduceLT, Int.reduceGT, Int.reduceGE, Int.reduceNeg, Int.reduceAdd, Int.reduceSub, Int.reduceMul, Int.reduceToNat, ↓bind_go, ↓map_go, wantedV, isWrite, grow, write, ofV, AV.cells, Abs.start, Abs.strip, endQ, resV, rawsRes, rawRes, exports, export1, AS.grown, AS.put, Env.know, Env.boxed, isSelf, convSelf, convV, loadV, storeV, fieldAddrV, fieldV, indexAddrV, indexV, partV, isAggK, isStr, place, lenV, min2V, makeV, freshSl, sliceV, boundOr, bound, bounds, cutFl, copyV, slCells, srcV, appendV, room, zerosOf, eqNeg, kd, takeR, hasViewL, hasView, freshR, freshC, snapAll, snap, snapL, flatL, pureL, pureA, fillC, arrOK, oneA, te2, te3, te4, te5, te9, te22, te24, te36, te46, te52, te54, E4_te, E4_glob, E4_mu, E4_11, E4_12, E4_14, E4_26, E4_28, pf26_at, pf11_at, pf28_at, glob, ev4, s5, s0, s1, de]
              refine ⟨l.length - (k + 1), by omega, k + 1, by omega, rfl, ?_, rfl⟩
              intro i hi
              rcases Nat.lt_or_eq_of_le (Nat.le_of_lt_succ hi) with h | h
              · exact hs i h
              · rw [h]; exact ce
            · have de : (l.getD k 0 != m.getD k 0) = true := by rw [bne_iff_ne]; exact ce
              have : (l == m) = false := by
                rw [beq_eq_false_iff_ne]
                intro e; rw [e] at ce; exact ce rfl
              rw [this]
              simp (maxSteps := 1000000) (disch := first | omega | (simp only [nums_len, nums_len, List.length_cons, List.length_nil, List.length_append, List.length_take, List.length_drop, List.length_replicate, List.length_set, List.length_map] <;> omega) | fail) only [ev0, ev1, ev2, ev3, ↓reduceIte, reduceCtorEq, Nat.reduceAdd, Nat.reduceSub, Nat.reduceMul, Nat.reduceLT, Nat.reduceLeDiff, Nat.reduceEqDiff, Nat.reduceBEq, BitVec.reduceOfInt, Int.reduceLE, Int.reduceLT, Int.reduceGT, Int.reduceGE, Int.reduceNeg, Int.reduceAdd, Int.reduceSub, Int.reduceMul, Int.reduceToNat, ↓bind_go, ↓map_go, wantedV, isWrite, grow, write, ofV, AV.cells, Abs.start, Abs.strip, endQ, resV, rawsRes, rawRes, exports, export1, AS.grown, AS.put, Env.know, Env.boxed, isSelf, convSelf, convV, loadV, storeV, fieldAddrV, fieldV, indexAddrV, indexV, partV, isAggK, isStr, place, lenV, min2V, makeV, freshSl, sliceV, boundOr, bound, bounds, cutFl, copyV, slCells, srcV, appendV, room, zerosOf, eqNeg, kd, takeR, hasViewL, hasView, freshR, freshC, snapAll, snap, snapL, flatL, pureL, pureA, fillC, arrOK, oneA, te2, te3, te4, te5, te9, te22, te24, te36, te46, te52, te54, E4_te, E4_glob, E4_mu, E4_11, E4_12, E4_14, E4_26, E4_28, pf26_at, pf11_at, pf28_at, glob, ev4, s5, s0, s1, de]
              exact ResQ.same rfl
          · have hk : k = l.length := by omega
            subst hk
            have : (l == m) = true := by
              rw [beq_iff_eq]
              apply List.ext_getElem c
              intro i h1 h2
              have := hs i h1
              rwa [List.getD_eq_getElem?_getD, List.getD_eq_getElem?_getD, List.getElem?_eq_getElem h1, List.getElem?_eq_getElem h2] at this
            rw [this]
            simp (maxSteps := 1000000) (disch := first | omega | (simp only [nums_len, nums_len, List.length_cons, List.length_nil, List.length_append, List.length_take, List.length_drop, List.length_replicate, List.length_set, List.length_map] <;> omega) | fail) only [ev0, ev1, ev2, ev3, ↓reduceIte, reduceCtorEq, Nat.reduceAdd, Nat.reduceSub, Nat.reduceMul, Nat.reduceLT, Nat.reduceLeDiff, Nat.reduceEqDiff, Nat.reduceBEq, BitVec.reduceOfInt, Int.reduceLE, Int.reduceLT, Int.reduceGT, Int.reduceGE, Int.reduceNeg, Int.reduceAdd, Int.reduceSub, Int.reduceMul, Int.reduceToNat, ↓bind_go, ↓map_go, wantedV, isWrite, grow, write, ofV, AV.cells, Abs.start, Abs.strip, endQ, resV, rawsRes, rawRes, exports, export1, AS.grown, AS.put, Env.know, Env.boxed, isSelf, convSelf, convV, loadV, storeV, fieldAddrV, fieldV, indexAddrV, indexV, partV, isAggK, isStr, place, lenV, min2V, makeV, freshSl, sliceV, boundOr, bound, bounds, cutFl, copyV, slCells, srcV, appendV, room, zerosOf, eqNeg, kd, takeR, hasViewL, hasView, freshR, freshC, snapAll, snap, snapL, flatL, pureL, pureA, fillC, arrOK, oneA, te2, te3, te4, te5, te9, te22, te24, te36, te46, te52, te54, E4_te, E4_glob, E4_mu, E4_11, E4_12, E4_14, E4_26, E4_28, pf26_at, pf11_at, pf28_at, glob, ev4, s5, s0, s1]
            exact ResQ.same rfl
      · have d : ((l.length : Int) != (m.length : Int)) = true := by rw [bne_iff_ne]; omega
        have : (l == m) = false := by
          rw [beq_eq_false_iff_ne]
          intro e; rw [e] at c; exact c rfl
        rw [this]
        simp (maxSteps := 1000000) (disch := first | omega | (simp only [nums_len, nums_len, List.length_cons, List.length_nil, List.length_append, List.length_take, List.length_drop, List.length_replicate, List.length_set, List.length_map] <;> omega) | fail) only [ev0, ev1, ev2, ev3, ↓reduceIte, reduceCtorEq, Nat.reduceAdd, Nat.reduceSub, Nat.reduceMul, Nat.reduceLT, Nat.reduceLeDiff, Nat.reduceEqDiff, Nat.reduceBEq, BitVec.reduceOfInt, Int.reduceLE, Int.reduceLT, Int.reduceGT, Int.reduceGE, Int.reduceNeg, Int.reduceAdd, Int.reduceSub, Int.reduceMul, Int.reduceToNat, ↓bind_go, ↓map_go, wantedV, isWrite, grow, write, ofV, AV.cells, Abs.start, Abs.strip, endQ, resV, rawsRes, rawRes, exports, export1, AS.grown, AS.put, Env.know, Env.boxed, isSelf, convSelf, convV, loadV, storeV, fieldAddrV, fieldV, indexAddrV, indexV, partV, isAggK, isStr, place, lenV, min2V, makeV, freshSl, sliceV, boundOr, bound, bounds, cutFl, copyV, slCells, srcV, appendV, room, zerosOf, eqNeg, kd, takeR, hasViewL, hasView, freshR, freshC, snapAll, snap, snapL, flatL, pureL, pureA, fillC, arrOK, oneA, te2, te3, te4, te5, te9, te22, te24, te36, te46, te52, te54, E4_te, E4_glob, E4_mu, E4_11, E4_12, E4_14, E4_26, E4_28, pf26_at, pf11_at, pf28_at, glob, ev4, d]
        exact ResQ.same rfl
    · cases hr
  · cases hr
end Go.Proofs.Ytohemglpjjcohaa
