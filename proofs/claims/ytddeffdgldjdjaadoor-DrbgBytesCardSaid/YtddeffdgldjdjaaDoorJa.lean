/- A source of bytes in a box; its sums, and what is mixed in: what the walks come to. -/
import Derived.Test.YtddeffdgldjdjaaDoorHh
import Derived.Test.YtddeffdgldjdjaaDoorUl
namespace Go.Proofs.YtddeffdgldjdjaaDoor
set_option linter.unusedSimpArgs false
set_option linter.unusedVariables false
set_option linter.defProp false
open Go Go.Abs
set_option maxHeartbeats 16000000
/-- a source: its key, its value, how often it was drawn from -/
structure Src where
  k : List (BitVec 8)
  v : List (BitVec 8)
  c : Int
def srA (s : Src) : List AV := nums .u8 s.k ++ (nums .u8 s.v ++ [.raw (.int .i64 s.c)])
structure wfS (s : Src) : Prop where
  k : s.k.length = 32
  v : s.v.length = 32
  lo : -9223372036854775808 ≤ s.c
  hi : s.c ≤ 9223372036854775807
theorem sr_len {s : Src} : (srA s).length = s.k.length + (s.v.length + 1) := by simp only [srA, List.length_append, nums_len, List.length_cons, List.length_nil]
theorem sr_tk {s : Src} (h : s.k.length = 32) : (srA s).take 32 = nums .u8 s.k := by
  rw [srA, List.take_append_of_le_length (by rw [nums_len]; omega), List.take_of_length_le (by rw [nums_len]; omega)]
theorem sr_dk {s : Src} (h : s.k.length = 32) : (srA s).drop 32 = nums .u8 s.v ++ [.raw (.int .i64 s.c)] := by
  rw [srA, List.drop_append_of_le_length (by rw [nums_len]; omega), List.drop_of_length_le (by rw [nums_len]; omega), List.nil_append]
theorem sr_v {s : Src} (h : s.k.length = 32) (h2 : s.v.length = 32) : ((srA s).drop 32).take 32 = nums .u8 s.v := by
  rw [sr_dk h, List.take_append_of_le_length (by rw [nums_len]; omega), List.take_of_length_le (by rw [nums_len]; omega)]
theorem sr_v' {s : Src} (h2 : s.v.length = 32) : (nums .u8 s.v ++ [AV.raw (.int .i64 s.c)]).take 32 = nums .u8 s.v := by
  rw [List.take_append_of_le_length (by rw [nums_len]; omega), List.take_of_length_le (by rw [nums_len]; omega)]
theorem sr_c {s : Src} (h : s.k.length = 32) (h2 : s.v.length = 32) : (srA s)[64]? = some (.raw (.int .i64 s.c)) := by
  rw [srA, List.getElem?_append_right (by rw [nums_len]; omega), List.getElem?_append_right (by simp only [nums_len]; omega)]
  simp only [nums_len, h, h2]; rfl
theorem spl_k {s : Src} {l : List (BitVec 8)} (h : s.k.length = 32) (hl : l.length = 32) : splice (srA s) 0 (nums .u8 l) = srA { s with k := l } := by
  simp only [splice, List.take_zero, List.nil_append, nums_len, hl, Nat.zero_add, sr_dk h]; rfl
theorem spl_v {s : Src} {l : List (BitVec 8)} (h : s.k.length = 32) (h2 : s.v.length = 32) (hl : l.length = 32) : splice (srA s) 32 (nums .u8 l) = srA { s with v := l } := by
  simp only [splice, nums_len, hl, Nat.reduceAdd, sr_tk h]
  have : (srA s).drop 64 = [.raw (.int .i64 s.c)] := by
    rw [show 64 = 32 + 32 from rfl, ← List.drop_drop, sr_dk h, List.drop_append_of_le_length (by rw [nums_len]; omega), List.drop_of_length_le (by rw [nums_len]; omega), List.nil_append]
  rw [this, List.append_assoc]; rfl
theorem set_c {s : Src} {x : Int} (h : s.k.length = 32) (h2 : s.v.length = 32) : (srA s).set 64 (.raw (.int .i64 x)) = srA { s with c := x } := by
  simp only [srA]
  rw [List.set_append_right _ _ (by rw [nums_len]; omega), List.set_append_right _ _ (by simp only [nums_len]; omega)]
  simp only [nums_len, h, h2]; rfl
theorem spl_c {s : Src} {x : Int} (h : s.k.length = 32) (h2 : s.v.length = 32) : splice (srA s) 64 [.raw (.int .i64 x)] = srA { s with c := x } := by
  rw [splice_one (by rw [sr_len]; omega), set_c h h2]
theorem nums_ren' {l s g : Nat} (m : List (BitVec 8)) : (nums .u8 m).map (ren1 l s g) = nums .u8 m := by
  simp only [nums, List.map_map]; rfl
theorem sr_ren (l s g : Nat) (p : Src) : (srA p).map (ren1 l s g) = srA p := by
  simp only [srA, List.map_append, nums_ren', List.map_cons, List.map_nil, ren1]
theorem pureL_app (a b : List AV) : pureL (a ++ b) = (pureL a && pureL b) := by
  induction a with
  | nil => simp [pureL]
  | cons x a ih => simp only [List.cons_append, pureL, ih, Bool.and_assoc]
theorem sr_pure (p : Src) : pureL (srA p) = true := by
  simp only [srA, pureL_app, nums_pure, pureL, pureA, Bool.and_true]
theorem sr_low {L : Nat} (p : Src) : lowL L (srA p) ∧ ∀ x ∈ srA p, (∀ n ys i z, x = .sl n ys (.own i z) → i.lvl < L ∧ i.gen ≠ 0) ∧ ∀ vs, x ≠ .tup vs := by
  refine ⟨lowL_pure _ (sr_pure p), fun x hx => ?_⟩
  simp only [srA, List.mem_append, List.mem_cons, List.not_mem_nil, or_false] at hx
  rcases hx with hx | hx | rfl
  · exact nums_cells _ x hx
  · exact nums_cells _ x hx
  · exact ⟨fun _ _ _ _ h => (by cases h), fun _ h => (by cases h)⟩
noncomputable def src? (cs : List AV) : Option Src :=
  (deNums .u8 8 (cs.take 32)).bind fun k => (deNums .u8 8 ((cs.drop 32).take 32)).bind fun v => match (cs[64]? : Option AV) with
    | some (AV.raw (.int .i64 c)) => open Classical in if cs = srA ⟨k, v, c⟩ ∧ wfS ⟨k, v, c⟩ then some ⟨k, v, c⟩ else none
    | _ => none
theorem src?_of {cs : List AV} {s : Src} (h : src? cs = some s) : cs = srA s ∧ wfS s := by
  unfold src? at h
  simp only [Option.bind_eq_some_iff] at h
  obtain ⟨k, _, v, _, h⟩ := h
  split at h
  · split at h
    · rename_i hc; cases h; exact hc
    · cases h
  · cases h
theorem src?_at {s : Src} (h : wfS s) : src? (srA s) = some s := by
  unfold src?
  rw [sr_tk h.k, sr_v h.k h.v, sr_c h.k h.v, deNums_nums, deNums_nums]
  simp only [Option.bind_some]
  exact if_pos ⟨rfl, h⟩
/-- a sum by a key, that nothing unfolds -/
noncomputable def hmF : List (BitVec 8) → List (BitVec 8) → List (BitVec 8) := Classical.choose (⟨sumB, rfl⟩ : ∃ f, f = sumB)
theorem hmF_is : hmF = sumB := Classical.choose_spec (⟨sumB, rfl⟩ : ∃ f, f = sumB)
theorem hm_len (k b : List (BitVec 8)) : (hmF k b).length = 32 := by rw [hmF_is]; exact sumB_len _ _
/-- what is mixed in -/
noncomputable def upd1 (s : Src) (x : BitVec 8) (m : List (BitVec 8)) : Src := { s with k := hmF s.k (s.v ++ [x] ++ m), v := hmF (hmF s.k (s.v ++ [x] ++ m)) s.v }
noncomputable def updS (s : Src) (m : List (BitVec 8)) : Src := if m.length = 0 then upd1 s 0#8 m else upd1 (upd1 s 0#8 m) 1#8 m
theorem upd1_k (s : Src) (x : BitVec 8) (m : List (BitVec 8)) : (upd1 s x m).k = hmF s.k (s.v ++ [x] ++ m) := by simp only [upd1]
theorem upd1_v (s : Src) (x : BitVec 8) (m : List (BitVec 8)) : (upd1 s x m).v = hmF (hmF s.k (s.v ++ [x] ++ m)) s.v := by simp only [upd1]
theorem upd1_c (s : Src) (x : BitVec 8) (m : List (BitVec 8)) : (upd1 s x m).c = s.c := by simp only [upd1]
theorem upd1_wf {s : Src} (h : wfS s) (x : BitVec 8) (m : List (BitVec 8)) : wfS (upd1 s x m) :=
  ⟨by rw [upd1_k]; exact hm_len _ _, by rw [upd1_v]; exact hm_len _ _, by rw [upd1_c]; exact h.lo, by rw [upd1_c]; exact h.hi⟩
theorem updS_wf {s : Src} (h : wfS s) (m : List (BitVec 8)) : wfS (updS s m) := by
  unfold updS; split
  · exact upd1_wf h _ _
  · exact upd1_wf (upd1_wf h _ _) _ _
theorem updS_c (s : Src) (m : List (BitVec 8)) : (updS s m).c = s.c := by
  unfold updS; split
  · rw [upd1_c]
  · rw [upd1_c, upd1_c]
noncomputable def gs59 (args : List AV) (bx : Boxes) (us : Abs.Id → Bool) : Option CR := match args with
  | [.ptr b 0, .sl 1 [.view b' 32 32 32 1] _] => (bx b).bind fun cs => (src? cs).bind fun s => if b' = b then some { v := .ret (.agg (nums .u8 (hmF s.k s.v))) } else none
  | [.ptr b 0, .sl 3 [.view b' 32 32 32 1, .sl 1 [x] _, w] _] => (bx b).bind fun cs => (src? cs).bind fun s => (num? .u8 8 x).bind fun y => (row? .u8 8 (norm w)).bind fun m => if b' = b ∧ m.length ≤ 100000 then some { v := .ret (.agg (nums .u8 (hmF s.k (s.v ++ [y] ++ m)))) } else none
  | _ => none
theorem concat1 {n a : Nat} {x : List (BitVec 8)} {fl : Fl} (h0 : n = 1) (ha : a = x.length) (h : x.length ≤ 1099511627776) :
    pf61 [.sl n [.sl a (nums .u8 x) .bor] fl] = some (.sl x.length (nums .u8 x) (.own ⟨0, 0, 0, 0⟩ 1)) := by
  subst h0
  simp only [pf61, rows?, rowsB?, rowB?_at ha, Option.bind_some, Option.map_some, List.length_cons, List.length_nil, Nat.zero_add, Nat.reduceAdd, if_true, catF, List.getD_cons_zero, List.getD_cons_succ, List.nil_append, List.length_append]
  rw [if_pos ⟨h, by omega⟩]
theorem concat3 {n a c : Nat} {x z : List (BitVec 8)} {y : BitVec 8} {fl : Fl} (h0 : n = 3) (ha : a = x.length) (hc : c = z.length) (h : x.length + 1 + z.length ≤ 1099511627776) :
    pf61 [.sl n [.sl a (nums .u8 x) .bor, .sl 1 [.raw (.int .u8 (y.toNat : Int))] .bor, .sl c (nums .u8 z) .bor] fl] = some (.sl (x.length + 1 + z.length) (nums .u8 (x ++ [y] ++ z)) (.own ⟨0, 0, 0, 0⟩ 1)) :=
  pf61_three (y := [y]) h0 ha rfl hc h
theorem concat30 {n a : Nat} {x : List (BitVec 8)} {y : BitVec 8} {fl : Fl} (h0 : n = 3) (ha : a = x.length) (h : x.length + 1 ≤ 1099511627776) :
    pf61 [.sl n [.sl a (nums .u8 x) .bor, .sl 1 [.raw (.int .u8 (y.toNat : Int))] .bor, .sl 0 [] .bor] fl] = some (.sl (x.length + 1) (nums .u8 (x ++ [y])) (.own ⟨0, 0, 0, 0⟩ 1)) := by
  have := concat3 (n := n) (a := a) (c := 0) (x := x) (z := []) (y := y) (fl := fl) h0 ha rfl (by simp only [List.length_nil]; omega)
  rw [List.append_nil] at this
  exact this
theorem src?_mk {k v : List (BitVec 8)} {c : Int} (h1 : k.length = 32) (h2 : v.length = 32) (h3 : -9223372036854775808 ≤ c) (h4 : c ≤ 9223372036854775807) : src? (srA ⟨k, v, c⟩) = some ⟨k, v, c⟩ := src?_at ⟨h1, h2, h3, h4⟩
theorem row_norm {w : AV} {m : List (BitVec 8)} (h : row? .u8 8 (norm w) = some m) : (w = .raw (.slice none 0 0) ∧ m = []) ∨ ∃ fl, w = .sl m.length (nums .u8 m) fl := by
  unfold norm at h
  split at h
  · obtain ⟨fl, h1⟩ := row?_of h
    cases h1' : m with
    | nil => exact .inl ⟨rfl, rfl⟩
    | cons a l => rw [h1'] at h1; simp only [AV.sl.injEq, List.length_cons] at h1; omega
  · exact .inr (row?_of h)
def tbJa0 := (And.intro (And.intro (And.intro (And.intro (And.intro @teE @ES17_te) (And.intro @ES17_gs @ES17_dyn)) (And.intro (And.intro @ES17_glob @ES17_mu) (And.intro @ES17_25 @ES17_61))) (And.intro (And.intro (And.intro @pf25_at @concat1) (And.intro @concat3 @concat30)) (And.intro (And.intro @sr_len @sr_tk) (And.intro @sr_v @sr_v')))) (And.intro (And.intro (And.intro (And.intro @sr_dk @sr_c) (And.intro @spl_k @spl_v)) (And.intro (And.intro @spl_c @sr_ren) (And.intro @norm2_sl @norm2_nil))) (And.intro (And.intro (And.intro @norm_nil @norm_sl) (And.intro @ns_strip @ns_set)) (And.intro (And.intro @nums_ren' @sumB_len) (And.intro @own_ne @own_ne')))))
theorem sound59 : SoundG Tryd.prog globS 59 gs59 := by
  refine SoundG.walk ES17 okS17 mixed Tryd.func59 rfl Tryd.call59 (by kernel_rfl) ?_
  intro args bx us cr hr
  unfold gs59 at hr
  split at hr
  · rename_i b b' f1
    simp only [Option.bind_eq_some_iff] at hr
    obtain ⟨cs, hb, s, hs, hr⟩ := hr
    split at hr
    · rename_i e
      subst e
      cases hr
      obtain ⟨rfl, hw⟩ := src?_of hs
      have hk := hw.k
      have hv := hw.v
      have hbs : (bx b').isSome := by rw [hb]; rfl
      rw [Tryd.ntmps59, Tryd.results59]
      refine ⟨by simp, fun L hlow hus hbf => ?_⟩
      have hbL := (hlow b' hbs).1
      obtain ⟨S, hS⟩ : ∃ S, sumB s.k s.v = S := ⟨_, rfl⟩
      have lS : S.length = 32 := by rw [← hS]; exact sumB_len _ _
      rw [hmF_is, hS]
      simp (maxSteps := 1000000) (disch := first | omega | (simp only [updB, updI, dsB, reduceCtorEq, Nat.reduceEqDiff, Abs.Id.mk.injEq, and_false, false_and, and_true, true_and, if_false, ↓reduceIte, Option.isSome_some, *]; done) | (simp only [nums_len, sr_len, sumB_len, lnB] <;> omega) | fail) only [ev0, ev1, ev2, ev3, ↓reduceIte, reduceCtorEq, Nat.reduceAdd, Nat.reduceSub, Nat.reduceMul, Nat.reduceLT, Nat.reduceLeDiff, Nat.reduceEqDiff, Nat.reduceBEq, BitVec.reduceOfInt, Int.reduceLE, Int.reduceLT, Int.reduceGT, Int.reduceGE, Int.reduceNeg, Int.reduceAdd, Int.reduceSub, Int.reduceMul, Int.reduceToNat, ↓bind_go, ↓map_go, wantedV, isWrite, grow, write, ofV, AV.cells, Abs.start, Abs.strip, endQ, resV, rawsRes, rawRes, exports, export1, AS.grown, AS.put, Env.know, Env.boxed, isSelf, convSelf, convV, loadV, storeV, fieldAddrV, fieldV, indexAddrV, indexV, partV, isAggK, isStr, place, ipS, lenV, min2V, makeV, freshSl, sliceV, boundOr, bound, bounds, cutFl, copyV, slCells, srcV, appendV, room, zerosOf, eqNeg, kd, takeR, hasViewL, hasView, freshR, freshC, snapAll, snap, snapL, flatL, pureL, pureA, fillC, arrOK, oneA, partB, AV.laid, ren1, CR.gr, applyW, useL, AS.mute, isGen, startG, ev5, tbJa0, globS, Bx.own.injEq, and_false, false_and, and_true, true_and, hb, hS, lS]
      change EndG _ _ _ _ _ _ _
      exact EndG.r0 [.agg (nums .u8 S)] [_] (by simp (maxSteps := 1000000) (disch := first | omega | (simp only [updB, updI, dsB, reduceCtorEq, Nat.reduceEqDiff, Abs.Id.mk.injEq, and_false, false_and, and_true, true_and, if_false, ↓reduceIte, Option.isSome_some, *]; done) | (simp only [nums_len, sr_len, sumB_len, lnB] <;> omega) | fail) only [ev0, ev1, ev2, ev3, ↓reduceIte, reduceCtorEq, Nat.reduceAdd, Nat.reduceSub, Nat.reduceMul, Nat.reduceLT, Nat.reduceLeDiff, Nat.reduceEqDiff, Nat.reduceBEq, BitVec.reduceOfInt, Int.reduceLE, Int.reduceLT, Int.reduceGT, Int.reduceGE, Int.reduceNeg, Int.reduceAdd, Int.reduceSub, Int.reduceMul, Int.reduceToNat, ↓bind_go, ↓map_go, wantedV, isWrite, grow, write, ofV, AV.cells, Abs.start, Abs.strip, endQ, resV, rawsRes, rawRes, exports, export1, AS.grown, AS.put, Env.know, Env.boxed, isSelf, convSelf, convV, loadV, storeV, fieldAddrV, fieldV, indexAddrV, indexV, partV, isAggK, isStr, place, ipS, lenV, min2V, makeV, freshSl, sliceV, boundOr, bound, bounds, cutFl, copyV, slCells, srcV, appendV, room, zerosOf, eqNeg, kd, takeR, hasViewL, hasView, freshR, freshC, snapAll, snap, snapL, flatL, pureL, pureA, fillC, arrOK, oneA, partB, AV.laid, ren1, CR.gr, applyW, useL, AS.mute, isGen, startG, ev5, tbJa0, globS, Bx.own.injEq, and_false, false_and, and_true, true_and, hb, lS]) (.one (.low _ (lowA_pure _ (by simp only [pureA]; exact nums_pure _)) (by simp) (by simp) (by simp))) rfl (fun b hb' => by simp only [updB, own_ne hb', if_false]) (fun _ _ => rfl)
    · cases hr
  · rename_i b b' x f1 w f2
    simp only [Option.bind_eq_some_iff] at hr
    obtain ⟨cs, hb, s, hs, y, hy, m, hm, hr⟩ := hr
    split at hr
    · rename_i e
      obtain ⟨e, hl⟩ := e
      subst e
      cases hr
      obtain ⟨rfl, hw⟩ := src?_of hs
      have hk := hw.k
      have hv := hw.v
      have hbs : (bx b').isSome := by rw [hb]; rfl
      rw [num?_of hy, Tryd.ntmps59, Tryd.results59]
      refine ⟨by simp, fun L hlow hus hbf => ?_⟩
      have hbL := (hlow b' hbs).1
      rcases row_norm hm with ⟨rfl, rfl⟩ | ⟨fl, rfl⟩
      · rw [List.append_nil]
        obtain ⟨S, hS⟩ : ∃ S, sumB s.k (s.v ++ [y]) = S := ⟨_, rfl⟩
        have lS : S.length = 32 := by rw [← hS]; exact sumB_len _ _
        rw [hmF_is, hS]
        simp (maxSteps := 1000000) (disch := first | omega | (simp only [updB, updI, dsB, reduceCtorEq, Nat.reduceEqDiff, Abs.Id.mk.injEq, and_false, false_and, and_true, true_and, if_false, ↓reduceIte, Option.isSome_some, *]; done) | (simp only [nums_len, sr_len, sumB_len, lnB] <;> omega) | fail) only [ev0, ev1, ev2, ev3, ↓reduceIte, reduceCtorEq, Nat.reduceAdd, Nat.reduceSub, Nat.reduceMul, Nat.reduceLT, Nat.reduceLeDiff, Nat.reduceEqDiff, Nat.reduceBEq, BitVec.reduceOfInt, Int.reduceLE, Int.reduceLT, Int.reduceGT, Int.reduceGE, Int.reduceNeg, Int.reduceAdd, Int.reduceSub, Int.reduceMul, Int.reduceToNat, ↓bind_go, ↓map_go, wantedV, isWrite, grow, write, ofV, AV.cells, Abs.start, Abs.strip, endQ, resV, rawsRes, rawRes, exports, export1, AS.grown, AS.put, Env.know, Env.boxed, isSelf, convSelf, convV, loadV, storeV, fieldAddrV, fieldV, indexAddrV, indexV, partV, isAggK, isStr, place, ipS, lenV, min2V, makeV, freshSl, sliceV, boundOr, bound, bounds, cutFl, copyV, slCells, srcV, appendV, room, zerosOf, eqNeg, kd, takeR, hasViewL, hasView, freshR, freshC, snapAll, snap, snapL, flatL, pureL, pureA, fillC, arrOK, oneA, partB, AV.laid, ren1, CR.gr, applyW, useL, AS.mute, isGen, startG, ev5, tbJa0, globS, Bx.own.injEq, and_false, false_and, and_true, true_and, hb, hS, lS]
        change EndG _ _ _ _ _ _ _
        exact EndG.r0 [.agg (nums .u8 S)] [_] (by simp (maxSteps := 1000000) (disch := first | omega | (simp only [updB, updI, dsB, reduceCtorEq, Nat.reduceEqDiff, Abs.Id.mk.injEq, and_false, false_and, and_true, true_and, if_false, ↓reduceIte, Option.isSome_some, *]; done) | (simp only [nums_len, sr_len, sumB_len, lnB] <;> omega) | fail) only [ev0, ev1, ev2, ev3, ↓reduceIte, reduceCtorEq, Nat.reduceAdd, Nat.reduceSub, Nat.reduceMul, Nat.reduceLT, Nat.reduceLeDiff, Nat.reduceEqDiff, Nat.reduceBEq, BitVec.reduceOfInt, Int.reduceLE, Int.reduceLT, Int.reduceGT, Int.reduceGE, Int.reduceNeg, Int.reduceAdd, Int.reduceSub, Int.reduceMul, Int.reduceToNat, ↓bind_go, ↓map_go, wantedV, isWrite, grow, write, ofV, AV.cells, Abs.start, Abs.strip, endQ, resV, rawsRes, rawRes, exports, export1, AS.grown, AS.put, Env.know, Env.boxed, isSelf, convSelf, convV, loadV, storeV, fieldAddrV, fieldV, indexAddrV, indexV, partV, isAggK, isStr, place, ipS, lenV, min2V, makeV, freshSl, sliceV, boundOr, bound, bounds, cutFl, copyV, slCells, srcV, appendV, room, zerosOf, eqNeg, kd, takeR, hasViewL, hasView, freshR, freshC, snapAll, snap, snapL, flatL, pureL, pureA, fillC, arrOK, oneA, partB, AV.laid, ren1, CR.gr, applyW, useL, AS.mute, isGen, startG, ev5, tbJa0, globS, Bx.own.injEq, and_false, false_and, and_true, true_and, hb, lS]) (.one (.low _ (lowA_pure _ (by simp only [pureA]; exact nums_pure _)) (by simp) (by simp) (by simp))) rfl (fun b hb' => by simp only [updB, own_ne hb', if_false]) (fun _ _ => rfl)
      · obtain ⟨S, hS⟩ : ∃ S, sumB s.k (s.v ++ [y] ++ m) = S := ⟨_, rfl⟩
        have lS : S.length = 32 := by rw [← hS]; exact sumB_len _ _
        rw [hmF_is, hS]
        simp (maxSteps := 1000000) (disch := first | omega | (simp only [updB, updI, dsB, reduceCtorEq, Nat.reduceEqDiff, Abs.Id.mk.injEq, and_false, false_and, and_true, true_and, if_false, ↓reduceIte, Option.isSome_some, *]; done) | (simp only [nums_len, sr_len, sumB_len, lnB] <;> omega) | fail) only [ev0, ev1, ev2, ev3, ↓reduceIte, reduceCtorEq, Nat.reduceAdd, Nat.reduceSub, Nat.reduceMul, Nat.reduceLT, Nat.reduceLeDiff, Nat.reduceEqDiff, Nat.reduceBEq, BitVec.reduceOfInt, Int.reduceLE, Int.reduceLT, Int.reduceGT, Int.reduceGE, Int.reduceNeg, Int.reduceAdd, Int.reduceSub, Int.reduceMul, Int.reduceToNat, ↓bind_go, ↓map_go, wantedV, isWrite, grow, write, ofV, AV.cells, Abs.start, Abs.strip, endQ, resV, rawsRes, rawRes, exports, export1, AS.grown, AS.put, Env.know, Env.boxed, isSelf, convSelf, convV, loadV, storeV, fieldAddrV, fieldV, indexAddrV, indexV, partV, isAggK, isStr, place, ipS, lenV, min2V, makeV, freshSl, sliceV, boundOr, bound, bounds, cutFl, copyV, slCells, srcV, appendV, room, zerosOf, eqNeg, kd, takeR, hasViewL, hasView, freshR, freshC, snapAll, snap, snapL, flatL, pureL, pureA, fillC, arrOK, oneA, partB, AV.laid, ren1, CR.gr, applyW, useL, AS.mute, isGen, startG, ev5, tbJa0, globS, Bx.own.injEq, and_false, false_and, and_true, true_and, hb, hS, lS]
        change EndG _ _ _ _ _ _ _
        exact EndG.r0 [.agg (nums .u8 S)] [_] (by simp (maxSteps := 1000000) (disch := first | omega | (simp only [updB, updI, dsB, reduceCtorEq, Nat.reduceEqDiff, Abs.Id.mk.injEq, and_false, false_and, and_true, true_and, if_false, ↓reduceIte, Option.isSome_some, *]; done) | (simp only [nums_len, sr_len, sumB_len, lnB] <;> omega) | fail) only [ev0, ev1, ev2, ev3, ↓reduceIte, reduceCtorEq, Nat.reduceAdd, Nat.reduceSub, Nat.reduceMul, Nat.reduceLT, Nat.reduceLeDiff, Nat.reduceEqDiff, Nat.reduceBEq, BitVec.reduceOfInt, Int.reduceLE, Int.reduceLT, Int.reduceGT, Int.reduceGE, Int.reduceNeg, Int.reduceAdd, Int.reduceSub, Int.reduceMul, Int.reduceToNat, ↓bind_go, ↓map_go, wantedV, isWrite, grow, write, ofV, AV.cells, Abs.start, Abs.strip, endQ, resV, rawsRes, rawRes, exports, export1, AS.grown, AS.put, Env.know, Env.boxed, isSelf, convSelf, convV, loadV, storeV, fieldAddrV, fieldV, indexAddrV, indexV, partV, isAggK, isStr, place, ipS, lenV, min2V, makeV, freshSl, sliceV, boundOr, bound, bounds, cutFl, copyV, slCells, srcV, appendV, room, zerosOf, eqNeg, kd, takeR, hasViewL, hasView, freshR, freshC, snapAll, snap, snapL, flatL, pureL, pureA, fillC, arrOK, oneA, partB, AV.laid, ren1, CR.gr, applyW, useL, AS.mute, isGen, startG, ev5, tbJa0, globS, Bx.own.injEq, and_false, false_and, and_true, true_and, hb, lS]) (.one (.low _ (lowA_pure _ (by simp only [pureA]; exact nums_pure _)) (by simp) (by simp) (by simp))) rfl (fun b hb' => by simp only [updB, own_ne hb', if_false]) (fun _ _ => rfl)
    · cases hr
  · cases hr
noncomputable def EU : Env := ES0.knowG 59 gs59
theorem okU : EnvOK Tryd.prog EU := okS0.knowG sound59
theorem EU_te : EU.te = te := rfl
theorem EU_glob : EU.glob = globS := rfl
theorem EU_gs : EU.gs = [59] := rfl
theorem EU_dyn : EU.dyn = false := rfl
theorem EU_mu (d : Nat) : EU.mu d = false := rfl
theorem EU_s : EU.tbl 59 = some (.gen gs59) := rfl
theorem ksum1_go {b : Bx} {f : Fl} {bx : Boxes} {us : Abs.Id → Bool} : gs59 [.ptr b 0, .sl 1 [.view b 32 32 32 1] f] bx us = (bx b).bind fun cs => (src? cs).bind fun s => some { v := .ret (.agg (nums .u8 (hmF s.k s.v))) } := by
  simp only [gs59, if_true]
theorem ksum3_go {b : Bx} {f f1 f2 : Fl} {n : Nat} {x : Int} {y : BitVec 8} {m : List (BitVec 8)} {bx : Boxes} {us : Abs.Id → Bool} (hx : num? .u8 8 (.raw (.int .u8 x)) = some y) (hn : n = m.length) (hl : m.length ≤ 100000) :
    gs59 [.ptr b 0, .sl 3 [.view b 32 32 32 1, .sl 1 [.raw (.int .u8 x)] f1, .sl n (nums .u8 m) f2] f] bx us = (bx b).bind fun cs => (src? cs).bind fun s => some { v := .ret (.agg (nums .u8 (hmF s.k (s.v ++ [y] ++ m)))) } := by
  simp only [gs59, hx, norm_sl, row?_at hn, Option.bind_some, true_and, if_pos hl]
theorem num0 : num? .u8 8 (.raw (.int .u8 0)) = some 0#8 := num?_num .u8 0#8
theorem num1 : num? .u8 8 (.raw (.int .u8 1)) = some 1#8 := num?_num .u8 1#8
theorem rep3n : rep 3 [AV.raw (.slice none 0 0)] = [.raw (.slice none 0 0), .raw (.slice none 0 0), .raw (.slice none 0 0)] := rfl
theorem rep1n : rep 1 [AV.raw (.slice none 0 0)] = [.raw (.slice none 0 0)] := rfl
noncomputable def gu58 (args : List AV) (bx : Boxes) (us : Abs.Id → Bool) : Option CR := match args with
  | [.ptr b 0, w] => (bx b).bind fun cs => (src? cs).bind fun s => (row? .u8 8 w).bind fun m => if m.length ≤ 100000 then some { v := .ret (.tup []), wr := [(b, srA (updS s m))] } else none
  | _ => none
def tbJa1 := (And.intro (And.intro (And.intro (And.intro @teE (And.intro @EU_te @EU_glob)) (And.intro @EU_gs (And.intro @EU_dyn @EU_mu))) (And.intro (And.intro @EU_s (And.intro @ksum1_go @rep3n)) (And.intro (And.intro @rep1n @sr_len) (And.intro @sr_tk @sr_v)))) (And.intro (And.intro (And.intro @sr_v' (And.intro @sr_dk @sr_c)) (And.intro @spl_k (And.intro @spl_v @spl_c))) (And.intro (And.intro @sr_ren (And.intro @ns_strip @ns_set)) (And.intro (And.intro @nums_ren @hm_len) (And.intro @own_ne @own_ne')))))
theorem sound58 : SoundG Tryd.prog globS 58 gu58 := by
  refine SoundG.walk EU okU mixed Tryd.func58 rfl Tryd.call58 (by kernel_rfl) ?_
  intro args bx us cr hr
  unfold gu58 at hr
  split at hr
  · rename_i b w
    simp only [Option.bind_eq_some_iff] at hr
    obtain ⟨cs, hb, s, hs, m, hm, hr⟩ := hr
    split at hr
    · rename_i hl
      cases hr
      obtain ⟨rfl, hw⟩ := src?_of hs
      obtain ⟨fl, rfl⟩ := row?_of hm
      clear hs hm
      obtain ⟨hk, hv, hlo, hhi⟩ := hw
      obtain ⟨k, v, c⟩ := s
      dsimp only at hk hv hlo hhi
      have hbs : (bx b).isSome := by rw [hb]; rfl
      rw [Tryd.ntmps58, Tryd.results58]
      refine ⟨by simp, fun L hlow hus hbf => ?_⟩
      have hbL := (hlow b hbs).1
      by_cases h0 : m.length = 0
      · have e1 : decide ((m.length : Int) > 0) = false := decide_eq_false (by omega)
        rw [updS, if_pos h0]
        simp (maxSteps := 1000000) (disch := first | omega | (simp only [updB, updI, dsB, reduceCtorEq, Nat.reduceEqDiff, Abs.Id.mk.injEq, and_false, false_and, and_true, true_and, if_false, ↓reduceIte, Option.isSome_some, *]; done) | (simp only [nums_len, sr_len, hm_len, lnB] <;> omega) | fail) only [ev0, ev1, ev2, ev3, ↓reduceIte, reduceCtorEq, Nat.reduceAdd, Nat.reduceSub, Nat.reduceMul, Nat.reduceLT, Nat.reduceLeDiff, Nat.reduceEqDiff, Nat.reduceBEq, BitVec.reduceOfInt, Int.reduceLE, Int.reduceLT, Int.reduceGT, Int.reduceGE, Int.reduceNeg, Int.reduceAdd, Int.reduceSub, Int.reduceMul, Int.reduceToNat, ↓bind_go, ↓map_go, wantedV, isWrite, grow, write, ofV, AV.cells, Abs.start, Abs.strip, endQ, resV, rawsRes, rawRes, exports, export1, AS.grown, AS.put, Env.know, Env.boxed, isSelf, convSelf, convV, loadV, storeV, fieldAddrV, fieldV, indexAddrV, indexV, partV, isAggK, isStr, place, ipS, lenV, min2V, makeV, freshSl, sliceV, boundOr, bound, bounds, cutFl, copyV, slCells, srcV, appendV, room, zerosOf, eqNeg, kd, takeR, hasViewL, hasView, freshR, freshC, snapAll, snap, snapL, flatL, pureL, pureA, fillC, arrOK, oneA, partB, AV.laid, ren1, CR.gr, applyW, useL, AS.mute, isGen, startG, ev5, tbJa1, ksum3_go num0, ksum3_go num1, src?_mk, globS, Bx.own.injEq, and_false, false_and, and_true, true_and, hb, hl, e1]
        change EndG _ _ _ _ _ _ _
        exact EndG.w1 [] [] rfl .nil rfl hbL hbs (fun b' h1 h2 => by simp only [updB, if_neg h2]) updB_self (ExpL.same (sr_low _)) (fun _ _ => rfl)
      · have e1 : decide ((m.length : Int) > 0) = true := decide_eq_true (by omega)
        rw [updS, if_neg h0]
        simp (maxSteps := 1000000) (disch := first | omega | (simp only [updB, updI, dsB, reduceCtorEq, Nat.reduceEqDiff, Abs.Id.mk.injEq, and_false, false_and, and_true, true_and, if_false, ↓reduceIte, Option.isSome_some, *]; done) | (simp only [nums_len, sr_len, hm_len, lnB] <;> omega) | fail) only [ev0, ev1, ev2, ev3, ↓reduceIte, reduceCtorEq, Nat.reduceAdd, Nat.reduceSub, Nat.reduceMul, Nat.reduceLT, Nat.reduceLeDiff, Nat.reduceEqDiff, Nat.reduceBEq, BitVec.reduceOfInt, Int.reduceLE, Int.reduceLT, Int.reduceGT, Int.reduceGE, Int.reduceNeg, Int.reduceAdd, Int.reduceSub, Int.reduceMul, Int.reduceToNat, ↓bind_go, ↓map_go, wantedV, isWrite, grow, write, ofV, AV.cells, Abs.start, Abs.strip, endQ, resV, rawsRes, rawRes, exports, export1, AS.grown, AS.put, Env.know, Env.boxed, isSelf, convSelf, convV, loadV, storeV, fieldAddrV, fieldV, indexAddrV, indexV, partV, isAggK, isStr, place, ipS, lenV, min2V, makeV, freshSl, sliceV, boundOr, bound, bounds, cutFl, copyV, slCells, srcV, appendV, room, zerosOf, eqNeg, kd, takeR, hasViewL, hasView, freshR, freshC, snapAll, snap, snapL, flatL, pureL, pureA, fillC, arrOK, oneA, partB, AV.laid, ren1, CR.gr, applyW, useL, AS.mute, isGen, startG, ev5, tbJa1, ksum3_go num0, ksum3_go num1, src?_mk, globS, Bx.own.injEq, and_false, false_and, and_true, true_and, hb, hl, e1]
        change EndG _ _ _ _ _ _ _
        exact EndG.w1 [] [] rfl .nil rfl hbL hbs (fun b' h1 h2 => by simp only [updB, if_neg h2]) updB_self (ExpL.same (sr_low _)) (fun _ _ => rfl)
    · cases hr
  · cases hr
end Go.Proofs.YtddeffdgldjdjaaDoor
