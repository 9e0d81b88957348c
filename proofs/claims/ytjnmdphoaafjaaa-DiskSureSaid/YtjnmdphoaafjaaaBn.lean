/- DiskSure: what the walk comes to. -/
import Derived.Test.YtjnmdphoaafjaaaBl
namespace Go.Proofs.Ytjnmdphoaafjaaa
set_option linter.unusedSimpArgs false
set_option linter.unusedVariables false
set_option linter.defProp false
open Go Go.Abs
set_option maxHeartbeats 16000000
/-- bytes that were laid, one row behind the other -/
def flatC : List Ch → List (BitVec 8)
  | [] => []
  | .lay b :: l => b ++ flatC l
  | .cut _ :: l => flatC l
theorem fold_lay : ∀ {l : List Ch} (s : List (BitVec 8)), (∀ c ∈ l, ∃ b, c = .lay b) → l.foldl doesN s = s ++ flatC l
  | [], s, _ => (List.append_nil s).symm
  | c :: l, s, h => by
    obtain ⟨b, rfl⟩ := h c (List.mem_cons_self ..)
    rw [List.foldl_cons, fold_lay _ (fun c hc => h c (List.mem_cons_of_mem _ hc)), doesN_lay, flatC, List.append_assoc]
theorem flatC_split : ∀ (l : List Ch) (j : Nat), flatC l = flatC (l.take j) ++ flatC (l.drop j)
  | [], j => by rw [List.take_nil, List.drop_nil]; rfl
  | c :: l, 0 => rfl
  | .lay b :: l, j + 1 => by rw [List.take_succ_cons, List.drop_succ_cons, flatC, flatC, flatC_split l j, List.append_assoc]
  | .cut _ :: l, j + 1 => by rw [List.take_succ_cons, List.drop_succ_cons, flatC, flatC, flatC_split l j]
theorem torn_len {b : List (BitVec 8)} {p : Nat} {z : Int} (h : p ≤ b.length) : (torn b p z).length = p := by
  unfold torn
  split
  · rename_i h0; rw [h0]; rfl
  · rw [List.length_set, List.length_take]; omega
theorem torn_take {b : List (BitVec 8)} {p : Nat} {z : Int} : (torn b p z).take (p - 1) = b.take (p - 1) := by
  unfold torn
  split
  · rename_i h0; rw [h0]; rfl
  · rename_i h0
    rw [List.take_set_of_le (Nat.le_refl _), List.take_take, Nat.min_eq_left (by omega)]
/-- what a Boot leaves: what was sure, and of the rest some, but for the last byte -/
theorem boot_like {x : Fs} {all : List (BitVec 8)} {s : Nat} (hs : s ≤ all.length) (h1 : x.sure = all.take s) (h2 : ∀ c ∈ x.sc.l, ∃ b, c = .lay b) (h3 : x.sc.l.foldl doesN x.sure = all) (l : List Int) (f : Nat) :
    s ≤ (bootN l f x).length ∧ (bootN l f x).length ≤ all.length ∧ (bootN l f x).take s = all.take s ∧ (bootN l f x).take ((bootN l f x).length - 1) = all.take ((bootN l f x).length - 1) := by
  have hl : (all.take s).length = s := by rw [List.length_take]; omega
  rw [fold_lay _ h2] at h3
  rw [bootN, fold_lay _ (fun c hc => h2 c (List.mem_of_mem_take hc))]
  generalize kF l f x.sc.l.length = j
  have hsp := flatC_split x.sc.l j
  have hlen := congrArg List.length h3
  rw [List.length_append, h1, hl] at hlen
  have pre : ∀ y, y <+: all → s ≤ y.length → s ≤ y.length ∧ y.length ≤ all.length ∧ y.take s = all.take s ∧ y.take (y.length - 1) = all.take (y.length - 1) := fun y hy hsy => by
    obtain ⟨r, hr⟩ := hy
    refine ⟨hsy, by rw [← hr, List.length_append]; omega, ?_, ?_⟩
    · rw [← hr, List.take_append_of_le_length hsy]
    · rw [← hr, List.take_append_of_le_length (by omega)]
  have hP : x.sure ++ flatC (x.sc.l.take j) <+: all := ⟨flatC (x.sc.l.drop j), by rw [List.append_assoc, ← hsp]; exact h3⟩
  have hPl : s ≤ (x.sure ++ flatC (x.sc.l.take j)).length := by rw [List.length_append, h1, hl]; omega
  cases hc : x.sc.l[j]? with
  | none => exact pre _ hP hPl
  | some c =>
    obtain ⟨b, rfl⟩ := h2 c (List.mem_of_getElem? hc)
    have hjl := (List.getElem?_eq_some_iff.1 hc).1
    have hje := (List.getElem?_eq_some_iff.1 hc).2
    have ht : ∀ P, tornF l f P (some (.lay b)) = P ++ torn b (kF l (4 + f) b.length) (pickF l (8 + f)) := fun _ => rfl
    have hk := kF_le l (4 + f) b.length
    simp only [ht]
    generalize kF l (4 + f) b.length = p at hk ⊢
    generalize pickF l (8 + f) = z
    have hall : all = (x.sure ++ flatC (x.sc.l.take j)) ++ (b ++ flatC (x.sc.l.drop (j + 1))) := by
      rw [← h3, hsp, List.drop_eq_getElem_cons hjl, hje, flatC, List.append_assoc]
    have tl := torn_len (z := z) hk
    generalize x.sure ++ flatC (x.sc.l.take j) = P at hP hPl hall ⊢
    generalize flatC (x.sc.l.drop (j + 1)) = r at hall
    have hlA := congrArg List.length hall
    simp only [List.length_append] at hlA
    refine ⟨by rw [List.length_append]; omega, by rw [List.length_append]; omega, ?_, ?_⟩
    · rw [hall, List.take_append_of_le_length hPl, List.take_append_of_le_length hPl]
    · rw [List.length_append, tl]
      by_cases hp : p = 0
      · subst hp
        have e : torn b 0 z = [] := rfl
        rw [e, List.append_nil, hall, List.take_append_of_le_length (by omega)]
      · rw [show P.length + p - 1 = P.length + (p - 1) by omega, hall, List.take_length_add_append, List.take_length_add_append, torn_take, List.take_append_of_le_length (by omega)]
/-- rows of bytes -/
def bsA (l : List (List (BitVec 8))) : List AV := l.flatMap fun b => [.sl b.length (nums .u8 b) .bor]
noncomputable def bs? (v : AV) : Option (List (List (BitVec 8))) := open Classical in if h : ∃ l fl, v = .sl l.length (bsA l) fl ∧ ∀ b ∈ l, b.length ≤ 9223372036854775807 then some h.choose else none
theorem bs?_of {v : AV} {l : List (List (BitVec 8))} (h : bs? v = some l) : ∃ fl, v = .sl l.length (bsA l) fl ∧ ∀ b ∈ l, b.length ≤ 9223372036854775807 := by
  unfold bs? at h
  split at h
  · rename_i h0; cases h; exact h0.choose_spec
  · cases h
theorem bs?_at {l : List (List (BitVec 8))} {fl : Fl} (h : ∀ b ∈ l, b.length ≤ 9223372036854775807) : ∃ m, bs? (.sl l.length (bsA l) fl) = some m := by
  have h0 : ∃ m fl', (.sl l.length (bsA l) fl : AV) = .sl m.length (bsA m) fl' ∧ ∀ b ∈ m, b.length ≤ 9223372036854775807 := ⟨l, fl, rfl, h⟩
  unfold bs?
  rw [dif_pos h0]
  exact ⟨_, rfl⟩
theorem bsA_len (l : List (List (BitVec 8))) : (bsA l).length = l.length := by
  induction l with
  | nil => rfl
  | cons o l ih =>
    rw [bsA, List.flatMap_cons, List.length_append]
    rw [bsA] at ih
    rw [ih, List.length_cons]; simp; omega
theorem bsA_at : ∀ (l : List (List (BitVec 8))) (i : Nat) (h : i < l.length), ∃ r, (bsA l).drop i = .sl l[i].length (nums .u8 l[i]) .bor :: r
  | b :: l, 0, _ => ⟨bsA l, rfl⟩
  | b :: l, i + 1, h => bsA_at l i (by simpa using h)
theorem str_cut (l : List UInt8) (n : Nat) : (⟨l.toArray⟩ : ByteArray).extract 0 n = ⟨(l.take n).toArray⟩ := by
  apply ByteArray.ext
  rw [ByteArray.data_extract]
  simp
/-- a text of bytes -/
def txt (b : List (BitVec 8)) : AV := .raw (.string ⟨(b.map UInt8.ofBitVec).toArray⟩)
theorem ints_at (l : List Int) (i : Nat) (h : i < l.length) : (ints .i64 l).drop i = .raw (.int .i64 (l.getD i 0)) :: (ints .i64 l).drop (i + 1) := by
  rw [List.drop_eq_getElem_cons (by simpa [ints] using h)]
  simp [ints, List.getD_eq_getElem?_getD, List.getElem?_eq_getElem h]
noncomputable def pf3 : List AV → Option AV
  | [v, u, w] => (bs? v).bind fun _ => (irow? u).bind fun _ => (irow? w).bind fun _ => some (.raw (.bool true))
  | _ => none
structure SureI (us : Abs.Id → Bool) (m : Nat) (d : Dk) (all : List (BitVec 8)) (s : Nat) : Prop where
  di : DI us m d
  off : d.off = false
  burns : d.burns = false
  le : s ≤ all.length
  sure : (d.f 2).sure = all.take s
  lays : ∀ c ∈ (d.f 2).sc.l, ∃ b, c = .lay b
  now : (d.f 2).now = all
theorem sureI0 (us : Abs.Id → Bool) : SureI us 0 newD [] 0 := ⟨DI.new _, rfl, rfl, Nat.le_refl _, rfl, fun c hc => (by cases hc), rfl⟩
theorem n00 : ((0 : Int) != 0) = false := rfl
def tbBn0 := (And.intro (And.intro (And.intro (And.intro @teE (And.intro @E8_te @E8_glob)) (And.intro @E8_gs (And.intro @E8_dyn @E8_mu))) (And.intro (And.intro @E8_few (And.intro @E8_kind @E8_new)) (And.intro @E8_ap (And.intro @E8_cut @E8_sync)))) (And.intro (And.intro (And.intro @E8_read (And.intro @E8_boot @E8_on)) (And.intro @E8_steps (And.intro @E8_fuse @E8_shown))) (And.intro (And.intro @shown_at (And.intro @norm_ptr @kind_at)) (And.intro (And.intro @new_go @enc_ren) (And.intro @newD_ren @str_cut)))))
set_option maxRecDepth 20000 in
theorem sound3 : SoundV Try.prog glob 3 pf3 := by
  refine SoundV.walk E8 ok8 mixed Try.func3 rfl Try.call3 (by kernel_rfl) ?_
  intro args r h
  unfold pf3 at h
  split at h
  · rename_i v u w
    simp only [Option.bind_eq_some_iff] at h
    obtain ⟨l, hl, sy, hsy, kp, hkp, h⟩ := h
    cases h
    obtain ⟨fl, rfl, hok⟩ := bs?_of hl
    obtain ⟨⟨fl2, rfl⟩, hso⟩ := irow?_of hsy
    obtain ⟨⟨fl3, rfl⟩, hko⟩ := irow?_of hkp
    rw [Try.ntmps3, Try.results3]
    refine ⟨by simp, ?_⟩
    have lL := bsA_len l
    simp (maxSteps := 1000000) (disch := first | omega | (simp only [updB, updI, useL, Abs.Id.mk.injEq, Bx.own.injEq, reduceCtorEq, Nat.reduceEqDiff, and_true, true_and, and_false, false_and, if_true, if_false, *]; done) | (simp only [nums_len, nums_len, ints_len, List.length_cons, List.length_nil, List.length_append, List.length_take, List.length_drop, List.length_replicate, List.length_set, List.length_map] <;> omega) | fail) only [ev0, ev1, ev2, ev3, ↓reduceIte, reduceCtorEq, Nat.reduceAdd, Nat.reduceSub, Nat.reduceMul, Nat.reduceLT, Nat.reduceLeDiff, Nat.reduceEqDiff, Nat.reduceBEq, BitVec.reduceOfInt, Int.reduceLE, Int.reduceLT, Int.reduceGT, Int.reduceGE, Int.reduceNeg, Int.reduceAdd, Int.reduceSub, Int.reduceMul, Int.reduceToNat, ↓bind_go, ↓map_go, wantedV, isWrite, grow, write, ofV, AV.cells, Abs.start, Abs.strip, endQ, resV, rawsRes, rawRes, exports, export1, AS.grown, AS.put, Env.know, Env.boxed, isSelf, convSelf, convV, loadV, storeV, fieldAddrV, fieldV, indexAddrV, indexV, partV, isAggK, isStr, place, lenV, min2V, makeV, freshSl, sliceV, boundOr, bound, bounds, cutFl, copyV, slCells, srcV, appendV, room, zerosOf, eqNeg, kd, takeR, hasViewL, hasView, freshR, freshC, snapAll, snap, snapL, flatL, pureL, pureA, fillC, arrOK, oneA, partB, AV.laid, ren1, CR.gr, applyW, useL, AS.mute, isGen, startG, ev5, tbBn0, Bool.true_or, Bool.or_true, glob, Bx.own.injEq, and_false, false_and, and_true, true_and, List.drop_succ_cons, List.drop_zero, List.drop_nil]
    refine loopQ_fut _ (Wk.refl _) (fun m σ => ∃ (i : Nat) (d : Dk) (all : List (BitVec 8)) (s : Nat), i ≤ 20 ∧ i ≤ l.length ∧ m = 20 - i ∧ σ.slots 11 = .raw (.int .i64 (i : Int)) ∧ σ.slots 10 = .raw (.int .i64 (s : Int)) ∧ σ.slots 9 = .raw (.string ⟨(all.map UInt8.ofBitVec).toArray⟩) ∧ σ.slots 8 = .ptr (.own 0 16 1) 0 ∧ σ.slots 0 = .sl l.length (bsA l) .bor ∧ σ.slots 1 = .sl sy.length (ints .i64 sy) .bor ∧ σ.slots 2 = .sl kp.length (ints .i64 kp) .bor ∧ σ.box (.own 0 16 1) = some (enc d) ∧ SureI σ.used (121 * i) d all s ∧ all.length ≤ 100 * i) 20 ?_ ?_
    · refine ⟨0, newD, [], 0, by omega, by omega, by omega, ?_⟩
      simp (maxSteps := 1000000) (disch := first | omega | (simp only [updB, updI, useL, Abs.Id.mk.injEq, Bx.own.injEq, reduceCtorEq, Nat.reduceEqDiff, and_true, true_and, and_false, false_and, if_true, if_false, *]; done) | (simp only [nums_len, nums_len, ints_len, List.length_cons, List.length_nil, List.length_append, List.length_take, List.length_drop, List.length_replicate, List.length_set, List.length_map] <;> omega) | fail) only [ev0, ev1, ev2, ev3, ↓reduceIte, reduceCtorEq, Nat.reduceAdd, Nat.reduceSub, Nat.reduceMul, Nat.reduceLT, Nat.reduceLeDiff, Nat.reduceEqDiff, Nat.reduceBEq, BitVec.reduceOfInt, Int.reduceLE, Int.reduceLT, Int.reduceGT, Int.reduceGE, Int.reduceNeg, Int.reduceAdd, Int.reduceSub, Int.reduceMul, Int.reduceToNat, ↓bind_go, ↓map_go, wantedV, isWrite, grow, write, ofV, AV.cells, Abs.start, Abs.strip, endQ, resV, rawsRes, rawRes, exports, export1, AS.grown, AS.put, Env.know, Env.boxed, isSelf, convSelf, convV, loadV, storeV, fieldAddrV, fieldV, indexAddrV, indexV, partV, isAggK, isStr, place, lenV, min2V, makeV, freshSl, sliceV, boundOr, bound, bounds, cutFl, copyV, slCells, srcV, appendV, room, zerosOf, eqNeg, kd, takeR, hasViewL, hasView, freshR, freshC, snapAll, snap, snapL, flatL, pureL, pureA, fillC, arrOK, oneA, partB, AV.laid, ren1, CR.gr, applyW, useL, AS.mute, isGen, startG, ev5, tbBn0, Bool.true_or, Bool.or_true, glob, Bx.own.injEq, and_false, false_and, and_true, true_and, List.drop_succ_cons, List.drop_zero, List.drop_nil]
      repeat' first | exact rfl | exact sureI0 _ | refine ⟨?_, ?_⟩
    · rintro m ⟨sl, gn, bx, us⟩ ⟨i, d, all, s, hi, hil, rfl, s11, s10, s9, s8, s0, s1, s2, bd, hS, hal⟩ hfut
      have fr := fun (s g : Nat) (h : gn s < g) => hS.di.fresh hfut bd (s := s) (g := g) h
      dsimp only at s11 s10 s9 s8 s0 s1 s2 bd hS fr
      have h4 := hS.di.len
      by_cases hgo : i < l.length ∧ i < 20
      · have e1 : decide ((i : Int) < (l.length : Int)) = true := decide_eq_true (by omega)
        have e2 : decide ((i : Int) < 20) = true := decide_eq_true (by omega)
        obtain ⟨rr, hop⟩ := bsA_at l i hgo.1
        obtain ⟨o, ho⟩ : ∃ o, l[i]'(hgo.1) = o := ⟨_, rfl⟩
        rw [ho] at hop
        have o4 := hok o (by rw [← ho]; exact List.getElem_mem _)
        obtain ⟨t, ht⟩ : ∃ t, o.take 100 = t := ⟨_, rfl⟩
        have lt : t.length ≤ 100 := by rw [← ht, List.length_take]; omega
        have few1 : ∀ {n : Nat} {fl : Fl}, n = o.length → pf25 [.sl n (nums .u8 o) fl] = some (.sl t.length (nums .u8 t) .bor) := fun h => by rw [← ht]; exact few_at h
        have hpo : (powerD d).off = false := by simp only [powerD, hS.off, hS.burns, Bool.false_and, Bool.or_false]
        obtain ⟨u, hu, hnext⟩ := hS.di.ap (k := 2) (by omega) lt (by omega) hpo
        have hD' := hnext ⟨0, 39, 0, gn 39 + 1⟩ rfl (Nat.succ_ne_zero _) (fr 39 (gn 39 + 1) (by omega)).1 (fr 39 (gn 39 + 1) (by omega)).2
        have kap := fun {b : Bx} {bx : Boxes} {n : Nat} {fl : Fl} (hb : bx b = some (enc d)) (hn : n = t.length) => append_go (us := us) (u := u) (b := b) (n := n) (fl := fl) (t := t) (k := 2) (f := 2) h4 rfl (by omega) (hS.di.okN (by omega) (by omega)) hpo (by rw [hS.now]; omega) hb hn hu
        have hren := apD_ren hS.di.ok 2 t 0 39 (gn 39 + 1)
        obtain ⟨d', hd'⟩ : ∃ d', apD d 2 t ⟨0, 39, 0, gn 39 + 1⟩ = d' := ⟨_, rfl⟩
        have hf2 : d'.f 2 = { d.f 2 with now := (d.f 2).now ++ t, nf := .bor, sc := .sl ((d.f 2).sc.l ++ [.lay t]) (.own ⟨0, 39, 0, gn 39 + 1⟩ 3) } := by
          rw [← hd', apD, setF_at (by exact h4) (by omega)]
        have hS' : SureI (useL us u) (121 * i + 101) d' (all ++ t) s := by
          rw [hd'] at hD'
          refine ⟨hD', by rw [← hd']; exact hpo, by rw [← hd']; exact hS.burns, by rw [List.length_append]; have := hS.le; omega, ?_, ?_, ?_⟩
          · rw [hf2]
            show (d.f 2).sure = _
            rw [hS.sure, List.take_append_of_le_length hS.le]
          · rw [hf2]
            intro c hc
            rcases List.mem_append.1 hc with hc | hc
            · exact hS.lays c hc
            · exact ⟨t, List.mem_singleton.1 hc⟩
          · rw [hf2]
            show (d.f 2).now ++ t = _
            rw [hS.now]
        rw [hd'] at hren
        have lA : (all ++ t).length ≤ 100 * (i + 1) := by rw [List.length_append]; omega
        have hmap : all.map UInt8.ofBitVec ++ t.map UInt8.ofBitVec = (all ++ t).map UInt8.ofBitVec := List.map_append.symm
        simp (maxSteps := 1000000) (disch := first | omega | (simp only [updB, updI, useL, Abs.Id.mk.injEq, Bx.own.injEq, reduceCtorEq, Nat.reduceEqDiff, and_true, true_and, and_false, false_and, if_true, if_false, *]; done) | (simp only [nums_len, nums_len, ints_len, List.length_cons, List.length_nil, List.length_append, List.length_take, List.length_drop, List.length_replicate, List.length_set, List.length_map] <;> omega) | fail) only [ev0, ev1, ev2, ev3, ↓reduceIte, reduceCtorEq, Nat.reduceAdd, Nat.reduceSub, Nat.reduceMul, Nat.reduceLT, Nat.reduceLeDiff, Nat.reduceEqDiff, Nat.reduceBEq, BitVec.reduceOfInt, Int.reduceLE, Int.reduceLT, Int.reduceGT, Int.reduceGE, Int.reduceNeg, Int.reduceAdd, Int.reduceSub, Int.reduceMul, Int.reduceToNat, ↓bind_go, ↓map_go, wantedV, isWrite, grow, write, ofV, AV.cells, Abs.start, Abs.strip, endQ, resV, rawsRes, rawRes, exports, export1, AS.grown, AS.put, Env.know, Env.boxed, isSelf, convSelf, convV, loadV, storeV, fieldAddrV, fieldV, indexAddrV, indexV, partV, isAggK, isStr, place, lenV, min2V, makeV, freshSl, sliceV, boundOr, bound, bounds, cutFl, copyV, slCells, srcV, appendV, room, zerosOf, eqNeg, kd, takeR, hasViewL, hasView, freshR, freshC, snapAll, snap, snapL, flatL, pureL, pureA, fillC, arrOK, oneA, partB, AV.laid, ren1, CR.gr, applyW, useL, AS.mute, isGen, startG, ev5, tbBn0, Bool.true_or, Bool.or_true, glob, Bx.own.injEq, and_false, false_and, and_true, true_and, List.drop_succ_cons, List.drop_zero, List.drop_nil, s11, s10, s9, s8, s0, s1, s2, bd, lL, e1, e2, hop, few1, kap, hren, n00, hmap]
        generalize all ++ t = A at hS' lA
        refine loopQ_of (fun m σ => ∃ (j : Nat) (d : Dk) (s : Nat), j ≤ 20 ∧ j ≤ sy.length ∧ m = 20 - j ∧ σ.slots 12 = .raw (.int .i64 (j : Int)) ∧ σ.slots 11 = .raw (.int .i64 (i : Int)) ∧ σ.slots 10 = .raw (.int .i64 (s : Int)) ∧ σ.slots 9 = .raw (.string ⟨(A.map UInt8.ofBitVec).toArray⟩) ∧ σ.slots 8 = .ptr (.own 0 16 1) 0 ∧ σ.slots 0 = .sl l.length (bsA l) .bor ∧ σ.slots 1 = .sl sy.length (ints .i64 sy) .bor ∧ σ.slots 2 = .sl kp.length (ints .i64 kp) .bor ∧ σ.box (.own 0 16 1) = some (enc d) ∧ SureI σ.used (121 * i + 101 + j) d A s) 20 ?_ ?_
        · refine ⟨0, d', s, by omega, by omega, by omega, ?_⟩
          simp (maxSteps := 1000000) (disch := first | omega | (simp only [updB, updI, useL, Abs.Id.mk.injEq, Bx.own.injEq, reduceCtorEq, Nat.reduceEqDiff, and_true, true_and, and_false, false_and, if_true, if_false, *]; done) | (simp only [nums_len, nums_len, ints_len, List.length_cons, List.length_nil, List.length_append, List.length_take, List.length_drop, List.length_replicate, List.length_set, List.length_map] <;> omega) | fail) only [ev0, ev1, ev2, ev3, ↓reduceIte, reduceCtorEq, Nat.reduceAdd, Nat.reduceSub, Nat.reduceMul, Nat.reduceLT, Nat.reduceLeDiff, Nat.reduceEqDiff, Nat.reduceBEq, BitVec.reduceOfInt, Int.reduceLE, Int.reduceLT, Int.reduceGT, Int.reduceGE, Int.reduceNeg, Int.reduceAdd, Int.reduceSub, Int.reduceMul, Int.reduceToNat, ↓bind_go, ↓map_go, wantedV, isWrite, grow, write, ofV, AV.cells, Abs.start, Abs.strip, endQ, resV, rawsRes, rawRes, exports, export1, AS.grown, AS.put, Env.know, Env.boxed, isSelf, convSelf, convV, loadV, storeV, fieldAddrV, fieldV, indexAddrV, indexV, partV, isAggK, isStr, place, lenV, min2V, makeV, freshSl, sliceV, boundOr, bound, bounds, cutFl, copyV, slCells, srcV, appendV, room, zerosOf, eqNeg, kd, takeR, hasViewL, hasView, freshR, freshC, snapAll, snap, snapL, flatL, pureL, pureA, fillC, arrOK, oneA, partB, AV.laid, ren1, CR.gr, applyW, useL, AS.mute, isGen, startG, ev5, tbBn0, Bool.true_or, Bool.or_true, glob, Bx.own.injEq, and_false, false_and, and_true, true_and, List.drop_succ_cons, List.drop_zero, List.drop_nil, s11, s10, s9, s8, s0, s1, s2, bd]
          exact ⟨rfl, hS'⟩
        · rintro m ⟨sl, gn, bx, us⟩ ⟨j, d, s, hj, hjl, rfl, s12, s11, s10, s9, s8, s0, s1, s2, bd, hS⟩
          dsimp only at s12 s11 s10 s9 s8 s0 s1 s2 bd hS
          have h4 := hS.di.len
          by_cases hjo : j < sy.length ∧ j < 20
          · have e3 : decide ((j : Int) < (sy.length : Int)) = true := decide_eq_true (by omega)
            have e4 : decide ((j : Int) < 20) = true := decide_eq_true (by omega)
            have hz := ints_at sy j hjo.1
            have hzo := hso _ (getD_mem hjo.1)
            generalize sy.getD j 0 = z at hz hzo
            have hpo : (powerD d).off = false := by simp only [powerD, hS.off, hS.burns, Bool.false_and, Bool.or_false]
            by_cases hk : kindF z 20 = (i : Int)
            · have e5 : (kindF z 20 == (i : Int)) = true := beq_iff_eq.2 hk
              have hD' := hS.di.sync (k := 2) (by omega) hpo
              have kap := fun {b : Bx} {bx : Boxes} (hb : bx b = some (enc d)) => sync_go (us := us) (b := b) (k := 2) (f := 2) h4 rfl (by omega) (hS.di.okN (by omega) (by omega)) (hS.di.f 2 (by omega)).nf hpo hb
              have hren := hD'.ok.ren 0 67 (gn 67 + 1)
              obtain ⟨d', hd'⟩ : ∃ d', syncD d 2 = d' := ⟨_, rfl⟩
              have hf2 : d'.f 2 = { d.f 2 with sure := (d.f 2).now, sf := .bor, sc := .nil } := by
                rw [← hd', syncD, setF_at (by exact h4) (by omega)]
              have hS' : SureI us (121 * i + 101 + (j + 1)) d' A A.length := by
                rw [hd'] at hD'
                refine ⟨hD', by rw [← hd']; exact hpo, by rw [← hd']; exact hS.burns, Nat.le_refl _, ?_, ?_, ?_⟩
                · rw [hf2]
                  show (d.f 2).now = _
                  rw [hS.now, List.take_length]
                · rw [hf2]
                  intro c hc
                  cases hc
                · rw [hf2]
                  exact hS.now
              rw [hd'] at hren kap
              simp (maxSteps := 1000000) (disch := first | omega | (simp only [updB, updI, useL, Abs.Id.mk.injEq, Bx.own.injEq, reduceCtorEq, Nat.reduceEqDiff, and_true, true_and, and_false, false_and, if_true, if_false, *]; done) | (simp only [nums_len, nums_len, ints_len, List.length_cons, List.length_nil, List.length_append, List.length_take, List.length_drop, List.length_replicate, List.length_set, List.length_map] <;> omega) | fail) only [ev0, ev1, ev2, ev3, ↓reduceIte, reduceCtorEq, Nat.reduceAdd, Nat.reduceSub, Nat.reduceMul, Nat.reduceLT, Nat.reduceLeDiff, Nat.reduceEqDiff, Nat.reduceBEq, BitVec.reduceOfInt, Int.reduceLE, Int.reduceLT, Int.reduceGT, Int.reduceGE, Int.reduceNeg, Int.reduceAdd, Int.reduceSub, Int.reduceMul, Int.reduceToNat, ↓bind_go, ↓map_go, wantedV, isWrite, grow, write, ofV, AV.cells, Abs.start, Abs.strip, endQ, resV, rawsRes, rawRes, exports, export1, AS.grown, AS.put, Env.know, Env.boxed, isSelf, convSelf, convV, loadV, storeV, fieldAddrV, fieldV, indexAddrV, indexV, partV, isAggK, isStr, place, lenV, min2V, makeV, freshSl, sliceV, boundOr, bound, bounds, cutFl, copyV, slCells, srcV, appendV, room, zerosOf, eqNeg, kd, takeR, hasViewL, hasView, freshR, freshC, snapAll, snap, snapL, flatL, pureL, pureA, fillC, arrOK, oneA, partB, AV.laid, ren1, CR.gr, applyW, useL, AS.mute, isGen, startG, ev5, tbBn0, Bool.true_or, Bool.or_true, glob, Bx.own.injEq, and_false, false_and, and_true, true_and, List.drop_succ_cons, List.drop_zero, List.drop_nil, s12, s11, s10, s9, s8, s0, s1, s2, bd, e3, e4, hz, e5, kap, hren, n00]
              exact ⟨20 - (j + 1), by omega, j + 1, d', A.length, by omega, by omega, rfl, rfl, rfl, rfl, hS'⟩
            · have e5 : (kindF z 20 == (i : Int)) = false := beq_eq_false_iff_ne.2 hk
              have hS' : SureI us (121 * i + 101 + (j + 1)) d A s := ⟨hS.di.mono (by omega), hS.off, hS.burns, hS.le, hS.sure, hS.lays, hS.now⟩
              simp (maxSteps := 1000000) (disch := first | omega | (simp only [updB, updI, useL, Abs.Id.mk.injEq, Bx.own.injEq, reduceCtorEq, Nat.reduceEqDiff, and_true, true_and, and_false, false_and, if_true, if_false, *]; done) | (simp only [nums_len, nums_len, ints_len, List.length_cons, List.length_nil, List.length_append, List.length_take, List.length_drop, List.length_replicate, List.length_set, List.length_map] <;> omega) | fail) only [ev0, ev1, ev2, ev3, ↓reduceIte, reduceCtorEq, Nat.reduceAdd, Nat.reduceSub, Nat.reduceMul, Nat.reduceLT, Nat.reduceLeDiff, Nat.reduceEqDiff, Nat.reduceBEq, BitVec.reduceOfInt, Int.reduceLE, Int.reduceLT, Int.reduceGT, Int.reduceGE, Int.reduceNeg, Int.reduceAdd, Int.reduceSub, Int.reduceMul, Int.reduceToNat, ↓bind_go, ↓map_go, wantedV, isWrite, grow, write, ofV, AV.cells, Abs.start, Abs.strip, endQ, resV, rawsRes, rawRes, exports, export1, AS.grown, AS.put, Env.know, Env.boxed, isSelf, convSelf, convV, loadV, storeV, fieldAddrV, fieldV, indexAddrV, indexV, partV, isAggK, isStr, place, lenV, min2V, makeV, freshSl, sliceV, boundOr, bound, bounds, cutFl, copyV, slCells, srcV, appendV, room, zerosOf, eqNeg, kd, takeR, hasViewL, hasView, freshR, freshC, snapAll, snap, snapL, flatL, pureL, pureA, fillC, arrOK, oneA, partB, AV.laid, ren1, CR.gr, applyW, useL, AS.mute, isGen, startG, ev5, tbBn0, Bool.true_or, Bool.or_true, glob, Bx.own.injEq, and_false, false_and, and_true, true_and, List.drop_succ_cons, List.drop_zero, List.drop_nil, s12, s11, s10, s9, s8, s0, s1, s2, bd, e3, e4, hz, e5]
              exact ⟨20 - (j + 1), by omega, j + 1, d, s, by omega, by omega, rfl, rfl, rfl, rfl, hS'⟩
          · have hS' : SureI us (121 * (i + 1)) d A s := ⟨hS.di.mono (by omega), hS.off, hS.burns, hS.le, hS.sure, hS.lays, hS.now⟩
            by_cases hj2 : j < sy.length
            · have e3 : decide ((j : Int) < (sy.length : Int)) = true := decide_eq_true (by omega)
              have e4 : decide ((j : Int) < 20) = false := decide_eq_false (by omega)
              simp (maxSteps := 1000000) (disch := first | omega | (simp only [updB, updI, useL, Abs.Id.mk.injEq, Bx.own.injEq, reduceCtorEq, Nat.reduceEqDiff, and_true, true_and, and_false, false_and, if_true, if_false, *]; done) | (simp only [nums_len, nums_len, ints_len, List.length_cons, List.length_nil, List.length_append, List.length_take, List.length_drop, List.length_replicate, List.length_set, List.length_map] <;> omega) | fail) only [ev0, ev1, ev2, ev3, ↓reduceIte, reduceCtorEq, Nat.reduceAdd, Nat.reduceSub, Nat.reduceMul, Nat.reduceLT, Nat.reduceLeDiff, Nat.reduceEqDiff, Nat.reduceBEq, BitVec.reduceOfInt, Int.reduceLE, Int.reduceLT, Int.reduceGT, Int.reduceGE, Int.reduceNeg, Int.reduceAdd, Int.reduceSub, Int.reduceMul, Int.reduceToNat, ↓bind_go, ↓map_go, wantedV, isWrite, grow, write, ofV, AV.cells, Abs.start, Abs.strip, endQ, resV, rawsRes, rawRes, exports, export1, AS.grown, AS.put, Env.know, Env.boxed, isSelf, convSelf, convV, loadV, storeV, fieldAddrV, fieldV, indexAddrV, indexV, partV, isAggK, isStr, place, lenV, min2V, makeV, freshSl, sliceV, boundOr, bound, bounds, cutFl, copyV, slCells, srcV, appendV, room, zerosOf, eqNeg, kd, takeR, hasViewL, hasView, freshR, freshC, snapAll, snap, snapL, flatL, pureL, pureA, fillC, arrOK, oneA, partB, AV.laid, ren1, CR.gr, applyW, useL, AS.mute, isGen, startG, ev5, tbBn0, Bool.true_or, Bool.or_true, glob, Bx.own.injEq, and_false, false_and, and_true, true_and, List.drop_succ_cons, List.drop_zero, List.drop_nil, s12, s11, s10, s9, s8, s0, s1, s2, bd, e3, e4]
              exact ⟨20 - (i + 1), by omega, i + 1, d, A, s, by omega, by omega, rfl, rfl, rfl, rfl, rfl, hS', lA⟩
            · have e3 : decide ((j : Int) < (sy.length : Int)) = false := decide_eq_false (by omega)
              simp (maxSteps := 1000000) (disch := first | omega | (simp only [updB, updI, useL, Abs.Id.mk.injEq, Bx.own.injEq, reduceCtorEq, Nat.reduceEqDiff, and_true, true_and, and_false, false_and, if_true, if_false, *]; done) | (simp only [nums_len, nums_len, ints_len, List.length_cons, List.length_nil, List.length_append, List.length_take, List.length_drop, List.length_replicate, List.length_set, List.length_map] <;> omega) | fail) only [ev0, ev1, ev2, ev3, ↓reduceIte, reduceCtorEq, Nat.reduceAdd, Nat.reduceSub, Nat.reduceMul, Nat.reduceLT, Nat.reduceLeDiff, Nat.reduceEqDiff, Nat.reduceBEq, BitVec.reduceOfInt, Int.reduceLE, Int.reduceLT, Int.reduceGT, Int.reduceGE, Int.reduceNeg, Int.reduceAdd, Int.reduceSub, Int.reduceMul, Int.reduceToNat, ↓bind_go, ↓map_go, wantedV, isWrite, grow, write, ofV, AV.cells, Abs.start, Abs.strip, endQ, resV, rawsRes, rawRes, exports, export1, AS.grown, AS.put, Env.know, Env.boxed, isSelf, convSelf, convV, loadV, storeV, fieldAddrV, fieldV, indexAddrV, indexV, partV, isAggK, isStr, place, lenV, min2V, makeV, freshSl, sliceV, boundOr, bound, bounds, cutFl, copyV, slCells, srcV, appendV, room, zerosOf, eqNeg, kd, takeR, hasViewL, hasView, freshR, freshC, snapAll, snap, snapL, flatL, pureL, pureA, fillC, arrOK, oneA, partB, AV.laid, ren1, CR.gr, applyW, useL, AS.mute, isGen, startG, ev5, tbBn0, Bool.true_or, Bool.or_true, glob, Bx.own.injEq, and_false, false_and, and_true, true_and, List.drop_succ_cons, List.drop_zero, List.drop_nil, s12, s11, s10, s9, s8, s0, s1, s2, bd, e3]
              exact ⟨20 - (i + 1), by omega, i + 1, d, A, s, by omega, by omega, rfl, rfl, rfl, rfl, rfl, hS', lA⟩
      · have hB := hS.di.boot kp
        have hob := hB.ok.ren 0 73 (gn 73 + 1)
        have kbo := fun {b : Bx} {bx : Boxes} (hb : bx b = some (enc d)) => boot_go (us := us) (b := b) (l := kp) (n := kp.length) (fl := .bor) h4 (hS.di.bootOK (by omega)) hko hb rfl
        have hN : ((bootD d kp).f 2).now = bootN kp 2 (d.f 2) := by rw [boot_f h4 kp (by omega)]; rfl
        obtain ⟨q1, q2, q3, q4⟩ := boot_like hS.le hS.sure hS.lays ((hS.di.f 2 (by omega)).fold.trans hS.now) kp 2
        generalize bootN kp 2 (d.f 2) = B at hN q1 q2 q3 q4
        obtain ⟨d', hd'⟩ : ∃ d', bootD d kp = d' := ⟨_, rfl⟩
        have hof' : d'.off = false := by rw [← hd']; rfl
        rw [hd'] at hB hob kbo hN
        have krd := fun {b : Bx} {bx : Boxes} {us : Abs.Id → Bool} (hb : bx b = some (enc d')) => read_go (us := us) (b := b) (k := 2) (f := 2) hB.len rfl (by omega) hof' (by rw [hN]; omega) hb
        rw [hN] at krd
        have c1 : decide ((B.length : Int) < (s : Int)) = false := decide_eq_false (by omega)
        have c2 : decide ((B.length : Int) > (all.length : Int)) = false := decide_eq_false (by omega)
        have c3 : (List.map UInt8.ofBitVec (List.take s B) == List.take s (List.map UInt8.ofBitVec all)) = true := by rw [q3, List.map_take]; exact beq_self_eq_true _
        have c5 : (List.map UInt8.ofBitVec (List.take (B.length - 1) B) == List.take (B.length - 1) (List.map UInt8.ofBitVec all)) = true := by rw [q4, List.map_take]; exact beq_self_eq_true _
        have hle := hS.le
        by_cases hi2 : i < l.length
        · have e1 : decide ((i : Int) < (l.length : Int)) = true := decide_eq_true (by omega)
          have e2 : decide ((i : Int) < 20) = false := decide_eq_false (by omega)
          by_cases hq : B.length = s
          · rw [List.take_of_length_le (by omega)] at c3
            have c4 : ((B.length : Int) == (s : Int)) = true := beq_iff_eq.2 (by omega)
            simp (maxSteps := 1000000) (disch := first | omega | (simp only [updB, updI, useL, Abs.Id.mk.injEq, Bx.own.injEq, reduceCtorEq, Nat.reduceEqDiff, and_true, true_and, and_false, false_and, if_true, if_false, *]; done) | (simp only [nums_len, nums_len, ints_len, List.length_cons, List.length_nil, List.length_append, List.length_take, List.length_drop, List.length_replicate, List.length_set, List.length_map] <;> omega) | fail) only [ev0, ev1, ev2, ev3, ↓reduceIte, reduceCtorEq, Nat.reduceAdd, Nat.reduceSub, Nat.reduceMul, Nat.reduceLT, Nat.reduceLeDiff, Nat.reduceEqDiff, Nat.reduceBEq, BitVec.reduceOfInt, Int.reduceLE, Int.reduceLT, Int.reduceGT, Int.reduceGE, Int.reduceNeg, Int.reduceAdd, Int.reduceSub, Int.reduceMul, Int.reduceToNat, ↓bind_go, ↓map_go, wantedV, isWrite, grow, write, ofV, AV.cells, Abs.start, Abs.strip, endQ, resV, rawsRes, rawRes, exports, export1, AS.grown, AS.put, Env.know, Env.boxed, isSelf, convSelf, convV, loadV, storeV, fieldAddrV, fieldV, indexAddrV, indexV, partV, isAggK, isStr, place, lenV, min2V, makeV, freshSl, sliceV, boundOr, bound, bounds, cutFl, copyV, slCells, srcV, appendV, room, zerosOf, eqNeg, kd, takeR, hasViewL, hasView, freshR, freshC, snapAll, snap, snapL, flatL, pureL, pureA, fillC, arrOK, oneA, partB, AV.laid, ren1, CR.gr, applyW, useL, AS.mute, isGen, startG, ev5, tbBn0, Bool.true_or, Bool.or_true, glob, Bx.own.injEq, and_false, false_and, and_true, true_and, List.drop_succ_cons, List.drop_zero, List.drop_nil, s11, s10, s9, s8, s0, s1, s2, bd, lL, e1, e2, kbo, hob, krd, c1, c2, c3, c4, n00]
            exact ResQ.same rfl
          · have c4 : ((B.length : Int) == (s : Int)) = false := beq_eq_false_iff_ne.2 (by omega)
            simp (maxSteps := 1000000) (disch := first | omega | (simp only [updB, updI, useL, Abs.Id.mk.injEq, Bx.own.injEq, reduceCtorEq, Nat.reduceEqDiff, and_true, true_and, and_false, false_and, if_true, if_false, *]; done) | (simp only [nums_len, nums_len, ints_len, List.length_cons, List.length_nil, List.length_append, List.length_take, List.length_drop, List.length_replicate, List.length_set, List.length_map] <;> omega) | fail) only [ev0, ev1, ev2, ev3, ↓reduceIte, reduceCtorEq, Nat.reduceAdd, Nat.reduceSub, Nat.reduceMul, Nat.reduceLT, Nat.reduceLeDiff, Nat.reduceEqDiff, Nat.reduceBEq, BitVec.reduceOfInt, Int.reduceLE, Int.reduceLT, Int.reduceGT, Int.reduceGE, Int.reduceNeg, Int.reduceAdd, Int.reduceSub, Int.reduceMul, Int.reduceToNat, ↓bind_go, ↓map_go, wantedV, isWrite, grow, write, ofV, AV.cells, Abs.start, Abs.strip, endQ, resV, rawsRes, rawRes, exports, export1, AS.grown, AS.put, Env.know, Env.boxed, isSelf, convSelf, convV, loadV, storeV, fieldAddrV, fieldV, indexAddrV, indexV, partV, isAggK, isStr, place, lenV, min2V, makeV, freshSl, sliceV, boundOr, bound, bounds, cutFl, copyV, slCells, srcV, appendV, room, zerosOf, eqNeg, kd, takeR, hasViewL, hasView, freshR, freshC, snapAll, snap, snapL, flatL, pureL, pureA, fillC, arrOK, oneA, partB, AV.laid, ren1, CR.gr, applyW, useL, AS.mute, isGen, startG, ev5, tbBn0, Bool.true_or, Bool.or_true, glob, Bx.own.injEq, and_false, false_and, and_true, true_and, List.drop_succ_cons, List.drop_zero, List.drop_nil, s11, s10, s9, s8, s0, s1, s2, bd, lL, e1, e2, kbo, hob, krd, c1, c2, c3, c4, c5, n00]
            exact ResQ.same rfl
        · have e1 : decide ((i : Int) < (l.length : Int)) = false := decide_eq_false (by omega)
          by_cases hq : B.length = s
          · rw [List.take_of_length_le (by omega)] at c3
            have c4 : ((B.length : Int) == (s : Int)) = true := beq_iff_eq.2 (by omega)
            simp (maxSteps := 1000000) (disch := first | omega | (simp only [updB, updI, useL, Abs.Id.mk.injEq, Bx.own.injEq, reduceCtorEq, Nat.reduceEqDiff, and_true, true_and, and_false, false_and, if_true, if_false, *]; done) | (simp only [nums_len, nums_len, ints_len, List.length_cons, List.length_nil, List.length_append, List.length_take, List.length_drop, List.length_replicate, List.length_set, List.length_map] <;> omega) | fail) only [ev0, ev1, ev2, ev3, ↓reduceIte, reduceCtorEq, Nat.reduceAdd, Nat.reduceSub, Nat.reduceMul, Nat.reduceLT, Nat.reduceLeDiff, Nat.reduceEqDiff, Nat.reduceBEq, BitVec.reduceOfInt, Int.reduceLE, Int.reduceLT, Int.reduceGT, Int.reduceGE, Int.reduceNeg, Int.reduceAdd, Int.reduceSub, Int.reduceMul, Int.reduceToNat, ↓bind_go, ↓map_go, wantedV, isWrite, grow, write, ofV, AV.cells, Abs.start, Abs.strip, endQ, resV, rawsRes, rawRes, exports, export1, AS.grown, AS.put, Env.know, Env.boxed, isSelf, convSelf, convV, loadV, storeV, fieldAddrV, fieldV, indexAddrV, indexV, partV, isAggK, isStr, place, lenV, min2V, makeV, freshSl, sliceV, boundOr, bound, bounds, cutFl, copyV, slCells, srcV, appendV, room, zerosOf, eqNeg, kd, takeR, hasViewL, hasView, freshR, freshC, snapAll, snap, snapL, flatL, pureL, pureA, fillC, arrOK, oneA, partB, AV.laid, ren1, CR.gr, applyW, useL, AS.mute, isGen, startG, ev5, tbBn0, Bool.true_or, Bool.or_true, glob, Bx.own.injEq, and_false, false_and, and_true, true_and, List.drop_succ_cons, List.drop_zero, List.drop_nil, s11, s10, s9, s8, s0, s1, s2, bd, lL, e1, kbo, hob, krd, c1, c2, c3, c4, n00]
            exact ResQ.same rfl
          · have c4 : ((B.length : Int) == (s : Int)) = false := beq_eq_false_iff_ne.2 (by omega)
            simp (maxSteps := 1000000) (disch := first | omega | (simp only [updB, updI, useL, Abs.Id.mk.injEq, Bx.own.injEq, reduceCtorEq, Nat.reduceEqDiff, and_true, true_and, and_false, false_and, if_true, if_false, *]; done) | (simp only [nums_len, nums_len, ints_len, List.length_cons, List.length_nil, List.length_append, List.length_take, List.length_drop, List.length_replicate, List.length_set, List.length_map] <;> omega) | fail) only [ev0, ev1, ev2, ev3, ↓reduceIte, reduceCtorEq, Nat.reduceAdd, Nat.reduceSub, Nat.reduceMul, Nat.reduceLT, Nat.reduceLeDiff, Nat.reduceEqDiff, Nat.reduceBEq, BitVec.reduceOfInt, Int.reduceLE, Int.reduceLT, Int.reduceGT, Int.reduceGE, Int.reduceNeg, Int.reduceAdd, Int.reduceSub, Int.reduceMul, Int.reduceToNat, ↓bind_go, ↓map_go, wantedV, isWrite, grow, write, ofV, AV.cells, Abs.start, Abs.strip, endQ, resV, rawsRes, rawRes, exports, export1, AS.grown, AS.put, Env.know, Env.boxed, isSelf, convSelf, convV, loadV, storeV, fieldAddrV, fieldV, indexAddrV, indexV, partV, isAggK, isStr, place, lenV, min2V, makeV, freshSl, sliceV, boundOr, bound, bounds, cutFl, copyV, slCells, srcV, appendV, room, zerosOf, eqNeg, kd, takeR, hasViewL, hasView, freshR, freshC, snapAll, snap, snapL, flatL, pureL, pureA, fillC, arrOK, oneA, partB, AV.laid, ren1, CR.gr, applyW, useL, AS.mute, isGen, startG, ev5, tbBn0, Bool.true_or, Bool.or_true, glob, Bx.own.injEq, and_false, false_and, and_true, true_and, List.drop_succ_cons, List.drop_zero, List.drop_nil, s11, s10, s9, s8, s0, s1, s2, bd, lL, e1, kbo, hob, krd, c1, c2, c3, c4, c5, n00]
            exact ResQ.same rfl
  · cases h
end Go.Proofs.Ytjnmdphoaafjaaa
