/- What a Boot needs: which one is picked; a clone that is written to. -/
import Derived.Test.YtjnmdphoaafjaaaBe
namespace Go.Proofs.Ytjnmdphoaafjaaa
set_option linter.unusedSimpArgs false
set_option linter.unusedVariables false
set_option linter.defProp false
open Go Go.Abs
set_option maxHeartbeats 4000000
def pickF (l : List Int) (i : Nat) : Int := if i ≥ l.length then 0 else if l.getD i 0 < 0 then -(l.getD i 0 + 1) else l.getD i 0
def pf71 : List AV → Option AV
  | [.raw (.int .i64 i), .iptr [v]] => (irow? v).bind fun l => if 0 ≤ i then some (.raw (.int .i64 (pickF l i.toNat))) else none
  | _ => none
theorem getD_mem {l : List Int} {i : Nat} (h : i < l.length) : l.getD i 0 ∈ l := by
  rw [List.getD_eq_getElem?_getD, List.getElem?_eq_getElem h]
  exact List.getElem_mem h
def tbBf0 := (And.intro (And.intro @teE (And.intro @E0_te @E0_glob)) (And.intro @E0_gs (And.intro @E0_dyn @E0_mu)))
theorem sound71 : SoundV Try.prog glob 71 pf71 := by
  refine SoundV.walk E0 ok0 mixed Try.func71 rfl Try.call71 (by kernel_rfl) ?_
  intro args r h
  unfold pf71 at h
  split at h
  · rename_i i v
    simp only [Option.bind_eq_some_iff] at h
    obtain ⟨l, h1, h2⟩ := h
    split at h2
    · rename_i hi
      cases h2
      obtain ⟨⟨fl, rfl⟩, ho⟩ := irow?_of h1
      obtain ⟨k, rfl⟩ := Int.eq_ofNat_of_zero_le hi
      rw [Int.toNat_natCast]
      rw [Try.ntmps71, Try.results71]
      refine ⟨by simp, ?_⟩
      by_cases h0 : k ≥ l.length
      · have e0 : decide ((k : Int) ≥ (l.length : Int)) = true := decide_eq_true (by omega)
        simp (maxSteps := 1000000) (disch := first | omega | (simp only [nums_len, lnB] <;> omega) | fail) only [ev0, ev1, ev2, ev3, ↓reduceIte, reduceCtorEq, Nat.reduceAdd, Nat.reduceSub, Nat.reduceMul, Nat.reduceLT, Nat.reduceLeDiff, Nat.reduceEqDiff, Nat.reduceBEq, BitVec.reduceOfInt, Int.reduceLE, Int.reduceLT, Int.reduceGT, Int.reduceGE, Int.reduceNeg, Int.reduceAdd, Int.reduceSub, Int.reduceMul, Int.reduceToNat, ↓bind_go, ↓map_go, wantedV, isWrite, grow, write, ofV, AV.cells, Abs.start, Abs.strip, endQ, resV, rawsRes, rawRes, exports, export1, AS.grown, AS.put, Env.know, Env.boxed, isSelf, convSelf, convV, loadV, storeV, fieldAddrV, fieldV, indexAddrV, indexV, partV, isAggK, isStr, place, lenV, min2V, makeV, freshSl, sliceV, boundOr, bound, bounds, cutFl, copyV, slCells, srcV, appendV, room, zerosOf, eqNeg, kd, takeR, hasViewL, hasView, freshR, freshC, snapAll, snap, snapL, flatL, pureL, pureA, fillC, arrOK, oneA, partB, AV.laid, ren1, CR.gr, applyW, useL, AS.mute, isGen, startG, ev5, tbBf0, glob, Int.toNat_natCast, e0]
        exact ResQ.same (by simp only [pickF, if_pos h0])
      · have hk : k < l.length := by omega
        have e0 : decide ((k : Int) ≥ (l.length : Int)) = false := decide_eq_false (by omega)
        have hb := ho _ (getD_mem hk)
        unfold i64ok at hb
        by_cases h2 : l.getD k 0 < 0
        · simp (maxSteps := 1000000) (disch := first | omega | (simp only [nums_len, lnB] <;> omega) | fail) only [ev0, ev1, ev2, ev3, ↓reduceIte, reduceCtorEq, Nat.reduceAdd, Nat.reduceSub, Nat.reduceMul, Nat.reduceLT, Nat.reduceLeDiff, Nat.reduceEqDiff, Nat.reduceBEq, BitVec.reduceOfInt, Int.reduceLE, Int.reduceLT, Int.reduceGT, Int.reduceGE, Int.reduceNeg, Int.reduceAdd, Int.reduceSub, Int.reduceMul, Int.reduceToNat, ↓bind_go, ↓map_go, wantedV, isWrite, grow, write, ofV, AV.cells, Abs.start, Abs.strip, endQ, resV, rawsRes, rawRes, exports, export1, AS.grown, AS.put, Env.know, Env.boxed, isSelf, convSelf, convV, loadV, storeV, fieldAddrV, fieldV, indexAddrV, indexV, partV, isAggK, isStr, place, lenV, min2V, makeV, freshSl, sliceV, boundOr, bound, bounds, cutFl, copyV, slCells, srcV, appendV, room, zerosOf, eqNeg, kd, takeR, hasViewL, hasView, freshR, freshC, snapAll, snap, snapL, flatL, pureL, pureA, fillC, arrOK, oneA, partB, AV.laid, ren1, CR.gr, applyW, useL, AS.mute, isGen, startG, ev5, tbBf0, glob, Int.toNat_natCast, e0, List.getElem?_drop, Nat.add_zero, ints_get, ints_len, decide_eq_true h2]
          exact ResQ.same (by simp only [pickF, if_neg h0, if_pos h2]; first | rfl | exact i64_eq (by omega))
        · simp (maxSteps := 1000000) (disch := first | omega | (simp only [nums_len, lnB] <;> omega) | fail) only [ev0, ev1, ev2, ev3, ↓reduceIte, reduceCtorEq, Nat.reduceAdd, Nat.reduceSub, Nat.reduceMul, Nat.reduceLT, Nat.reduceLeDiff, Nat.reduceEqDiff, Nat.reduceBEq, BitVec.reduceOfInt, Int.reduceLE, Int.reduceLT, Int.reduceGT, Int.reduceGE, Int.reduceNeg, Int.reduceAdd, Int.reduceSub, Int.reduceMul, Int.reduceToNat, ↓bind_go, ↓map_go, wantedV, isWrite, grow, write, ofV, AV.cells, Abs.start, Abs.strip, endQ, resV, rawsRes, rawRes, exports, export1, AS.grown, AS.put, Env.know, Env.boxed, isSelf, convSelf, convV, loadV, storeV, fieldAddrV, fieldV, indexAddrV, indexV, partV, isAggK, isStr, place, lenV, min2V, makeV, freshSl, sliceV, boundOr, bound, bounds, cutFl, copyV, slCells, srcV, appendV, room, zerosOf, eqNeg, kd, takeR, hasViewL, hasView, freshR, freshC, snapAll, snap, snapL, flatL, pureL, pureA, fillC, arrOK, oneA, partB, AV.laid, ren1, CR.gr, applyW, useL, AS.mute, isGen, startG, ev5, tbBf0, glob, Int.toNat_natCast, e0, List.getElem?_drop, Nat.add_zero, ints_get, ints_len, decide_eq_false h2]
          exact ResQ.same (by simp only [pickF, if_neg h0, if_neg h2])
    · cases h2
  · cases h
def cloneMu (d : Nat) : Bool := d == 5 || d == 7
def EC : Env := E0.boxed cloneMu
theorem okC : EnvOK Try.prog EC := ok0.boxed _
theorem EC_te : EC.te = te := rfl
theorem EC_glob : EC.glob = glob := rfl
theorem EC_mu5 : EC.mu 5 = true := rfl
theorem EC_mu7 : EC.mu 7 = true := rfl
theorem EC_gs : EC.gs = [] := rfl
theorem EC_dyn : EC.dyn = false := rfl
theorem nums_strip (l : List (BitVec 8)) : (nums .u8 l).map strip = nums .u8 l := by
  induction l with
  | nil => rfl
  | cons x l ih => simp only [nums, List.map_cons] at ih ⊢; rw [ih]; rfl
theorem nums_cells {L : Nat} (l : List (BitVec 8)) : ∀ x ∈ nums .u8 l, (∀ n ys i z, x = .sl n ys (.own i z) → i.lvl < L ∧ i.gen ≠ 0) ∧ ∀ vs, x ≠ .tup vs := by
  intro x hx
  simp only [nums, List.mem_map] at hx
  obtain ⟨_, _, rfl⟩ := hx
  exact ⟨fun _ _ _ _ h => (by cases h), fun _ h => (by cases h)⟩
/-- a copy that is one's own -/
def gm69 (args : List AV) (bx : Boxes) (us : Abs.Id → Bool) : Option CR := match args with
  | [v] => (row? .u8 8 v).bind fun m => if m.length ≤ 150000000000000 then
      if m.length = 0 then some { v := .ret (.sl 0 [] .bor) } else some { v := .ret (.view (.own 0 0 0) 0 m.length m.length 1), cont := some (nums .u8 m) } else none
  | _ => none
def tbBf1 := (And.intro (And.intro @teE (And.intro @EC_te @EC_glob)) (And.intro (And.intro @EC_gs @EC_dyn) (And.intro @EC_mu5 @EC_mu7)))
theorem soundM69 : SoundG Try.prog glob 69 gm69 := by
  refine SoundG.walk EC okC mixed Try.func69 rfl Try.call69 (by kernel_rfl) ?_
  intro args bx us cr hr
  unfold gm69 at hr
  split at hr
  · simp only [Option.bind_eq_some_iff] at hr
    obtain ⟨m, h1, hr⟩ := hr
    split at hr
    · rename_i hm
      obtain ⟨fl, rfl⟩ := row?_of h1
      rw [Try.ntmps69, Try.results69]
      split at hr
      · rename_i h0
        cases hr
        have : m = [] := List.eq_nil_of_length_eq_zero h0
        subst this
        refine ⟨by simp, fun L hlow hus hbf => ?_⟩
        simp (maxSteps := 1000000) (disch := first | omega | (simp only [nums_len, lnB] <;> omega) | fail) only [ev0, ev1, ev2, ev3, ↓reduceIte, reduceCtorEq, Nat.reduceAdd, Nat.reduceSub, Nat.reduceMul, Nat.reduceLT, Nat.reduceLeDiff, Nat.reduceEqDiff, Nat.reduceBEq, BitVec.reduceOfInt, Int.reduceLE, Int.reduceLT, Int.reduceGT, Int.reduceGE, Int.reduceNeg, Int.reduceAdd, Int.reduceSub, Int.reduceMul, Int.reduceToNat, ↓bind_go, ↓map_go, wantedV, isWrite, grow, write, ofV, AV.cells, Abs.start, Abs.strip, endQ, resV, rawsRes, rawRes, exports, export1, AS.grown, AS.put, Env.know, Env.boxed, isSelf, convSelf, convV, loadV, storeV, fieldAddrV, fieldV, indexAddrV, indexV, partV, isAggK, isStr, place, lenV, min2V, makeV, freshSl, sliceV, boundOr, bound, bounds, cutFl, copyV, slCells, srcV, appendV, room, zerosOf, eqNeg, kd, takeR, hasViewL, hasView, freshR, freshC, snapAll, snap, snapL, flatL, pureL, pureA, fillC, arrOK, oneA, partB, AV.laid, ren1, CR.gr, applyW, useL, AS.mute, isGen, startG, ev5, tbBf1, glob]
        refine ⟨?_, ?_⟩
        · change EndG _ _ _ _ _ _ _
          exact EndG.r0 [_] [_] rfl (.one .nilb) rfl (fun _ _ => rfl) (fun _ _ => rfl)
        · change EndG _ _ _ _ _ _ _
          exact EndG.r0 [_] [_] rfl (.one (.bor _ _ _ trivial)) rfl (fun _ _ => rfl) (fun _ _ => rfl)
      · rename_i h0
        cases hr
        refine ⟨by simp, fun L hlow hus hbf => ?_⟩
        simp (maxSteps := 1000000) (disch := first | omega | (simp only [nums_len, lnB] <;> omega) | fail) only [ev0, ev1, ev2, ev3, ↓reduceIte, reduceCtorEq, Nat.reduceAdd, Nat.reduceSub, Nat.reduceMul, Nat.reduceLT, Nat.reduceLeDiff, Nat.reduceEqDiff, Nat.reduceBEq, BitVec.reduceOfInt, Int.reduceLE, Int.reduceLT, Int.reduceGT, Int.reduceGE, Int.reduceNeg, Int.reduceAdd, Int.reduceSub, Int.reduceMul, Int.reduceToNat, ↓bind_go, ↓map_go, wantedV, isWrite, grow, write, ofV, AV.cells, Abs.start, Abs.strip, endQ, resV, rawsRes, rawRes, exports, export1, AS.grown, AS.put, Env.know, Env.boxed, isSelf, convSelf, convV, loadV, storeV, fieldAddrV, fieldV, indexAddrV, indexV, partV, isAggK, isStr, place, lenV, min2V, makeV, freshSl, sliceV, boundOr, bound, bounds, cutFl, copyV, slCells, srcV, appendV, room, zerosOf, eqNeg, kd, takeR, hasViewL, hasView, freshR, freshC, snapAll, snap, snapL, flatL, pureL, pureA, fillC, arrOK, oneA, partB, AV.laid, ren1, CR.gr, applyW, useL, AS.mute, isGen, startG, ev5, tbBf1, glob, h0]
        change EndG _ _ _ _ _ _ _
        refine EndG.new (b := .own L 7 1) [_] [_] rfl (.one (.newv _ _ _ _ _ rfl)) rfl rfl (fun b' h1 => ?_) updB_self ?_ (fun _ _ => rfl)
        · simp only [updB, own_ne h1, if_false]
        · rw [nums_strip]
          exact ExpL.same ⟨lowL_pure _ (nums_pure _), nums_cells _⟩
    · cases hr
  · cases hr

/-- what was done since can be done again -/
def wfS : List (BitVec 8) → List Ch → Prop
  | _, [] => True
  | s, c :: cs => doesOK s c ∧ wfS (doesN s c) cs
theorem wfS_at : ∀ {l : List Ch} {s : List (BitVec 8)} {i : Nat}, wfS s l → (h : i < l.length) → doesOK ((l.take i).foldl doesN s) l[i]
  | c :: l, s, 0, hw, h => hw.1
  | c :: l, s, i + 1, hw, h => by
    simp only [List.take_succ_cons, List.foldl_cons, List.getElem_cons_succ]
    exact wfS_at hw.2 (by simpa using h)
theorem fold_next {l : List Ch} {s : List (BitVec 8)} {i : Nat} (h : i < l.length) : (l.take (i + 1)).foldl doesN s = doesN ((l.take i).foldl doesN s) l[i] := by
  rw [List.take_add_one, List.getElem?_eq_getElem h, List.foldl_append]; rfl
def kF (l : List Int) (i n : Nat) : Nat := (pickF l i).toNat % (n + 1)
theorem kF_le (l : List Int) (i n : Nat) : kF l i n ≤ n := Nat.le_of_lt_succ (Nat.mod_lt _ (Nat.succ_pos n))
theorem pickF_ok {l : List Int} (h : ∀ n ∈ l, i64ok n) (i : Nat) : 0 ≤ pickF l i ∧ pickF l i ≤ 9223372036854775807 := by
  unfold pickF
  split
  · omega
  · rename_i hi
    have := h _ (getD_mem (by omega : i < l.length))
    unfold i64ok at this
    split <;> omega
theorem pick_mod {l : List Int} (h : ∀ n ∈ l, i64ok n) (i n : Nat) : (pickF l i).tmod ((n : Int) + 1) = (kF l i n : Int) := by
  have h1 := (pickF_ok h i).1
  rw [Int.tmod_eq_emod_of_nonneg h1, kF, Int.natCast_emod, Int.toNat_of_nonneg h1]
  rfl
/-- a piece, whose last byte is spoilt -/
def torn (b : List (BitVec 8)) (p : Nat) (z : Int) : List (BitVec 8) := if p = 0 then [] else (b.take p).set (p - 1) ((b.take p).getD (p - 1) 0#8 ^^^ BitVec.ofInt 8 z)
/-- what the others leave of the one at which the power went off -/
def tornF (l : List Int) (f : Nat) (s : List (BitVec 8)) : Option Ch → List (BitVec 8)
  | some (.lay b) => s ++ torn b (kF l (4 + f) b.length) (pickF l (8 + f))
  | _ => s
def bootN (l : List Int) (f : Nat) (x : Fs) : List (BitVec 8) := tornF l f ((x.sc.l.take (kF l f x.sc.l.length)).foldl doesN x.sure) (x.sc.l[kF l f x.sc.l.length]?)
theorem bootN_nil {l : List Int} {f : Nat} {x : Fs} (h : x.sc = .nil) : bootN l f x = x.sure := by
  simp only [bootN, h, Sc.l, List.take_nil, List.foldl_nil, List.getElem?_nil, tornF]
theorem bootN_end {l : List Int} {f : Nat} {x : Fs} {old : List Ch} {fl : Fl} (h : x.sc = .sl old fl) (hK : ¬ kF l f old.length < old.length) : bootN l f x = old.foldl doesN x.sure := by
  have e : kF l f old.length = old.length := by have := kF_le l f old.length; omega
  simp only [bootN, h, Sc.l, e, List.take_length, List.getElem?_eq_none (Nat.le_refl _), tornF]
theorem bootN_cut {l : List Int} {f : Nat} {x : Fs} {old : List Ch} {fl : Fl} {m : Int} (h : x.sc = .sl old fl) (hK : kF l f old.length < old.length) (hc : old[kF l f old.length] = .cut m) : bootN l f x = (old.take (kF l f old.length)).foldl doesN x.sure := by
  simp only [bootN, h, Sc.l, List.getElem?_eq_getElem hK, hc, tornF]
theorem bootN_lay {l : List Int} {f : Nat} {x : Fs} {old : List Ch} {fl : Fl} {t : List (BitVec 8)} (h : x.sc = .sl old fl) (hK : kF l f old.length < old.length) (hc : old[kF l f old.length] = .lay t) : bootN l f x = (old.take (kF l f old.length)).foldl doesN x.sure ++ torn t (kF l (4 + f) t.length) (pickF l (8 + f)) := by
  simp only [bootN, h, Sc.l, List.getElem?_eq_getElem hK, hc, tornF]
def bootX (l : List Int) (f : Nat) (x : Fs) : Fs := ⟨bootN l f x, .bor, bootN l f x, .bor, .nil⟩
def bootTo (d : Dk) (l : List Int) : Nat → Dk
  | 0 => d
  | f + 1 => (bootTo d l f).setF f (bootX l f (d.f f))
def bootD (d : Dk) (l : List Int) : Dk := { bootTo d l 4 with off := false, burns := false }
def bootOK (d : Dk) : Prop := ∀ f, f < 4 → wfS (d.f f).sure (d.f f).sc.l ∧ (d.f f).sf = .bor ∧ (d.f f).sc.l.length ≤ 1000000 ∧ (d.f f).sure.length ≤ 1099511627776
theorem bootTo_len {d : Dk} (h : d.fs.length = 4) (l : List Int) : ∀ n, (bootTo d l n).fs.length = 4
  | 0 => h
  | n + 1 => setF_len (bootTo_len h l n) _ _
theorem setF_ne (d : Dk) {k j : Nat} (h : k ≠ j) (f : Fs) : (d.setF k f).f j = d.f j := by
  simp only [Dk.f, Dk.setF, List.getD_eq_getElem?_getD, List.getElem?_set_ne h]
theorem bootTo_at (d : Dk) (l : List Int) : ∀ n m, n ≤ m → (bootTo d l n).f m = d.f m
  | 0, m, _ => rfl
  | n + 1, m, h => by rw [bootTo, setF_ne _ (by omega), bootTo_at d l n m (by omega)]
theorem okD.setF {L : Nat} {d : Dk} (h : okD L d) (k : Nat) {x : Fs} (hx : okFs L x) : okD L (d.setF k x) := by
  intro f hf
  rcases List.mem_or_eq_of_mem_set hf with h1 | h1
  · exact h f h1
  · rw [h1]; exact hx
theorem okF_bor (L : Nat) : okF L .bor := fun _ _ h => by cases h
theorem okS_nil (L : Nat) : okS L .nil := fun _ _ h => by cases h
theorem bootTo_ok {L : Nat} {d : Dk} (h : okD L d) (l : List Int) : ∀ n, okD L (bootTo d l n)
  | 0 => h
  | n + 1 => (bootTo_ok h l n).setF n ⟨okF_bor L, okF_bor L, okS_nil L⟩
theorem chs_at : ∀ {l : List Ch} {k n : Nat} (hk : k < n) (hn : n ≤ l.length), (((chs l).take (n * 3)).drop (k * 3)).take 3 = chA (l[k]'(by omega))
  | [], k, n, hk, hn => absurd hn (by simp only [List.length_nil]; omega)
  | c :: l, 0, n + 1, hk, hn => by
    have h1 : (chA c ++ chs l).take ((n + 1) * 3) = chA c ++ (chs l).take (n * 3) := by
      rw [List.take_append, chA_len, List.take_of_length_le (by rw [chA_len]; omega)]
      congr 2; omega
    have e : chs (c :: l) = chA c ++ chs l := rfl
    rw [e, h1, Nat.zero_mul, List.drop_zero, List.getElem_cons_zero]
    rw [List.take_append_of_le_length (by rw [chA_len]; exact Nat.le_refl 3), List.take_of_length_le (by rw [chA_len]; exact Nat.le_refl 3)]
  | c :: l, k + 1, n + 1, hk, hn => by
    have h1 : (chA c ++ chs l).take ((n + 1) * 3) = chA c ++ (chs l).take (n * 3) := by
      rw [List.take_append, chA_len, List.take_of_length_le (by rw [chA_len]; omega)]
      congr 2; omega
    have h2 : ∀ m : List AV, (chA c ++ m).drop ((k + 1) * 3) = m.drop (k * 3) := fun m => by
      rw [List.drop_append, chA_len, List.drop_of_length_le (by rw [chA_len]; omega), List.nil_append]
      congr 1; omega
    have e : chs (c :: l) = chA c ++ chs l := rfl
    rw [e, h1, h2]
    exact chs_at (by omega) (by simpa using hn)
theorem chs_cell {l : List Ch} {k j : Nat} (hk : k < l.length) (hj : j < 3) : (chs l)[k * 3 + j]? = (chA l[k])[j]? := by
  have h := chs_at hk (Nat.le_refl l.length)
  rw [List.take_of_length_le (l := chs l) (by rw [chs_len]; exact Nat.le_refl _)] at h
  rw [← h, List.getElem?_take, if_pos hj, List.getElem?_drop]
theorem chA_strip (c : Ch) : (chA c).map strip = chA c := by cases c <;> rfl
theorem chA_one (c : Ch) : (chA c).all oneA = true := by cases c <;> rfl
theorem chA_take (c : Ch) : (chA c).take 3 = chA c := by cases c <;> rfl
theorem chA_splice (c : Ch) (x y z : AV) : splice [x, y, z] 0 (chA c) = chA c := by cases c <;> rfl
theorem chOf_chA (bx : Boxes) (c : Ch) : chOf bx (chA c) = some c := by
  cases c with
  | lay b => exact chOf_lay rfl
  | cut n => rfl
end Go.Proofs.Ytjnmdphoaafjaaa
