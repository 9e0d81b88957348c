/- Append, Cut, Sync and Read: what their walks come to. -/
import Derived.Test.YtjnmdphoaafjaaaBd
namespace Go.Proofs.Ytjnmdphoaafjaaa
set_option linter.unusedSimpArgs false
set_option linter.unusedVariables false
set_option linter.defProp false
open Go Go.Abs

def E1 : Env := (E0.know 69 (fun xs => pf69 (xs.map norm))).know 126 (fun xs => pf126 (xs.map norm2))
theorem ok1 : EnvOK Try.prog E1 := (ok0.know sound69.norm).know sound126.norm2
theorem E1_te : E1.te = te := rfl
theorem E1_glob : E1.glob = glob := rfl
theorem E1_mu (d : Nat) : E1.mu d = false := rfl
theorem E1_gs : E1.gs = [] := rfl
theorem E1_dyn : E1.dyn = false := rfl
theorem E1_c : E1.tbl 69 = some (.val (fun xs => pf69 (xs.map norm))) := rfl
theorem E1_k : E1.tbl 126 = some (.val (fun xs => pf126 (xs.map norm2))) := rfl
set_option maxHeartbeats 4000000
def doesN (now : List (BitVec 8)) : Ch → List (BitVec 8)
  | .lay b => now ++ b
  | .cut n => now.take n.toNat
def doesD (d : Dk) (k : Nat) (c : Ch) : Dk := d.setF k { d.f k with now := doesN (d.f k).now c, nf := .bor }
def doesOK (now : List (BitVec 8)) : Ch → Prop
  | .lay b => now.length + b.length ≤ 1099511627776
  | .cut n => 0 ≤ n ∧ n ≤ now.length ∧ now.length ≤ 1099511627776
instance (now : List (BitVec 8)) (c : Ch) : Decidable (doesOK now c) := by cases c <;> unfold doesOK <;> infer_instance
def chOf (bx : Boxes) : List AV → Option Ch
  | [.raw (.bool false), .raw (.int .i64 0), .view b 0 n _ 1] => (bx b).bind fun cs => (row? .u8 8 (.sl n cs .bor)).map .lay
  | [.raw (.bool false), .raw (.int .i64 0), v] => (row? .u8 8 v).map .lay
  | [.raw (.bool true), .raw (.int .i64 n), .raw (.slice none 0 0)] => some (.cut n)
  | _ => none
noncomputable def gf70 (args : List AV) (bx : Boxes) (us : Abs.Id → Bool) : Option CR := match args with
  | [.ptr b o, .agg cs] => (bx b).bind fun xs => (dk? xs).bind fun d => (chOf bx cs).bind fun c => if o = o / 3 * 3 ∧ o / 3 < 4 ∧ doesOK (d.f (o / 3)).now c then some { v := .ret (.tup []), wr := [(b, enc (doesD d (o / 3) c))] } else none
  | _ => none
def tbBe0 := (And.intro (And.intro (And.intro (And.intro (And.intro @teE @E1_te) (And.intro @E1_glob (And.intro @E1_gs @E1_dyn))) (And.intro (And.intro @E1_mu @enc_len) (And.intro @enc_off (And.intro @enc_burns @enc_left)))) (And.intro (And.intro (And.intro @enc_steps @set_off) (And.intro @set_burns (And.intro @set_left @set_steps))) (And.intro (And.intro @enc_now @enc_sure) (And.intro @enc_since (And.intro @set_now @set_sure))))) (And.intro (And.intro (And.intro (And.intro @set_since @set_nil) (And.intro @scA_nil (And.intro @scA_sl @setF_off))) (And.intro (And.intro @setF_burns @setF_left) (And.intro @setF_steps (And.intro @setF_at @setF_set)))) (And.intro (And.intro (And.intro @mul3div @enc_ren) (And.intro @setF_ren (And.intro @E1_c @E1_k))) (And.intro (And.intro @clone_at (And.intro @pf126_two @rep_two)) (And.intro @norm2_sl (And.intro @own_ne @own_ne'))))))
theorem sound70 : SoundG Try.prog glob 70 gf70 := by
  refine SoundG.walk E1 ok1 mixed Try.func70 rfl Try.call70 (by kernel_rfl) ?_
  intro args bx us cr hr
  unfold gf70 at hr
  split at hr
  · rename_i b o cs
    simp only [Option.bind_eq_some_iff] at hr
    obtain ⟨xs, hb, d, hd, c, hch, hr⟩ := hr
    obtain ⟨hd4, rfl⟩ := dk?_of hd
    have hbl : ∀ {L : Nat}, (∀ b, (bx b).isSome → b.lvl < L ∧ ∀ l s n, renB l s n b = b) → b.lvl < L := fun h => (h b (by rw [hb]; rfl)).1
    have hbs : (bx b).isSome := by rw [hb]; rfl
    split at hr
    · rename_i hc
      obtain ⟨ho, hk, hc⟩ := hc
      obtain ⟨k, rfl⟩ : ∃ k, o = k * 3 := ⟨_, ho⟩
      rw [mul3div] at hk hc hr
      cases hr
      rw [Try.ntmps70, Try.results70]
      refine ⟨by simp, fun L hlow hus hbf => ?_⟩
      have hok := okD_of (hbf b _ hb).2
      have hbL := hbl hlow
      obtain ⟨o1, o2, o3⟩ := hok.f hd4 hk
      unfold chOf at hch
      split at hch
      · rename_i b' n' c'
        simp only [Option.bind_eq_some_iff, Option.map_eq_some_iff] at hch
        obtain ⟨xs, hb', t, ht, rfl⟩ := hch
        obtain ⟨fl, hfl⟩ := row?_of ht
        cases hfl
        simp only [doesOK] at hc
        have hbL' : b'.lvl < L := (hlow b' (by rw [hb']; rfl)).1
        simp (maxSteps := 1000000) (disch := first | omega | (simp only [Dk.setF, powerD, stepD, List.length_set, hd4]; done) | (simp only [nums_len, nums_len, List.length_cons, List.length_nil, List.length_append, List.length_take, List.length_drop, List.length_replicate, List.length_set, List.length_map] <;> omega) | fail) only [ev0, ev1, ev2, ev3, ↓reduceIte, reduceCtorEq, Nat.reduceAdd, Nat.reduceSub, Nat.reduceMul, Nat.reduceLT, Nat.reduceLeDiff, Nat.reduceEqDiff, Nat.reduceBEq, BitVec.reduceOfInt, Int.reduceLE, Int.reduceLT, Int.reduceGT, Int.reduceGE, Int.reduceNeg, Int.reduceAdd, Int.reduceSub, Int.reduceMul, Int.reduceToNat, ↓bind_go, ↓map_go, wantedV, isWrite, grow, write, ofV, AV.cells, Abs.start, Abs.strip, endQ, resV, rawsRes, rawRes, exports, export1, AS.grown, AS.put, Env.know, Env.boxed, isSelf, convSelf, convV, loadV, storeV, fieldAddrV, fieldV, indexAddrV, indexV, partV, isAggK, isStr, place, lenV, min2V, makeV, freshSl, sliceV, boundOr, bound, bounds, cutFl, copyV, slCells, srcV, appendV, room, zerosOf, eqNeg, kd, takeR, hasViewL, hasView, freshR, freshC, snapAll, snap, snapL, flatL, pureL, pureA, fillC, arrOK, oneA, partB, AV.laid, ren1, CR.gr, applyW, useL, AS.mute, isGen, startG, ev5, tbBe0, glob, hb, Sc.ren_nil, Sc.ren_sl, dk?_at, Bx.own.injEq, and_false, false_and, and_true, true_and, hb']
        change EndG _ _ _ _ _ _ _
        refine EndG.w1 [] [] rfl .nil rfl (hbl hlow) hbs (fun b' h1 h2 => by simp only [updB, if_neg h2, own_ne h1, if_false]) updB_self ?_ (fun _ _ => rfl)
        exact encExp (e := doesD d k _) (FssR.setF hok ⟨rfl, .bor _, rfl, .same _ o2, .same o3⟩) rfl rfl rfl rfl
      · rename_i v _
        simp only [Option.map_eq_some_iff] at hch
        obtain ⟨t, ht, rfl⟩ := hch
        obtain ⟨fl, rfl⟩ := row?_of ht
        simp only [doesOK] at hc
        simp (maxSteps := 1000000) (disch := first | omega | (simp only [Dk.setF, powerD, stepD, List.length_set, hd4]; done) | (simp only [nums_len, nums_len, List.length_cons, List.length_nil, List.length_append, List.length_take, List.length_drop, List.length_replicate, List.length_set, List.length_map] <;> omega) | fail) only [ev0, ev1, ev2, ev3, ↓reduceIte, reduceCtorEq, Nat.reduceAdd, Nat.reduceSub, Nat.reduceMul, Nat.reduceLT, Nat.reduceLeDiff, Nat.reduceEqDiff, Nat.reduceBEq, BitVec.reduceOfInt, Int.reduceLE, Int.reduceLT, Int.reduceGT, Int.reduceGE, Int.reduceNeg, Int.reduceAdd, Int.reduceSub, Int.reduceMul, Int.reduceToNat, ↓bind_go, ↓map_go, wantedV, isWrite, grow, write, ofV, AV.cells, Abs.start, Abs.strip, endQ, resV, rawsRes, rawRes, exports, export1, AS.grown, AS.put, Env.know, Env.boxed, isSelf, convSelf, convV, loadV, storeV, fieldAddrV, fieldV, indexAddrV, indexV, partV, isAggK, isStr, place, lenV, min2V, makeV, freshSl, sliceV, boundOr, bound, bounds, cutFl, copyV, slCells, srcV, appendV, room, zerosOf, eqNeg, kd, takeR, hasViewL, hasView, freshR, freshC, snapAll, snap, snapL, flatL, pureL, pureA, fillC, arrOK, oneA, partB, AV.laid, ren1, CR.gr, applyW, useL, AS.mute, isGen, startG, ev5, tbBe0, glob, hb, Sc.ren_nil, Sc.ren_sl, dk?_at, Bx.own.injEq, and_false, false_and, and_true, true_and]
        change EndG _ _ _ _ _ _ _
        refine EndG.w1 [] [] rfl .nil rfl (hbl hlow) hbs (fun b' h1 h2 => by simp only [updB, if_neg h2, own_ne h1, if_false]) updB_self ?_ (fun _ _ => rfl)
        exact encExp (e := doesD d k _) (FssR.setF hok ⟨rfl, .bor _, rfl, .same _ o2, .same o3⟩) rfl rfl rfl rfl
      · rename_i n
        cases hch
        simp only [doesOK] at hc
        obtain ⟨hc1, hc2, hc3⟩ := hc
        simp (maxSteps := 1000000) (disch := first | omega | (simp only [Dk.setF, powerD, stepD, List.length_set, hd4]; done) | (simp only [nums_len, nums_len, List.length_cons, List.length_nil, List.length_append, List.length_take, List.length_drop, List.length_replicate, List.length_set, List.length_map] <;> omega) | fail) only [ev0, ev1, ev2, ev3, ↓reduceIte, reduceCtorEq, Nat.reduceAdd, Nat.reduceSub, Nat.reduceMul, Nat.reduceLT, Nat.reduceLeDiff, Nat.reduceEqDiff, Nat.reduceBEq, BitVec.reduceOfInt, Int.reduceLE, Int.reduceLT, Int.reduceGT, Int.reduceGE, Int.reduceNeg, Int.reduceAdd, Int.reduceSub, Int.reduceMul, Int.reduceToNat, ↓bind_go, ↓map_go, wantedV, isWrite, grow, write, ofV, AV.cells, Abs.start, Abs.strip, endQ, resV, rawsRes, rawRes, exports, export1, AS.grown, AS.put, Env.know, Env.boxed, isSelf, convSelf, convV, loadV, storeV, fieldAddrV, fieldV, indexAddrV, indexV, partV, isAggK, isStr, place, lenV, min2V, makeV, freshSl, sliceV, boundOr, bound, bounds, cutFl, copyV, slCells, srcV, appendV, room, zerosOf, eqNeg, kd, takeR, hasViewL, hasView, freshR, freshC, snapAll, snap, snapL, flatL, pureL, pureA, fillC, arrOK, oneA, partB, AV.laid, ren1, CR.gr, applyW, useL, AS.mute, isGen, startG, ev5, tbBe0, glob, hb, Sc.ren_nil, Sc.ren_sl, dk?_at, Bx.own.injEq, and_false, false_and, and_true, true_and]
        change EndG _ _ _ _ _ _ _
        refine EndG.w1 [] [] rfl .nil rfl (hbl hlow) hbs (fun b' h1 h2 => by simp only [updB, if_neg h2, own_ne h1, if_false]) updB_self ?_ (fun _ _ => rfl)
        exact encExp (e := doesD d k _) (FssR.setF hok ⟨rfl, .bor _, rfl, .same _ o2, .same o3⟩) rfl rfl rfl rfl
      · cases hch
    · cases hr
  · cases hr

noncomputable def E2 : Env := (((E1.knowG 68 gf68).knowG 67 gf67).knowG 66 gf66).knowG 70 gf70
theorem ok2 : EnvOK Try.prog E2 := (((ok1.knowG sound68).knowG sound67).knowG sound66).knowG sound70
theorem E2_te : E2.te = te := rfl
theorem E2_glob : E2.glob = glob := rfl
theorem E2_mu (d : Nat) : E2.mu d = false := rfl
theorem E2_gs : E2.gs = [70, 66, 67, 68] := rfl
theorem E2_dyn : E2.dyn = false := rfl
theorem E2_c : E2.tbl 69 = some (.val (fun xs => pf69 (xs.map norm))) := rfl
theorem E2_s : E2.tbl 68 = some (.gen gf68) := rfl
theorem E2_p : E2.tbl 67 = some (.gen gf67) := rfl
theorem E2_a : E2.tbl 66 = some (.gen gf66) := rfl
theorem E2_d : E2.tbl 70 = some (.gen gf70) := rfl
theorem rep_one (xs : List AV) : rep 1 xs = xs := by simp [rep]
theorem step_go {b : Bx} {bx : Boxes} {us : Abs.Id → Bool} : gf68 [.ptr b 0] bx us = (bx b).bind fun cs => (dk? cs).bind fun d => if i64ok (d.steps + 1) ∧ i64ok (d.left - 1) then some { v := .ret (.tup []), wr := [(b, enc (stepD d))] } else none := rfl
theorem power_go {b : Bx} {bx : Boxes} {us : Abs.Id → Bool} : gf67 [.ptr b 0] bx us = (bx b).bind fun cs => (dk? cs).bind fun d => some { v := .ret (.raw (.bool (!(powerD d).off))), wr := [(b, enc (powerD d))] } := rfl
theorem at_go {b : Bx} {f : Int} {bx : Boxes} {us : Abs.Id → Bool} : gf66 [.ptr b 0, .raw (.int .i64 f)] bx us = (bx b).bind fun cs => (dk? cs).bind fun d => some { v := .ret (if 0 ≤ f ∧ f < 4 then .ptr b (f.toNat * 3) else .raw (.pointer none)) } := rfl
theorem does_go {b : Bx} {o : Nat} {cs : List AV} {bx : Boxes} {us : Abs.Id → Bool} : gf70 [.ptr b o, .agg cs] bx us = (bx b).bind fun xs => (dk? xs).bind fun d => (chOf bx cs).bind fun c => if o = o / 3 * 3 ∧ o / 3 < 4 ∧ doesOK (d.f (o / 3)).now c then some { v := .ret (.tup []), wr := [(b, enc (doesD d (o / 3) c))] } else none := rfl
theorem chOf_lay {n : Nat} {t : List (BitVec 8)} {fl : Fl} {bx : Boxes} (h : n = t.length) : chOf bx [.raw (.bool false), .raw (.int .i64 0), .sl n (nums .u8 t) fl] = some (.lay t) := by
  simp only [chOf, row?_at h, Option.map_some]
theorem chOf_cut {n : Int} {bx : Boxes} : chOf bx [.raw (.bool true), .raw (.int .i64 n), .raw (.slice none 0 0)] = some (.cut n) := rfl
theorem chOf_view {n c : Nat} {t : List (BitVec 8)} {b : Bx} {bx : Boxes} (hb : bx b = some (nums .u8 t)) (h : n = t.length) : chOf bx [.raw (.bool false), .raw (.int .i64 0), .view b 0 n c 1] = some (.lay t) := by
  simp only [chOf, hb, Option.bind_some, row?_at h, Option.map_some]
theorem doesOK_lay {now b : List (BitVec 8)} : doesOK now (.lay b) = (now.length + b.length ≤ 1099511627776) := rfl
theorem doesOK_cut {now : List (BitVec 8)} {n : Int} : doesOK now (.cut n) = (0 ≤ n ∧ n ≤ now.length ∧ now.length ≤ 1099511627776) := rfl
theorem chs_lay {l : List Ch} {n : Nat} {t : List (BitVec 8)} (h : n = t.length) : chs l ++ [.raw (.bool false), .raw (.int .i64 0), .sl n (nums .u8 t) .bor] = chs (l ++ [.lay t]) := by subst h; rw [chs_app]; rfl
theorem chs_cut {l : List Ch} {n : Int} : chs l ++ [.raw (.bool true), .raw (.int .i64 n), .raw (.slice none 0 0)] = chs (l ++ [.cut n]) := by rw [chs_app]; rfl
theorem since_lay0 {d : Dk} (hd : d.fs.length = 4) {k : Nat} (hk : k < 4) {n m : Nat} {t : List (BitVec 8)} (h : n = t.length) (hm : m = 1) (fl : Fl) : splice (enc d) (k * 3 + 2) [.sl m [.raw (.bool false), .raw (.int .i64 0), .sl n (nums .u8 t) .bor] fl] = enc (d.setF k { d.f k with sc := .sl [.lay t] fl }) := by
  subst h hm
  exact set_since hd hk 1 [.lay t] fl rfl
theorem since_cut0 {d : Dk} (hd : d.fs.length = 4) {k : Nat} (hk : k < 4) {n : Int} {m : Nat} (hm : m = 1) (fl : Fl) : splice (enc d) (k * 3 + 2) [.sl m [.raw (.bool true), .raw (.int .i64 n), .raw (.slice none 0 0)] fl] = enc (d.setF k { d.f k with sc := .sl [.cut n] fl }) := by
  subst hm
  exact set_since hd hk 1 [.cut n] fl rfl
theorem powerD_steps (d : Dk) : (powerD d).steps = d.steps := rfl
theorem powerD_left (d : Dk) : (powerD d).left = d.left := rfl
theorem powerD_burns (d : Dk) : (powerD d).burns = d.burns := rfl
theorem powerD_f (d : Dk) (k : Nat) : (powerD d).f k = d.f k := rfl
theorem stepD_f (d : Dk) (k : Nat) : (stepD d).f k = d.f k := rfl
theorem stepD_off (d : Dk) : (stepD d).off = d.off := rfl
theorem powerD_ren (l s g : Nat) (d : Dk) : (powerD d).ren l s g = powerD (d.ren l s g) := rfl
theorem stepD_ren (l s g : Nat) (d : Dk) : (stepD d).ren l s g = stepD (d.ren l s g) := rfl
theorem i64ok_is (n : Int) : i64ok n = (-9223372036854775808 ≤ n ∧ n ≤ 9223372036854775807) := rfl
theorem doesD_is (d : Dk) (k : Nat) (c : Ch) : doesD d k c = d.setF k { d.f k with now := doesN (d.f k).now c, nf := .bor } := rfl
theorem doesN_lay (x b : List (BitVec 8)) : doesN x (.lay b) = x ++ b := rfl
theorem doesN_cut (x : List (BitVec 8)) (n : Int) : doesN x (.cut n) = x.take n.toNat := rfl
theorem bool_pos {b : Bool} (h : b = true) : (!b) = false := by rw [h]; rfl
theorem bool_neg {b : Bool} (h : b = false) : (!b) = true := by rw [h]; rfl
/-- bytes are laid behind a file -/
def apD (d : Dk) (k : Nat) (t : List (BitVec 8)) (i : Abs.Id) : Dk := (stepD (powerD d)).setF k { d.f k with now := (d.f k).now ++ t, nf := .bor, sc := .sl ((d.f k).sc.l ++ [.lay t]) (.own i 3) }
/-- there is room behind what was done since: whose -/
def sinceI (us : Abs.Id → Bool) : Sc → Option (List Abs.Id)
  | .nil => some []
  | .sl _ (.own i 3) => if us i = false then some [i] else none
  | _ => none
theorem sinceI_of {us : Abs.Id → Bool} {s : Sc} {u : List Abs.Id} (h : sinceI us s = some u) : (s = .nil ∧ u = []) ∨ ∃ l i, s = .sl l (.own i 3) ∧ us i = false ∧ u = [i] := by
  unfold sinceI at h
  split at h
  · cases h; exact .inl ⟨rfl, rfl⟩
  · split at h
    · cases h; exact .inr ⟨_, _, rfl, ‹_›, rfl⟩
    · cases h
  · cases h
theorem sinceI_at {us : Abs.Id → Bool} {l : List Ch} {i : Abs.Id} (h : us i = false) : sinceI us (.sl l (.own i 3)) = some [i] := by simp [sinceI, h]
theorem sinceI_nil {us : Abs.Id → Bool} : sinceI us .nil = some [] := rfl
def okN (d : Dk) (k : Nat) : Prop := i64ok (d.steps + 1) ∧ i64ok (d.left - 1) ∧ (d.f k).now.length ≤ 1099511627 ∧ (d.f k).sc.l.length ≤ 1000000
noncomputable def gf24 (args : List AV) (bx : Boxes) (us : Abs.Id → Bool) : Option CR := match args with
  | [.ptr b 0, .raw (.int .i64 f), v] => (bx b).bind fun cs => (dk? cs).bind fun d => (row? .u8 8 v).bind fun t =>
    if 0 ≤ f ∧ f < 4 then open Classical in if ¬ okN d f.toNat then none
      else if (powerD d).off = true then some { v := .ret (.raw (.int .i64 5)), wr := [(b, enc (powerD d))] }
      else if (t.length : Int) > 1048576 - ((d.f f.toNat).now.length : Int) then some { v := .ret (.raw (.int .i64 2)), wr := [(b, enc (powerD d))] }
      else (sinceI us (d.f f.toNat).sc).bind fun u => some { v := .ret (.raw (.int .i64 0)), wr := [(b, enc (apD d f.toNat t ⟨0, 0, 0, 0⟩))], use := u }
    else some { v := .ret (.raw (.int .i64 1)) }
  | _ => none
def tbBe1 := (And.intro (And.intro (And.intro (And.intro (And.intro @teE (And.intro @E2_te @E2_glob)) (And.intro (And.intro @E2_gs @E2_dyn) (And.intro @E2_mu @E2_c))) (And.intro (And.intro (And.intro @E2_s @E2_p) (And.intro @E2_a @E2_d)) (And.intro (And.intro @enc_len @enc_off) (And.intro @enc_burns @enc_left)))) (And.intro (And.intro (And.intro @enc_steps (And.intro @set_off @set_burns)) (And.intro (And.intro @set_left @set_steps) (And.intro @enc_now @enc_sure))) (And.intro (And.intro (And.intro @enc_since @set_now) (And.intro @set_sure @set_since)) (And.intro (And.intro @set_nil @scA_nil) (And.intro @scA_sl @setF_off))))) (And.intro (And.intro (And.intro (And.intro @setF_burns (And.intro @setF_left @setF_steps)) (And.intro (And.intro @setF_at @setF_set) (And.intro @mul3div @enc_ren))) (And.intro (And.intro (And.intro @setF_ren @step_go) (And.intro @power_go @at_go)) (And.intro (And.intro @does_go @chOf_lay) (And.intro @chOf_cut @chs_lay)))) (And.intro (And.intro (And.intro (And.intro @chs_cut @powerD_f) (And.intro @stepD_f @stepD_off)) (And.intro (And.intro @powerD_ren @stepD_ren) (And.intro @doesD_is @doesN_lay))) (And.intro (And.intro (And.intro @doesN_cut @chs_len) (And.intro @chs_one @clone_at)) (And.intro (And.intro @norm_sl @own_ne) (And.intro @own_ne' @rep_one))))))
theorem sound24 : SoundG Try.prog glob 24 gf24 := by
  refine SoundG.walk E2 ok2 mixed Try.func24 rfl Try.call24 (by kernel_rfl) ?_
  intro args bx us cr hr
  unfold gf24 at hr
  split at hr
  · rename_i b f v
    simp only [Option.bind_eq_some_iff] at hr
    obtain ⟨xs, hb, d, hd, t, ht, hr⟩ := hr
    obtain ⟨hd4, rfl⟩ := dk?_of hd
    obtain ⟨vfl, rfl⟩ := row?_of ht
    have hbl : ∀ {L : Nat}, (∀ b, (bx b).isSome → b.lvl < L ∧ ∀ l s n, renB l s n b = b) → b.lvl < L := fun h => (h b (by rw [hb]; rfl)).1
    have hbs : (bx b).isSome := by rw [hb]; rfl
    split at hr
    · rename_i hf
      obtain ⟨k, rfl⟩ := Int.eq_ofNat_of_zero_le hf.1
      rw [Int.toNat_natCast] at hr
      have hk : k < 4 := by omega
      split at hr
      · cases hr
      rename_i hn
      obtain ⟨n1, n2, n3, n4⟩ := Classical.not_not.1 hn
      simp only [i64ok_is] at n1 n2
      split at hr
      · rename_i ho
        cases hr
        rw [Try.ntmps24, Try.results24]
        refine ⟨by simp, fun L hlow hus hbf => ?_⟩
        have hok := okD_of (hbf b _ hb).2
        have hbL := hbl hlow
        have hren := hok.ren
        have hrb := (hlow b hbs).2
        simp (maxSteps := 1000000) (disch := first | omega | (simp only [Dk.setF, powerD, stepD, doesD, List.length_set, hd4]; done) | (simp only [i64ok_is, powerD_steps, powerD_left, doesOK_lay, doesOK_cut, mul3div, powerD_f, stepD_f, nums_len, nums_len, chs_len, List.length_cons, List.length_nil, List.length_append, List.length_take, List.length_drop, List.length_replicate, List.length_set, List.length_map] <;> omega) | fail) only [ev0, ev1, ev2, ev3, ↓reduceIte, reduceCtorEq, Nat.reduceAdd, Nat.reduceSub, Nat.reduceMul, Nat.reduceLT, Nat.reduceLeDiff, Nat.reduceEqDiff, Nat.reduceBEq, BitVec.reduceOfInt, Int.reduceLE, Int.reduceLT, Int.reduceGT, Int.reduceGE, Int.reduceNeg, Int.reduceAdd, Int.reduceSub, Int.reduceMul, Int.reduceToNat, ↓bind_go, ↓map_go, wantedV, isWrite, grow, write, ofV, AV.cells, Abs.start, Abs.strip, endQ, resV, rawsRes, rawRes, exports, export1, AS.grown, AS.put, Env.know, Env.boxed, isSelf, convSelf, convV, loadV, storeV, fieldAddrV, fieldV, indexAddrV, indexV, partV, isAggK, isStr, place, lenV, min2V, makeV, freshSl, sliceV, boundOr, bound, bounds, cutFl, copyV, slCells, srcV, appendV, room, zerosOf, eqNeg, kd, takeR, hasViewL, hasView, freshR, freshC, snapAll, snap, snapL, flatL, pureL, pureA, fillC, arrOK, oneA, partB, AV.laid, ren1, CR.gr, applyW, useL, AS.mute, isGen, startG, ev5, tbBe1, glob, hb, Sc.ren_nil, Sc.ren_sl, dk?_at, Fs.ren, Bx.own.injEq, and_false, false_and, and_true, true_and, List.drop_succ_cons, List.drop_zero, List.drop_nil, hrb, hren, bool_pos ho]
        change EndG _ _ _ _ _ _ _
        refine EndG.w1 [_] [_] rfl (.one (.raw _)) rfl (hbl hlow) hbs (fun b' h1 h2 => by simp only [updB, if_neg h2, own_ne h1, if_false]) (by first | exact updB_self | exact hb) ?_ (fun _ _ => rfl)
        exact encExp (.same hok) rfl rfl rfl rfl
      · rename_i ho
        have ho : (powerD d).off = false := by simpa using ho
        split at hr
        · rename_i hlong
          cases hr
          rw [Try.ntmps24, Try.results24]
          refine ⟨by simp, fun L hlow hus hbf => ?_⟩
          have hok := okD_of (hbf b _ hb).2
          have hbL := hbl hlow
          have hren := hok.ren
          have hrb := (hlow b hbs).2
          simp (maxSteps := 1000000) (disch := first | omega | (simp only [Dk.setF, powerD, stepD, doesD, List.length_set, hd4]; done) | (simp only [i64ok_is, powerD_steps, powerD_left, doesOK_lay, doesOK_cut, mul3div, powerD_f, stepD_f, nums_len, nums_len, chs_len, List.length_cons, List.length_nil, List.length_append, List.length_take, List.length_drop, List.length_replicate, List.length_set, List.length_map] <;> omega) | fail) only [ev0, ev1, ev2, ev3, ↓reduceIte, reduceCtorEq, Nat.reduceAdd, Nat.reduceSub, Nat.reduceMul, Nat.reduceLT, Nat.reduceLeDiff, Nat.reduceEqDiff, Nat.reduceBEq, BitVec.reduceOfInt, Int.reduceLE, Int.reduceLT, Int.reduceGT, Int.reduceGE, Int.reduceNeg, Int.reduceAdd, Int.reduceSub, Int.reduceMul, Int.reduceToNat, ↓bind_go, ↓map_go, wantedV, isWrite, grow, write, ofV, AV.cells, Abs.start, Abs.strip, endQ, resV, rawsRes, rawRes, exports, export1, AS.grown, AS.put, Env.know, Env.boxed, isSelf, convSelf, convV, loadV, storeV, fieldAddrV, fieldV, indexAddrV, indexV, partV, isAggK, isStr, place, lenV, min2V, makeV, freshSl, sliceV, boundOr, bound, bounds, cutFl, copyV, slCells, srcV, appendV, room, zerosOf, eqNeg, kd, takeR, hasViewL, hasView, freshR, freshC, snapAll, snap, snapL, flatL, pureL, pureA, fillC, arrOK, oneA, partB, AV.laid, ren1, CR.gr, applyW, useL, AS.mute, isGen, startG, ev5, tbBe1, glob, hb, Sc.ren_nil, Sc.ren_sl, dk?_at, Fs.ren, Bx.own.injEq, and_false, false_and, and_true, true_and, List.drop_succ_cons, List.drop_zero, List.drop_nil, hrb, hren, bool_neg ho, decide_eq_true hlong]
          change EndG _ _ _ _ _ _ _
          refine EndG.w1 [_] [_] rfl (.one (.raw _)) rfl (hbl hlow) hbs (fun b' h1 h2 => by simp only [updB, if_neg h2, own_ne h1, if_false]) (by first | exact updB_self | exact hb) ?_ (fun _ _ => rfl)
          exact encExp (.same hok) rfl rfl rfl rfl
        · rename_i hlong
          simp only [Option.bind_eq_some_iff] at hr
          obtain ⟨u, hi, hr⟩ := hr
          cases hr
          rw [Try.ntmps24, Try.results24]
          refine ⟨by simp, fun L hlow hus hbf => ?_⟩
          have hok := okD_of (hbf b _ hb).2
          have hbL := hbl hlow
          have hren := hok.ren
          have hrb := (hlow b hbs).2
          obtain ⟨o1, o2, o3⟩ := hok.f hd4 hk
          have hu1 : us ⟨L, 44, 0, 1⟩ = false := by
            cases e : us ⟨L, 44, 0, 1⟩ with
            | false => rfl
            | true => exact absurd (hus _ e) (Nat.lt_irrefl _)
          rcases sinceI_of hi with ⟨hfl, rfl⟩ | ⟨l, i, hfl, hui, rfl⟩
          · simp (maxSteps := 1000000) (disch := first | omega | (simp only [Dk.setF, powerD, stepD, doesD, List.length_set, hd4]; done) | (simp only [i64ok_is, powerD_steps, powerD_left, doesOK_lay, doesOK_cut, mul3div, powerD_f, stepD_f, nums_len, nums_len, chs_len, List.length_cons, List.length_nil, List.length_append, List.length_take, List.length_drop, List.length_replicate, List.length_set, List.length_map] <;> omega) | fail) only [ev0, ev1, ev2, ev3, ↓reduceIte, reduceCtorEq, Nat.reduceAdd, Nat.reduceSub, Nat.reduceMul, Nat.reduceLT, Nat.reduceLeDiff, Nat.reduceEqDiff, Nat.reduceBEq, BitVec.reduceOfInt, Int.reduceLE, Int.reduceLT, Int.reduceGT, Int.reduceGE, Int.reduceNeg, Int.reduceAdd, Int.reduceSub, Int.reduceMul, Int.reduceToNat, ↓bind_go, ↓map_go, wantedV, isWrite, grow, write, ofV, AV.cells, Abs.start, Abs.strip, endQ, resV, rawsRes, rawRes, exports, export1, AS.grown, AS.put, Env.know, Env.boxed, isSelf, convSelf, convV, loadV, storeV, fieldAddrV, fieldV, indexAddrV, indexV, partV, isAggK, isStr, place, lenV, min2V, makeV, freshSl, sliceV, boundOr, bound, bounds, cutFl, copyV, slCells, srcV, appendV, room, zerosOf, eqNeg, kd, takeR, hasViewL, hasView, freshR, freshC, snapAll, snap, snapL, flatL, pureL, pureA, fillC, arrOK, oneA, partB, AV.laid, ren1, CR.gr, applyW, useL, AS.mute, isGen, startG, ev5, tbBe1, glob, hb, Sc.ren_nil, Sc.ren_sl, dk?_at, Fs.ren, Bx.own.injEq, and_false, false_and, and_true, true_and, List.drop_succ_cons, List.drop_zero, List.drop_nil, hrb, hren, bool_neg ho, decide_eq_false hlong, hfl, fun l s g => renF_ok (l := l) (s := s) (g := g) o1, fun l s g => renF_ok (l := l) (s := s) (g := g) o2, since_lay0]
            change EndG _ _ _ _ _ _ _
            refine EndG.w1x (xp := [(0, ⟨L, 44, 0, 1⟩)]) [_] [_] rfl (.one (.raw _)) rfl (xp_one rfl hu1) (hbl hlow) hbs (fun b' h1 h2 => by simp only [updB, if_neg h2, own_ne h1, if_false]) updB_self ?_ (fun _ _ => rfl) (by simp)
            exact encExp (e := apD d k t _) (FssR.setF (d := stepD (powerD d)) hok ⟨rfl, .bor _, rfl, .same _ o2, by rw [hfl]; exact .sl _ _ _ (.give _ _ _ (by simp))⟩) rfl rfl rfl rfl
          · obtain ⟨hil, hig⟩ := o3 _ _ hfl i 3 rfl
            have hne : (⟨L, 44, 0, 1⟩ : Abs.Id) ≠ i := fun e => by rw [← e] at hil; exact absurd hil (Nat.lt_irrefl _)
            rw [hfl] at n4
            have n4 : l.length ≤ 1000000 := n4
            simp (maxSteps := 1000000) (disch := first | omega | (simp only [Dk.setF, powerD, stepD, doesD, List.length_set, hd4]; done) | (simp only [i64ok_is, powerD_steps, powerD_left, doesOK_lay, doesOK_cut, mul3div, powerD_f, stepD_f, nums_len, nums_len, chs_len, List.length_cons, List.length_nil, List.length_append, List.length_take, List.length_drop, List.length_replicate, List.length_set, List.length_map] <;> omega) | fail) only [ev0, ev1, ev2, ev3, ↓reduceIte, reduceCtorEq, Nat.reduceAdd, Nat.reduceSub, Nat.reduceMul, Nat.reduceLT, Nat.reduceLeDiff, Nat.reduceEqDiff, Nat.reduceBEq, BitVec.reduceOfInt, Int.reduceLE, Int.reduceLT, Int.reduceGT, Int.reduceGE, Int.reduceNeg, Int.reduceAdd, Int.reduceSub, Int.reduceMul, Int.reduceToNat, ↓bind_go, ↓map_go, wantedV, isWrite, grow, write, ofV, AV.cells, Abs.start, Abs.strip, endQ, resV, rawsRes, rawRes, exports, export1, AS.grown, AS.put, Env.know, Env.boxed, isSelf, convSelf, convV, loadV, storeV, fieldAddrV, fieldV, indexAddrV, indexV, partV, isAggK, isStr, place, lenV, min2V, makeV, freshSl, sliceV, boundOr, bound, bounds, cutFl, copyV, slCells, srcV, appendV, room, zerosOf, eqNeg, kd, takeR, hasViewL, hasView, freshR, freshC, snapAll, snap, snapL, flatL, pureL, pureA, fillC, arrOK, oneA, partB, AV.laid, ren1, CR.gr, applyW, useL, AS.mute, isGen, startG, ev5, tbBe1, glob, hb, Sc.ren_nil, Sc.ren_sl, dk?_at, Fs.ren, Bx.own.injEq, and_false, false_and, and_true, true_and, List.drop_succ_cons, List.drop_zero, List.drop_nil, hrb, hren, bool_neg ho, decide_eq_false hlong, hfl, hui, eq_false hig, fun l s g => renF_ok (l := l) (s := s) (g := g) o1, fun l s g => renF_ok (l := l) (s := s) (g := g) o2]
            change EndG _ _ _ _ _ _ _
            refine EndG.w1x (xp := [(0, ⟨L, 44, 0, 1⟩)]) [_] [_] rfl (.one (.raw _)) rfl (xp_one rfl (by simp only [updI, if_neg hne]; exact hu1)) (hbl hlow) hbs (fun b' h1 h2 => by simp only [updB, if_neg h2, own_ne h1, if_false]) updB_self ?_ (fun _ _ => rfl) (by simp; exact hil)
            exact encExp (e := apD d k t _) (FssR.setF (d := stepD (powerD d)) hok ⟨rfl, .bor _, rfl, .same _ o2, by rw [hfl]; exact .sl _ _ _ (.give _ _ _ (by simp))⟩) rfl rfl rfl rfl
    · rename_i hf
      cases hr
      rw [Try.ntmps24, Try.results24]
      refine ⟨by simp, fun L hlow hus hbf => ?_⟩
      have hok := okD_of (hbf b _ hb).2
      have hbL := hbl hlow
      have hren := hok.ren
      have hrb := (hlow b hbs).2
      simp (maxSteps := 1000000) (disch := first | omega | (simp only [Dk.setF, powerD, stepD, doesD, List.length_set, hd4]; done) | (simp only [i64ok_is, powerD_steps, powerD_left, doesOK_lay, doesOK_cut, mul3div, powerD_f, stepD_f, nums_len, nums_len, chs_len, List.length_cons, List.length_nil, List.length_append, List.length_take, List.length_drop, List.length_replicate, List.length_set, List.length_map] <;> omega) | fail) only [ev0, ev1, ev2, ev3, ↓reduceIte, reduceCtorEq, Nat.reduceAdd, Nat.reduceSub, Nat.reduceMul, Nat.reduceLT, Nat.reduceLeDiff, Nat.reduceEqDiff, Nat.reduceBEq, BitVec.reduceOfInt, Int.reduceLE, Int.reduceLT, Int.reduceGT, Int.reduceGE, Int.reduceNeg, Int.reduceAdd, Int.reduceSub, Int.reduceMul, Int.reduceToNat, ↓bind_go, ↓map_go, wantedV, isWrite, grow, write, ofV, AV.cells, Abs.start, Abs.strip, endQ, resV, rawsRes, rawRes, exports, export1, AS.grown, AS.put, Env.know, Env.boxed, isSelf, convSelf, convV, loadV, storeV, fieldAddrV, fieldV, indexAddrV, indexV, partV, isAggK, isStr, place, lenV, min2V, makeV, freshSl, sliceV, boundOr, bound, bounds, cutFl, copyV, slCells, srcV, appendV, room, zerosOf, eqNeg, kd, takeR, hasViewL, hasView, freshR, freshC, snapAll, snap, snapL, flatL, pureL, pureA, fillC, arrOK, oneA, partB, AV.laid, ren1, CR.gr, applyW, useL, AS.mute, isGen, startG, ev5, tbBe1, glob, hb, Sc.ren_nil, Sc.ren_sl, dk?_at, Fs.ren, Bx.own.injEq, and_false, false_and, and_true, true_and, List.drop_succ_cons, List.drop_zero, List.drop_nil, hrb, hren, eq_false hf]
      change EndG _ _ _ _ _ _ _
      exact EndG.r0 [_] [_] rfl (.one (.raw _)) rfl (fun _ _ => rfl) (fun _ _ => rfl)
  · cases hr
/-- a file is cut -/
def cutD (d : Dk) (k : Nat) (n : Int) (i : Abs.Id) : Dk := (stepD (powerD d)).setF k { d.f k with now := (d.f k).now.take n.toNat, nf := .bor, sc := .sl ((d.f k).sc.l ++ [.cut n]) (.own i 3) }
noncomputable def gf31 (args : List AV) (bx : Boxes) (us : Abs.Id → Bool) : Option CR := match args with
  | [.ptr b 0, .raw (.int .i64 f), .raw (.int .i64 n)] => (bx b).bind fun cs => (dk? cs).bind fun d =>
    if 0 ≤ f ∧ f < 4 then open Classical in if ¬ okN d f.toNat then none
      else if n < 0 ∨ n > ((d.f f.toNat).now.length : Int) then some { v := .ret (.raw (.int .i64 1)) }
      else if (powerD d).off = true then some { v := .ret (.raw (.int .i64 5)), wr := [(b, enc (powerD d))] }
      else (sinceI us (d.f f.toNat).sc).bind fun u => some { v := .ret (.raw (.int .i64 0)), wr := [(b, enc (cutD d f.toNat n ⟨0, 0, 0, 0⟩))], use := u }
    else some { v := .ret (.raw (.int .i64 1)) }
  | _ => none
theorem sound31 : SoundG Try.prog glob 31 gf31 := by
  refine SoundG.walk E2 ok2 mixed Try.func31 rfl Try.call31 (by kernel_rfl) ?_
  intro args bx us cr hr
  unfold gf31 at hr
  split at hr
  · rename_i b f n
    simp only [Option.bind_eq_some_iff] at hr
    obtain ⟨cs, hb, d, hd, hr⟩ := hr
    obtain ⟨hd4, rfl⟩ := dk?_of hd
    have hbl : ∀ {L : Nat}, (∀ b, (bx b).isSome → b.lvl < L ∧ ∀ l s n, renB l s n b = b) → b.lvl < L := fun h => (h b (by rw [hb]; rfl)).1
    have hbs : (bx b).isSome := by rw [hb]; rfl
    split at hr
    · rename_i hf
      obtain ⟨k, rfl⟩ := Int.eq_ofNat_of_zero_le hf.1
      rw [Int.toNat_natCast] at hr
      have hk : k < 4 := by omega
      split at hr
      · cases hr
      rename_i hn
      obtain ⟨n1, n2, n3, n4⟩ := Classical.not_not.1 hn
      simp only [i64ok_is] at n1 n2
      rw [Try.ntmps31, Try.results31]
      split at hr
      · rename_i hb1
        cases hr
        refine ⟨by simp, fun L hlow hus hbf => ?_⟩
        have hok := okD_of (hbf b _ hb).2
        have hbL := hbl hlow
        have hren := hok.ren
        have hrb := (hlow b hbs).2
        by_cases h0 : n < 0
        · simp (maxSteps := 1000000) (disch := first | omega | (simp only [Dk.setF, powerD, stepD, doesD, List.length_set, hd4]; done) | (simp only [i64ok_is, powerD_steps, powerD_left, doesOK_lay, doesOK_cut, mul3div, powerD_f, stepD_f, nums_len, nums_len, chs_len, List.length_cons, List.length_nil, List.length_append, List.length_take, List.length_drop, List.length_replicate, List.length_set, List.length_map] <;> omega) | fail) only [ev0, ev1, ev2, ev3, ↓reduceIte, reduceCtorEq, Nat.reduceAdd, Nat.reduceSub, Nat.reduceMul, Nat.reduceLT, Nat.reduceLeDiff, Nat.reduceEqDiff, Nat.reduceBEq, BitVec.reduceOfInt, Int.reduceLE, Int.reduceLT, Int.reduceGT, Int.reduceGE, Int.reduceNeg, Int.reduceAdd, Int.reduceSub, Int.reduceMul, Int.reduceToNat, ↓bind_go, ↓map_go, wantedV, isWrite, grow, write, ofV, AV.cells, Abs.start, Abs.strip, endQ, resV, rawsRes, rawRes, exports, export1, AS.grown, AS.put, Env.know, Env.boxed, isSelf, convSelf, convV, loadV, storeV, fieldAddrV, fieldV, indexAddrV, indexV, partV, isAggK, isStr, place, lenV, min2V, makeV, freshSl, sliceV, boundOr, bound, bounds, cutFl, copyV, slCells, srcV, appendV, room, zerosOf, eqNeg, kd, takeR, hasViewL, hasView, freshR, freshC, snapAll, snap, snapL, flatL, pureL, pureA, fillC, arrOK, oneA, partB, AV.laid, ren1, CR.gr, applyW, useL, AS.mute, isGen, startG, ev5, tbBe1, glob, hb, Sc.ren_nil, Sc.ren_sl, dk?_at, Fs.ren, Bx.own.injEq, and_false, false_and, and_true, true_and, List.drop_succ_cons, List.drop_zero, List.drop_nil, hrb, hren, decide_eq_true h0]
          change EndG _ _ _ _ _ _ _
          exact EndG.r0 [_] [_] rfl (.one (.raw _)) rfl (fun _ _ => rfl) (fun _ _ => rfl)
        · have h1 := hb1.resolve_left h0
          simp (maxSteps := 1000000) (disch := first | omega | (simp only [Dk.setF, powerD, stepD, doesD, List.length_set, hd4]; done) | (simp only [i64ok_is, powerD_steps, powerD_left, doesOK_lay, doesOK_cut, mul3div, powerD_f, stepD_f, nums_len, nums_len, chs_len, List.length_cons, List.length_nil, List.length_append, List.length_take, List.length_drop, List.length_replicate, List.length_set, List.length_map] <;> omega) | fail) only [ev0, ev1, ev2, ev3, ↓reduceIte, reduceCtorEq, Nat.reduceAdd, Nat.reduceSub, Nat.reduceMul, Nat.reduceLT, Nat.reduceLeDiff, Nat.reduceEqDiff, Nat.reduceBEq, BitVec.reduceOfInt, Int.reduceLE, Int.reduceLT, Int.reduceGT, Int.reduceGE, Int.reduceNeg, Int.reduceAdd, Int.reduceSub, Int.reduceMul, Int.reduceToNat, ↓bind_go, ↓map_go, wantedV, isWrite, grow, write, ofV, AV.cells, Abs.start, Abs.strip, endQ, resV, rawsRes, rawRes, exports, export1, AS.grown, AS.put, Env.know, Env.boxed, isSelf, convSelf, convV, loadV, storeV, fieldAddrV, fieldV, indexAddrV, indexV, partV, isAggK, isStr, place, lenV, min2V, makeV, freshSl, sliceV, boundOr, bound, bounds, cutFl, copyV, slCells, srcV, appendV, room, zerosOf, eqNeg, kd, takeR, hasViewL, hasView, freshR, freshC, snapAll, snap, snapL, flatL, pureL, pureA, fillC, arrOK, oneA, partB, AV.laid, ren1, CR.gr, applyW, useL, AS.mute, isGen, startG, ev5, tbBe1, glob, hb, Sc.ren_nil, Sc.ren_sl, dk?_at, Fs.ren, Bx.own.injEq, and_false, false_and, and_true, true_and, List.drop_succ_cons, List.drop_zero, List.drop_nil, hrb, hren, decide_eq_false h0, decide_eq_true h1]
          change EndG _ _ _ _ _ _ _
          exact EndG.r0 [_] [_] rfl (.one (.raw _)) rfl (fun _ _ => rfl) (fun _ _ => rfl)
      · rename_i hb1
        have h0 : ¬ n < 0 := fun h => hb1 (.inl h)
        have h1 : ¬ n > ((d.f k).now.length : Int) := fun h => hb1 (.inr h)
        split at hr
        · rename_i ho
          cases hr
          refine ⟨by simp, fun L hlow hus hbf => ?_⟩
          have hok := okD_of (hbf b _ hb).2
          have hbL := hbl hlow
          have hren := hok.ren
          have hrb := (hlow b hbs).2
          simp (maxSteps := 1000000) (disch := first | omega | (simp only [Dk.setF, powerD, stepD, doesD, List.length_set, hd4]; done) | (simp only [i64ok_is, powerD_steps, powerD_left, doesOK_lay, doesOK_cut, mul3div, powerD_f, stepD_f, nums_len, nums_len, chs_len, List.length_cons, List.length_nil, List.length_append, List.length_take, List.length_drop, List.length_replicate, List.length_set, List.length_map] <;> omega) | fail) only [ev0, ev1, ev2, ev3, ↓reduceIte, reduceCtorEq, Nat.reduceAdd, Nat.reduceSub, Nat.reduceMul, Nat.reduceLT, Nat.reduceLeDiff, Nat.reduceEqDiff, Nat.reduceBEq, BitVec.reduceOfInt, Int.reduceLE, Int.reduceLT, Int.reduceGT, Int.reduceGE, Int.reduceNeg, Int.reduceAdd, Int.reduceSub, Int.reduceMul, Int.reduceToNat, ↓bind_go, ↓map_go, wantedV, isWrite, grow, write, ofV, AV.cells, Abs.start, Abs.strip, endQ, resV, rawsRes, rawRes, exports, export1, AS.grown, AS.put, Env.know, Env.boxed, isSelf, convSelf, convV, loadV, storeV, fieldAddrV, fieldV, indexAddrV, indexV, partV, isAggK, isStr, place, lenV, min2V, makeV, freshSl, sliceV, boundOr, bound, bounds, cutFl, copyV, slCells, srcV, appendV, room, zerosOf, eqNeg, kd, takeR, hasViewL, hasView, freshR, freshC, snapAll, snap, snapL, flatL, pureL, pureA, fillC, arrOK, oneA, partB, AV.laid, ren1, CR.gr, applyW, useL, AS.mute, isGen, startG, ev5, tbBe1, glob, hb, Sc.ren_nil, Sc.ren_sl, dk?_at, Fs.ren, Bx.own.injEq, and_false, false_and, and_true, true_and, List.drop_succ_cons, List.drop_zero, List.drop_nil, hrb, hren, bool_pos ho, decide_eq_false h0, decide_eq_false h1]
          change EndG _ _ _ _ _ _ _
          refine EndG.w1 [_] [_] rfl (.one (.raw _)) rfl (hbl hlow) hbs (fun b' h1 h2 => by simp only [updB, if_neg h2, own_ne h1, if_false]) (by first | exact updB_self | exact hb) ?_ (fun _ _ => rfl)
          exact encExp (.same hok) rfl rfl rfl rfl
        · rename_i ho
          have ho : (powerD d).off = false := by simpa using ho
          simp only [Option.bind_eq_some_iff] at hr
          obtain ⟨u, hi, hr⟩ := hr
          cases hr
          refine ⟨by simp, fun L hlow hus hbf => ?_⟩
          have hok := okD_of (hbf b _ hb).2
          have hbL := hbl hlow
          have hren := hok.ren
          have hrb := (hlow b hbs).2
          obtain ⟨o1, o2, o3⟩ := hok.f hd4 hk
          have hu1 : us ⟨L, 42, 0, 1⟩ = false := by
            cases e : us ⟨L, 42, 0, 1⟩ with
            | false => rfl
            | true => exact absurd (hus _ e) (Nat.lt_irrefl _)
          rcases sinceI_of hi with ⟨hfl, rfl⟩ | ⟨l, i, hfl, hui, rfl⟩
          · simp (maxSteps := 1000000) (disch := first | omega | (simp only [Dk.setF, powerD, stepD, doesD, List.length_set, hd4]; done) | (simp only [i64ok_is, powerD_steps, powerD_left, doesOK_lay, doesOK_cut, mul3div, powerD_f, stepD_f, nums_len, nums_len, chs_len, List.length_cons, List.length_nil, List.length_append, List.length_take, List.length_drop, List.length_replicate, List.length_set, List.length_map] <;> omega) | fail) only [ev0, ev1, ev2, ev3, ↓reduceIte, reduceCtorEq, Nat.reduceAdd, Nat.reduceSub, Nat.reduceMul, Nat.reduceLT, Nat.reduceLeDiff, Nat.reduceEqDiff, Nat.reduceBEq, BitVec.reduceOfInt, Int.reduceLE, Int.reduceLT, Int.reduceGT, Int.reduceGE, Int.reduceNeg, Int.reduceAdd, Int.reduceSub, Int.reduceMul, Int.reduceToNat, ↓bind_go, ↓map_go, wantedV, isWrite, grow, write, ofV, AV.cells, Abs.start, Abs.strip, endQ, resV, rawsRes, rawRes, exports, export1, AS.grown, AS.put, Env.know, Env.boxed, isSelf, convSelf, convV, loadV, storeV, fieldAddrV, fieldV, indexAddrV, indexV, partV, isAggK, isStr, place, lenV, min2V, makeV, freshSl, sliceV, boundOr, bound, bounds, cutFl, copyV, slCells, srcV, appendV, room, zerosOf, eqNeg, kd, takeR, hasViewL, hasView, freshR, freshC, snapAll, snap, snapL, flatL, pureL, pureA, fillC, arrOK, oneA, partB, AV.laid, ren1, CR.gr, applyW, useL, AS.mute, isGen, startG, ev5, tbBe1, glob, hb, Sc.ren_nil, Sc.ren_sl, dk?_at, Fs.ren, Bx.own.injEq, and_false, false_and, and_true, true_and, List.drop_succ_cons, List.drop_zero, List.drop_nil, hrb, hren, bool_neg ho, decide_eq_false h0, decide_eq_false h1, hfl, fun l s g => renF_ok (l := l) (s := s) (g := g) o1, fun l s g => renF_ok (l := l) (s := s) (g := g) o2, since_cut0]
            change EndG _ _ _ _ _ _ _
            refine EndG.w1x (xp := [(0, ⟨L, 42, 0, 1⟩)]) [_] [_] rfl (.one (.raw _)) rfl (xp_one rfl hu1) (hbl hlow) hbs (fun b' h1 h2 => by simp only [updB, if_neg h2, own_ne h1, if_false]) updB_self ?_ (fun _ _ => rfl) (by simp)
            exact encExp (e := cutD d k n _) (FssR.setF (d := stepD (powerD d)) hok ⟨rfl, .bor _, rfl, .same _ o2, by rw [hfl]; exact .sl _ _ _ (.give _ _ _ (by simp))⟩) rfl rfl rfl rfl
          · obtain ⟨hil, hig⟩ := o3 _ _ hfl i 3 rfl
            have hne : (⟨L, 42, 0, 1⟩ : Abs.Id) ≠ i := fun e => by rw [← e] at hil; exact absurd hil (Nat.lt_irrefl _)
            rw [hfl] at n4
            have n4 : l.length ≤ 1000000 := n4
            simp (maxSteps := 1000000) (disch := first | omega | (simp only [Dk.setF, powerD, stepD, doesD, List.length_set, hd4]; done) | (simp only [i64ok_is, powerD_steps, powerD_left, doesOK_lay, doesOK_cut, mul3div, powerD_f, stepD_f, nums_len, nums_len, chs_len, List.length_cons, List.length_nil, List.length_append, List.length_take, List.length_drop, List.length_replicate, List.length_set, List.length_map] <;> omega) | fail) only [ev0, ev1, ev2, ev3, ↓reduceIte, reduceCtorEq, Nat.reduceAdd, Nat.reduceSub, Nat.reduceMul, Nat.reduceLT, Nat.reduceLeDiff, Nat.reduceEqDiff, Nat.reduceBEq, BitVec.reduceOfInt, Int.reduceLE, Int.reduceLT, Int.reduceGT, Int.reduceGE, Int.reduceNeg, Int.reduceAdd, Int.reduceSub, Int.reduceMul, Int.reduceToNat, ↓bind_go, ↓map_go, wantedV, isWrite, grow, write, ofV, AV.cells, Abs.start, Abs.strip, endQ, resV, rawsRes, rawRes, exports, export1, AS.grown, AS.put, Env.know, Env.boxed, isSelf, convSelf, convV, loadV, storeV, fieldAddrV, fieldV, indexAddrV, indexV, partV, isAggK, isStr, place, lenV, min2V, makeV, freshSl, sliceV, boundOr, bound, bounds, cutFl, copyV, slCells, srcV, appendV, room, zerosOf, eqNeg, kd, takeR, hasViewL, hasView, freshR, freshC, snapAll, snap, snapL, flatL, pureL, pureA, fillC, arrOK, oneA, partB, AV.laid, ren1, CR.gr, applyW, useL, AS.mute, isGen, startG, ev5, tbBe1, glob, hb, Sc.ren_nil, Sc.ren_sl, dk?_at, Fs.ren, Bx.own.injEq, and_false, false_and, and_true, true_and, List.drop_succ_cons, List.drop_zero, List.drop_nil, hrb, hren, bool_neg ho, decide_eq_false h0, decide_eq_false h1, hfl, hui, eq_false hig, fun l s g => renF_ok (l := l) (s := s) (g := g) o1, fun l s g => renF_ok (l := l) (s := s) (g := g) o2]
            change EndG _ _ _ _ _ _ _
            refine EndG.w1x (xp := [(0, ⟨L, 42, 0, 1⟩)]) [_] [_] rfl (.one (.raw _)) rfl (xp_one rfl (by simp only [updI, if_neg hne]; exact hu1)) (hbl hlow) hbs (fun b' h1 h2 => by simp only [updB, if_neg h2, own_ne h1, if_false]) updB_self ?_ (fun _ _ => rfl) (by simp; exact hil)
            exact encExp (e := cutD d k n _) (FssR.setF (d := stepD (powerD d)) hok ⟨rfl, .bor _, rfl, .same _ o2, by rw [hfl]; exact .sl _ _ _ (.give _ _ _ (by simp))⟩) rfl rfl rfl rfl
    · rename_i hf
      cases hr
      rw [Try.ntmps31, Try.results31]
      refine ⟨by simp, fun L hlow hus hbf => ?_⟩
      have hok := okD_of (hbf b _ hb).2
      have hbL := hbl hlow
      have hren := hok.ren
      have hrb := (hlow b hbs).2
      simp (maxSteps := 1000000) (disch := first | omega | (simp only [Dk.setF, powerD, stepD, doesD, List.length_set, hd4]; done) | (simp only [i64ok_is, powerD_steps, powerD_left, doesOK_lay, doesOK_cut, mul3div, powerD_f, stepD_f, nums_len, nums_len, chs_len, List.length_cons, List.length_nil, List.length_append, List.length_take, List.length_drop, List.length_replicate, List.length_set, List.length_map] <;> omega) | fail) only [ev0, ev1, ev2, ev3, ↓reduceIte, reduceCtorEq, Nat.reduceAdd, Nat.reduceSub, Nat.reduceMul, Nat.reduceLT, Nat.reduceLeDiff, Nat.reduceEqDiff, Nat.reduceBEq, BitVec.reduceOfInt, Int.reduceLE, Int.reduceLT, Int.reduceGT, Int.reduceGE, Int.reduceNeg, Int.reduceAdd, Int.reduceSub, Int.reduceMul, Int.reduceToNat, ↓bind_go, ↓map_go, wantedV, isWrite, grow, write, ofV, AV.cells, Abs.start, Abs.strip, endQ, resV, rawsRes, rawRes, exports, export1, AS.grown, AS.put, Env.know, Env.boxed, isSelf, convSelf, convV, loadV, storeV, fieldAddrV, fieldV, indexAddrV, indexV, partV, isAggK, isStr, place, lenV, min2V, makeV, freshSl, sliceV, boundOr, bound, bounds, cutFl, copyV, slCells, srcV, appendV, room, zerosOf, eqNeg, kd, takeR, hasViewL, hasView, freshR, freshC, snapAll, snap, snapL, flatL, pureL, pureA, fillC, arrOK, oneA, partB, AV.laid, ren1, CR.gr, applyW, useL, AS.mute, isGen, startG, ev5, tbBe1, glob, hb, Sc.ren_nil, Sc.ren_sl, dk?_at, Fs.ren, Bx.own.injEq, and_false, false_and, and_true, true_and, List.drop_succ_cons, List.drop_zero, List.drop_nil, hrb, hren, eq_false hf]
      change EndG _ _ _ _ _ _ _
      exact EndG.r0 [_] [_] rfl (.one (.raw _)) rfl (fun _ _ => rfl) (fun _ _ => rfl)
  · cases hr
/-- what there is of a file is sure -/
def syncD (d : Dk) (k : Nat) : Dk := (stepD (powerD d)).setF k { d.f k with sure := (d.f k).now, sf := .bor, sc := .nil }
def isBor : Fl → Bool
  | .bor => true
  | _ => false
theorem isBor_of {fl : Fl} (h : isBor fl = true) : fl = .bor := by cases fl <;> first | rfl | cases h
noncomputable def gf27 (args : List AV) (bx : Boxes) (us : Abs.Id → Bool) : Option CR := match args with
  | [.ptr b 0, .raw (.int .i64 f)] => (bx b).bind fun cs => (dk? cs).bind fun d =>
    if 0 ≤ f ∧ f < 4 then open Classical in if ¬ (okN d f.toNat ∧ isBor (d.f f.toNat).nf = true) then none
      else if (powerD d).off = true then some { v := .ret (.raw (.int .i64 5)), wr := [(b, enc (powerD d))] }
      else some { v := .ret (.raw (.int .i64 0)), wr := [(b, enc (syncD d f.toNat))] }
    else some { v := .ret (.raw (.int .i64 1)) }
  | _ => none
theorem sound27 : SoundG Try.prog glob 27 gf27 := by
  refine SoundG.walk E2 ok2 mixed Try.func27 rfl Try.call27 (by kernel_rfl) ?_
  intro args bx us cr hr
  unfold gf27 at hr
  split at hr
  · rename_i b f
    simp only [Option.bind_eq_some_iff] at hr
    obtain ⟨cs, hb, d, hd, hr⟩ := hr
    obtain ⟨hd4, rfl⟩ := dk?_of hd
    have hbl : ∀ {L : Nat}, (∀ b, (bx b).isSome → b.lvl < L ∧ ∀ l s n, renB l s n b = b) → b.lvl < L := fun h => (h b (by rw [hb]; rfl)).1
    have hbs : (bx b).isSome := by rw [hb]; rfl
    split at hr
    · rename_i hf
      obtain ⟨k, rfl⟩ := Int.eq_ofNat_of_zero_le hf.1
      rw [Int.toNat_natCast] at hr
      have hk : k < 4 := by omega
      split at hr
      · cases hr
      rename_i hn
      obtain ⟨⟨n1, n2, n3, n4⟩, hnf⟩ := Classical.not_not.1 hn
      have hnf := isBor_of hnf
      simp only [i64ok_is] at n1 n2
      rw [Try.ntmps27, Try.results27]
      split at hr
      · rename_i ho
        cases hr
        refine ⟨by simp, fun L hlow hus hbf => ?_⟩
        have hok := okD_of (hbf b _ hb).2
        have hbL := hbl hlow
        have hren := hok.ren
        have hrb := (hlow b hbs).2
        simp (maxSteps := 1000000) (disch := first | omega | (simp only [Dk.setF, powerD, stepD, doesD, List.length_set, hd4]; done) | (simp only [i64ok_is, powerD_steps, powerD_left, doesOK_lay, doesOK_cut, mul3div, powerD_f, stepD_f, nums_len, nums_len, chs_len, List.length_cons, List.length_nil, List.length_append, List.length_take, List.length_drop, List.length_replicate, List.length_set, List.length_map] <;> omega) | fail) only [ev0, ev1, ev2, ev3, ↓reduceIte, reduceCtorEq, Nat.reduceAdd, Nat.reduceSub, Nat.reduceMul, Nat.reduceLT, Nat.reduceLeDiff, Nat.reduceEqDiff, Nat.reduceBEq, BitVec.reduceOfInt, Int.reduceLE, Int.reduceLT, Int.reduceGT, Int.reduceGE, Int.reduceNeg, Int.reduceAdd, Int.reduceSub, Int.reduceMul, Int.reduceToNat, ↓bind_go, ↓map_go, wantedV, isWrite, grow, write, ofV, AV.cells, Abs.start, Abs.strip, endQ, resV, rawsRes, rawRes, exports, export1, AS.grown, AS.put, Env.know, Env.boxed, isSelf, convSelf, convV, loadV, storeV, fieldAddrV, fieldV, indexAddrV, indexV, partV, isAggK, isStr, place, lenV, min2V, makeV, freshSl, sliceV, boundOr, bound, bounds, cutFl, copyV, slCells, srcV, appendV, room, zerosOf, eqNeg, kd, takeR, hasViewL, hasView, freshR, freshC, snapAll, snap, snapL, flatL, pureL, pureA, fillC, arrOK, oneA, partB, AV.laid, ren1, CR.gr, applyW, useL, AS.mute, isGen, startG, ev5, tbBe1, glob, hb, Sc.ren_nil, Sc.ren_sl, dk?_at, Fs.ren, Bx.own.injEq, and_false, false_and, and_true, true_and, List.drop_succ_cons, List.drop_zero, List.drop_nil, hrb, hren, bool_pos ho]
        change EndG _ _ _ _ _ _ _
        refine EndG.w1 [_] [_] rfl (.one (.raw _)) rfl (hbl hlow) hbs (fun b' h1 h2 => by simp only [updB, if_neg h2, own_ne h1, if_false]) (by first | exact updB_self | exact hb) ?_ (fun _ _ => rfl)
        exact encExp (.same hok) rfl rfl rfl rfl
      · rename_i ho
        have ho : (powerD d).off = false := by simpa using ho
        cases hr
        refine ⟨by simp, fun L hlow hus hbf => ?_⟩
        have hok := okD_of (hbf b _ hb).2
        have hbL := hbl hlow
        have hren := hok.ren
        have hrb := (hlow b hbs).2
        obtain ⟨o1, o2, o3⟩ := hok.f hd4 hk
        simp (maxSteps := 1000000) (disch := first | omega | (simp only [Dk.setF, powerD, stepD, doesD, List.length_set, hd4]; done) | (simp only [i64ok_is, powerD_steps, powerD_left, doesOK_lay, doesOK_cut, mul3div, powerD_f, stepD_f, nums_len, nums_len, chs_len, List.length_cons, List.length_nil, List.length_append, List.length_take, List.length_drop, List.length_replicate, List.length_set, List.length_map] <;> omega) | fail) only [ev0, ev1, ev2, ev3, ↓reduceIte, reduceCtorEq, Nat.reduceAdd, Nat.reduceSub, Nat.reduceMul, Nat.reduceLT, Nat.reduceLeDiff, Nat.reduceEqDiff, Nat.reduceBEq, BitVec.reduceOfInt, Int.reduceLE, Int.reduceLT, Int.reduceGT, Int.reduceGE, Int.reduceNeg, Int.reduceAdd, Int.reduceSub, Int.reduceMul, Int.reduceToNat, ↓bind_go, ↓map_go, wantedV, isWrite, grow, write, ofV, AV.cells, Abs.start, Abs.strip, endQ, resV, rawsRes, rawRes, exports, export1, AS.grown, AS.put, Env.know, Env.boxed, isSelf, convSelf, convV, loadV, storeV, fieldAddrV, fieldV, indexAddrV, indexV, partV, isAggK, isStr, place, lenV, min2V, makeV, freshSl, sliceV, boundOr, bound, bounds, cutFl, copyV, slCells, srcV, appendV, room, zerosOf, eqNeg, kd, takeR, hasViewL, hasView, freshR, freshC, snapAll, snap, snapL, flatL, pureL, pureA, fillC, arrOK, oneA, partB, AV.laid, ren1, CR.gr, applyW, useL, AS.mute, isGen, startG, ev5, tbBe1, glob, hb, Sc.ren_nil, Sc.ren_sl, dk?_at, Fs.ren, Bx.own.injEq, and_false, false_and, and_true, true_and, List.drop_succ_cons, List.drop_zero, List.drop_nil, hrb, hren, bool_neg ho, fun l s g => renF_ok (l := l) (s := s) (g := g) o1, fun l s g => renF_ok (l := l) (s := s) (g := g) o2, fun l s g => renS_ok (l := l) (s := s) (g := g) o3, hnf]
        change EndG _ _ _ _ _ _ _
        refine EndG.w1 [_] [_] rfl (.one (.raw _)) rfl (hbl hlow) hbs (fun b' h1 h2 => by simp only [updB, if_neg h2, own_ne h1, if_false]) (by first | exact updB_self | exact hb) ?_ (fun _ _ => rfl)
        exact encExp (e := syncD d k) (FssR.setF (d := stepD (powerD d)) hok ⟨rfl, by show FlR _ _ Fl.bor (d.f k).nf; rw [hnf]; exact .bor _, rfl, .bor _, .nil⟩) rfl rfl rfl rfl
    · rename_i hf
      cases hr
      rw [Try.ntmps27, Try.results27]
      refine ⟨by simp, fun L hlow hus hbf => ?_⟩
      have hok := okD_of (hbf b _ hb).2
      have hbL := hbl hlow
      have hren := hok.ren
      have hrb := (hlow b hbs).2
      simp (maxSteps := 1000000) (disch := first | omega | (simp only [Dk.setF, powerD, stepD, doesD, List.length_set, hd4]; done) | (simp only [i64ok_is, powerD_steps, powerD_left, doesOK_lay, doesOK_cut, mul3div, powerD_f, stepD_f, nums_len, nums_len, chs_len, List.length_cons, List.length_nil, List.length_append, List.length_take, List.length_drop, List.length_replicate, List.length_set, List.length_map] <;> omega) | fail) only [ev0, ev1, ev2, ev3, ↓reduceIte, reduceCtorEq, Nat.reduceAdd, Nat.reduceSub, Nat.reduceMul, Nat.reduceLT, Nat.reduceLeDiff, Nat.reduceEqDiff, Nat.reduceBEq, BitVec.reduceOfInt, Int.reduceLE, Int.reduceLT, Int.reduceGT, Int.reduceGE, Int.reduceNeg, Int.reduceAdd, Int.reduceSub, Int.reduceMul, Int.reduceToNat, ↓bind_go, ↓map_go, wantedV, isWrite, grow, write, ofV, AV.cells, Abs.start, Abs.strip, endQ, resV, rawsRes, rawRes, exports, export1, AS.grown, AS.put, Env.know, Env.boxed, isSelf, convSelf, convV, loadV, storeV, fieldAddrV, fieldV, indexAddrV, indexV, partV, isAggK, isStr, place, lenV, min2V, makeV, freshSl, sliceV, boundOr, bound, bounds, cutFl, copyV, slCells, srcV, appendV, room, zerosOf, eqNeg, kd, takeR, hasViewL, hasView, freshR, freshC, snapAll, snap, snapL, flatL, pureL, pureA, fillC, arrOK, oneA, partB, AV.laid, ren1, CR.gr, applyW, useL, AS.mute, isGen, startG, ev5, tbBe1, glob, hb, Sc.ren_nil, Sc.ren_sl, dk?_at, Fs.ren, Bx.own.injEq, and_false, false_and, and_true, true_and, List.drop_succ_cons, List.drop_zero, List.drop_nil, hrb, hren, eq_false hf]
      change EndG _ _ _ _ _ _ _
      exact EndG.r0 [_] [_] rfl (.one (.raw _)) rfl (fun _ _ => rfl) (fun _ _ => rfl)
  · cases hr
noncomputable def gf29 (args : List AV) (bx : Boxes) (us : Abs.Id → Bool) : Option CR := match args with
  | [.ptr b 0, .raw (.int .i64 f)] => (bx b).bind fun cs => (dk? cs).bind fun d =>
    if 0 ≤ f ∧ f < 4 then
      if d.off = true then some { v := .ret (.tup [.sl 0 [] .bor, .raw (.int .i64 5)]) }
      else if (d.f f.toNat).now.length ≤ 150000000000000 then some { v := .ret (.tup [.sl (d.f f.toNat).now.length (nums .u8 (d.f f.toNat).now) (.own ⟨0, 0, 0, 0⟩ 1), .raw (.int .i64 0)]) } else none
    else some { v := .ret (.tup [.sl 0 [] .bor, .raw (.int .i64 1)]) }
  | _ => none
theorem sound29 : SoundG Try.prog glob 29 gf29 := by
  refine SoundG.walk E2 ok2 mixed Try.func29 rfl Try.call29 (by kernel_rfl) ?_
  intro args bx us cr hr
  unfold gf29 at hr
  split at hr
  · rename_i b f
    simp only [Option.bind_eq_some_iff] at hr
    obtain ⟨cs, hb, d, hd, hr⟩ := hr
    obtain ⟨hd4, rfl⟩ := dk?_of hd
    have hbl : ∀ {L : Nat}, (∀ b, (bx b).isSome → b.lvl < L ∧ ∀ l s n, renB l s n b = b) → b.lvl < L := fun h => (h b (by rw [hb]; rfl)).1
    have hbs : (bx b).isSome := by rw [hb]; rfl
    rw [Try.ntmps29, Try.results29]
    split at hr
    · rename_i hf
      obtain ⟨k, rfl⟩ := Int.eq_ofNat_of_zero_le hf.1
      rw [Int.toNat_natCast] at hr
      have hk : k < 4 := by omega
      split at hr
      · rename_i ho
        cases hr
        refine ⟨by simp, fun L hlow hus hbf => ?_⟩
        have hok := okD_of (hbf b _ hb).2
        have hbL := hbl hlow
        have hren := hok.ren
        have hrb := (hlow b hbs).2
        simp (maxSteps := 1000000) (disch := first | omega | (simp only [Dk.setF, powerD, stepD, doesD, List.length_set, hd4]; done) | (simp only [i64ok_is, powerD_steps, powerD_left, doesOK_lay, doesOK_cut, mul3div, powerD_f, stepD_f, nums_len, nums_len, chs_len, List.length_cons, List.length_nil, List.length_append, List.length_take, List.length_drop, List.length_replicate, List.length_set, List.length_map] <;> omega) | fail) only [ev0, ev1, ev2, ev3, ↓reduceIte, reduceCtorEq, Nat.reduceAdd, Nat.reduceSub, Nat.reduceMul, Nat.reduceLT, Nat.reduceLeDiff, Nat.reduceEqDiff, Nat.reduceBEq, BitVec.reduceOfInt, Int.reduceLE, Int.reduceLT, Int.reduceGT, Int.reduceGE, Int.reduceNeg, Int.reduceAdd, Int.reduceSub, Int.reduceMul, Int.reduceToNat, ↓bind_go, ↓map_go, wantedV, isWrite, grow, write, ofV, AV.cells, Abs.start, Abs.strip, endQ, resV, rawsRes, rawRes, exports, export1, AS.grown, AS.put, Env.know, Env.boxed, isSelf, convSelf, convV, loadV, storeV, fieldAddrV, fieldV, indexAddrV, indexV, partV, isAggK, isStr, place, lenV, min2V, makeV, freshSl, sliceV, boundOr, bound, bounds, cutFl, copyV, slCells, srcV, appendV, room, zerosOf, eqNeg, kd, takeR, hasViewL, hasView, freshR, freshC, snapAll, snap, snapL, flatL, pureL, pureA, fillC, arrOK, oneA, partB, AV.laid, ren1, CR.gr, applyW, useL, AS.mute, isGen, startG, ev5, tbBe1, glob, hb, Sc.ren_nil, Sc.ren_sl, dk?_at, Fs.ren, Bx.own.injEq, and_false, false_and, and_true, true_and, List.drop_succ_cons, List.drop_zero, List.drop_nil, hrb, hren, ho]
        change EndG _ _ _ _ _ _ _
        exact EndG.r0 [_, _] [_, _] rfl (.cons .nilb (.one (.raw _))) rfl (fun _ _ => rfl) (fun _ _ => rfl)
      · rename_i ho
        have ho : d.off = false := by simpa using ho
        split at hr
        · rename_i hl
          cases hr
          refine ⟨by simp, fun L hlow hus hbf => ?_⟩
          have hok := okD_of (hbf b _ hb).2
          have hbL := hbl hlow
          have hren := hok.ren
          have hrb := (hlow b hbs).2
          have hu1 : us ⟨L, 22, 0, 1⟩ = false := by
            cases e : us ⟨L, 22, 0, 1⟩ with
            | false => rfl
            | true => exact absurd (hus _ e) (Nat.lt_irrefl _)
          simp (maxSteps := 1000000) (disch := first | omega | (simp only [Dk.setF, powerD, stepD, doesD, List.length_set, hd4]; done) | (simp only [i64ok_is, powerD_steps, powerD_left, doesOK_lay, doesOK_cut, mul3div, powerD_f, stepD_f, nums_len, nums_len, chs_len, List.length_cons, List.length_nil, List.length_append, List.length_take, List.length_drop, List.length_replicate, List.length_set, List.length_map] <;> omega) | fail) only [ev0, ev1, ev2, ev3, ↓reduceIte, reduceCtorEq, Nat.reduceAdd, Nat.reduceSub, Nat.reduceMul, Nat.reduceLT, Nat.reduceLeDiff, Nat.reduceEqDiff, Nat.reduceBEq, BitVec.reduceOfInt, Int.reduceLE, Int.reduceLT, Int.reduceGT, Int.reduceGE, Int.reduceNeg, Int.reduceAdd, Int.reduceSub, Int.reduceMul, Int.reduceToNat, ↓bind_go, ↓map_go, wantedV, isWrite, grow, write, ofV, AV.cells, Abs.start, Abs.strip, endQ, resV, rawsRes, rawRes, exports, export1, AS.grown, AS.put, Env.know, Env.boxed, isSelf, convSelf, convV, loadV, storeV, fieldAddrV, fieldV, indexAddrV, indexV, partV, isAggK, isStr, place, lenV, min2V, makeV, freshSl, sliceV, boundOr, bound, bounds, cutFl, copyV, slCells, srcV, appendV, room, zerosOf, eqNeg, kd, takeR, hasViewL, hasView, freshR, freshC, snapAll, snap, snapL, flatL, pureL, pureA, fillC, arrOK, oneA, partB, AV.laid, ren1, CR.gr, applyW, useL, AS.mute, isGen, startG, ev5, tbBe1, glob, hb, Sc.ren_nil, Sc.ren_sl, dk?_at, Fs.ren, Bx.own.injEq, and_false, false_and, and_true, true_and, List.drop_succ_cons, List.drop_zero, List.drop_nil, hrb, hren, ho]
          change EndG _ _ _ _ _ _ _
          exact EndG.r0x (xp := [(0, ⟨L, 22, 0, 1⟩)]) [_, _] [_, _] rfl (.cons (.give _ _ _ _ 0 (lowL_pure _ (nums_pure _)) (by simp)) (.one (.raw _))) rfl (xp_one rfl hu1) (fun _ _ => rfl) (fun _ _ => rfl)
        · cases hr
    · rename_i hf
      cases hr
      refine ⟨by simp, fun L hlow hus hbf => ?_⟩
      have hok := okD_of (hbf b _ hb).2
      have hbL := hbl hlow
      have hren := hok.ren
      have hrb := (hlow b hbs).2
      simp (maxSteps := 1000000) (disch := first | omega | (simp only [Dk.setF, powerD, stepD, doesD, List.length_set, hd4]; done) | (simp only [i64ok_is, powerD_steps, powerD_left, doesOK_lay, doesOK_cut, mul3div, powerD_f, stepD_f, nums_len, nums_len, chs_len, List.length_cons, List.length_nil, List.length_append, List.length_take, List.length_drop, List.length_replicate, List.length_set, List.length_map] <;> omega) | fail) only [ev0, ev1, ev2, ev3, ↓reduceIte, reduceCtorEq, Nat.reduceAdd, Nat.reduceSub, Nat.reduceMul, Nat.reduceLT, Nat.reduceLeDiff, Nat.reduceEqDiff, Nat.reduceBEq, BitVec.reduceOfInt, Int.reduceLE, Int.reduceLT, Int.reduceGT, Int.reduceGE, Int.reduceNeg, Int.reduceAdd, Int.reduceSub, Int.reduceMul, Int.reduceToNat, ↓bind_go, ↓map_go, wantedV, isWrite, grow, write, ofV, AV.cells, Abs.start, Abs.strip, endQ, resV, rawsRes, rawRes, exports, export1, AS.grown, AS.put, Env.know, Env.boxed, isSelf, convSelf, convV, loadV, storeV, fieldAddrV, fieldV, indexAddrV, indexV, partV, isAggK, isStr, place, lenV, min2V, makeV, freshSl, sliceV, boundOr, bound, bounds, cutFl, copyV, slCells, srcV, appendV, room, zerosOf, eqNeg, kd, takeR, hasViewL, hasView, freshR, freshC, snapAll, snap, snapL, flatL, pureL, pureA, fillC, arrOK, oneA, partB, AV.laid, ren1, CR.gr, applyW, useL, AS.mute, isGen, startG, ev5, tbBe1, glob, hb, Sc.ren_nil, Sc.ren_sl, dk?_at, Fs.ren, Bx.own.injEq, and_false, false_and, and_true, true_and, List.drop_succ_cons, List.drop_zero, List.drop_nil, hrb, hren, eq_false hf]
      change EndG _ _ _ _ _ _ _
      exact EndG.r0 [_, _] [_, _] rfl (.cons .nilb (.one (.raw _))) rfl (fun _ _ => rfl) (fun _ _ => rfl)
  · cases hr
end Go.Proofs.Ytjnmdphoaafjaaa
