/- Seal and Open: what the walks come to. -/
import Derived.Test.YtddeffdgldjdjaaDoorUk
namespace Go.Proofs.YtddeffdgldjdjaaDoor
set_option linter.unusedSimpArgs false
set_option linter.unusedVariables false
set_option linter.defProp false
open Go Go.Abs
set_option maxHeartbeats 16000000
def sealB (k n a t : List (BitVec 8)) : List (BitVec 8) := gxorB k n 2#32 t ++ tagB k n a (gxorB k n 2#32 t)
theorem tagB_len (k n a t : List (BitVec 8)) : (tagB k n a t).length = 16 := xorB_len (hashB_len _ _)
theorem sealB_len (k n a t : List (BitVec 8)) : (sealB k n a t).length = t.length + 16 := by rw [sealB, List.length_append, gxorB_len, tagB_len]
noncomputable def E8 : Env := (E0.know 70 (fun xs => pf70 (xs.map norm))).know 71 (fun xs => pf71 (xs.map norm))
theorem ok8 : EnvOK Tryd.prog E8 := (ok0.know sound70.norm).know sound71.norm
theorem E8_te : E8.te = te := rfl
theorem E8_glob : E8.glob = glob := rfl
theorem E8_gs : E8.gs = [] := rfl
theorem E8_dyn : E8.dyn = false := rfl
theorem E8_mu (d : Nat) : E8.mu d = false := rfl
theorem E8_x : E8.tbl 70 = some (.val (fun xs => pf70 (xs.map norm))) := rfl
theorem E8_t : E8.tbl 71 = some (.val (fun xs => pf71 (xs.map norm))) := rfl
noncomputable def EM : Env := E8.boxed (fun d => d == 27)
theorem okM : EnvOK Tryd.prog EM := ok8.boxed _
theorem EM_te : EM.te = te := rfl
theorem EM_glob : EM.glob = glob := rfl
theorem EM_gs : EM.gs = [] := rfl
theorem EM_dyn : EM.dyn = false := rfl
theorem EM_mu27 : EM.mu 27 = true := rfl
theorem EM_mu (d : Nat) (h : d ≠ 27) : EM.mu d = false := by
  show (d == 27) = false
  exact beq_eq_false_iff_ne.2 h
theorem EM_x : EM.tbl 70 = some (.val (fun xs => pf70 (xs.map norm))) := rfl
theorem EM_t : EM.tbl 71 = some (.val (fun xs => pf71 (xs.map norm))) := rfl
theorem gxor_at {k n : List (BitVec 8)} {c : BitVec 32} {m : Nat} {b : List (BitVec 8)} {fl : Fl} (hk : k.length = 32) (hn : n.length = 12) (hm : m = b.length) (hb : b.length ≤ 1000000) : pf70 [.agg (nums .u8 k), .agg (nums .u8 n), .raw (.int .u32 (c.toNat : Int)), .sl m (nums .u8 b) fl] = some (.sl (gxorB k n c b).length (nums .u8 (gxorB k n c b)) .bor) := by
  simp only [pf70, agg?_at hk, agg?_at hn, num?_num, row?_at hm, Option.bind_some, if_pos hb]
theorem gxor_two {k n : List (BitVec 8)} {m : Nat} {b : List (BitVec 8)} {fl : Fl} (hk : k.length = 32) (hn : n.length = 12) (hm : m = b.length) (hb : b.length ≤ 1000000) : pf70 [.agg (nums .u8 k), .agg (nums .u8 n), .raw (.int .u32 2), .sl m (nums .u8 b) fl] = some (.sl (gxorB k n 2#32 b).length (nums .u8 (gxorB k n 2#32 b)) .bor) := gxor_at (c := 2#32) hk hn hm hb
theorem gtag_at {k n : List (BitVec 8)} {m m' : Nat} {a b : List (BitVec 8)} {fl fl' : Fl} (hk : k.length = 32) (hn : n.length = 12) (hm : m = a.length) (hm' : m' = b.length) (ha : a.length ≤ 400000) (hb : b.length ≤ 400000) : pf71 [.agg (nums .u8 k), .agg (nums .u8 n), .sl m (nums .u8 a) fl, .sl m' (nums .u8 b) fl'] = some (.agg (nums .u8 (tagB k n a b))) := by
  have hc : a.length ≤ 400000 ∧ b.length ≤ 400000 := ⟨ha, hb⟩
  simp only [pf71, agg?_at hk, agg?_at hn, row?_at hm, row?_at hm', Option.bind_some, if_pos hc]
def pf43 : List AV → Option AV
  | [v, u, x, w] => (agg? .u8 8 32 v).bind fun k => (agg? .u8 8 12 u).bind fun n => (row? .u8 8 x).bind fun a => (row? .u8 8 w).bind fun t => if a.length ≤ 400000 ∧ t.length ≤ 400000 then some (.sl (sealB k n a t).length (nums .u8 (sealB k n a t)) .bor) else none
  | _ => none
def gm43 (args : List AV) (bx : Boxes) (us : Abs.Id → Bool) : Option CR := match args with
  | [v, u, x, w] => (agg? .u8 8 32 v).bind fun k => (agg? .u8 8 12 u).bind fun n => (row? .u8 8 x).bind fun a => (row? .u8 8 w).bind fun t => if a.length ≤ 400000 ∧ t.length ≤ 400000 then some { v := .ret (.view (.own 0 0 0) 0 (sealB k n a t).length (sealB k n a t).length 1), cont := some (nums .u8 (sealB k n a t)) } else none
  | _ => none
def tbUl0 := (And.intro (And.intro (And.intro (And.intro @teE @E8_te) (And.intro @E8_glob @E8_gs)) (And.intro (And.intro @E8_dyn @E8_mu) (And.intro @E8_x @E8_t))) (And.intro (And.intro (And.intro @gxor_two @gtag_at) (And.intro @nums_strip @nums_set8)) (And.intro (And.intro @nums_ren @splice0) (And.intro @tagB_len @gxorB_len))))
theorem sound43 : SoundV Tryd.prog glob 43 pf43 := by
  refine SoundV.walk E8 ok8 mixed Tryd.func43 rfl Tryd.call43 (by kernel_rfl) ?_
  intro args r hr
  unfold pf43 at hr
  split at hr
  · rename_i v u x w
    simp only [Option.bind_eq_some_iff] at hr
    obtain ⟨k, h1, n, h2, a, h3, t, h4, hr⟩ := hr
    split at hr
    · rename_i hc
      obtain ⟨ha, ht⟩ := hc
      cases hr
      obtain ⟨rfl, hk⟩ := agg?_of h1
      obtain ⟨rfl, hn⟩ := agg?_of h2
      obtain ⟨fl, rfl⟩ := row?_of h3
      obtain ⟨fl', rfl⟩ := row?_of h4
      rw [Tryd.ntmps43, Tryd.results43]
      refine ⟨by simp, ?_⟩
      simp (maxSteps := 1000000) (disch := first | omega | (simp only [gxorB_len, tagB_len, sealB_len, lnB] <;> omega) | fail) only [ev0, ev1, ev2, ev3, ↓reduceIte, reduceCtorEq, Nat.reduceAdd, Nat.reduceSub, Nat.reduceMul, Nat.reduceLT, Nat.reduceLeDiff, Nat.reduceEqDiff, Nat.reduceBEq, BitVec.reduceOfInt, Int.reduceLE, Int.reduceLT, Int.reduceGT, Int.reduceGE, Int.reduceNeg, Int.reduceAdd, Int.reduceSub, Int.reduceMul, Int.reduceToNat, ↓bind_go, ↓map_go, wantedV, isWrite, grow, write, ofV, AV.cells, Abs.start, Abs.strip, endQ, resV, rawsRes, rawRes, exports, export1, AS.grown, AS.put, Env.know, Env.boxed, isSelf, convSelf, convV, loadV, storeV, fieldAddrV, fieldV, indexAddrV, indexV, partV, isAggK, isStr, place, ipS, lenV, min2V, makeV, freshSl, sliceV, boundOr, bound, bounds, cutFl, copyV, slCells, srcV, appendV, room, zerosOf, eqNeg, kd, takeR, hasViewL, hasView, freshR, freshC, snapAll, snap, snapL, flatL, pureL, pureA, fillC, arrOK, oneA, partB, AV.laid, ren1, CR.gr, applyW, useL, AS.mute, isGen, startG, ev5, tbUl0, glob, Nat.reduceMod, hk, hn]
      rw [← sealB_len k n a t]
      exact ResQ.bor
    · cases hr
  · cases hr
theorem soundM43 : SoundG Tryd.prog glob 43 gm43 := by
  refine SoundG.walk EM okM mixed Tryd.func43 rfl Tryd.call43 (by kernel_rfl) ?_
  intro args bx us cr hr
  unfold gm43 at hr
  split at hr
  · rename_i v u x w
    simp only [Option.bind_eq_some_iff] at hr
    obtain ⟨k, h1, n, h2, a, h3, t, h4, hr⟩ := hr
    split at hr
    · rename_i hc
      obtain ⟨ha, ht⟩ := hc
      cases hr
      obtain ⟨rfl, hk⟩ := agg?_of h1
      obtain ⟨rfl, hn⟩ := agg?_of h2
      obtain ⟨fl, rfl⟩ := row?_of h3
      obtain ⟨fl', rfl⟩ := row?_of h4
      rw [Tryd.ntmps43, Tryd.results43]
      refine ⟨by simp, fun L hlow hus hbf => ?_⟩
      simp (maxSteps := 1000000) (disch := first | omega | (simp only [gxorB_len, tagB_len, sealB_len, lnB] <;> omega) | fail) only [ev0, ev1, ev2, ev3, ↓reduceIte, reduceCtorEq, Nat.reduceAdd, Nat.reduceSub, Nat.reduceMul, Nat.reduceLT, Nat.reduceLeDiff, Nat.reduceEqDiff, Nat.reduceBEq, BitVec.reduceOfInt, Int.reduceLE, Int.reduceLT, Int.reduceGT, Int.reduceGE, Int.reduceNeg, Int.reduceAdd, Int.reduceSub, Int.reduceMul, Int.reduceToNat, ↓bind_go, ↓map_go, wantedV, isWrite, grow, write, ofV, AV.cells, Abs.start, Abs.strip, endQ, resV, rawsRes, rawRes, exports, export1, AS.grown, AS.put, Env.know, Env.boxed, isSelf, convSelf, convV, loadV, storeV, fieldAddrV, fieldV, indexAddrV, indexV, partV, isAggK, isStr, place, ipS, lenV, min2V, makeV, freshSl, sliceV, boundOr, bound, bounds, cutFl, copyV, slCells, srcV, appendV, room, zerosOf, eqNeg, kd, takeR, hasViewL, hasView, freshR, freshC, snapAll, snap, snapL, flatL, pureL, pureA, fillC, arrOK, oneA, partB, AV.laid, ren1, CR.gr, applyW, useL, AS.mute, isGen, startG, ev5, teE, EM_te, EM_glob, EM_gs, EM_dyn, EM_mu, EM_mu27, EM_x, EM_t, gxor_two, gtag_at, nums_strip, nums_set8, nums_ren, splice0, glob, Nat.reduceMod, tagB_len, gxorB_len, hk, hn]
      change EndG _ _ _ _ _ _ _
      rw [sealB_len]
      refine EndG.new (b := .own L 27 1) [_] [_] rfl (.one (.newv _ _ _ _ _ rfl)) rfl rfl (fun b' h1 => ?_) updB_self ?_ (fun _ _ => rfl)
      · simp only [updB, own_ne h1, if_false]
      · exact ExpL.same ⟨lowL_pure _ (nums_pure _), nums_cells _⟩
    · cases hr
  · cases hr
/-- what two rows of bytes differ in, one behind the other -/
def dfK (g s : List (BitVec 8)) (z : Nat) : Nat → BitVec 8
  | 0 => 0#8
  | i + 1 => dfK g s z i ||| (g.getD i 0#8 ^^^ s.getD (z + i) 0#8)
def openT (k n a s : List (BitVec 8)) : List (BitVec 8) := if s.length < 16 then [] else if dfK (tagB k n a (s.take (s.length - 16))) s (s.length - 16) 16 = 0#8 then gxorB k n 2#32 (s.take (s.length - 16)) else []
def openE (k n a s : List (BitVec 8)) : Int := if s.length < 16 then 3 else if dfK (tagB k n a (s.take (s.length - 16))) s (s.length - 16) 16 = 0#8 then 0 else 40
def pf68 : List AV → Option AV
  | [v, u, x, w] => (agg? .u8 8 32 v).bind fun k => (agg? .u8 8 12 u).bind fun n => (row? .u8 8 x).bind fun a => (row? .u8 8 w).bind fun t => if a.length ≤ 400000 ∧ t.length ≤ 400000 then some (.tup [.sl (openT k n a t).length (nums .u8 (openT k n a t)) .bor, .raw (.int .i64 (openE k n a t))]) else none
  | _ => none
theorem resQ_2nil {v : Value} : ResQ (some (.tup [.raw (.slice none 0 0), .raw v])) (.tup [.sl 0 [] .bor, .raw v]) :=
  ⟨_, rfl, .tup rfl fun j x r hx hr => by
    match j with
    | 0 => simp at hx hr; subst hx hr; exact .nilb _
    | 1 => simp at hx hr; subst hx hr; exact .same _ _
    | j + 2 => simp at hx⟩
theorem resQ_2 {v : Value} {n : Nat} {xs : List AV} {fl : Fl} : ResQ (some (.tup [.sl n xs fl, .raw v])) (.tup [.sl n xs .bor, .raw v]) :=
  ⟨_, rfl, .tup rfl fun j x r hx hr => by
    match j with
    | 0 => simp at hx hr; subst hx hr; exact .bor _ _ _ _
    | 1 => simp at hx hr; subst hx hr; exact .same _ _
    | j + 2 => simp at hx⟩
theorem sound68 : SoundV Tryd.prog glob 68 pf68 := by
  refine SoundV.walk E8 ok8 mixed Tryd.func68 rfl Tryd.call68 (by kernel_rfl) ?_
  intro args r hr
  unfold pf68 at hr
  split at hr
  · rename_i v u x w
    simp only [Option.bind_eq_some_iff] at hr
    obtain ⟨k, h1, n, h2, a, h3, t, h4, hr⟩ := hr
    split at hr
    · rename_i hc
      obtain ⟨ha, ht⟩ := hc
      cases hr
      obtain ⟨rfl, hk⟩ := agg?_of h1
      obtain ⟨rfl, hn⟩ := agg?_of h2
      obtain ⟨fl, rfl⟩ := row?_of h3
      obtain ⟨fl', rfl⟩ := row?_of h4
      rw [Tryd.ntmps68, Tryd.results68]
      refine ⟨by simp, ?_⟩
      by_cases h16 : t.length < 16
      · rw [show openT k n a t = [] by rw [openT, if_pos h16], show openE k n a t = 3 by rw [openE, if_pos h16]]
        have e1 : decide ((t.length : Int) - 16 < 0) = true := decide_eq_true (by omega)
        simp (maxSteps := 1000000) (disch := first | omega | (simp only [gxorB_len, tagB_len, sealB_len, lnB] <;> omega) | fail) only [ev0, ev1, ev2, ev3, ↓reduceIte, reduceCtorEq, Nat.reduceAdd, Nat.reduceSub, Nat.reduceMul, Nat.reduceLT, Nat.reduceLeDiff, Nat.reduceEqDiff, Nat.reduceBEq, BitVec.reduceOfInt, Int.reduceLE, Int.reduceLT, Int.reduceGT, Int.reduceGE, Int.reduceNeg, Int.reduceAdd, Int.reduceSub, Int.reduceMul, Int.reduceToNat, ↓bind_go, ↓map_go, wantedV, isWrite, grow, write, ofV, AV.cells, Abs.start, Abs.strip, endQ, resV, rawsRes, rawRes, exports, export1, AS.grown, AS.put, Env.know, Env.boxed, isSelf, convSelf, convV, loadV, storeV, fieldAddrV, fieldV, indexAddrV, indexV, partV, isAggK, isStr, place, ipS, lenV, min2V, makeV, freshSl, sliceV, boundOr, bound, bounds, cutFl, copyV, slCells, srcV, appendV, room, zerosOf, eqNeg, kd, takeR, hasViewL, hasView, freshR, freshC, snapAll, snap, snapL, flatL, pureL, pureA, fillC, arrOK, oneA, partB, AV.laid, ren1, CR.gr, applyW, useL, AS.mute, isGen, startG, ev5, tbUl0, glob, Nat.reduceMod, hk, hn, e1]
        exact resQ_2nil
      · obtain ⟨z, hz⟩ : ∃ z, t.length = z + 16 := ⟨t.length - 16, by omega⟩
        have e1 : decide ((t.length : Int) - 16 < 0) = false := decide_eq_false (by omega)
        have lT : (t.take z).length = z := by rw [List.length_take]; omega
        have hT : openT k n a t = if dfK (tagB k n a (t.take z)) t z 16 = 0#8 then gxorB k n 2#32 (t.take z) else [] := by
          rw [openT, if_neg h16, show t.length - 16 = z by omega]
        have hE : openE k n a t = if dfK (tagB k n a (t.take z)) t z 16 = 0#8 then 0 else 40 := by
          rw [openE, if_neg h16, show t.length - 16 = z by omega]
        obtain ⟨g, hg⟩ : ∃ g, tagB k n a (t.take z) = g := ⟨_, rfl⟩
        have lG : g.length = 16 := by rw [← hg]; exact tagB_len _ _ _ _
        have hz2 : t.length - 16 = z := by omega
        rw [hg] at hT hE
        simp (maxSteps := 1000000) (disch := first | omega | (simp only [gxorB_len, tagB_len, sealB_len, lnB] <;> omega) | fail) only [ev0, ev1, ev2, ev3, ↓reduceIte, reduceCtorEq, Nat.reduceAdd, Nat.reduceSub, Nat.reduceMul, Nat.reduceLT, Nat.reduceLeDiff, Nat.reduceEqDiff, Nat.reduceBEq, BitVec.reduceOfInt, Int.reduceLE, Int.reduceLT, Int.reduceGT, Int.reduceGE, Int.reduceNeg, Int.reduceAdd, Int.reduceSub, Int.reduceMul, Int.reduceToNat, ↓bind_go, ↓map_go, wantedV, isWrite, grow, write, ofV, AV.cells, Abs.start, Abs.strip, endQ, resV, rawsRes, rawRes, exports, export1, AS.grown, AS.put, Env.know, Env.boxed, isSelf, convSelf, convV, loadV, storeV, fieldAddrV, fieldV, indexAddrV, indexV, partV, isAggK, isStr, place, ipS, lenV, min2V, makeV, freshSl, sliceV, boundOr, bound, bounds, cutFl, copyV, slCells, srcV, appendV, room, zerosOf, eqNeg, kd, takeR, hasViewL, hasView, freshR, freshC, snapAll, snap, snapL, flatL, pureL, pureA, fillC, arrOK, oneA, partB, AV.laid, ren1, CR.gr, applyW, useL, AS.mute, isGen, startG, ev5, tbUl0, glob, Nat.reduceMod, hk, hn, e1, lT, hz2, hg, lG]
        refine loopQ_of (fun n' σ => ∃ i, i ≤ 16 ∧ n' = 16 - i ∧ σ.slots 26 = .raw (.int .i64 (i : Int)) ∧ σ.slots 12 = .raw (.int .u8 ((dfK g t z i).toNat : Int)) ∧ σ.slots 11 = .ptr (.own 0 11 1) 0 ∧ σ.slots 10 = .raw (.int .i64 (z : Int)) ∧ σ.slots 3 = .sl t.length (nums .u8 t) .bor ∧ σ.slots 4 = .ptr (.own 0 4 1) 0 ∧ σ.slots 5 = .ptr (.own 0 5 1) 0 ∧ σ.box (.own 0 11 1) = some (nums .u8 g) ∧ σ.box (.own 0 4 1) = some (nums .u8 k) ∧ σ.box (.own 0 5 1) = some (nums .u8 n)) 16 ?_ ?_
        · refine ⟨0, by omega, by omega, ?_⟩
          simp (maxSteps := 1000000) (disch := first | omega | (simp only [gxorB_len, tagB_len, sealB_len, lnB] <;> omega) | fail) only [ev0, ev1, ev2, ev3, ↓reduceIte, reduceCtorEq, Nat.reduceAdd, Nat.reduceSub, Nat.reduceMul, Nat.reduceLT, Nat.reduceLeDiff, Nat.reduceEqDiff, Nat.reduceBEq, BitVec.reduceOfInt, Int.reduceLE, Int.reduceLT, Int.reduceGT, Int.reduceGE, Int.reduceNeg, Int.reduceAdd, Int.reduceSub, Int.reduceMul, Int.reduceToNat, ↓bind_go, ↓map_go, wantedV, isWrite, grow, write, ofV, AV.cells, Abs.start, Abs.strip, endQ, resV, rawsRes, rawRes, exports, export1, AS.grown, AS.put, Env.know, Env.boxed, isSelf, convSelf, convV, loadV, storeV, fieldAddrV, fieldV, indexAddrV, indexV, partV, isAggK, isStr, place, ipS, lenV, min2V, makeV, freshSl, sliceV, boundOr, bound, bounds, cutFl, copyV, slCells, srcV, appendV, room, zerosOf, eqNeg, kd, takeR, hasViewL, hasView, freshR, freshC, snapAll, snap, snapL, flatL, pureL, pureA, fillC, arrOK, oneA, partB, AV.laid, ren1, CR.gr, applyW, useL, AS.mute, isGen, startG, ev5, tbUl0, glob, Nat.reduceMod, hk, hn, e1, lT, hz2, hg, lG]
          exact ⟨rfl, rfl, i64_eq (by omega)⟩
        · rintro n' ⟨sl, gn, bx, us⟩ ⟨i, hi, rfl, s26, s12, s11, s10, s3, s4, s5, b11, b4, b5⟩
          dsimp only at s26 s12 s11 s10 s3 s4 s5 b11 b4 b5
          have hD : dfK g t z (i + 1) = dfK g t z i ||| (g.getD i 0#8 ^^^ t.getD (z + i) 0#8) := rfl
          by_cases h16' : i = 16
          · subst h16'
            have s26 : sl 26 = .raw (.int .i64 16) := s26
            by_cases hd : dfK g t z 16 = 0#8
            · rw [if_pos hd] at hT hE
              rw [hT, hE]
              rw [hd] at s12
              have e2 : (((0#8).toNat : Int) != 0) = false := rfl
              simp (maxSteps := 1000000) (disch := first | omega | (simp only [gxorB_len, tagB_len, sealB_len, lnB] <;> omega) | fail) only [ev0, ev1, ev2, ev3, ↓reduceIte, reduceCtorEq, Nat.reduceAdd, Nat.reduceSub, Nat.reduceMul, Nat.reduceLT, Nat.reduceLeDiff, Nat.reduceEqDiff, Nat.reduceBEq, BitVec.reduceOfInt, Int.reduceLE, Int.reduceLT, Int.reduceGT, Int.reduceGE, Int.reduceNeg, Int.reduceAdd, Int.reduceSub, Int.reduceMul, Int.reduceToNat, ↓bind_go, ↓map_go, wantedV, isWrite, grow, write, ofV, AV.cells, Abs.start, Abs.strip, endQ, resV, rawsRes, rawRes, exports, export1, AS.grown, AS.put, Env.know, Env.boxed, isSelf, convSelf, convV, loadV, storeV, fieldAddrV, fieldV, indexAddrV, indexV, partV, isAggK, isStr, place, ipS, lenV, min2V, makeV, freshSl, sliceV, boundOr, bound, bounds, cutFl, copyV, slCells, srcV, appendV, room, zerosOf, eqNeg, kd, takeR, hasViewL, hasView, freshR, freshC, snapAll, snap, snapL, flatL, pureL, pureA, fillC, arrOK, oneA, partB, AV.laid, ren1, CR.gr, applyW, useL, AS.mute, isGen, startG, ev5, tbUl0, glob, Nat.reduceMod, s26, s12, s11, s10, s3, s4, s5, b11, b4, b5, lG, hk, hn, lT, e2]
              exact resQ_2
            · rw [if_neg hd] at hT hE
              rw [hT, hE]
              have e2 : (((dfK g t z 16).toNat : Int) != 0) = true := by
                rw [bne_iff_ne]
                intro h
                exact hd (BitVec.eq_of_toNat_eq (by simpa using h))
              simp (maxSteps := 1000000) (disch := first | omega | (simp only [gxorB_len, tagB_len, sealB_len, lnB] <;> omega) | fail) only [ev0, ev1, ev2, ev3, ↓reduceIte, reduceCtorEq, Nat.reduceAdd, Nat.reduceSub, Nat.reduceMul, Nat.reduceLT, Nat.reduceLeDiff, Nat.reduceEqDiff, Nat.reduceBEq, BitVec.reduceOfInt, Int.reduceLE, Int.reduceLT, Int.reduceGT, Int.reduceGE, Int.reduceNeg, Int.reduceAdd, Int.reduceSub, Int.reduceMul, Int.reduceToNat, ↓bind_go, ↓map_go, wantedV, isWrite, grow, write, ofV, AV.cells, Abs.start, Abs.strip, endQ, resV, rawsRes, rawRes, exports, export1, AS.grown, AS.put, Env.know, Env.boxed, isSelf, convSelf, convV, loadV, storeV, fieldAddrV, fieldV, indexAddrV, indexV, partV, isAggK, isStr, place, ipS, lenV, min2V, makeV, freshSl, sliceV, boundOr, bound, bounds, cutFl, copyV, slCells, srcV, appendV, room, zerosOf, eqNeg, kd, takeR, hasViewL, hasView, freshR, freshC, snapAll, snap, snapL, flatL, pureL, pureA, fillC, arrOK, oneA, partB, AV.laid, ren1, CR.gr, applyW, useL, AS.mute, isGen, startG, ev5, tbUl0, glob, Nat.reduceMod, s26, s12, s11, s10, s3, s4, s5, b11, b4, b5, lG, hk, hn, lT, e2]
              exact resQ_2nil
          · have hlt : decide ((i : Int) < 16) = true := decide_eq_true (by omega)
            simp (maxSteps := 1000000) (disch := first | omega | (simp only [gxorB_len, tagB_len, sealB_len, lnB] <;> omega) | fail) only [ev0, ev1, ev2, ev3, ↓reduceIte, reduceCtorEq, Nat.reduceAdd, Nat.reduceSub, Nat.reduceMul, Nat.reduceLT, Nat.reduceLeDiff, Nat.reduceEqDiff, Nat.reduceBEq, BitVec.reduceOfInt, Int.reduceLE, Int.reduceLT, Int.reduceGT, Int.reduceGE, Int.reduceNeg, Int.reduceAdd, Int.reduceSub, Int.reduceMul, Int.reduceToNat, ↓bind_go, ↓map_go, wantedV, isWrite, grow, write, ofV, AV.cells, Abs.start, Abs.strip, endQ, resV, rawsRes, rawRes, exports, export1, AS.grown, AS.put, Env.know, Env.boxed, isSelf, convSelf, convV, loadV, storeV, fieldAddrV, fieldV, indexAddrV, indexV, partV, isAggK, isStr, place, ipS, lenV, min2V, makeV, freshSl, sliceV, boundOr, bound, bounds, cutFl, copyV, slCells, srcV, appendV, room, zerosOf, eqNeg, kd, takeR, hasViewL, hasView, freshR, freshC, snapAll, snap, snapL, flatL, pureL, pureA, fillC, arrOK, oneA, partB, AV.laid, ren1, CR.gr, applyW, useL, AS.mute, isGen, startG, ev5, tbUl0, glob, Nat.reduceMod, s26, s12, s11, s10, s3, s4, s5, b11, b4, b5, lG, hk, hn, lT, hlt]
            refine ⟨16 - (i + 1), by omega, i + 1, by omega, rfl, rfl, ?_⟩
            rw [hD]
    · cases hr
  · cases hr
end Go.Proofs.YtddeffdgldjdjaaDoor
