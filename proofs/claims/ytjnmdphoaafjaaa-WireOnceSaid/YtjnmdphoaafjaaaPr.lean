/- A command, a reply and an entry are written: what the walks come to. -/
import Derived.Test.YtjnmdphoaafjaaaPqs
namespace Go.Proofs.Ytjnmdphoaafjaaa
set_option linter.unusedSimpArgs false
set_option linter.unusedVariables false
set_option linter.defProp false
open Go Go.Abs
set_option maxHeartbeats 4000000
noncomputable def EX : Env := EW.know 80 pf80
theorem okX : EnvOK Try.prog EX := okW.know sound80
theorem EX_te : EX.te = te := rfl
theorem EX_glob : EX.glob = glob := rfl
theorem EX_gs : EX.gs = [] := rfl
theorem EX_dyn : EX.dyn = false := rfl
theorem EX_mu (d : Nat) : EX.mu d = false := rfl
theorem EX_15 : EX.tbl 79 = some (.val (fun xs => pf79 (xs.map norm))) := rfl
theorem EX_20 : EX.tbl 121 = some (.val (fun xs => pf121 (xs.map norm))) := rfl
theorem EX_29 : EX.tbl 119 = some (.val (fun xs => pf119 (xs.map norm))) := rfl
theorem EX_chk : EX.tbl 44 = some (.val pf44) := rfl
theorem EX_w : EX.tbl 91 = some (.val pf91) := rfl
theorem EX_n : EX.tbl 80 = some (.val pf80) := rfl
def dat : Option (List (BitVec 8)) → List (BitVec 8)
  | none => []
  | some l => l
def txB (b t : List (BitVec 8)) : List (BitVec 8) := putB b t.length ++ t
theorem txB_len (b t : List (BitVec 8)) (h : t.length ≤ 4096) : (txB b t).length ≤ b.length + 9 + t.length := by
  have := need_le t.length (by omega)
  rw [txB, List.length_append, putB_len]; omega
theorem nums_at {n : Nat} {l : List Int} {fl : Fl} (h : n = l.length) (h1 : l.length ≤ 1000) (h2 : ∀ n ∈ l, 0 ≤ n ∧ n ≤ 9223372036854775807) : pf80 [.sl n (ints .i64 l) fl] = some (.sl (nmF l).length (nums .u8 (nmF l)) .bor) := by
  have h3 : ∀ n ∈ l, i64ok n := fun n hn => by have := h2 n hn; unfold i64ok; omega
  have h4 : posL l = true := List.all_eq_true.2 fun n hn => decide_eq_true (h2 n hn).1
  simp only [pf80, irow?_at h h3, Option.bind_some, if_pos (And.intro h1 h4)]
theorem nmF_len {l : List Int} (h2 : ∀ n ∈ l, 0 ≤ n ∧ n ≤ 9223372036854775807) : (nmF l).length ≤ 9 * l.length :=
  nmK_len l (fun n hn => by have := h2 n hn; unfold i64ok; omega) _ (Nat.le_refl _)
theorem text_at {l l' : Nat} {b t : List (BitVec 8)} {fl fl' : Fl} (h : l = b.length) (h' : l' = t.length) (h2 : b.length ≤ 150000000000000) (h3 : t.length ≤ 4096) : pf79 [.sl l (nums .u8 b) fl, .sl l' (nums .u8 t) fl'] = some (.tup [.sl (txB b t).length (nums .u8 (txB b t)) (.own ⟨0, 0, 0, 0⟩ 1), .raw (.int .i64 0)]) := by
  simp only [pf79, row?_at h, row?_at h', Option.bind_some, if_pos h2, if_neg (show ¬ t.length > 4096 by omega), txB]
theorem text_nil {l : Nat} {b : List (BitVec 8)} {fl fl' : Fl} (h : l = b.length) (h2 : b.length ≤ 150000000000000) : pf79 [.sl l (nums .u8 b) fl, .sl 0 [] fl'] = some (.tup [.sl (txB b []).length (nums .u8 (txB b [])) (.own ⟨0, 0, 0, 0⟩ 1), .raw (.int .i64 0)]) :=
  text_at (t := []) h rfl h2 (by simp)
theorem text_long {l l' : Nat} {b t : List (BitVec 8)} {fl fl' : Fl} (h : l = b.length) (h' : l' = t.length) (h2 : b.length ≤ 150000000000000) (h3 : 4096 < t.length) : pf79 [.sl l (nums .u8 b) fl, .sl l' (nums .u8 t) fl'] = some (.tup [.sl 0 [] (.own ⟨0, 0, 0, 0⟩ 1), .raw (.int .i64 2)]) := by
  simp only [pf79, row?_at h, row?_at h', Option.bind_some, if_pos h2, if_pos (show t.length > 4096 by omega)]
theorem check_at (c : Cmd) : pf44 [.agg (cmdA c)] = some (.raw (.int .i64 (checkF c))) := by
  simp only [pf44, cmdA_strip, cmd?_at, Option.bind_some]
def okC (c : Cmd) : Prop := c.n ≤ 9223372036854775807
def cmdB (c : Cmd) : List (BitVec 8) := txB (txB (nmF [c.k, c.s, c.q, c.i, c.n]) (dat c.d)) (dat c.b)
/-- what is written of a command, and the errno -/
def cmdR (c : Cmd) : List (BitVec 8) × Int := if checkF c = 0 then (cmdB c, 0) else ([], checkF c)
theorem num5 {c : Cmd} (h : checkF c = 0) (hc : okC c) : ∀ n ∈ [c.k, c.s, c.q, c.i, c.n], 0 ≤ n ∧ n ≤ 9223372036854775807 := by
  have := check_ok h
  unfold okC at hc
  simp only [List.mem_cons, List.not_mem_nil, or_false, forall_eq_or_imp, forall_eq]
  omega
theorem dat_len {c : Cmd} (h : checkF c = 0) : (dat c.d).length ≤ 128 ∧ (dat c.b).length ≤ 32 := by
  have := check_ok h
  obtain ⟨k, s, q, i, n, d, b⟩ := c
  cases d <;> cases b <;> simp only [blen0, dat, List.length_nil] at this ⊢ <;> omega
theorem cmdB_len {c : Cmd} (h : checkF c = 0) (hc : okC c) : (cmdB c).length ≤ 223 := by
  have h1 := nmF_len (num5 h hc)
  obtain ⟨h2, h3⟩ := dat_len h
  have h4 := txB_len (nmF [c.k, c.s, c.q, c.i, c.n]) (dat c.d) (by omega)
  have h5 := txB_len (txB (nmF [c.k, c.s, c.q, c.i, c.n]) (dat c.d)) (dat c.b) (by omega)
  simp only [List.length_cons, List.length_nil] at h1
  unfold cmdB
  omega
theorem zz0 : ((0 : Int) != 0) = false := rfl
theorem zz1 : ((1 : Int) != 0) = true := rfl
noncomputable def pf39 : List AV → Option AV
  | [.agg cs] => (cmd? (cs.map strip)).bind fun c => if c.n ≤ 9223372036854775807 then some (.tup [.sl (cmdR c).1.length (nums .u8 (cmdR c).1) .bor, .raw (.int .i64 (cmdR c).2)]) else none
  | _ => none
def tbPr0 := (And.intro (And.intro (And.intro (And.intro (And.intro (And.intro @teE @cmdA_strip) (And.intro @repA_strip @entA_strip)) (And.intro (And.intro @cmdA_snap @repA_snap) (And.intro @entA_snap @cmdA_noview))) (And.intro (And.intro (And.intro @repA_noview @entA_noview) (And.intro @cmdA_take @cmdA_one)) (And.intro (And.intro @repA_take @repA_one) (And.intro @entA_take (And.intro @entA_one @dropC))))) (And.intro (And.intro (And.intro (And.intro @dropR @dropE) (And.intro @zeroC @zeroR)) (And.intro (And.intro @zeroE @splice_cmd) (And.intro @splice_cmd' @splice_rep))) (And.intro (And.intro (And.intro @splice_rep' @splice_ent) (And.intro @splice_ent' @cmdA_len)) (And.intro (And.intro @repA_len @entA_len) (And.intro @rep1 (And.intro @rep2 @rep3)))))) (And.intro (And.intro (And.intro (And.intro (And.intro @rep5 @one_le) (And.intro @le2 @le3)) (And.intro (And.intro @le5 @dr1) (And.intro @dr2 @dr3))) (And.intro (And.intro (And.intro @dr5 @EX_te) (And.intro @EX_glob @EX_gs)) (And.intro (And.intro @EX_dyn @EX_mu) (And.intro @EX_15 (And.intro @EX_20 @EX_29))))) (And.intro (And.intro (And.intro (And.intro @EX_chk @EX_w) (And.intro @EX_n @ev4)) (And.intro (And.intro @check_at @nums_at) (And.intro @text_at (And.intro @text_long @text_nil)))) (And.intro (And.intro (And.intro @cmdA_0 @cmdA_1) (And.intro @cmdA_2 @cmdA_i)) (And.intro (And.intro @cmdA_4 @cmdA_d) (And.intro @cmdA_6 (And.intro @zz0 @zz1)))))))
set_option maxRecDepth 4000 in
theorem sound39 : SoundV Try.prog glob 39 pf39 := by
  refine SoundV.walk EX okX mixed Try.func39 rfl Try.call39 (by kernel_rfl) ?_
  intro args r hr
  unfold pf39 at hr
  split at hr
  · rename_i cs
    simp only [Option.bind_eq_some_iff] at hr
    obtain ⟨c, hc, hr⟩ := hr
    split at hr
    · rename_i hn
      cases hr
      have hcs := cmd?_of hc
      rw [Try.ntmps39, Try.results39]
      refine ⟨by simp, ?_⟩
      rcases check_01 c with h0 | h1
      · have e5 := num5 h0 hn
        have l5 := nmF_len e5
        obtain ⟨ld, lb⟩ := dat_len h0
        have hR : cmdR c = (cmdB c, 0) := by rw [cmdR, if_pos h0]
        have n5 := fun fl => nums_at (n := 5) (fl := fl) rfl (by simp) e5
        simp only [ints, List.map_cons, List.map_nil] at n5
        have lt := txB_len (nmF [c.k, c.s, c.q, c.i, c.n]) (dat c.d) (by omega)
        rw [hR]
        obtain ⟨k, s, q, i, n, d, b⟩ := c
        simp only [cmdB] at *
        rcases d with _ | d <;> rcases b with _ | b <;> simp only [dat, List.length_nil, List.length_cons] at ld lb lt l5 ⊢
        all_goals simp (maxSteps := 1000000) (disch := first | omega | (simp only [digF_len, putK_len, putB_len, lnB] <;> omega) | fail) only [ev0, ev1, ev2, ev3, ↓reduceIte, reduceCtorEq, Nat.reduceAdd, Nat.reduceSub, Nat.reduceMul, Nat.reduceLT, Nat.reduceLeDiff, Nat.reduceEqDiff, Nat.reduceBEq, BitVec.reduceOfInt, Int.reduceLE, Int.reduceLT, Int.reduceGT, Int.reduceGE, Int.reduceNeg, Int.reduceAdd, Int.reduceSub, Int.reduceMul, Int.reduceToNat, ↓bind_go, ↓map_go, wantedV, isWrite, grow, write, ofV, AV.cells, Abs.start, Abs.strip, endQ, resV, rawsRes, rawRes, exports, export1, AS.grown, AS.put, Env.know, Env.boxed, isSelf, convSelf, convV, loadV, storeV, fieldAddrV, fieldV, indexAddrV, indexV, partV, isAggK, isStr, place, lenV, min2V, makeV, freshSl, sliceV, boundOr, bound, bounds, cutFl, copyV, slCells, srcV, appendV, room, zerosOf, eqNeg, kd, takeR, hasViewL, hasView, freshR, freshC, snapAll, snap, snapL, flatL, pureL, pureA, fillC, arrOK, oneA, partB, AV.laid, ren1, CR.gr, applyW, useL, AS.mute, isGen, startG, ev5, tbPr0, List.map_nil, List.all_nil, List.drop_zero, glob, btA, List.size_toArray, Array.size_empty, List.length_nil, hcs, h0, n5]
        all_goals exact resQ_2
      · have hR : cmdR c = ([], 1) := by rw [cmdR, if_neg (by omega), h1]
        rw [hR]
        simp (maxSteps := 1000000) (disch := first | omega | (simp only [digF_len, putK_len, putB_len, lnB] <;> omega) | fail) only [ev0, ev1, ev2, ev3, ↓reduceIte, reduceCtorEq, Nat.reduceAdd, Nat.reduceSub, Nat.reduceMul, Nat.reduceLT, Nat.reduceLeDiff, Nat.reduceEqDiff, Nat.reduceBEq, BitVec.reduceOfInt, Int.reduceLE, Int.reduceLT, Int.reduceGT, Int.reduceGE, Int.reduceNeg, Int.reduceAdd, Int.reduceSub, Int.reduceMul, Int.reduceToNat, ↓bind_go, ↓map_go, wantedV, isWrite, grow, write, ofV, AV.cells, Abs.start, Abs.strip, endQ, resV, rawsRes, rawRes, exports, export1, AS.grown, AS.put, Env.know, Env.boxed, isSelf, convSelf, convV, loadV, storeV, fieldAddrV, fieldV, indexAddrV, indexV, partV, isAggK, isStr, place, lenV, min2V, makeV, freshSl, sliceV, boundOr, bound, bounds, cutFl, copyV, slCells, srcV, appendV, room, zerosOf, eqNeg, kd, takeR, hasViewL, hasView, freshR, freshC, snapAll, snap, snapL, flatL, pureL, pureA, fillC, arrOK, oneA, partB, AV.laid, ren1, CR.gr, applyW, useL, AS.mute, isGen, startG, ev5, tbPr0, List.map_nil, List.all_nil, List.drop_zero, glob, btA, List.size_toArray, Array.size_empty, List.length_nil, hcs, h1]
        exact resQ_2nil
    · cases hr
  · cases hr
end Go.Proofs.Ytjnmdphoaafjaaa
