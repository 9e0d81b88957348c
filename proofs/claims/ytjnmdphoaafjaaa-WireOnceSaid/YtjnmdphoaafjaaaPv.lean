/- A command, a reply and an entry are read: what the walks come to. -/
import Derived.Test.YtjnmdphoaafjaaaPu
namespace Go.Proofs.Ytjnmdphoaafjaaa
set_option linter.unusedSimpArgs false
set_option linter.unusedVariables false
set_option linter.defProp false
open Go Go.Abs
set_option maxHeartbeats 8000000
noncomputable def EZ : Env := (((EY.knowG 83 gf83).knowG 84 gf84).knowG 123 gf123).knowG 85 gf85
theorem okZ : EnvOK Try.prog EZ := (((okY.knowG sound83).knowG sound84).knowG sound123).knowG sound85
theorem EZ_te : EZ.te = te := rfl
theorem EZ_glob : EZ.glob = glob := rfl
theorem EZ_gs : EZ.gs = [85, 123, 84, 83, 124, 86] := rfl
theorem EZ_dyn : EZ.dyn = true := rfl
theorem EZ_mu (d : Nat) : EZ.mu d = false := rfl
theorem EZ_n : EZ.tbl 83 = some (.gen gf83) := rfl
theorem EZ_t : EZ.tbl 84 = some (.gen gf84) := rfl
theorem EZ_l : EZ.tbl 123 = some (.gen gf123) := rfl
theorem EZ_w : EZ.tbl 85 = some (.gen gf85) := rfl
theorem rS_le (p : List (BitVec 8) × Int) : (rS p).1.length ≤ p.1.length := by
  unfold rS; split
  · exact tkR_le _
  · exact Nat.le_refl _
theorem ttR_le (b : List (BitVec 8)) (m : Int) : (ttR b m).length ≤ b.length := by
  have := tkR_le b
  unfold ttR; split
  · rw [List.length_drop]; omega
  · simp
theorem tS_le (p : List (BitVec 8) × Int) : (tS p).1.length ≤ p.1.length := by
  unfold tS; split
  · exact ttR_le _ _
  · exact Nat.le_refl _
theorem rN_ok (p : List (BitVec 8) × Int) : 0 ≤ rN p ∧ rN p ≤ 9223372036854775807 := by
  have := tkN_lt p.1
  unfold rN; split <;> omega
/-- the reader, thing by thing -/
def q1 (b : List (BitVec 8)) := rS (b, 0)
def q2 (b : List (BitVec 8)) := rS (q1 b)
def q3 (b : List (BitVec 8)) := rS (q2 b)
def q4 (b : List (BitVec 8)) := rS (q3 b)
def q5 (b : List (BitVec 8)) := rS (q4 b)
def q6 (b : List (BitVec 8)) := tS (q5 b)
def q7 (b : List (BitVec 8)) := tS (q6 b)
section
variable {b : List (BitVec 8)} {r c : Bx} {bx : Boxes} {us : Abs.Id → Bool}
theorem q1_is : rS (b, 0) = q1 b := rfl
theorem q2_is : rS (q1 b) = q2 b := rfl
theorem q3_is : rS (q2 b) = q3 b := rfl
theorem q4_is : rS (q3 b) = q4 b := rfl
theorem q5_is : rS (q4 b) = q5 b := rfl
theorem q6_is : tS (q5 b) = q6 b := rfl
theorem q7_is : tS (q6 b) = q7 b := rfl
theorem number_is : gf83 [.ptr r 0] bx us = (bx r).bind fun cs => (rd? cs).bind fun p => if p.1.length ≤ 150000000000000 then some { v := .ret (.raw (.int .i64 (rN p))), wr := [(r, rdA (rS p))] } else none := rfl
theorem text_is : gf84 [.ptr r 0] bx us = (bx r).bind fun cs => (rd? cs).bind fun p => if p.1.length ≤ 150000000000000 then some { v := .ret (.sl (tN p).length (nums .u8 (tN p)) .bor), wr := [(r, rdA (tS p))] } else none := rfl
theorem list_is : gf123 [.ptr r 0, .raw (.int .i64 7)] bx us = (bx r).bind fun cs => (rd? cs).bind fun p => if p.1.length ≤ 150000000000000 then some { v := .ret (.sl (lN 7 p).length (ints .i64 (lN 7 p)) .bor), wr := [(r, rdA (lS 7 p))] } else none := by
  simp [gf123]
theorem wholeC_is {n : Nat} {fl : Fl} : gf85 [.ptr r 0, .sl n (nums .u8 b) fl, .fn 86 [.ptr c 0]] bx us = (row? .u8 8 (.sl n (nums .u8 b) fl)).bind fun b => (bx r).bind fun cs => (rd? cs).bind fun p => (bx c).bind fun ds => (wrC ds).bind fun w =>
    some { v := .ret (.raw (.bool (decide (p.2 = 0) && (decide (w.2 = 0) && decide (w.1 = b))))) } := rfl
theorem wholeE_is {n : Nat} {fl : Fl} : gf85 [.ptr r 0, .sl n (nums .u8 b) fl, .fn 124 [.ptr c 0]] bx us = (row? .u8 8 (.sl n (nums .u8 b) fl)).bind fun b => (bx r).bind fun cs => (rd? cs).bind fun p => (bx c).bind fun ds => (wrE ds).bind fun w =>
    some { v := .ret (.raw (.bool (decide (p.2 = 0) && (decide (w.2 = 0) && decide (w.1 = b))))) } := rfl
theorem rd?_lit {n : Nat} {e : Int} (h : n = b.length) : rd? [.sl n (nums .u8 b) .bor, .raw (.int .i64 e)] = some (b, e) := by rw [h]; exact rd?_at (b, e)
theorem row?_b {n : Nat} {fl : Fl} (h : n = b.length) : row? .u8 8 (.sl n (nums .u8 b) fl) = some b := row?_at h
theorem wrC_at {k s q i n : Int} {d t : List (BitVec 8)} {x y : Nat} (hx : x = d.length) (hy : y = t.length) (hn : n ≤ 9223372036854775807) : wrC [.raw (.int .i64 k), .raw (.int .i64 s), .raw (.int .i64 q), .raw (.int .i64 i), .raw (.int .i64 n), .sl x (nums .u8 d) .bor, .sl y (nums .u8 t) .bor] = some (cmdR ⟨k, s, q, i, n, some d, some t⟩) := by
  subst hx hy
  have := cmd?_at ⟨k, s, q, i, n, some d, some t⟩
  simp only [cmdA, btA] at this
  simp only [wrC, this, Option.bind_some, if_pos hn]
theorem wrE_at {t k : Int} {d : List (BitVec 8)} {m : List Int} {x y : Nat} (hx : x = d.length) (hy : y = m.length) (hn : okN ⟨t, k, some d, some m⟩) : wrE [.raw (.int .i64 t), .raw (.int .i64 k), .sl x (nums .u8 d) .bor, .sl y (ints .i64 m) .bor] = some (entR ⟨t, k, some d, some m⟩) := by
  subst hx hy
  have := ent?_at ⟨t, k, some d, some m⟩
  simp only [entA, btA, itA] at this
  simp only [wrE, this, Option.bind_some, if_pos hn]
end
def cC (b : List (BitVec 8)) : Cmd := ⟨rN (b, 0), rN (q1 b), rN (q2 b), rN (q3 b), rN (q4 b), some (tN (q5 b)), some (tN (q6 b))⟩
def noC : Cmd := ⟨0, 0, 0, 0, 0, none, none⟩
/-- whether bytes are a command's -/
def isC (b : List (BitVec 8)) : Bool := decide ((q7 b).2 = 0) && (decide ((cmdR (cC b)).2 = 0) && decide ((cmdR (cC b)).1 = b))
def tcC (b : List (BitVec 8)) : Cmd := if isC b = true then cC b else noC
def tcE (b : List (BitVec 8)) : Int := if isC b = true then 0 else 80
def pf41 : List AV → Option AV
  | [v] => (row? .u8 8 v).bind fun b => if b.length ≤ 150000000000000 then some (.tup [.agg (cmdA (tcC b)), .raw (.int .i64 (tcE b))]) else none
  | _ => none
theorem rdA_take (c : List (BitVec 8) × Int) : (rdA c).take 2 = rdA c := rfl
theorem rdA_one (c : List (BitVec 8) × Int) : (rdA c).all oneA = true := rfl
def tbPv0 := (And.intro (And.intro (And.intro (And.intro (And.intro (And.intro @teE @cmdA_strip) (And.intro @repA_strip @entA_strip)) (And.intro (And.intro @cmdA_snap @repA_snap) (And.intro @entA_snap (And.intro @cmdA_noview @repA_noview)))) (And.intro (And.intro (And.intro @entA_noview @cmdA_take) (And.intro @cmdA_one @repA_take)) (And.intro (And.intro @repA_one @entA_take) (And.intro @entA_one (And.intro @dropC @dropR))))) (And.intro (And.intro (And.intro (And.intro @dropE @zeroC) (And.intro @zeroR @zeroE)) (And.intro (And.intro @splice_cmd @splice_cmd') (And.intro @splice_rep (And.intro @splice_rep' @splice_ent)))) (And.intro (And.intro (And.intro @splice_ent' @cmdA_len) (And.intro @repA_len (And.intro @entA_len @rep1))) (And.intro (And.intro @rep2 @rep3) (And.intro @rep5 (And.intro @one_le @le2)))))) (And.intro (And.intro (And.intro (And.intro (And.intro @le3 @le5) (And.intro @dr1 @dr2)) (And.intro (And.intro @dr3 @dr5) (And.intro @EZ_te (And.intro @EZ_glob @EZ_gs)))) (And.intro (And.intro (And.intro @EZ_dyn @EZ_mu) (And.intro @EZ_n (And.intro @EZ_t @EZ_l))) (And.intro (And.intro @EZ_w @ev4) (And.intro @number_is (And.intro @text_is @list_is))))) (And.intro (And.intro (And.intro (And.intro @wholeC_is @wholeE_is) (And.intro @wrC_at @wrE_at)) (And.intro (And.intro @rdA_len @rdA_0) (And.intro @rdA_1 (And.intro @rdA_ren @q1_is)))) (And.intro (And.intro (And.intro @q2_is @q3_is) (And.intro @q4_is (And.intro @q5_is @q6_is))) (And.intro (And.intro @q7_is @zz0) (And.intro @zz1 (And.intro @rdA_take @rdA_one)))))))
set_option maxRecDepth 4000 in
theorem sound41 : SoundV Try.prog glob 41 pf41 := by
  refine SoundV.walk EZ okZ mixed Try.func41 rfl Try.call41 (by kernel_rfl) ?_
  intro args r hr
  unfold pf41 at hr
  split at hr
  · simp only [Option.bind_eq_some_iff] at hr
    obtain ⟨b, h1, hr⟩ := hr
    split at hr
    · rename_i hc
      cases hr
      obtain ⟨fl, rfl⟩ := row?_of h1
      rw [Try.ntmps41, Try.results41]
      refine ⟨by simp, ?_⟩
      have l1 : (q1 b).1.length ≤ b.length := rS_le _
      have l2 : (q2 b).1.length ≤ (q1 b).1.length := rS_le _
      have l3 : (q3 b).1.length ≤ (q2 b).1.length := rS_le _
      have l4 : (q4 b).1.length ≤ (q3 b).1.length := rS_le _
      have l5 : (q5 b).1.length ≤ (q4 b).1.length := rS_le _
      have l6 : (q6 b).1.length ≤ (q5 b).1.length := tS_le _
      have n4 := rN_ok (q4 b)
      have m1 := eq_true (show (q1 b).1.length ≤ 150000000000000 by omega)
      have m2 := eq_true (show (q2 b).1.length ≤ 150000000000000 by omega)
      have m3 := eq_true (show (q3 b).1.length ≤ 150000000000000 by omega)
      have m4 := eq_true (show (q4 b).1.length ≤ 150000000000000 by omega)
      have m5 := eq_true (show (q5 b).1.length ≤ 150000000000000 by omega)
      have m6 := eq_true (show (q6 b).1.length ≤ 150000000000000 by omega)
      have m0 := eq_true hc
      have hw := wrC_at (k := rN (b, 0)) (s := rN (q1 b)) (q := rN (q2 b)) (i := rN (q3 b)) (d := tN (q5 b)) (t := tN (q6 b)) rfl rfl n4.2
      have hi : (decide ((q7 b).2 = 0) && (decide ((cmdR ⟨rN (b, 0), rN (q1 b), rN (q2 b), rN (q3 b), rN (q4 b), some (tN (q5 b)), some (tN (q6 b))⟩).2 = 0) && decide ((cmdR ⟨rN (b, 0), rN (q1 b), rN (q2 b), rN (q3 b), rN (q4 b), some (tN (q5 b)), some (tN (q6 b))⟩).1 = b))) = isC b := rfl
      cases h : isC b
      · rw [h] at hi
        rw [show tcC b = noC by rw [tcC, h]; rfl, show tcE b = 80 by rw [tcE, h]; rfl]
        simp (maxSteps := 1000000) (disch := first | omega | assumption | (simp only [updB, dsB, reduceCtorEq, Nat.reduceEqDiff, *]; done) | (simp only [lnB] <;> omega) | fail) only [ev0, ev1, ev2, ev3, ↓reduceIte, reduceCtorEq, Nat.reduceAdd, Nat.reduceSub, Nat.reduceMul, Nat.reduceLT, Nat.reduceLeDiff, Nat.reduceEqDiff, Nat.reduceBEq, BitVec.reduceOfInt, Int.reduceLE, Int.reduceLT, Int.reduceGT, Int.reduceGE, Int.reduceNeg, Int.reduceAdd, Int.reduceSub, Int.reduceMul, Int.reduceToNat, ↓bind_go, ↓map_go, wantedV, isWrite, grow, write, ofV, AV.cells, Abs.start, Abs.strip, endQ, resV, rawsRes, rawRes, exports, export1, AS.grown, AS.put, Env.know, Env.boxed, isSelf, convSelf, convV, loadV, storeV, fieldAddrV, fieldV, indexAddrV, indexV, partV, isAggK, isStr, place, lenV, min2V, makeV, freshSl, sliceV, boundOr, bound, bounds, cutFl, copyV, slCells, srcV, appendV, room, zerosOf, eqNeg, kd, takeR, hasViewL, hasView, freshR, freshC, snapAll, snap, snapL, flatL, pureL, pureA, fillC, arrOK, oneA, partB, AV.laid, ren1, CR.gr, applyW, useL, AS.mute, isGen, startG, ev5, tbPv0, List.map_nil, List.all_nil, List.drop_zero, glob, rd?_at, rd?_lit, row?_b, List.size_toArray, Array.size_empty, List.length_nil, Int.reduceBEq, Int.reduceBNe, beq_self_eq_true, Bx.own.injEq, ne_eq, and_false, false_and, and_true, true_and, not_false_eq_true, Bool.not_true, Bool.not_false, m0, m1, m2, m3, m4, m5, m6, hw, hi]
        exact ResQ.same rfl
      · rw [h] at hi
        rw [show tcC b = cC b by rw [tcC, h]; rfl, show tcE b = 0 by rw [tcE, h]; rfl]
        simp (maxSteps := 1000000) (disch := first | omega | assumption | (simp only [updB, dsB, reduceCtorEq, Nat.reduceEqDiff, *]; done) | (simp only [lnB] <;> omega) | fail) only [ev0, ev1, ev2, ev3, ↓reduceIte, reduceCtorEq, Nat.reduceAdd, Nat.reduceSub, Nat.reduceMul, Nat.reduceLT, Nat.reduceLeDiff, Nat.reduceEqDiff, Nat.reduceBEq, BitVec.reduceOfInt, Int.reduceLE, Int.reduceLT, Int.reduceGT, Int.reduceGE, Int.reduceNeg, Int.reduceAdd, Int.reduceSub, Int.reduceMul, Int.reduceToNat, ↓bind_go, ↓map_go, wantedV, isWrite, grow, write, ofV, AV.cells, Abs.start, Abs.strip, endQ, resV, rawsRes, rawRes, exports, export1, AS.grown, AS.put, Env.know, Env.boxed, isSelf, convSelf, convV, loadV, storeV, fieldAddrV, fieldV, indexAddrV, indexV, partV, isAggK, isStr, place, lenV, min2V, makeV, freshSl, sliceV, boundOr, bound, bounds, cutFl, copyV, slCells, srcV, appendV, room, zerosOf, eqNeg, kd, takeR, hasViewL, hasView, freshR, freshC, snapAll, snap, snapL, flatL, pureL, pureA, fillC, arrOK, oneA, partB, AV.laid, ren1, CR.gr, applyW, useL, AS.mute, isGen, startG, ev5, tbPv0, List.map_nil, List.all_nil, List.drop_zero, glob, rd?_at, rd?_lit, row?_b, List.size_toArray, Array.size_empty, List.length_nil, Int.reduceBEq, Int.reduceBNe, beq_self_eq_true, Bx.own.injEq, ne_eq, and_false, false_and, and_true, true_and, not_false_eq_true, Bool.not_true, Bool.not_false, m0, m1, m2, m3, m4, m5, m6, hw, hi]
        exact ResQ.same rfl
    · cases hr
  · cases hr
end Go.Proofs.Ytjnmdphoaafjaaa
