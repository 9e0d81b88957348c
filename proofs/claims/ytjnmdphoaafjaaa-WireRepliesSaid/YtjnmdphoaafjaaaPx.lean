/- A reply and an entry are read: what the walks come to. -/
import Derived.Test.YtjnmdphoaafjaaaPv
namespace Go.Proofs.Ytjnmdphoaafjaaa
set_option linter.unusedSimpArgs false
set_option linter.unusedVariables false
set_option linter.defProp false
open Go Go.Abs
set_option maxHeartbeats 8000000
def r4 (b : List (BitVec 8)) := tS (q3 b)
def repF (b : List (BitVec 8)) : Rep := ⟨rN (b, 0), rN (q1 b), rN (q2 b), some (tN (q3 b))⟩
def trR (b : List (BitVec 8)) : Rep := if (r4 b).2 = 0 then repF b else ⟨0, 0, 0, none⟩
def trS (b : List (BitVec 8)) : List (BitVec 8) := if (r4 b).2 = 0 then (r4 b).1 else []
def trE (b : List (BitVec 8)) : Int := (r4 b).2
theorem r4_is {b : List (BitVec 8)} : tS (q3 b) = r4 b := rfl
theorem resQ_a3nil {a : List AV} {v : Value} : ResQ (some (.tup [.agg a, .raw (.slice none 0 0), .raw v])) (.tup [.agg a, .sl 0 [] .bor, .raw v]) :=
  ⟨_, rfl, .tup rfl fun j x r hx hr => by
    match j with
    | 0 => simp at hx hr; subst hx hr; exact .same _ _
    | 1 => simp at hx hr; subst hx hr; exact .nilb _
    | 2 => simp at hx hr; subst hx hr; exact .same _ _
    | j + 3 => simp at hx⟩
noncomputable def pf58 : List AV → Option AV
  | [v] => (row? .u8 8 v).bind fun b => if b.length ≤ 150000000000000 then some (.tup [.agg (repA (trR b)), .sl (trS b).length (nums .u8 (trS b)) .bor, .raw (.int .i64 (trE b))]) else none
  | _ => none
def e3 (b : List (BitVec 8)) := tS (q2 b)
def e4 (b : List (BitVec 8)) := lS 7 (e3 b)
theorem e3_is {b : List (BitVec 8)} : tS (q2 b) = e3 b := rfl
theorem e4_is {b : List (BitVec 8)} : lS 7 (e3 b) = e4 b := rfl
def entF (b : List (BitVec 8)) : Eny := ⟨rN (b, 0), rN (q1 b), some (tN (q2 b)), some (lN 7 (e3 b))⟩
def noE : Eny := ⟨0, 0, none, none⟩
def isE (b : List (BitVec 8)) : Bool := decide ((e4 b).2 = 0) && (decide ((entR (entF b)).2 = 0) && decide ((entR (entF b)).1 = b))
def tnF (b : List (BitVec 8)) : Eny := if isE b = true then entF b else noE
def tnE (b : List (BitVec 8)) : Int := if isE b = true then 0 else 80
theorem tN_le (p : List (BitVec 8) × Int) : (tN p).length ≤ p.1.length := by
  have := tkR_le p.1
  unfold tN ttT; split
  · split
    · rw [List.length_take]; omega
    · simp
  · simp
theorem lN_ok (p : List (BitVec 8) × Int) : (lN 7 p).length ≤ 7 ∧ ∀ n ∈ lN 7 p, i64ok n := by
  unfold lN; split
  · obtain ⟨h1, h2, h3⟩ := tlF_ok p.1 (tkN p.1)
    unfold tlL
    split
    · rename_i h
      refine ⟨?_, h3⟩
      unfold tlE at h
      split at h
      · omega
      · split at h
        · omega
        · omega
    · simp
  · simp
theorem entF_ok {b : List (BitVec 8)} (h : b.length ≤ 150000000000000) : okN (entF b) := by
  have l1 : (q1 b).1.length ≤ b.length := rS_le _
  have l2 : (q2 b).1.length ≤ (q1 b).1.length := rS_le _
  have l3 := tN_le (q2 b)
  obtain ⟨h1, h2⟩ := lN_ok (e3 b)
  exact ⟨by simp only [entF, dat]; omega, by simp only [entF, idat]; omega, h2⟩
noncomputable def pf63 : List AV → Option AV
  | [v] => (row? .u8 8 v).bind fun b => if b.length ≤ 150000000000000 then some (.tup [.agg (entA (tnF b)), .raw (.int .i64 (tnE b))]) else none
  | _ => none
def tbPx0 := (And.intro (And.intro (And.intro (And.intro (And.intro (And.intro @teE @cmdA_strip) (And.intro @repA_strip @entA_strip)) (And.intro (And.intro @cmdA_snap @repA_snap) (And.intro @entA_snap (And.intro @cmdA_noview @repA_noview)))) (And.intro (And.intro (And.intro @entA_noview @cmdA_take) (And.intro @cmdA_one @repA_take)) (And.intro (And.intro @repA_one @entA_take) (And.intro @entA_one (And.intro @dropC @dropR))))) (And.intro (And.intro (And.intro (And.intro @dropE @zeroC) (And.intro @zeroR @zeroE)) (And.intro (And.intro @splice_cmd @splice_cmd') (And.intro @splice_rep (And.intro @splice_rep' @splice_ent)))) (And.intro (And.intro (And.intro @splice_ent' @cmdA_len) (And.intro @repA_len (And.intro @entA_len @rep1))) (And.intro (And.intro @rep2 @rep3) (And.intro @rep5 (And.intro @one_le @le2)))))) (And.intro (And.intro (And.intro (And.intro (And.intro @le3 @le5) (And.intro @dr1 @dr2)) (And.intro (And.intro @dr3 @dr5) (And.intro @EZ_te (And.intro @EZ_glob @EZ_gs)))) (And.intro (And.intro (And.intro @EZ_dyn @EZ_mu) (And.intro @EZ_n (And.intro @EZ_t @EZ_l))) (And.intro (And.intro @EZ_w @ev4) (And.intro @number_is (And.intro @text_is @list_is))))) (And.intro (And.intro (And.intro (And.intro @wholeC_is @wholeE_is) (And.intro @wrC_at @wrE_at)) (And.intro (And.intro @rdA_len @rdA_0) (And.intro @rdA_1 (And.intro @rdA_ren @q1_is)))) (And.intro (And.intro (And.intro @q2_is @q3_is) (And.intro @q4_is (And.intro @q5_is @q6_is))) (And.intro (And.intro @q7_is @zz0) (And.intro @zz1 (And.intro @rdA_take @rdA_one)))))))
set_option maxRecDepth 4000 in
theorem sound63 : SoundV Try.prog glob 63 pf63 := by
  refine SoundV.walk EZ okZ mixed Try.func63 rfl Try.call63 (by kernel_rfl) ?_
  intro args r hr
  unfold pf63 at hr
  split at hr
  · simp only [Option.bind_eq_some_iff] at hr
    obtain ⟨b, h1, hr⟩ := hr
    split at hr
    · rename_i hc
      cases hr
      obtain ⟨fl, rfl⟩ := row?_of h1
      rw [Try.ntmps63, Try.results63]
      refine ⟨by simp, ?_⟩
      have l1 : (q1 b).1.length ≤ b.length := rS_le _
      have l2 : (q2 b).1.length ≤ (q1 b).1.length := rS_le _
      have l3 : (e3 b).1.length ≤ (q2 b).1.length := tS_le _
      have m1 := eq_true (show (q1 b).1.length ≤ 150000000000000 by omega)
      have m2 := eq_true (show (q2 b).1.length ≤ 150000000000000 by omega)
      have m3 := eq_true (show (e3 b).1.length ≤ 150000000000000 by omega)
      have m0 := eq_true hc
      have hw := wrE_at (t := rN (b, 0)) (k := rN (q1 b)) (d := tN (q2 b)) (m := lN 7 (e3 b)) rfl rfl (entF_ok hc)
      have hi : (decide ((e4 b).2 = 0) && (decide ((entR ⟨rN (b, 0), rN (q1 b), some (tN (q2 b)), some (lN 7 (e3 b))⟩).2 = 0) && decide ((entR ⟨rN (b, 0), rN (q1 b), some (tN (q2 b)), some (lN 7 (e3 b))⟩).1 = b))) = isE b := rfl
      cases h : isE b
      · rw [h] at hi
        rw [show tnF b = noE by rw [tnF, h]; rfl, show tnE b = 80 by rw [tnE, h]; rfl]
        simp (maxSteps := 1000000) (disch := first | omega | assumption | (simp only [updB, dsB, reduceCtorEq, Nat.reduceEqDiff, *]; done) | (simp only [lnB] <;> omega) | fail) only [ev0, ev1, ev2, ev3, ↓reduceIte, reduceCtorEq, Nat.reduceAdd, Nat.reduceSub, Nat.reduceMul, Nat.reduceLT, Nat.reduceLeDiff, Nat.reduceEqDiff, Nat.reduceBEq, BitVec.reduceOfInt, Int.reduceLE, Int.reduceLT, Int.reduceGT, Int.reduceGE, Int.reduceNeg, Int.reduceAdd, Int.reduceSub, Int.reduceMul, Int.reduceToNat, ↓bind_go, ↓map_go, wantedV, isWrite, grow, write, ofV, AV.cells, Abs.start, Abs.strip, endQ, resV, rawsRes, rawRes, exports, export1, AS.grown, AS.put, Env.know, Env.boxed, isSelf, convSelf, convV, loadV, storeV, fieldAddrV, fieldV, indexAddrV, indexV, partV, isAggK, isStr, place, lenV, min2V, makeV, freshSl, sliceV, boundOr, bound, bounds, cutFl, copyV, slCells, srcV, appendV, room, zerosOf, eqNeg, kd, takeR, hasViewL, hasView, freshR, freshC, snapAll, snap, snapL, flatL, pureL, pureA, fillC, arrOK, oneA, partB, AV.laid, ren1, CR.gr, applyW, useL, AS.mute, isGen, startG, ev5, tbPx0, List.map_nil, List.all_nil, List.drop_zero, glob, rd?_at, rd?_lit, row?_b, List.size_toArray, Array.size_empty, List.length_nil, Int.reduceBEq, Int.reduceBNe, beq_self_eq_true, Bx.own.injEq, ne_eq, and_false, false_and, and_true, true_and, not_false_eq_true, Bool.not_true, Bool.not_false, m0, m1, m2, m3, hw, hi, e3_is, e4_is]
        exact ResQ.same rfl
      · rw [h] at hi
        rw [show tnF b = entF b by rw [tnF, h]; rfl, show tnE b = 0 by rw [tnE, h]; rfl]
        simp (maxSteps := 1000000) (disch := first | omega | assumption | (simp only [updB, dsB, reduceCtorEq, Nat.reduceEqDiff, *]; done) | (simp only [lnB] <;> omega) | fail) only [ev0, ev1, ev2, ev3, ↓reduceIte, reduceCtorEq, Nat.reduceAdd, Nat.reduceSub, Nat.reduceMul, Nat.reduceLT, Nat.reduceLeDiff, Nat.reduceEqDiff, Nat.reduceBEq, BitVec.reduceOfInt, Int.reduceLE, Int.reduceLT, Int.reduceGT, Int.reduceGE, Int.reduceNeg, Int.reduceAdd, Int.reduceSub, Int.reduceMul, Int.reduceToNat, ↓bind_go, ↓map_go, wantedV, isWrite, grow, write, ofV, AV.cells, Abs.start, Abs.strip, endQ, resV, rawsRes, rawRes, exports, export1, AS.grown, AS.put, Env.know, Env.boxed, isSelf, convSelf, convV, loadV, storeV, fieldAddrV, fieldV, indexAddrV, indexV, partV, isAggK, isStr, place, lenV, min2V, makeV, freshSl, sliceV, boundOr, bound, bounds, cutFl, copyV, slCells, srcV, appendV, room, zerosOf, eqNeg, kd, takeR, hasViewL, hasView, freshR, freshC, snapAll, snap, snapL, flatL, pureL, pureA, fillC, arrOK, oneA, partB, AV.laid, ren1, CR.gr, applyW, useL, AS.mute, isGen, startG, ev5, tbPx0, List.map_nil, List.all_nil, List.drop_zero, glob, rd?_at, rd?_lit, row?_b, List.size_toArray, Array.size_empty, List.length_nil, Int.reduceBEq, Int.reduceBNe, beq_self_eq_true, Bx.own.injEq, ne_eq, and_false, false_and, and_true, true_and, not_false_eq_true, Bool.not_true, Bool.not_false, m0, m1, m2, m3, hw, hi, e3_is, e4_is]
        exact ResQ.same rfl
    · cases hr
  · cases hr
end Go.Proofs.Ytjnmdphoaafjaaa
