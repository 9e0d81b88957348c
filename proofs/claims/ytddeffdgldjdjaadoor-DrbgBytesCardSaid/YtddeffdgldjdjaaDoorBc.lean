/- Seal when it is refused, the examples, and VaultApart: what their walks come to. -/
import Derived.Test.YtddeffdgldjdjaaDoorBb
namespace Go.Proofs.YtddeffdgldjdjaaDoor
set_option linter.unusedSimpArgs false
set_option linter.unusedVariables false
set_option linter.defProp false
open Go Go.Abs
set_option maxHeartbeats 16000000
theorem nonce_len (d t i : Int) : (nonce d t i).length = 12 := by simp [nonce]
theorem nonceV_len (d t i : Int) : (nonceV d t i).length = 12 := by
  unfold nonceV; split <;> rfl
noncomputable def EA1 : Env := E0.know 36 pf36
theorem okA1 : EnvOK Tryd.prog EA1 := ok0.know sound36
theorem EA1_te : EA1.te = te := rfl
theorem EA1_glob : EA1.glob = glob := rfl
theorem EA1_gs : EA1.gs = [] := rfl
theorem EA1_dyn : EA1.dyn = false := rfl
theorem EA1_mu (d : Nat) : EA1.mu d = false := rfl
theorem EA1_n : EA1.tbl 36 = some (.val pf36) := rfl
theorem nonce_at {d t i : Int} : pf36 [.raw (.int .i64 d), .raw (.int .i64 t), .raw (.int .i64 i)] = some (.tup [.agg (nums .u8 (nonceV d t i)), .raw (.int .i64 (nonceE d t i))]) := rfl
theorem resQ_2n {v : Value} : ResQ (some (.tup [.raw (.slice none 0 0), .raw v])) (.tup [.sl 0 [] .bor, .raw v]) :=
  ⟨_, rfl, .tup rfl fun j x r hx hr => by
    match j with
    | 0 => cases hx; cases hr; exact .nilb 0
    | 1 => cases hx; cases hr; exact .same _ _⟩
def pf39 : List AV → Option AV
  | [k, x, y, z, w] => (agg? .u8 8 32 k).bind fun _ => (int? x).bind fun d => (int? y).bind fun t => (int? z).bind fun i => if argOK d t i then none else some (.tup [.sl 0 [] .bor, .raw (.int .i64 1)])
  | _ => none
theorem sound39 : SoundV Tryd.prog glob 39 pf39 := by
  refine SoundV.walk EA1 okA1 mixed Tryd.func39 rfl Tryd.call39 (by kernel_rfl) ?_
  intro args r hr
  unfold pf39 at hr
  split at hr
  · rename_i k x y z w
    simp only [Option.bind_eq_some_iff] at hr
    obtain ⟨q, h0, d, h1, t, h2, i, h3, hr⟩ := hr
    split at hr
    · cases hr
    · rename_i hb
      cases hr
      obtain ⟨rfl, hq⟩ := agg?_of h0
      have e1 : nonceE d t i = 1 := if_neg hb
      rw [int?_of h1, int?_of h2, int?_of h3, Tryd.ntmps39, Tryd.results39]
      refine ⟨by simp, ?_⟩
      simp (maxSteps := 1000000) (disch := first | omega | (simp only [nums_len, lnB] <;> omega) | fail) only [ev0, ev1, ev2, ev3, ↓reduceIte, reduceCtorEq, Nat.reduceAdd, Nat.reduceSub, Nat.reduceMul, Nat.reduceLT, Nat.reduceLeDiff, Nat.reduceEqDiff, Nat.reduceBEq, BitVec.reduceOfInt, Int.reduceLE, Int.reduceLT, Int.reduceGT, Int.reduceGE, Int.reduceNeg, Int.reduceAdd, Int.reduceSub, Int.reduceMul, Int.reduceToNat, ↓bind_go, ↓map_go, wantedV, isWrite, grow, write, ofV, AV.cells, Abs.start, Abs.strip, endQ, resV, rawsRes, rawRes, exports, export1, AS.grown, AS.put, Env.know, Env.boxed, isSelf, convSelf, convV, loadV, storeV, fieldAddrV, fieldV, indexAddrV, indexV, partV, isAggK, isStr, place, ipS, lenV, min2V, makeV, freshSl, sliceV, boundOr, bound, bounds, cutFl, copyV, slCells, srcV, appendV, room, zerosOf, eqNeg, kd, takeR, hasViewL, hasView, freshR, freshC, snapAll, snap, snapL, flatL, pureL, pureA, fillC, arrOK, oneA, partB, AV.laid, ren1, CR.gr, applyW, useL, AS.mute, isGen, startG, ev5, teE, evY, EA1_te, EA1_glob, EA1_gs, EA1_dyn, EA1_mu, EA1_n, nonce_at, nums_strip, nums_set8, glob, Nat.reduceMod, Int.reduceBEq, Int.reduceBNe, e1, hq, nonceV_len]
      exact resQ_2n
  · cases hr
noncomputable def EA2 : Env := EA1.know 39 pf39
theorem okA2 : EnvOK Tryd.prog EA2 := okA1.know sound39
theorem EA2_te : EA2.te = te := rfl
theorem EA2_glob : EA2.glob = glob := rfl
theorem EA2_gs : EA2.gs = [] := rfl
theorem EA2_dyn : EA2.dyn = false := rfl
theorem EA2_mu (d : Nat) : EA2.mu d = false := rfl
theorem EA2_n : EA2.tbl 36 = some (.val pf36) := rfl
theorem EA2_s : EA2.tbl 39 = some (.val pf39) := rfl
def n123 : List (BitVec 8) := [1#8, 0#8, 0#8, 0#8, 0#8, 2#8, 0#8, 0#8, 0#8, 0#8, 0#8, 3#8]
theorem sp12 {l : List (BitVec 8)} (h : l.length = 12) : splice (nums .u8 (List.replicate 12 0#8)) 0 (nums .u8 l) = nums .u8 l := by
  rw [nums_splice, List.take_zero, List.nil_append, Nat.zero_add, h, show (List.replicate 12 0#8).drop 12 = [] from rfl, List.append_nil]
theorem tk12 {l : List (BitVec 8)} (h : l.length = 12) : List.take 12 (nums .u8 l) = nums .u8 l := List.take_of_length_le (by rw [nums_len, h]; exact Nat.le_refl _)
theorem le12 {l : List (BitVec 8)} (h : l.length = 12) : (12 ≤ (nums .u8 l).length) = True := eq_true (by rw [nums_len, h]; exact Nat.le_refl _)
theorem n123_len : n123.length = 12 := rfl
theorem nonce_123 : pf36 [.raw (.int .i64 1), .raw (.int .i64 2), .raw (.int .i64 3)] = some (.tup [.agg (nums .u8 n123), .raw (.int .i64 0)]) := by
  rw [nonce_at]
  have h1 : nonceV 1 2 3 = n123 := by decide +kernel
  have h2 : nonceE 1 2 3 = 0 := by decide +kernel
  rw [h1, h2]
theorem nonce_256 : pf36 [.raw (.int .i64 256), .raw (.int .i64 0), .raw (.int .i64 0)] = some (.tup [.agg (nums .u8 (List.replicate 12 0#8)), .raw (.int .i64 1)]) := by
  rw [nonce_at]
  have h1 : nonceV 256 0 0 = List.replicate 12 0#8 := by decide +kernel
  have h2 : nonceE 256 0 0 = 1 := by decide +kernel
  rw [h1, h2]
theorem seal_40 {x : AV} : pf39 [.agg (nums .u8 (List.replicate 32 0#8)), .raw (.int .i64 0), .raw (.int .i64 1099511627776), .raw (.int .i64 0), x] = some (.tup [.sl 0 [] .bor, .raw (.int .i64 1)]) := by
  simp only [pf39, agg?_at (show (List.replicate 32 0#8).length = 32 from rfl), int?_at, Option.bind_some]
  exact if_neg (by decide +kernel)
theorem eq_n {l m : List (BitVec 8)} (hl : l.length = 12) (hm : m.length = 12) : binV te .eql 54 (.agg (nums .u8 l)) (.agg (nums .u8 m)) = some (.raw (.bool (l == m))) := by
  rw [bin_agg l m rfl rfl hl hm]; rfl
theorem eq_123 : binV te .eql 54 (.agg (nums .u8 n123)) (.agg [.raw (.int .u8 1), .raw (.int .u8 0), .raw (.int .u8 0), .raw (.int .u8 0), .raw (.int .u8 0), .raw (.int .u8 2), .raw (.int .u8 0), .raw (.int .u8 0), .raw (.int .u8 0), .raw (.int .u8 0), .raw (.int .u8 0), .raw (.int .u8 3)]) = some (.raw (.bool true)) := by
  have h : [AV.raw (.int .u8 1), .raw (.int .u8 0), .raw (.int .u8 0), .raw (.int .u8 0), .raw (.int .u8 0), .raw (.int .u8 2), .raw (.int .u8 0), .raw (.int .u8 0), .raw (.int .u8 0), .raw (.int .u8 0), .raw (.int .u8 0), .raw (.int .u8 3)] = nums .u8 n123 := rfl
  rw [h, eq_n n123_len n123_len, beq_self_eq_true]
def pf33 : List AV → Option AV
  | [] => some (.raw (.bool true))
  | _ => none
theorem sound33 : SoundV Tryd.prog glob 33 pf33 := by
  refine SoundV.walk EA2 okA2 mixed Tryd.func33 rfl Tryd.call33 (by kernel_rfl) ?_
  intro args r hr
  unfold pf33 at hr
  split at hr
  · cases hr
    rw [Tryd.ntmps33, Tryd.results33]
    refine ⟨by simp, ?_⟩
    simp (maxSteps := 1000000) (disch := first | omega | (simp only [nums_len, n123_len, nonce_len, nonceV_len, lnB] <;> omega) | fail) only [ev0, ev1, ev2, ev3, ↓reduceIte, reduceCtorEq, Nat.reduceAdd, Nat.reduceSub, Nat.reduceMul, Nat.reduceLT, Nat.reduceLeDiff, Nat.reduceEqDiff, Nat.reduceBEq, BitVec.reduceOfInt, Int.reduceLE, Int.reduceLT, Int.reduceGT, Int.reduceGE, Int.reduceNeg, Int.reduceAdd, Int.reduceSub, Int.reduceMul, Int.reduceToNat, ↓bind_go, ↓map_go, wantedV, isWrite, grow, write, ofV, AV.cells, Abs.start, Abs.strip, endQ, resV, rawsRes, rawRes, exports, export1, AS.grown, AS.put, Env.know, Env.boxed, isSelf, convSelf, convV, loadV, storeV, fieldAddrV, fieldV, indexAddrV, indexV, partV, isAggK, isStr, place, ipS, lenV, min2V, makeV, freshSl, sliceV, boundOr, bound, bounds, cutFl, copyV, slCells, srcV, appendV, room, zerosOf, eqNeg, kd, takeR, hasViewL, hasView, freshR, freshC, snapAll, snap, snapL, flatL, pureL, pureA, fillC, arrOK, oneA, partB, AV.laid, ren1, CR.gr, applyW, useL, AS.mute, isGen, startG, ev5, teE, evY, EA2_te, EA2_glob, EA2_gs, EA2_dyn, EA2_mu, EA2_n, EA2_s, nonce_123, n123_len, sp12, tk12, le12, eq_123, nonce_256, seal_40, if_true, nums_strip, nums_set8, glob, Nat.reduceMod, Int.reduceBEq, Int.reduceBNe]
    trace_state
    exact ResQ.same rfl
  · cases hr
noncomputable def EA3 : Env := EA1.know 33 pf33
theorem okA3 : EnvOK Tryd.prog EA3 := okA1.know sound33
theorem EA3_te : EA3.te = te := rfl
theorem EA3_glob : EA3.glob = glob := rfl
theorem EA3_gs : EA3.gs = [] := rfl
theorem EA3_dyn : EA3.dyn = false := rfl
theorem EA3_mu (d : Nat) : EA3.mu d = false := rfl
theorem EA3_n : EA3.tbl 36 = some (.val pf36) := rfl
theorem EA3_s : EA3.tbl 33 = some (.val pf33) := rfl
theorem shown_at : pf33 [] = some (.raw (.bool true)) := rfl
theorem eq_at {a b c d e f : Int} : binV te .eql 50 (.agg [.raw (.int .i64 a), .raw (.int .i64 b), .raw (.int .i64 c)]) (.agg [.raw (.int .i64 d), .raw (.int .i64 e), .raw (.int .i64 f)]) = some (.raw (.bool ([a, b, c] == [d, e, f]))) := rfl
theorem digits {x y : Int} (k : Nat) (hx : 0 ≤ x) (hy : 0 ≤ y) (h : nb x k = nb y k) : x / 2 ^ k % 256 = y / 2 ^ k % 256 := by
  have h1 := congrArg BitVec.toInt h
  have hp : (0 : Int) ≤ 2 ^ k := Int.pow_nonneg (by decide)
  simp only [nb, Int.fdiv_eq_ediv_of_nonneg _ hp, BitVec.toInt_ofInt, Int.bmod_def] at h1
  have e : ((2 ^ 8 : Nat) : Int) = 256 := rfl
  rw [e] at h1
  omega
theorem first {x y : Int} (hx : 0 ≤ x ∧ x < 256) (hy : 0 ≤ y ∧ y < 256) (h : BitVec.ofInt 8 x = BitVec.ofInt 8 y) : x = y := by
  have h1 := congrArg BitVec.toInt h
  simp only [BitVec.toInt_ofInt, Int.bmod_def] at h1
  have e : ((2 ^ 8 : Nat) : Int) = 256 := rfl
  rw [e] at h1
  omega
theorem joined {x y : Int} (hx : 0 ≤ x ∧ x < 1099511627776) (hy : 0 ≤ y ∧ y < 1099511627776) (h0 : nb x 0 = nb y 0) (h1 : nb x 8 = nb y 8) (h2 : nb x 16 = nb y 16) (h3 : nb x 24 = nb y 24) (h4 : nb x 32 = nb y 32) : x = y := by
  have d0 := digits 0 hx.1 hy.1 h0
  have d1 := digits 8 hx.1 hy.1 h1
  have d2 := digits 16 hx.1 hy.1 h2
  have d3 := digits 24 hx.1 hy.1 h3
  have d4 := digits 32 hx.1 hy.1 h4
  simp only [Int.reducePow] at d0 d1 d2 d3 d4
  omega
theorem nonce_inj {a b c d e f : Int} (h : argOK a b c) (h' : argOK d e f) : (nonce a b c == nonce d e f) = ([a, b, c] == [d, e, f]) := by
  unfold argOK at h h'
  rw [Bool.eq_iff_iff, beq_iff_eq, beq_iff_eq]
  constructor
  · intro q
    simp only [nonce, List.cons.injEq, and_true] at q
    obtain ⟨q0, q1, q2, q3, q4, q5, q6, q7, q8, q9, q10, q11⟩ := q
    rw [first (by omega) (by omega) q0, joined (by omega) (by omega) q5 q4 q3 q2 q1, joined (by omega) (by omega) q11 q10 q9 q8 q7]
  · intro q
    simp only [List.cons.injEq, and_true] at q
    obtain ⟨rfl, rfl, rfl⟩ := q
    rfl
theorem eq_nn {a b c d e f : Int} : binV te .eql 54 (.agg (nums .u8 (nonce a b c))) (.agg (nums .u8 (nonce d e f))) = some (.raw (.bool (nonce a b c == nonce d e f))) := eq_n rfl rfl
example {a b c d e f : Int} : binV te .eql 54 (.agg (nums .u8 (nonce a b c))) (.agg (nums .u8 (nonce d e f))) = some (.raw (.bool (nonce a b c == nonce d e f))) := by
  simp only [eq_nn]
def pf9 : List AV → Option AV
  | [.agg [x, y, z], .agg [x', y', z']] => (int? x).bind fun _ => (int? y).bind fun _ => (int? z).bind fun _ => (int? x').bind fun _ => (int? y').bind fun _ => (int? z').bind fun _ => some (.raw (.bool true))
  | _ => none
def tbBc2 := (And.intro (And.intro (And.intro (And.intro @teE @evY) (And.intro @EA3_te (And.intro @EA3_glob @EA3_gs))) (And.intro (And.intro @EA3_dyn @EA3_mu) (And.intro @EA3_n (And.intro @EA3_s @nonce_at)))) (And.intro (And.intro (And.intro @shown_at @eq_at) (And.intro @eq_nn (And.intro @eq_n @sp12))) (And.intro (And.intro @tk12 (And.intro @le12 @nonceV_len)) (And.intro @nonce_len (And.intro @nums_strip @nums_set8)))))
theorem sound9 : SoundV Tryd.prog glob 9 pf9 := by
  refine SoundV.walk EA3 okA3 mixed Tryd.func9 rfl Tryd.call9 (by kernel_rfl) ?_
  intro args r hr
  unfold pf9 at hr
  split at hr
  · rename_i x y z x' y' z'
    simp only [Option.bind_eq_some_iff] at hr
    obtain ⟨a, h1, b, h2, c, h3, d, h4, e, h5, f, h6, hr⟩ := hr
    cases hr
    rw [int?_of h1, int?_of h2, int?_of h3, int?_of h4, int?_of h5, int?_of h6, Tryd.ntmps9, Tryd.results9]
    refine ⟨by simp, ?_⟩
    by_cases ha : argOK a b c
    · have e1 : nonceE a b c = 0 := if_pos ha
      have v1 : nonceV a b c = nonce a b c := if_pos ha
      by_cases hb : argOK d e f
      · have e2 : nonceE d e f = 0 := if_pos hb
        have v2 : nonceV d e f = nonce d e f := if_pos hb
        simp (maxSteps := 1000000) (disch := first | omega | (simp only [nums_len, n123_len, nonce_len, nonceV_len, lnB] <;> omega) | fail) only [ev0, ev1, ev2, ev3, ↓reduceIte, reduceCtorEq, Nat.reduceAdd, Nat.reduceSub, Nat.reduceMul, Nat.reduceLT, Nat.reduceLeDiff, Nat.reduceEqDiff, Nat.reduceBEq, BitVec.reduceOfInt, Int.reduceLE, Int.reduceLT, Int.reduceGT, Int.reduceGE, Int.reduceNeg, Int.reduceAdd, Int.reduceSub, Int.reduceMul, Int.reduceToNat, ↓bind_go, ↓map_go, wantedV, isWrite, grow, write, ofV, AV.cells, Abs.start, Abs.strip, endQ, resV, rawsRes, rawRes, exports, export1, AS.grown, AS.put, Env.know, Env.boxed, isSelf, convSelf, convV, loadV, storeV, fieldAddrV, fieldV, indexAddrV, indexV, partV, isAggK, isStr, place, ipS, lenV, min2V, makeV, freshSl, sliceV, boundOr, bound, bounds, cutFl, copyV, slCells, srcV, appendV, room, zerosOf, eqNeg, kd, takeR, hasViewL, hasView, freshR, freshC, snapAll, snap, snapL, flatL, pureL, pureA, fillC, arrOK, oneA, partB, AV.laid, ren1, CR.gr, applyW, useL, AS.mute, isGen, startG, ev5, tbBc2, if_true, glob, Nat.reduceMod, Int.reduceBEq, Int.reduceBNe, e1, e2, v1, v2, nonce_inj ha hb, beq_self_eq_true]
        trace_state
        exact ResQ.same rfl
      · have e2 : nonceE d e f = 1 := if_neg hb
        simp (maxSteps := 1000000) (disch := first | omega | (simp only [nums_len, n123_len, nonce_len, nonceV_len, lnB] <;> omega) | fail) only [ev0, ev1, ev2, ev3, ↓reduceIte, reduceCtorEq, Nat.reduceAdd, Nat.reduceSub, Nat.reduceMul, Nat.reduceLT, Nat.reduceLeDiff, Nat.reduceEqDiff, Nat.reduceBEq, BitVec.reduceOfInt, Int.reduceLE, Int.reduceLT, Int.reduceGT, Int.reduceGE, Int.reduceNeg, Int.reduceAdd, Int.reduceSub, Int.reduceMul, Int.reduceToNat, ↓bind_go, ↓map_go, wantedV, isWrite, grow, write, ofV, AV.cells, Abs.start, Abs.strip, endQ, resV, rawsRes, rawRes, exports, export1, AS.grown, AS.put, Env.know, Env.boxed, isSelf, convSelf, convV, loadV, storeV, fieldAddrV, fieldV, indexAddrV, indexV, partV, isAggK, isStr, place, ipS, lenV, min2V, makeV, freshSl, sliceV, boundOr, bound, bounds, cutFl, copyV, slCells, srcV, appendV, room, zerosOf, eqNeg, kd, takeR, hasViewL, hasView, freshR, freshC, snapAll, snap, snapL, flatL, pureL, pureA, fillC, arrOK, oneA, partB, AV.laid, ren1, CR.gr, applyW, useL, AS.mute, isGen, startG, ev5, tbBc2, if_true, glob, Nat.reduceMod, Int.reduceBEq, Int.reduceBNe, e1, e2]
        trace_state
        exact ResQ.same rfl
    · have e1 : nonceE a b c = 1 := if_neg ha
      simp (maxSteps := 1000000) (disch := first | omega | (simp only [nums_len, n123_len, nonce_len, nonceV_len, lnB] <;> omega) | fail) only [ev0, ev1, ev2, ev3, ↓reduceIte, reduceCtorEq, Nat.reduceAdd, Nat.reduceSub, Nat.reduceMul, Nat.reduceLT, Nat.reduceLeDiff, Nat.reduceEqDiff, Nat.reduceBEq, BitVec.reduceOfInt, Int.reduceLE, Int.reduceLT, Int.reduceGT, Int.reduceGE, Int.reduceNeg, Int.reduceAdd, Int.reduceSub, Int.reduceMul, Int.reduceToNat, ↓bind_go, ↓map_go, wantedV, isWrite, grow, write, ofV, AV.cells, Abs.start, Abs.strip, endQ, resV, rawsRes, rawRes, exports, export1, AS.grown, AS.put, Env.know, Env.boxed, isSelf, convSelf, convV, loadV, storeV, fieldAddrV, fieldV, indexAddrV, indexV, partV, isAggK, isStr, place, ipS, lenV, min2V, makeV, freshSl, sliceV, boundOr, bound, bounds, cutFl, copyV, slCells, srcV, appendV, room, zerosOf, eqNeg, kd, takeR, hasViewL, hasView, freshR, freshC, snapAll, snap, snapL, flatL, pureL, pureA, fillC, arrOK, oneA, partB, AV.laid, ren1, CR.gr, applyW, useL, AS.mute, isGen, startG, ev5, tbBc2, if_true, glob, Nat.reduceMod, Int.reduceBEq, Int.reduceBNe, e1]
      trace_state
      exact ResQ.same rfl
  · cases hr
end Go.Proofs.YtddeffdgldjdjaaDoor
