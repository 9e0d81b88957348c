/- The document's examples, as the program's function checks them. -/
import Derived.Test.YtjnmdphoaafjaaaQc
import Derived.Test.YtjnmdphoaafjaaaQh
namespace Go.Proofs.Ytjnmdphoaafjaaa
set_option linter.unusedSimpArgs false
set_option linter.unusedVariables false
set_option linter.defProp false
open Go Go.Abs
set_option maxHeartbeats 8000000
noncomputable def EL0 : Env := (((((E7.know 44 pf44).know 39 pf39).know 41 (fun xs => pf41 (xs.map norm))).know 43 (fun xs => pf43 (xs.map norm3))).know 61 pf61)
theorem okL0 : EnvOK Try.prog EL0 := (((((ok7.know sound44).know sound39).know sound41.norm).know (SoundV.norm3 sound43)).know sound61)
theorem EL0_te : EL0.te = te := rfl
theorem EL0_glob : EL0.glob = glob := rfl
theorem EL0_gs : EL0.gs = [] := rfl
theorem EL0_dyn : EL0.dyn = false := rfl
theorem EL0_mu (d : Nat) : EL0.mu d = false := rfl
theorem EL0_1 : EL0.tbl 44 = some (.val pf44) := rfl
theorem EL0_3 : EL0.tbl 39 = some (.val pf39) := rfl
theorem EL0_5 : EL0.tbl 41 = some (.val (fun xs => pf41 (xs.map norm))) := rfl
theorem samec_at' (c e : Cmd) : pf43 [norm3 (.agg (cmdA c)), norm3 (.agg (cmdA e))] = some (.raw (.bool (sameC c e))) := samec_at c e
theorem tkc_at {n : Nat} {b : List (BitVec 8)} {fl : Fl} (h : n = b.length) (h2 : b.length ≤ 150000000000000) : pf41 [.sl n (nums .u8 b) fl] = some (.tup [.agg (cmdA (tcC b)), .raw (.int .i64 (tcE b))]) := by
  simp only [pf41, row?_at h, Option.bind_some, if_pos h2]
theorem tke_at {n : Nat} {b : List (BitVec 8)} {fl : Fl} (h : n = b.length) (h2 : b.length ≤ 150000000000000) : pf63 [.sl n (nums .u8 b) fl] = some (.tup [.agg (entA (tnF b)), .raw (.int .i64 (tnE b))]) := by
  simp only [pf63, row?_at h, Option.bind_some, if_pos h2]
theorem sh1 : pf39 [.agg [.raw (.int .i64 1), .raw (.int .i64 0), .raw (.int .i64 0), .raw (.int .i64 0), .raw (.int .i64 0), .raw (.slice none 0 0), .raw (.slice none 0 0)]] = some (.tup [.sl 8 (nums .u8 [1#8, 1#8, 0#8, 0#8, 0#8, 0#8, 0#8, 0#8]) .bor, .raw (.int .i64 0)]) := by
  have h : cmdR ⟨1, 0, 0, 0, 0, none, none⟩ = ([1#8, 1#8, 0#8, 0#8, 0#8, 0#8, 0#8, 0#8], 0) := by decide +kernel
  have := command_at (c := ⟨1, 0, 0, 0, 0, none, none⟩) (by decide)
  rw [h] at this
  exact this
theorem sh2 {fl : Fl} : pf41 [.sl 0 [] fl] = some (.tup [.agg (cmdA noC), .raw (.int .i64 80)]) := by
  have h : isC [] = false := by decide +kernel
  have := tkc_at (b := []) (fl := fl) rfl (by decide)
  rw [tcC, tcE, h] at this
  exact this
theorem sh3 {fl : Fl} : pf41 [.sl 8 (nums .u8 [1#8, 1#8, 0#8, 0#8, 0#8, 0#8, 0#8, 0#8]) fl] = some (.tup [.agg (cmdA ⟨1, 0, 0, 0, 0, some [], some []⟩), .raw (.int .i64 0)]) := by
  have h : isC [1#8, 1#8, 0#8, 0#8, 0#8, 0#8, 0#8, 0#8] = true := by decide +kernel
  have h2 : cC [1#8, 1#8, 0#8, 0#8, 0#8, 0#8, 0#8, 0#8] = ⟨1, 0, 0, 0, 0, some [], some []⟩ := by
    have e1 : rN ([1#8, 1#8, 0#8, 0#8, 0#8, 0#8, 0#8, 0#8], 0) = 1 := by decide +kernel
    have e2 : rN (q1 [1#8, 1#8, 0#8, 0#8, 0#8, 0#8, 0#8, 0#8]) = 0 := by decide +kernel
    have e3 : rN (q2 [1#8, 1#8, 0#8, 0#8, 0#8, 0#8, 0#8, 0#8]) = 0 := by decide +kernel
    have e4 : rN (q3 [1#8, 1#8, 0#8, 0#8, 0#8, 0#8, 0#8, 0#8]) = 0 := by decide +kernel
    have e5 : rN (q4 [1#8, 1#8, 0#8, 0#8, 0#8, 0#8, 0#8, 0#8]) = 0 := by decide +kernel
    have e6 : tN (q5 [1#8, 1#8, 0#8, 0#8, 0#8, 0#8, 0#8, 0#8]) = [] := by decide +kernel
    have e7 : tN (q6 [1#8, 1#8, 0#8, 0#8, 0#8, 0#8, 0#8, 0#8]) = [] := by decide +kernel
    rw [cC, e1, e2, e3, e4, e5, e6, e7]
  have := tkc_at (b := [1#8, 1#8, 0#8, 0#8, 0#8, 0#8, 0#8, 0#8]) (fl := fl) rfl (by decide)
  rw [tcC, tcE, h, if_pos rfl, if_pos rfl, h2] at this
  exact this
theorem sh4 {fl : Fl} : pf41 [.sl 9 (nums .u8 [1#8, 1#8, 0#8, 0#8, 0#8, 0#8, 0#8, 0#8, 0#8]) fl] = some (.tup [.agg (cmdA noC), .raw (.int .i64 80)]) := by
  have h : isC [1#8, 1#8, 0#8, 0#8, 0#8, 0#8, 0#8, 0#8, 0#8] = false := by decide +kernel
  have := tkc_at (b := [1#8, 1#8, 0#8, 0#8, 0#8, 0#8, 0#8, 0#8, 0#8]) (fl := fl) rfl (by decide)
  rw [tcC, tcE, h] at this
  exact this
theorem shA : nums .u8 [1#8, 1#8, 0#8, 0#8, 0#8, 0#8, 0#8, 0#8] ++ [.raw (.int .u8 0)] = nums .u8 [1#8, 1#8, 0#8, 0#8, 0#8, 0#8, 0#8, 0#8, 0#8] := rfl
theorem check_lit {k s q i n : Int} : pf44 [.agg [.raw (.int .i64 k), .raw (.int .i64 s), .raw (.int .i64 q), .raw (.int .i64 i), .raw (.int .i64 n), .raw (.slice none 0 0), .raw (.slice none 0 0)]] = some (.raw (.int .i64 (checkF ⟨k, s, q, i, n, none, none⟩))) := check_at ⟨k, s, q, i, n, none, none⟩
theorem sh5 : checkF ⟨1, 0, 0, 0, 0, none, none⟩ = 0 := by decide +kernel
theorem sh6 : checkF ⟨1, 0, 1, 0, 0, none, none⟩ = 1 := by decide +kernel
theorem sh7 : checkF ⟨4, 1, 1, 0, 0, none, none⟩ = 1 := by decide +kernel
theorem st1 : ([UInt8.ofBitVec 1#8, UInt8.ofBitVec 1#8, UInt8.ofBitVec 0#8, UInt8.ofBitVec 0#8, UInt8.ofBitVec 0#8, UInt8.ofBitVec 0#8, UInt8.ofBitVec 0#8, UInt8.ofBitVec 0#8] == ([1, 1, 0, 0, 0, 0, 0, 0] : List UInt8)) = true := by decide
theorem apc {α : Type} (a : α) (l m : List α) : List.append (a :: l) m = a :: List.append l m := rfl
theorem apn {α : Type} (m : List α) : List.append [] m = m := rfl
theorem bq80 : ((80 : Int) == 80) = true := rfl
theorem bq1 : ((1 : Int) == 1) = true := rfl
theorem bq0 : ((0 : Int) == 0) = true := rfl
theorem cmdA_nn {k s q i n : Int} : cmdA ⟨k, s, q, i, n, none, none⟩ = [.raw (.int .i64 k), .raw (.int .i64 s), .raw (.int .i64 q), .raw (.int .i64 i), .raw (.int .i64 n), .raw (.slice none 0 0), .raw (.slice none 0 0)] := rfl
def pf38 : List AV → Option AV
  | [] => some (.raw (.bool true))
  | _ => none
set_option maxRecDepth 20000 in
theorem sound38 : SoundV Try.prog glob 38 pf38 := by
  refine SoundV.walk EL0 okL0 mixed Try.func38 rfl Try.call38 (by kernel_rfl) ?_
  intro args r hr
  unfold pf38 at hr
  split at hr
  · cases hr
    rw [Try.ntmps38, Try.results38]
    refine ⟨by simp, ?_⟩
    simp (maxSteps := 1000000) (disch := first | omega | assumption | (simp only [updB, dsB, reduceCtorEq, Nat.reduceEqDiff, *]; done) | (simp only [lnB] <;> omega) | fail) only [ev0, ev1, ev2, ev3, ↓reduceIte, reduceCtorEq, Nat.reduceAdd, Nat.reduceSub, Nat.reduceMul, Nat.reduceLT, Nat.reduceLeDiff, Nat.reduceEqDiff, Nat.reduceBEq, BitVec.reduceOfInt, Int.reduceLE, Int.reduceLT, Int.reduceGT, Int.reduceGE, Int.reduceNeg, Int.reduceAdd, Int.reduceSub, Int.reduceMul, Int.reduceToNat, ↓bind_go, ↓map_go, wantedV, isWrite, grow, write, ofV, AV.cells, Abs.start, Abs.strip, endQ, resV, rawsRes, rawRes, exports, export1, AS.grown, AS.put, Env.know, Env.boxed, isSelf, convSelf, convV, loadV, storeV, fieldAddrV, fieldV, indexAddrV, indexV, partV, isAggK, isStr, place, lenV, min2V, makeV, freshSl, sliceV, boundOr, bound, bounds, cutFl, copyV, slCells, srcV, appendV, room, zerosOf, eqNeg, kd, takeR, hasViewL, hasView, freshR, freshC, snapAll, snap, snapL, flatL, pureL, pureA, fillC, arrOK, oneA, partB, AV.laid, ren1, CR.gr, applyW, useL, AS.mute, isGen, startG, ev5, teE, EL0_te, EL0_glob, EL0_gs, EL0_dyn, EL0_mu, EL0_1, EL0_3, EL0_5, glob, ev4, cmdA_splice, cmdA_nn, List.drop_succ_cons, List.drop_zero, List.drop_nil, sh1, sh2, sh3, sh4, shA, check_lit, sh5, sh6, sh7, st1, apc, apn, bq80, bq1, bq0, cmdA_strip, repA_strip, entA_strip, cmdA_snap, repA_snap, entA_snap, cmdA_noview, repA_noview, entA_noview, cmdA_take, cmdA_one, repA_take, repA_one, entA_take, entA_one, dropC, dropR, dropE, List.map_nil, List.all_nil, zeroC, zeroR, zeroE, splice_cmd, splice_cmd', splice_rep, splice_rep', splice_ent, splice_ent', cmdA_len, repA_len, entA_len, rep1, rep2, rep3, rep5, one_le, le2, le3, le5, dr1, dr2, dr3, dr5, noC, btA, undef_is, List.size_toArray, Array.size_empty, List.length_nil, cmdA_0]
    exact ResQ.same rfl
  · cases hr
end Go.Proofs.Ytjnmdphoaafjaaa
