/- The statements' functions of layer 9: what their walks come to (replies). -/
import Derived.Test.YtjnmdphoaafjaaaQr
import Derived.Test.YtjnmdphoaafjaaaQe
namespace Go.Proofs.Ytjnmdphoaafjaaa
set_option linter.unusedSimpArgs false
set_option linter.unusedVariables false
set_option linter.defProp false
open Go Go.Abs
set_option maxHeartbeats 8000000
noncomputable def EQ : Env := (EM.know 57 pf56).know 59 (fun xs => pf58 (xs.map norm))
theorem okQ : EnvOK Try.prog EQ := (okM.know sound57).know sound59.norm
theorem EQ_te : EQ.te = te := rfl
theorem EQ_glob : EQ.glob = glob := rfl
theorem EQ_gs : EQ.gs = [] := rfl
theorem EQ_dyn : EQ.dyn = false := rfl
theorem EQ_mu (d : Nat) : EQ.mu d = false := rfl
theorem EQ_13 : EQ.tbl 38 = some (.val pf38) := rfl
theorem EQ_14 : EQ.tbl 56 = some (.val pf56) := rfl
theorem EQ_15 : EQ.tbl 57 = some (.val pf56) := rfl
theorem EQ_16 : EQ.tbl 58 = some (.val (fun xs => pf58 (xs.map norm))) := rfl
theorem EQ_17 : EQ.tbl 59 = some (.val (fun xs => pf58 (xs.map norm))) := rfl
theorem EQ_18 : EQ.tbl 60 = some (.val (fun xs => pf60 (xs.map norm3))) := rfl
set_option maxRecDepth 4000
noncomputable def pf18 : List AV → Option AV
  | [.agg cs, v] => (rep? (cs.map strip)).bind fun c => (row? .u8 8 v).bind fun b => if okR c ∧ b.length ≤ 140737488355328 then some (.raw (.bool true)) else none
  | _ => none
theorem sound18 : SoundV Try.prog glob 18 pf18 := by
  refine SoundV.walk EQ okQ mixed Try.func18 rfl Try.call18 (by kernel_rfl) ?_
  intro args r hr
  unfold pf18 at hr
  split at hr
  · rename_i cs v
    simp only [Option.bind_eq_some_iff] at hr
    obtain ⟨c, hc, b, h2, hr⟩ := hr
    split at hr
    · rename_i hh
      obtain ⟨hn, hb⟩ := hh
      cases hr
      have hcs := rep?_of hc
      obtain ⟨fl, rfl⟩ := row?_of h2
      rw [Try.ntmps18, Try.results18]
      refine ⟨by simp, ?_⟩
      simp (maxSteps := 1000000) (disch := first | omega | assumption | (simp only [updB, dsB, reduceCtorEq, Nat.reduceEqDiff, *]; done) | (simp only [lnB] <;> omega) | fail) only [ev0, ev1, ev2, ev3, ↓reduceIte, reduceCtorEq, Nat.reduceAdd, Nat.reduceSub, Nat.reduceMul, Nat.reduceLT, Nat.reduceLeDiff, Nat.reduceEqDiff, Nat.reduceBEq, BitVec.reduceOfInt, Int.reduceLE, Int.reduceLT, Int.reduceGT, Int.reduceGE, Int.reduceNeg, Int.reduceAdd, Int.reduceSub, Int.reduceMul, Int.reduceToNat, ↓bind_go, ↓map_go, wantedV, isWrite, grow, write, ofV, AV.cells, Abs.start, Abs.strip, endQ, resV, rawsRes, rawRes, exports, export1, AS.grown, AS.put, Env.know, Env.boxed, isSelf, convSelf, convV, loadV, storeV, fieldAddrV, fieldV, indexAddrV, indexV, partV, isAggK, isStr, place, lenV, min2V, makeV, freshSl, sliceV, boundOr, bound, bounds, cutFl, copyV, slCells, srcV, appendV, room, zerosOf, eqNeg, kd, takeR, hasViewL, hasView, freshR, freshC, snapAll, snap, snapL, flatL, pureL, pureA, fillC, arrOK, oneA, partB, AV.laid, ren1, CR.gr, applyW, useL, AS.mute, isGen, startG, ev5, teE, EQ_te, EQ_glob, EQ_gs, EQ_dyn, EQ_mu, EQ_13, EQ_14, EQ_15, EQ_16, EQ_17, EQ_18, glob, ev4, command_at, tkc_at, samec_at', entry_at, tke_at, samee_at', reply_at, tkr_at, samer_at', shown_at, sameR_self, sameC_self, sameE_self, dat_beq, splice_e4, splice_r4, cmdA_splice, cmdA_strip, repA_strip, entA_strip, cmdA_snap, repA_snap, entA_snap, cmdA_noview, repA_noview, entA_noview, cmdA_take, cmdA_one, repA_take, repA_one, entA_take, entA_one, dropC, dropR, dropE, List.map_nil, List.all_nil, zeroC, zeroR, zeroE, splice_cmd, splice_cmd', splice_rep, splice_rep', splice_ent, splice_ent', cmdA_len, repA_len, entA_len, List.drop_zero, rep1, rep2, rep3, rep5, one_le, le2, le3, le5, dr1, dr2, dr3, dr5, zz0, zz1, bq0, bq800, beq_self_eq_true, bne_self_eq_false, List.size_toArray, Array.size_empty, List.length_nil, Bool.not_true, Bool.not_false, btA, itA, hcs]
      exact ResQ.same rfl
    · cases hr
  · cases hr
end Go.Proofs.Ytjnmdphoaafjaaa
