/- The statements' functions of layer 9: what their walks come to (entries). -/
import Derived.Test.YtjnmdphoaafjaaaQo
import Derived.Test.YtjnmdphoaafjaaaQf
import Derived.Test.YtjnmdphoaafjaaaQd
namespace Go.Proofs.Ytjnmdphoaafjaaa
set_option linter.unusedSimpArgs false
set_option linter.unusedVariables false
set_option linter.defProp false
open Go Go.Abs
set_option maxHeartbeats 8000000
noncomputable def EP : Env := ((((EL.know 62 (fun xs => pfEn (xs.map norm3))).know 63 (fun xs => pf63 (xs.map norm))).know 64 (fun xs => pf63 (xs.map norm))).know 65 (fun xs => pf65 (xs.map norm3)))
theorem okP : EnvOK Try.prog EP := ((((okL.know (SoundV.norm3 sound62)).know sound63.norm).know sound64.norm).know (SoundV.norm3 sound65))
theorem EP_te : EP.te = te := rfl
theorem EP_glob : EP.glob = glob := rfl
theorem EP_gs : EP.gs = [] := rfl
theorem EP_dyn : EP.dyn = false := rfl
theorem EP_mu (d : Nat) : EP.mu d = false := rfl
theorem EP_8 : EP.tbl 61 = some (.val pf61) := rfl
theorem EP_9 : EP.tbl 62 = some (.val (fun xs => pfEn (xs.map norm3))) := rfl
theorem EP_10 : EP.tbl 63 = some (.val (fun xs => pf63 (xs.map norm))) := rfl
theorem EP_11 : EP.tbl 64 = some (.val (fun xs => pf63 (xs.map norm))) := rfl
theorem EP_12 : EP.tbl 65 = some (.val (fun xs => pf65 (xs.map norm3))) := rfl
theorem EP_13 : EP.tbl 38 = some (.val pf38) := rfl
theorem rent_at {c : Eny} (h : okN c) : pfEn [norm3 (.agg (entA c))] = some (.tup [.sl (entR c).1.length (nums .u8 (entR c).1) .bor, .raw (.int .i64 (entR c).2)]) := rentry_at h
set_option maxRecDepth 4000
noncomputable def pf19 : List AV → Option AV
  | [.agg cs, v] => (ent? (cs.map strip)).bind fun c => (row? .u8 8 v).bind fun b => open Classical in if okN c ∧ b.length ≤ 140737488355328 then some (.raw (.bool true)) else none
  | _ => none
theorem sound19 : SoundV Try.prog glob 19 pf19 := by
  refine SoundV.walk EP okP mixed Try.func19 rfl Try.call19 (by kernel_rfl) ?_
  intro args r hr
  unfold pf19 at hr
  split at hr
  · rename_i cs v
    simp only [Option.bind_eq_some_iff] at hr
    obtain ⟨c, hc, b, h2, hr⟩ := hr
    split at hr
    · rename_i hh
      obtain ⟨hn, hb⟩ := hh
      cases hr
      have hcs := ent?_of hc
      obtain ⟨fl, rfl⟩ := row?_of h2
      rw [Try.ntmps19, Try.results19]
      refine ⟨by simp, ?_⟩
      have ho := tnF_ok (b := b) (by omega)
      simp (maxSteps := 1000000) (disch := first | omega | assumption | (simp only [updB, dsB, reduceCtorEq, Nat.reduceEqDiff, *]; done) | (simp only [lnB] <;> omega) | fail) only [ev0, ev1, ev2, ev3, ↓reduceIte, reduceCtorEq, Nat.reduceAdd, Nat.reduceSub, Nat.reduceMul, Nat.reduceLT, Nat.reduceLeDiff, Nat.reduceEqDiff, Nat.reduceBEq, BitVec.reduceOfInt, Int.reduceLE, Int.reduceLT, Int.reduceGT, Int.reduceGE, Int.reduceNeg, Int.reduceAdd, Int.reduceSub, Int.reduceMul, Int.reduceToNat, ↓bind_go, ↓map_go, wantedV, isWrite, grow, write, ofV, AV.cells, Abs.start, Abs.strip, endQ, resV, rawsRes, rawRes, exports, export1, AS.grown, AS.put, Env.know, Env.boxed, isSelf, convSelf, convV, loadV, storeV, fieldAddrV, fieldV, indexAddrV, indexV, partV, isAggK, isStr, place, lenV, min2V, makeV, freshSl, sliceV, boundOr, bound, bounds, cutFl, copyV, slCells, srcV, appendV, room, zerosOf, eqNeg, kd, takeR, hasViewL, hasView, freshR, freshC, snapAll, snap, snapL, flatL, pureL, pureA, fillC, arrOK, oneA, partB, AV.laid, ren1, CR.gr, applyW, useL, AS.mute, isGen, startG, ev5, teE, EP_te, EP_glob, EP_gs, EP_dyn, EP_mu, EP_8, EP_9, EP_10, EP_11, EP_12, EP_13, rent_at, samee_at', glob, ev4, check_at, command_at, tkc_at, samec_at', entry_at, tke_at, cmdA_strip, repA_strip, entA_strip, cmdA_snap, repA_snap, entA_snap, cmdA_noview, repA_noview, entA_noview, cmdA_take, cmdA_one, repA_take, repA_one, entA_take, entA_one, dropC, dropR, dropE, List.map_nil, List.all_nil, zeroC, zeroR, zeroE, splice_cmd, splice_cmd', splice_rep, splice_rep', splice_ent, splice_ent', cmdA_len, repA_len, entA_len, List.drop_zero, rep1, rep2, rep3, rep5, one_le, le2, le3, le5, dr1, dr2, dr3, dr5, zz0, zz1, beq_self_eq_true, List.size_toArray, Array.size_empty, List.length_nil, Bool.not_true, Bool.not_false, btA, itA, shown_at, sameC_self, sameE_self, dat_beq, splice_e4, hcs]
      exact ResQ.same rfl
    · cases hr
  · cases hr
end Go.Proofs.Ytjnmdphoaafjaaa
