/- The statements' functions of layer 9: what their walks come to (commands). -/
import Derived.Test.YtjnmdphoaafjaaaQo
import Derived.Test.YtjnmdphoaafjaaaQg
namespace Go.Proofs.Ytjnmdphoaafjaaa
set_option linter.unusedSimpArgs false
set_option linter.unusedVariables false
set_option linter.defProp false
open Go Go.Abs
set_option maxHeartbeats 8000000
noncomputable def EN : Env := ((((EL.know 45 pf44).know 40 (fun xs => pfCn (xs.map norm3))).know 41 (fun xs => pf41 (xs.map norm))).know 42 (fun xs => pf41 (xs.map norm)))
theorem okN' : EnvOK Try.prog EN := ((((okL.know sound45).know (SoundV.norm3 sound40)).know sound41.norm).know sound42.norm)
theorem EN_te : EN.te = te := rfl
theorem EN_glob : EN.glob = glob := rfl
theorem EN_gs : EN.gs = [] := rfl
theorem EN_dyn : EN.dyn = false := rfl
theorem EN_mu (d : Nat) : EN.mu d = false := rfl
theorem EN_1 : EN.tbl 44 = some (.val pf44) := rfl
theorem EN_2 : EN.tbl 45 = some (.val pf44) := rfl
theorem EN_3 : EN.tbl 39 = some (.val pf39) := rfl
theorem EN_4 : EN.tbl 40 = some (.val (fun xs => pfCn (xs.map norm3))) := rfl
theorem EN_5 : EN.tbl 41 = some (.val (fun xs => pf41 (xs.map norm))) := rfl
theorem EN_6 : EN.tbl 42 = some (.val (fun xs => pf41 (xs.map norm))) := rfl
theorem EN_7 : EN.tbl 43 = some (.val (fun xs => pf43 (xs.map norm3))) := rfl
theorem EN_13 : EN.tbl 38 = some (.val pf38) := rfl
theorem rcmd_at {c : Cmd} (h : c.n ≤ 9223372036854775807) : pfCn [norm3 (.agg (cmdA c))] = some (.tup [.sl (cmdR c).1.length (nums .u8 (cmdR c).1) .bor, .raw (.int .i64 (cmdR c).2)]) := rcommand_at h
set_option maxRecDepth 4000
noncomputable def pf8 : List AV → Option AV
  | [.agg cs, v] => (cmd? (cs.map strip)).bind fun c => (row? .u8 8 v).bind fun b => if c.n ≤ 9223372036854775807 ∧ b.length ≤ 140737488355328 then some (.raw (.bool true)) else none
  | _ => none
theorem sound8 : SoundV Try.prog glob 8 pf8 := by
  refine SoundV.walk EN okN' mixed Try.func8 rfl Try.call8 (by kernel_rfl) ?_
  intro args r hr
  unfold pf8 at hr
  split at hr
  · rename_i cs v
    simp only [Option.bind_eq_some_iff] at hr
    obtain ⟨c, hc, b, h2, hr⟩ := hr
    split at hr
    · rename_i hh
      obtain ⟨hn, hb⟩ := hh
      cases hr
      have hcs := cmd?_of hc
      obtain ⟨fl, rfl⟩ := row?_of h2
      rw [Try.ntmps8, Try.results8]
      refine ⟨by simp, ?_⟩
      simp (maxSteps := 1000000) (disch := first | omega | assumption | (simp only [updB, dsB, reduceCtorEq, Nat.reduceEqDiff, *]; done) | (simp only [lnB] <;> omega) | fail) only [ev0, ev1, ev2, ev3, ↓reduceIte, reduceCtorEq, Nat.reduceAdd, Nat.reduceSub, Nat.reduceMul, Nat.reduceLT, Nat.reduceLeDiff, Nat.reduceEqDiff, Nat.reduceBEq, BitVec.reduceOfInt, Int.reduceLE, Int.reduceLT, Int.reduceGT, Int.reduceGE, Int.reduceNeg, Int.reduceAdd, Int.reduceSub, Int.reduceMul, Int.reduceToNat, ↓bind_go, ↓map_go, wantedV, isWrite, grow, write, ofV, AV.cells, Abs.start, Abs.strip, endQ, resV, rawsRes, rawRes, exports, export1, AS.grown, AS.put, Env.know, Env.boxed, isSelf, convSelf, convV, loadV, storeV, fieldAddrV, fieldV, indexAddrV, indexV, partV, isAggK, isStr, place, lenV, min2V, makeV, freshSl, sliceV, boundOr, bound, bounds, cutFl, copyV, slCells, srcV, appendV, room, zerosOf, eqNeg, kd, takeR, hasViewL, hasView, freshR, freshC, snapAll, snap, snapL, flatL, pureL, pureA, fillC, arrOK, oneA, partB, AV.laid, ren1, CR.gr, applyW, useL, AS.mute, isGen, startG, ev5, teE, EN_te, EN_glob, EN_gs, EN_dyn, EN_mu, EN_1, EN_2, EN_3, EN_4, EN_5, EN_6, EN_7, EN_13, rcmd_at, glob, ev4, check_at, command_at, tkc_at, samec_at', entry_at, tke_at, cmdA_strip, repA_strip, entA_strip, cmdA_snap, repA_snap, entA_snap, cmdA_noview, repA_noview, entA_noview, cmdA_take, cmdA_one, repA_take, repA_one, entA_take, entA_one, dropC, dropR, dropE, List.map_nil, List.all_nil, zeroC, zeroR, zeroE, splice_cmd, splice_cmd', splice_rep, splice_rep', splice_ent, splice_ent', cmdA_len, repA_len, entA_len, List.drop_zero, rep1, rep2, rep3, rep5, one_le, le2, le3, le5, dr1, dr2, dr3, dr5, zz0, zz1, beq_self_eq_true, List.size_toArray, Array.size_empty, List.length_nil, Bool.not_true, Bool.not_false, btA, itA, shown_at, sameC_self, sameE_self, dat_beq, splice_e4, hcs]
      exact ResQ.same rfl
    · cases hr
  · cases hr
end Go.Proofs.Ytjnmdphoaafjaaa
