/- A source of bytes: made, seeded anew, told, drawn from: what the walks come to. -/
import Derived.Test.YtddeffdgldjdjaaDoorJa
import Derived.Test.YtddeffdgldjdjaaDoorGa
namespace Go.Proofs.YtddeffdgldjdjaaDoor
set_option linter.unusedSimpArgs false
set_option linter.unusedVariables false
set_option linter.defProp false
open Go Go.Abs
set_option maxHeartbeats 16000000
noncomputable def EV : Env := EU.knowG 58 gu58
theorem okV : EnvOK Tryd.prog EV := okU.knowG sound58
theorem EV_te : EV.te = te := rfl
theorem EV_glob : EV.glob = globS := rfl
theorem EV_gs : EV.gs = [58, 59] := rfl
theorem EV_dyn : EV.dyn = false := rfl
theorem EV_mu (d : Nat) : EV.mu d = false := rfl
theorem EV_s : EV.tbl 59 = some (.gen gs59) := rfl
theorem EV_u : EV.tbl 58 = some (.gen gu58) := rfl
theorem upd_go {b : Bx} {f : Fl} {n : Nat} {m : List (BitVec 8)} {bx : Boxes} {us : Abs.Id → Bool} (hn : n = m.length) (hl : m.length ≤ 100000) :
    gu58 [.ptr b 0, .sl n (nums .u8 m) f] bx us = (bx b).bind fun cs => (src? cs).bind fun s => some { v := .ret (.tup []), wr := [(b, srA (updS s m))] } := by
  simp only [gu58, row?_at hn, Option.bind_some, if_pos hl]
/-- seeded anew -/
noncomputable def reS (s : Src) (m : List (BitVec 8)) : Src := { updS s m with c := 1 }
theorem reS_wf {s : Src} (h : wfS s) (m : List (BitVec 8)) : wfS (reS s m) := ⟨(updS_wf h m).k, (updS_wf h m).v, by simp only [reS]; decide, by simp only [reS]; decide⟩
noncomputable def gr26 (args : List AV) (bx : Boxes) (us : Abs.Id → Bool) : Option CR := match args with
  | [.ptr b 0, w] => (bx b).bind fun cs => (src? cs).bind fun s => (row? .u8 8 w).bind fun m => if m.length ≤ 100000 then some { v := .ret (.tup []), wr := [(b, srA (reS s m))] } else none
  | _ => none
noncomputable def pf24 : List AV → Option AV
  | [.iptr cs] => (src? cs).bind fun s => some (.tup [.agg (nums .u8 s.k), .agg (nums .u8 s.v), .raw (.int .i64 s.c)])
  | _ => none
def go20 (args : List AV) (bx : Boxes) (us : Abs.Id → Bool) : Option CR := match args with
  | [k, v, x] => (agg? .u8 8 32 k).bind fun k => (agg? .u8 8 32 v).bind fun v => (int? x).bind fun c => some { v := .ret (.ptr (.own 0 0 0) 0), cont := some (srA ⟨k, v, c⟩) }
  | _ => none
theorem agg_low {L : Nat} (l : List (BitVec 8)) : lowA L (.agg (nums .u8 l)) := lowA_pure _ (by simp only [pureA]; exact nums_pure _)
theorem sound26 : SoundG Tryd.prog globS 26 gr26 := by
  refine SoundG.walk EV okV mixed Tryd.func26 rfl Tryd.call26 (by kernel_rfl) ?_
  intro args bx us cr hr
  unfold gr26 at hr
  split at hr
  · rename_i b w
    simp only [Option.bind_eq_some_iff] at hr
    obtain ⟨cs, hb, s, hs, m, hm, hr⟩ := hr
    split at hr
    · rename_i hl
      cases hr
      obtain ⟨rfl, hw⟩ := src?_of hs
      obtain ⟨fl, rfl⟩ := row?_of hm
      have hbs : (bx b).isSome := by rw [hb]; rfl
      rw [Tryd.ntmps26, Tryd.results26]
      refine ⟨by simp, fun L hlow hus hbf => ?_⟩
      have hbL := (hlow b hbs).1
      have hu := updS_wf hw m
      rw [reS]
      generalize hs' : updS s m = s' at hu
      have hk := hu.k
      have hv := hu.v
      simp (maxSteps := 1000000) (disch := first | omega | (simp only [updB, updI, dsB, reduceCtorEq, Nat.reduceEqDiff, Abs.Id.mk.injEq, and_false, false_and, and_true, true_and, if_false, ↓reduceIte, Option.isSome_some, *]; done) | (simp only [nums_len, sr_len, hm_len, lnB] <;> omega) | fail) only [ev0, ev1, ev2, ev3, ↓reduceIte, reduceCtorEq, Nat.reduceAdd, Nat.reduceSub, Nat.reduceMul, Nat.reduceLT, Nat.reduceLeDiff, Nat.reduceEqDiff, Nat.reduceBEq, BitVec.reduceOfInt, Int.reduceLE, Int.reduceLT, Int.reduceGT, Int.reduceGE, Int.reduceNeg, Int.reduceAdd, Int.reduceSub, Int.reduceMul, Int.reduceToNat, ↓bind_go, ↓map_go, wantedV, isWrite, grow, write, ofV, AV.cells, Abs.start, Abs.strip, endQ, resV, rawsRes, rawRes, exports, export1, AS.grown, AS.put, Env.know, Env.boxed, isSelf, convSelf, convV, loadV, storeV, fieldAddrV, fieldV, indexAddrV, indexV, partV, isAggK, isStr, place, ipS, lenV, min2V, makeV, freshSl, sliceV, boundOr, bound, bounds, cutFl, copyV, slCells, srcV, appendV, room, zerosOf, eqNeg, kd, takeR, hasViewL, hasView, freshR, freshC, snapAll, snap, snapL, flatL, pureL, pureA, fillC, arrOK, oneA, partB, AV.laid, ren1, CR.gr, applyW, useL, AS.mute, isGen, startG, ev5, teE, EV_te, EV_glob, EV_gs, EV_dyn, EV_mu, EV_s, EV_u, ksum1_go, upd_go, rep3n, rep1n, sr_len, sr_tk, sr_v, sr_v', sr_dk, sr_c, spl_k, spl_v, spl_c, set_c, sr_ren, ns_strip, ns_set, nums_ren, globS, hm_len, own_ne, own_ne', Bx.own.injEq, and_false, false_and, and_true, true_and, hb, hs, hl, hs']
      change EndG _ _ _ _ _ _ _
      exact EndG.w1 [] [] rfl .nil rfl hbL hbs (fun b' h1 h2 => by simp only [updB, if_neg h2]) updB_self (ExpL.same (sr_low _)) (fun _ _ => rfl)
    · cases hr
  · cases hr
noncomputable def EI : Env := ES0.boxed (fun d => d == 131079 || (d == 131083 || d == 131087))
theorem okI : EnvOK Tryd.prog EI := okS0.boxed _
theorem EI_te : EI.te = te := rfl
theorem EI_glob : EI.glob = globS := rfl
theorem EI_gs : EI.gs = [] := rfl
theorem EI_dyn : EI.dyn = false := rfl
theorem EI_mu (d : Nat) : EI.mu d = (d == 131079 || (d == 131083 || d == 131087)) := rfl
theorem sr_d64 {s : Src} (h : s.k.length = 32) (h2 : s.v.length = 32) : (srA s).drop 64 = [.raw (.int .i64 s.c)] := by
  rw [show 64 = 32 + 32 from rfl, ← List.drop_drop, sr_dk h, List.drop_append_of_le_length (by rw [nums_len]; omega), List.drop_of_length_le (by rw [nums_len]; omega), List.nil_append]
theorem sound24 : SoundV Tryd.prog globS 24 pf24 := by
  refine SoundV.walk EI okI mixed Tryd.func24 rfl Tryd.call24 (by kernel_rfl) ?_
  intro args r hr
  unfold pf24 at hr
  split at hr
  · rename_i cs
    simp only [Option.bind_eq_some_iff] at hr
    obtain ⟨s, hs, hr⟩ := hr
    cases hr
    obtain ⟨rfl, hw⟩ := src?_of hs
    have hk := hw.k
    have hv := hw.v
    rw [Tryd.ntmps24, Tryd.results24]
    refine ⟨by simp, ?_⟩
    simp (maxSteps := 1000000) (disch := first | omega | (simp only [updB, updI, dsB, reduceCtorEq, Nat.reduceEqDiff, Abs.Id.mk.injEq, and_false, false_and, and_true, true_and, if_false, ↓reduceIte, Option.isSome_some, *]; done) | (simp only [nums_len, sr_len, hm_len, lnB] <;> omega) | fail) only [ev0, ev1, ev2, ev3, ↓reduceIte, reduceCtorEq, Nat.reduceAdd, Nat.reduceSub, Nat.reduceMul, Nat.reduceLT, Nat.reduceLeDiff, Nat.reduceEqDiff, Nat.reduceBEq, BitVec.reduceOfInt, Int.reduceLE, Int.reduceLT, Int.reduceGT, Int.reduceGE, Int.reduceNeg, Int.reduceAdd, Int.reduceSub, Int.reduceMul, Int.reduceToNat, ↓bind_go, ↓map_go, wantedV, isWrite, grow, write, ofV, AV.cells, Abs.start, Abs.strip, endQ, resV, rawsRes, rawRes, exports, export1, AS.grown, AS.put, Env.know, Env.boxed, isSelf, convSelf, convV, loadV, storeV, fieldAddrV, fieldV, indexAddrV, indexV, partV, isAggK, isStr, place, ipS, lenV, min2V, makeV, freshSl, sliceV, boundOr, bound, bounds, cutFl, copyV, slCells, srcV, appendV, room, zerosOf, eqNeg, kd, takeR, hasViewL, hasView, freshR, freshC, snapAll, snap, snapL, flatL, pureL, pureA, fillC, arrOK, oneA, partB, AV.laid, ren1, CR.gr, applyW, useL, AS.mute, isGen, startG, ev5, teE, EI_te, EI_glob, EI_gs, EI_dyn, EI_mu, sr_len, sr_tk, sr_v, sr_v', sr_dk, sr_c, sr_d64, sp32, tk32, sr_ren, ns_strip, ns_set, nums_ren, globS, Bool.or_true, Bool.true_or, Bool.or_false, Bool.false_or, sp32 hk, sp32 hv]
    exact ResQ.same rfl
  · cases hr
theorem srA_mk {k v : List (BitVec 8)} {c : Int} : nums .u8 k ++ (nums .u8 v ++ [.raw (.int .i64 c)]) = srA ⟨k, v, c⟩ := rfl
end Go.Proofs.YtddeffdgldjdjaaDoor
