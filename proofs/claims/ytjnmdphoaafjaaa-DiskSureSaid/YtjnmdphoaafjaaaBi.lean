/- shown is true. -/
import Derived.Test.YtjnmdphoaafjaaaBh
namespace Go.Proofs.Ytjnmdphoaafjaaa
set_option linter.unusedSimpArgs false
set_option linter.unusedVariables false
set_option linter.defProp false
open Go Go.Abs
set_option maxHeartbeats 4000000
noncomputable def E6 : Env := (((((((((((E0.know 25 pf25).know 26 pf26).knowG 23 gf23).knowG 24 gf24).knowG 31 gf31).knowG 27 gf27).knowG 29 gf29).knowG 28 gf28).knowG 33 gf33).knowG 32 gf32).knowG 30 gf30)
theorem ok6 : EnvOK Try.prog E6 := (((((((((((ok0.know sound25).know sound26).knowG sound23).knowG sound24).knowG sound31).knowG sound27).knowG sound29).knowG sound28).knowG sound33).knowG sound32).knowG sound30)
theorem E6_te : E6.te = te := rfl
theorem E6_glob : E6.glob = glob := rfl
theorem E6_mu (d : Nat) : E6.mu d = false := rfl
theorem E6_gs : E6.gs = [30, 32, 33, 28, 29, 27, 31, 24, 23] := rfl
theorem E6_dyn : E6.dyn = false := rfl
theorem E6_few : E6.tbl 25 = some (.val pf25) := rfl
theorem E6_kind : E6.tbl 26 = some (.val pf26) := rfl
theorem E6_new : E6.tbl 23 = some (.gen gf23) := rfl
theorem E6_ap : E6.tbl 24 = some (.gen gf24) := rfl
theorem E6_cut : E6.tbl 31 = some (.gen gf31) := rfl
theorem E6_sync : E6.tbl 27 = some (.gen gf27) := rfl
theorem E6_read : E6.tbl 29 = some (.gen gf29) := rfl
theorem E6_boot : E6.tbl 28 = some (.gen gf28) := rfl
theorem E6_on : E6.tbl 33 = some (.gen gf33) := rfl
theorem E6_steps : E6.tbl 32 = some (.gen gf32) := rfl
theorem E6_fuse : E6.tbl 30 = some (.gen gf30) := rfl
theorem newD_ren (l s g : Nat) : newD.ren l s g = newD := (newD_okD 1).ren l s g
def sD1 : Dk := apD newD 0 [97#8, 98#8] ⟨0, 17, 0, 1⟩
def sD2 : Dk := syncD sD1 0
def sD3 : Dk := apD sD2 0 [99#8, 100#8] ⟨0, 23, 0, 1⟩
def sD4 : Dk := bootD sD3 [0, 0, 0, 0, 1]
def sD5 : Dk := fuseD sD4 1
def sD6 : Dk := apD sD5 1 [120#8] ⟨0, 42, 0, 1⟩
def sD7 : Dk := powerD sD6
theorem s1_ok : okD 1 sD1 := apD_okD (newD_okD 1) (Nat.zero_lt_one) (by decide)
theorem s2_ok : okD 1 sD2 := syncD_okD s1_ok
theorem s3_ok : okD 1 sD3 := apD_okD s2_ok (Nat.zero_lt_one) (by decide)
theorem s4_ok : okD 1 sD4 := bootD_okD s3_ok
theorem s5_ok : okD 1 sD5 := fuseD_okD s4_ok
theorem s6_ok : okD 1 sD6 := apD_okD s5_ok (Nat.zero_lt_one) (by decide)
theorem s7_ok : okD 1 sD7 := powerD_okD s6_ok
theorem s2_ren (l s g : Nat) : (syncD sD1 0).ren l s g = sD2 := s2_ok.ren l s g
theorem s4_ren (l s g : Nat) : (bootD sD3 [0, 0, 0, 0, 1]).ren l s g = sD4 := s4_ok.ren l s g
theorem s5_ren (l s g : Nat) : (fuseD sD4 1).ren l s g = sD5 := s5_ok.ren l s g
theorem s7_ren (l s g : Nat) : (powerD sD6).ren l s g = sD7 := s7_ok.ren l s g
theorem s1_ren : (apD newD 0 [97#8, 98#8] ⟨0, 0, 0, 0⟩).ren 0 17 1 = sD1 := apD_ren (newD_okD 1) 0 _ 0 17 1
theorem s3_ren : (apD sD2 0 [99#8, 100#8] ⟨0, 0, 0, 0⟩).ren 0 23 1 = sD3 := apD_ren s2_ok 0 _ 0 23 1
theorem s6_ren : (apD sD5 1 [120#8] ⟨0, 0, 0, 0⟩).ren 0 42 1 = sD6 := apD_ren s5_ok 1 _ 0 42 1
section
variable {b : Bx} {bx : Boxes} {us : Abs.Id → Bool} {n : Nat} {fl : Fl}
theorem s1_go (hb : bx b = some (enc newD)) (ht : n = 2) : gf24 [.ptr b 0, .raw (.int .i64 0), .sl n (nums .u8 [97#8, 98#8]) fl] bx us = some { v := .ret (.raw (.int .i64 0)), wr := [(b, enc (apD newD 0 [97#8, 98#8] ⟨0, 0, 0, 0⟩))], use := [] } :=
  append_go (k := 0) rfl rfl (by omega) (by refine ⟨?_, ?_, ?_, ?_⟩ <;> first | exact of_decide_eq_true rfl | (unfold i64ok; exact of_decide_eq_true rfl)) rfl (by decide) hb ht rfl
theorem s2_go (hb : bx b = some (enc sD1)) : gf27 [.ptr b 0, .raw (.int .i64 0)] bx us = some { v := .ret (.raw (.int .i64 0)), wr := [(b, enc (syncD sD1 0))] } :=
  sync_go (k := 0) rfl rfl (by omega) (by refine ⟨?_, ?_, ?_, ?_⟩ <;> first | exact of_decide_eq_true rfl | (unfold i64ok; exact of_decide_eq_true rfl)) rfl rfl hb
theorem s3_go (hb : bx b = some (enc sD2)) (ht : n = 2) : gf24 [.ptr b 0, .raw (.int .i64 0), .sl n (nums .u8 [99#8, 100#8]) fl] bx us = some { v := .ret (.raw (.int .i64 0)), wr := [(b, enc (apD sD2 0 [99#8, 100#8] ⟨0, 0, 0, 0⟩))], use := [] } :=
  append_go (k := 0) rfl rfl (by omega) (by refine ⟨?_, ?_, ?_, ?_⟩ <;> first | exact of_decide_eq_true rfl | (unfold i64ok; exact of_decide_eq_true rfl)) rfl (by decide) hb ht rfl
theorem s3_now : (sD3.f 0).now = [97#8, 98#8, 99#8, 100#8] := rfl
theorem s3r_go (hb : bx b = some (enc sD3)) : gf29 [.ptr b 0, .raw (.int .i64 0)] bx us = some { v := .ret (.tup [.sl 4 (nums .u8 [97#8, 98#8, 99#8, 100#8]) (.own ⟨0, 0, 0, 0⟩ 1), .raw (.int .i64 0)]) } :=
  read_go (k := 0) rfl rfl (by omega) rfl (by rw [s3_now]; decide) hb
theorem s3_wf : bootOK sD3 := fun f hf => by
  match f, hf with
  | 0, _ => exact ⟨⟨of_decide_eq_true rfl, trivial⟩, rfl, of_decide_eq_true rfl, of_decide_eq_true rfl⟩
  | 1, _ => exact ⟨trivial, rfl, of_decide_eq_true rfl, of_decide_eq_true rfl⟩
  | 2, _ => exact ⟨trivial, rfl, of_decide_eq_true rfl, of_decide_eq_true rfl⟩
  | 3, _ => exact ⟨trivial, rfl, of_decide_eq_true rfl, of_decide_eq_true rfl⟩
theorem s4_go (hb : bx b = some (enc sD3)) (ht : n = 5) : gf28 [.ptr b 0, .sl n (ints .i64 [0, 0, 0, 0, 1]) fl] bx us = some { v := .ret (.tup []), wr := [(b, enc (bootD sD3 [0, 0, 0, 0, 1]))] } :=
  boot_go rfl s3_wf (by unfold i64ok; decide) hb ht
theorem s4_now : (sD4.f 0).now = [97#8, 98#8, 99#8] := by decide
theorem s4r_go (hb : bx b = some (enc sD4)) : gf29 [.ptr b 0, .raw (.int .i64 0)] bx us = some { v := .ret (.tup [.sl 3 (nums .u8 [97#8, 98#8, 99#8]) (.own ⟨0, 0, 0, 0⟩ 1), .raw (.int .i64 0)]) } := by
  have h := read_go (d := sD4) (k := 0) (f := 0) (us := us) rfl rfl (by omega) rfl (by rw [s4_now]; decide) hb
  rw [s4_now] at h
  exact h
theorem s5_go (hb : bx b = some (enc sD4)) : gf30 [.ptr b 0, .raw (.int .i64 1)] bx us = some { v := .ret (.tup []), wr := [(b, enc (fuseD sD4 1))] } := fuse_go rfl hb
theorem s6_go (hb : bx b = some (enc sD5)) (ht : n = 1) : gf24 [.ptr b 0, .raw (.int .i64 1), .sl n (nums .u8 [120#8]) fl] bx us = some { v := .ret (.raw (.int .i64 0)), wr := [(b, enc (apD sD5 1 [120#8] ⟨0, 0, 0, 0⟩))], use := [] } :=
  append_go (k := 1) rfl rfl (by omega) (by refine ⟨?_, ?_, ?_, ?_⟩ <;> first | exact of_decide_eq_true rfl | (unfold i64ok; exact of_decide_eq_true rfl)) rfl (by decide) hb ht rfl
theorem s7_go (hb : bx b = some (enc sD6)) (ht : n = 1) : gf24 [.ptr b 0, .raw (.int .i64 1), .sl n (nums .u8 [121#8]) fl] bx us = some { v := .ret (.raw (.int .i64 5)), wr := [(b, enc (powerD sD6))] } :=
  append_off (k := 1) rfl rfl (by omega) (by refine ⟨?_, ?_, ?_, ?_⟩ <;> first | exact of_decide_eq_true rfl | (unfold i64ok; exact of_decide_eq_true rfl)) rfl hb ht
theorem s8_go (hb : bx b = some (enc sD7)) : gf33 [.ptr b 0] bx us = some { v := .ret (.raw (.bool false)) } := on_go rfl hb
theorem s9_go (hb : bx b = some (enc sD7)) : gf32 [.ptr b 0] bx us = some { v := .ret (.raw (.int .i64 4)) } := steps_go rfl hb
end
theorem b2a : [AV.raw (.int .u8 97), .raw (.int .u8 98)] = nums .u8 [97#8, 98#8] := rfl
theorem b2b : [AV.raw (.int .u8 99), .raw (.int .u8 100)] = nums .u8 [99#8, 100#8] := rfl
theorem b1a : [AV.raw (.int .u8 120)] = nums .u8 [120#8] := rfl
theorem b1b : [AV.raw (.int .u8 121)] = nums .u8 [121#8] := rfl
theorem i5a : [AV.raw (.int .i64 0), .raw (.int .i64 0), .raw (.int .i64 0), .raw (.int .i64 0), .raw (.int .i64 1)] = ints .i64 [0, 0, 0, 0, 1] := rfl
theorem i5b : ints .i64 [0, 0, 0, 0, 1] ++ List.drop (ints .i64 [0, 0, 0, 0, 1]).length [AV.raw (.int .i64 0), .raw (.int .i64 0), .raw (.int .i64 0), .raw (.int .i64 0), .raw (.int .i64 0)] = ints .i64 [0, 0, 0, 0, 1] := rfl
theorem q4 : (([⟨97#8⟩, ⟨98#8⟩, ⟨99#8⟩, ⟨100#8⟩] : List UInt8) == [97, 98, 99, 100]) = true := by decide
theorem q3 : (([⟨97#8⟩, ⟨98#8⟩, ⟨99#8⟩] : List UInt8) == [97, 98, 99]) = true := by decide
def pf22 : List AV → Option AV
  | [] => some (.raw (.bool true))
  | _ => none
set_option maxRecDepth 20000 in
theorem sound22 : SoundV Try.prog glob 22 pf22 := by
  refine SoundV.walk E6 ok6 mixed Try.func22 rfl Try.call22 (by kernel_rfl) ?_
  intro args r h
  unfold pf22 at h
  split at h
  · cases h
    rw [Try.ntmps22, Try.results22]
    refine ⟨by simp, ?_⟩
    simp (maxSteps := 1000000) (disch := first | omega | (simp only [updB, updI, useL, Abs.Id.mk.injEq, Bx.own.injEq, reduceCtorEq, Nat.reduceEqDiff, and_true, true_and, and_false, false_and, if_true, if_false, *]; done) | (simp only [nums_len, nums_len, ints_len, List.length_cons, List.length_nil, List.length_append, List.length_take, List.length_drop, List.length_replicate, List.length_set, List.length_map] <;> omega) | fail) only [ev0, ev1, ev2, ev3, ↓reduceIte, reduceCtorEq, Nat.reduceAdd, Nat.reduceSub, Nat.reduceMul, Nat.reduceLT, Nat.reduceLeDiff, Nat.reduceEqDiff, Nat.reduceBEq, BitVec.reduceOfInt, Int.reduceLE, Int.reduceLT, Int.reduceGT, Int.reduceGE, Int.reduceNeg, Int.reduceAdd, Int.reduceSub, Int.reduceMul, Int.reduceToNat, ↓bind_go, ↓map_go, wantedV, isWrite, grow, write, ofV, AV.cells, Abs.start, Abs.strip, endQ, resV, rawsRes, rawRes, exports, export1, AS.grown, AS.put, Env.know, Env.boxed, isSelf, convSelf, convV, loadV, storeV, fieldAddrV, fieldV, indexAddrV, indexV, partV, isAggK, isStr, place, lenV, min2V, makeV, freshSl, sliceV, boundOr, bound, bounds, cutFl, copyV, slCells, srcV, appendV, room, zerosOf, eqNeg, kd, takeR, hasViewL, hasView, freshR, freshC, snapAll, snap, snapL, flatL, pureL, pureA, fillC, arrOK, oneA, partB, AV.laid, ren1, CR.gr, applyW, useL, AS.mute, isGen, startG, ev5, teE, E6_te, E6_glob, E6_gs, E6_dyn, E6_mu, E6_few, E6_kind, E6_new, E6_ap, E6_cut, E6_sync, E6_read, E6_boot, E6_on, E6_steps, E6_fuse, glob, few_at, kind_at, new_go, enc_ren, Bx.own.injEq, and_false, false_and, and_true, true_and, List.drop_succ_cons, List.drop_zero, List.drop_nil, i5b, q3, q4, newD_ren, s1_ren, s2_ren, s3_ren, s4_ren, s5_ren, s6_ren, s7_ren, s1_go, s2_go, s3_go, s3r_go, s4_go, s4r_go, s5_go, s6_go, s7_go, s8_go, s9_go, b2a, b2b, b1a, b1b, i5a, rep_two, rep]
    exact ResQ.same rfl
  · cases h
end Go.Proofs.Ytjnmdphoaafjaaa
