/- Bytes of AES: twice a byte, its box: what the walks come to. -/
import Derived.Test.YtddeffdgldjdjaaDoorBb
import Derived.Test.YtddeffdgldjdjaaDoorM4
namespace Go.Proofs.YtddeffdgldjdjaaDoor
set_option linter.unusedSimpArgs false
set_option linter.unusedVariables false
set_option linter.defProp false
open Go Go.Abs
set_option maxHeartbeats 4000000
def t2 (a : BitVec 8) : BitVec 8 := (a <<< 1) ^^^ (27#8 &&& BitVec.ofInt 8 (0 - ((a >>> 7).toNat : Int)))
def pf133 : List AV → Option AV
  | [v] => (num? .u8 8 v).bind fun x => some (.raw (.int .u8 ((t2 x).toNat : Int)))
  | _ => none
def tbUa0 := (And.intro (And.intro @teE (And.intro @E0_te @E0_glob)) (And.intro @E0_gs (And.intro @E0_dyn @E0_mu)))
theorem sound133 : SoundV Tryd.prog glob 133 pf133 := by
  refine SoundV.walk E0 ok0 mixed Tryd.func133 rfl Tryd.call133 (by kernel_rfl) ?_
  intro args r hr
  unfold pf133 at hr
  split at hr
  · simp only [Option.bind_eq_some_iff] at hr
    obtain ⟨x, h1, hr⟩ := hr
    cases hr
    rw [num?_of h1, Tryd.ntmps133, Tryd.results133]
    refine ⟨by simp, ?_⟩
    simp (maxSteps := 1000000) (disch := first | omega | (simp only [nums_len, lnB] <;> omega) | fail) only [ev0, ev1, ev2, ev3, ↓reduceIte, reduceCtorEq, Nat.reduceAdd, Nat.reduceSub, Nat.reduceMul, Nat.reduceLT, Nat.reduceLeDiff, Nat.reduceEqDiff, Nat.reduceBEq, BitVec.reduceOfInt, Int.reduceLE, Int.reduceLT, Int.reduceGT, Int.reduceGE, Int.reduceNeg, Int.reduceAdd, Int.reduceSub, Int.reduceMul, Int.reduceToNat, ↓bind_go, ↓map_go, wantedV, isWrite, grow, write, ofV, AV.cells, Abs.start, Abs.strip, endQ, resV, rawsRes, rawRes, exports, export1, AS.grown, AS.put, Env.know, Env.boxed, isSelf, convSelf, convV, loadV, storeV, fieldAddrV, fieldV, indexAddrV, indexV, partV, isAggK, isStr, place, ipS, lenV, min2V, makeV, freshSl, sliceV, boundOr, bound, bounds, cutFl, copyV, slCells, srcV, appendV, room, zerosOf, eqNeg, kd, takeR, hasViewL, hasView, freshR, freshC, snapAll, snap, snapL, flatL, pureL, pureA, fillC, arrOK, oneA, partB, AV.laid, ren1, CR.gr, applyW, useL, AS.mute, isGen, startG, ev5, tbUa0, glob]
    exact ResQ.same rfl
  · cases hr
/-- AES's box -/
def boxL : List (BitVec 8) := [99#8, 124#8, 119#8, 123#8, 242#8, 107#8, 111#8, 197#8, 48#8, 1#8, 103#8, 43#8, 254#8, 215#8, 171#8, 118#8, 202#8, 130#8, 201#8, 125#8, 250#8, 89#8, 71#8, 240#8, 173#8, 212#8, 162#8, 175#8, 156#8, 164#8, 114#8, 192#8, 183#8, 253#8, 147#8, 38#8, 54#8, 63#8, 247#8, 204#8, 52#8, 165#8, 229#8, 241#8, 113#8, 216#8, 49#8, 21#8, 4#8, 199#8, 35#8, 195#8, 24#8, 150#8, 5#8, 154#8, 7#8, 18#8, 128#8, 226#8, 235#8, 39#8, 178#8, 117#8, 9#8, 131#8, 44#8, 26#8, 27#8, 110#8, 90#8, 160#8, 82#8, 59#8, 214#8, 179#8, 41#8, 227#8, 47#8, 132#8, 83#8, 209#8, 0#8, 237#8, 32#8, 252#8, 177#8, 91#8, 106#8, 203#8, 190#8, 57#8, 74#8, 76#8, 88#8, 207#8, 208#8, 239#8, 170#8, 251#8, 67#8, 77#8, 51#8, 133#8, 69#8, 249#8, 2#8, 127#8, 80#8, 60#8, 159#8, 168#8, 81#8, 163#8, 64#8, 143#8, 146#8, 157#8, 56#8, 245#8, 188#8, 182#8, 218#8, 33#8, 16#8, 255#8, 243#8, 210#8, 205#8, 12#8, 19#8, 236#8, 95#8, 151#8, 68#8, 23#8, 196#8, 167#8, 126#8, 61#8, 100#8, 93#8, 25#8, 115#8, 96#8, 129#8, 79#8, 220#8, 34#8, 42#8, 144#8, 136#8, 70#8, 238#8, 184#8, 20#8, 222#8, 94#8, 11#8, 219#8, 224#8, 50#8, 58#8, 10#8, 73#8, 6#8, 36#8, 92#8, 194#8, 211#8, 172#8, 98#8, 145#8, 149#8, 228#8, 121#8, 231#8, 200#8, 55#8, 109#8, 141#8, 213#8, 78#8, 169#8, 108#8, 86#8, 244#8, 234#8, 101#8, 122#8, 174#8, 8#8, 186#8, 120#8, 37#8, 46#8, 28#8, 166#8, 180#8, 198#8, 232#8, 221#8, 116#8, 31#8, 75#8, 189#8, 139#8, 138#8, 112#8, 62#8, 181#8, 102#8, 72#8, 3#8, 246#8, 14#8, 97#8, 53#8, 87#8, 185#8, 134#8, 193#8, 29#8, 158#8, 225#8, 248#8, 152#8, 17#8, 105#8, 217#8, 142#8, 148#8, 155#8, 30#8, 135#8, 233#8, 206#8, 85#8, 40#8, 223#8, 140#8, 161#8, 137#8, 13#8, 191#8, 230#8, 66#8, 104#8, 65#8, 153#8, 45#8, 15#8, 176#8, 84#8, 187#8, 22#8]
def bx (a : BitVec 8) : BitVec 8 := boxL.getD a.toNat 0#8
theorem box8 (x : BitVec 8) : (((([99, 124, 119, 123, 242, 107, 111, 197, 48, 1, 103, 43, 254, 215, 171, 118, 202, 130, 201, 125, 250, 89, 71, 240, 173, 212, 162, 175, 156, 164, 114, 192, 183, 253, 147, 38, 54, 63, 247, 204, 52, 165, 229, 241, 113, 216, 49, 21, 4, 199, 35, 195, 24, 150, 5, 154, 7, 18, 128, 226, 235, 39, 178, 117] : List UInt8).append [9, 131, 44, 26, 27, 110, 90, 160, 82, 59, 214, 179, 41, 227, 47, 132, 83, 209, 0, 237, 32, 252, 177, 91, 106, 203, 190, 57, 74, 76, 88, 207, 208, 239, 170, 251, 67, 77, 51, 133, 69, 249, 2, 127, 80, 60, 159, 168, 81, 163, 64, 143, 146, 157, 56, 245, 188, 182, 218, 33, 16, 255, 243, 210]).append (([205, 12, 19, 236, 95, 151, 68, 23, 196, 167, 126, 61, 100, 93, 25, 115, 96, 129, 79, 220, 34, 42, 144, 136, 70, 238, 184, 20, 222, 94, 11, 219, 224, 50, 58, 10, 73, 6, 36, 92, 194, 211, 172, 98, 145, 149, 228, 121, 231, 200, 55, 109, 141, 213, 78, 169, 108, 86, 244, 234, 101, 122, 174, 8] : List UInt8).append [186, 120, 37, 46, 28, 166, 180, 198, 232, 221, 116, 31, 75, 189, 139, 138, 112, 62, 181, 102, 72, 3, 246, 14, 97, 53, 87, 185, 134, 193, 29, 158, 225, 248, 152, 17, 105, 217, 142, 148, 155, 30, 135, 233, 206, 85, 40, 223, 140, 161, 137, 13, 191, 230, 66, 104, 65, 153, 45, 15, 176, 84, 187, 22])))[x.toNat]? = some (UInt8.ofBitVec (bx x)) := by
  have all : ∀ n : Fin 256, (((([99, 124, 119, 123, 242, 107, 111, 197, 48, 1, 103, 43, 254, 215, 171, 118, 202, 130, 201, 125, 250, 89, 71, 240, 173, 212, 162, 175, 156, 164, 114, 192, 183, 253, 147, 38, 54, 63, 247, 204, 52, 165, 229, 241, 113, 216, 49, 21, 4, 199, 35, 195, 24, 150, 5, 154, 7, 18, 128, 226, 235, 39, 178, 117] : List UInt8).append [9, 131, 44, 26, 27, 110, 90, 160, 82, 59, 214, 179, 41, 227, 47, 132, 83, 209, 0, 237, 32, 252, 177, 91, 106, 203, 190, 57, 74, 76, 88, 207, 208, 239, 170, 251, 67, 77, 51, 133, 69, 249, 2, 127, 80, 60, 159, 168, 81, 163, 64, 143, 146, 157, 56, 245, 188, 182, 218, 33, 16, 255, 243, 210]).append (([205, 12, 19, 236, 95, 151, 68, 23, 196, 167, 126, 61, 100, 93, 25, 115, 96, 129, 79, 220, 34, 42, 144, 136, 70, 238, 184, 20, 222, 94, 11, 219, 224, 50, 58, 10, 73, 6, 36, 92, 194, 211, 172, 98, 145, 149, 228, 121, 231, 200, 55, 109, 141, 213, 78, 169, 108, 86, 244, 234, 101, 122, 174, 8] : List UInt8).append [186, 120, 37, 46, 28, 166, 180, 198, 232, 221, 116, 31, 75, 189, 139, 138, 112, 62, 181, 102, 72, 3, 246, 14, 97, 53, 87, 185, 134, 193, 29, 158, 225, 248, 152, 17, 105, 217, 142, 148, 155, 30, 135, 233, 206, 85, 40, 223, 140, 161, 137, 13, 191, 230, 66, 104, 65, 153, 45, 15, 176, 84, 187, 22])))[n.val]? = some (UInt8.ofBitVec (bx (BitVec.ofFin n))) := by decide +kernel
  exact all ⟨x.toNat, x.isLt⟩
theorem u8bv (x : BitVec 8) : (UInt8.ofBitVec x).toNat = x.toNat := rfl
def pf154 : List AV → Option AV
  | [v] => (num? .u8 8 v).bind fun x => some (.raw (.int .u8 ((bx x).toNat : Int)))
  | _ => none
theorem sound154 : SoundV Tryd.prog glob 154 pf154 := by
  refine SoundV.walk E0 ok0 mixed Tryd.func154 rfl Tryd.call154 (by kernel_rfl) ?_
  intro args r hr
  unfold pf154 at hr
  split at hr
  · simp only [Option.bind_eq_some_iff] at hr
    obtain ⟨x, h1, hr⟩ := hr
    cases hr
    rw [num?_of h1, Tryd.ntmps154, Tryd.results154]
    refine ⟨by simp, ?_⟩
    have hx := x.isLt
    simp (maxSteps := 1000000) (disch := first | omega | (simp only [nums_len, lnB] <;> omega) | fail) only [ev0, ev1, ev2, ev3, ↓reduceIte, reduceCtorEq, Nat.reduceAdd, Nat.reduceSub, Nat.reduceMul, Nat.reduceLT, Nat.reduceLeDiff, Nat.reduceEqDiff, Nat.reduceBEq, BitVec.reduceOfInt, Int.reduceLE, Int.reduceLT, Int.reduceGT, Int.reduceGE, Int.reduceNeg, Int.reduceAdd, Int.reduceSub, Int.reduceMul, Int.reduceToNat, ↓bind_go, ↓map_go, wantedV, isWrite, grow, write, ofV, AV.cells, Abs.start, Abs.strip, endQ, resV, rawsRes, rawRes, exports, export1, AS.grown, AS.put, Env.know, Env.boxed, isSelf, convSelf, convV, loadV, storeV, fieldAddrV, fieldV, indexAddrV, indexV, partV, isAggK, isStr, place, ipS, lenV, min2V, makeV, freshSl, sliceV, boundOr, bound, bounds, cutFl, copyV, slCells, srcV, appendV, room, zerosOf, eqNeg, kd, takeR, hasViewL, hasView, freshR, freshC, snapAll, snap, snapL, flatL, pureL, pureA, fillC, arrOK, oneA, partB, AV.laid, ren1, CR.gr, applyW, useL, AS.mute, isGen, startG, ev5, tbUa0, glob, box8, u8bv]
    exact ResQ.same rfl
  · cases hr
end Go.Proofs.YtddeffdgldjdjaaDoor
