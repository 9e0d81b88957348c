/- An entry is read: what the walk comes to. -/
import Derived.Test.YtddeffdgldjdjaaDoorMf
namespace Go.Proofs.YtddeffdgldjdjaaDoor.W
set_option linter.unusedSimpArgs false
set_option linter.unusedVariables false
set_option linter.defProp false
open Go Go.Abs
set_option maxHeartbeats 8000000
noncomputable def EZ : Env:=(((EY.knowG 160 gf160).knowG 161 gf161).knowG 162 gf162).knowG 163 gf163
theorem okZ : EnvOK Tryd.prog EZ:=(((okY.knowG sound160).knowG sound161).knowG sound162).knowG sound163
theorem EZ_te : EZ.te = te:=rfl
theorem EZ_glob : EZ.glob = glob:=rfl
theorem EZ_gs : EZ.gs = [163,162,161,160,164]:=rfl
theorem EZ_dyn : EZ.dyn = true:=rfl
theorem EZ_mu (d : Nat) : EZ.mu d = false:=rfl
theorem EZ_n : EZ.tbl 160 = some (.gen gf160):=rfl
theorem EZ_t : EZ.tbl 161 = some (.gen gf161):=rfl
theorem EZ_l : EZ.tbl 162 = some (.gen gf162):=rfl
theorem EZ_w : EZ.tbl 163 = some (.gen gf163):=rfl
theorem rS_le (p : List (BitVec 8) × Int) : (rS p).1.length ≤ p.1.length:=by
  unfold rS; split
  · exact tkR_le _
  · exact Nat.le_refl _
theorem ttR_le (b : List (BitVec 8)) (m : Int) : (ttR b m).length ≤ b.length:=by
  have:=tkR_le b
  unfold ttR; split
  · rw [List.length_drop]; omega
  · simp
theorem tS_le (p : List (BitVec 8) × Int) : (tS p).1.length ≤ p.1.length:=by
  unfold tS; split
  · exact ttR_le _ _
  · exact Nat.le_refl _
def q1 (b : List (BitVec 8)):=rS (b,0)
def q2 (b : List (BitVec 8)):=rS (q1 b)
def q3 (b : List (BitVec 8)):=rS (q2 b)
section
variable {b : List (BitVec 8)} {r c : Bx} {bx : Boxes} {us : Abs.Id→Bool}
theorem q1_is : rS (b,0) = q1 b:=rfl
theorem q2_is : rS (q1 b) = q2 b:=rfl
theorem q3_is : rS (q2 b) = q3 b:=rfl
theorem number_is : gf160 [.ptr r 0] bx us = (bx r).bind fun cs=>(rd? cs).bind fun p=>if p.1.length ≤ 150000000000000 then some { v:=.ret (.raw (.int .i64 (rN p))),wr:=[(r,rdA (rS p))] } else none:=rfl
theorem text_is : gf161 [.ptr r 0] bx us = (bx r).bind fun cs=>(rd? cs).bind fun p=>if p.1.length ≤ 150000000000000 then some { v:=.ret (.sl (tN p).length (nums .u8 (tN p)) .bor),wr:=[(r,rdA (tS p))] } else none:=rfl
theorem list_is : gf162 [.ptr r 0,.raw (.int .i64 7)] bx us = (bx r).bind fun cs=>(rd? cs).bind fun p=>if p.1.length ≤ 150000000000000 then some { v:=.ret (.sl (lN 7 p).length (ints .i64 (lN 7 p)) .bor),wr:=[(r,rdA (lS 7 p))] } else none:=by
  simp [gf162]
theorem wholeE_is {n : Nat} {fl : Fl} : gf163 [.ptr r 0,.sl n (nums .u8 b) fl,.fn 164 [.ptr c 0]] bx us = (row? .u8 8 (.sl n (nums .u8 b) fl)).bind fun b=>(bx r).bind fun cs=>(rd? cs).bind fun p=>(bx c).bind fun ds=>(wrE ds).bind fun w =>
    some { v:=.ret (.raw (.bool (decide (p.2 = 0) && (decide (w.2 = 0) && decide (w.1 = b))))) }:=rfl
theorem rd?_lit {n : Nat} {e : Int} (h : n = b.length) : rd? [.sl n (nums .u8 b) .bor,.raw (.int .i64 e)] = some (b,e):=by rw [h]; exact rd?_at (b,e)
theorem row?_b {n : Nat} {fl : Fl} (h : n = b.length) : row? .u8 8 (.sl n (nums .u8 b) fl) = some b:=row?_at h
theorem wrE_at {t k : Int} {d : List (BitVec 8)} {m : List Int} {x y : Nat} (hx : x = d.length) (hy : y = m.length) (hn : okN ⟨t,k,some d,some m⟩) : wrE [.raw (.int .i64 t),.raw (.int .i64 k),.sl x (nums .u8 d) .bor,.sl y (ints .i64 m) .bor] = some (entR ⟨t,k,some d,some m⟩):=by
  subst hx hy
  have:=ent?_at ⟨t,k,some d,some m⟩
  simp only [entA,btA,itA] at this
  simp only [wrE,this,Option.bind_some,if_pos hn]
end
theorem rdA_take (c : List (BitVec 8) × Int) : (rdA c).take 2 = rdA c:=rfl
theorem rdA_one (c : List (BitVec 8) × Int) : (rdA c).all oneA = true:=rfl
def e3 (b : List (BitVec 8)):=tS (q2 b)
def e4 (b : List (BitVec 8)):=lS 7 (e3 b)
theorem e3_is {b : List (BitVec 8)} : tS (q2 b) = e3 b:=rfl
theorem e4_is {b : List (BitVec 8)} : lS 7 (e3 b) = e4 b:=rfl
def entF (b : List (BitVec 8)) : Eny:=⟨rN (b,0),rN (q1 b),some (tN (q2 b)),some (lN 7 (e3 b))⟩
def noE : Eny:=⟨0,0,none,none⟩
def isE (b : List (BitVec 8)) : Bool:=decide ((e4 b).2 = 0) && (decide ((entR (entF b)).2 = 0) && decide ((entR (entF b)).1 = b))
def tnF (b : List (BitVec 8)) : Eny:=if isE b = true then entF b else noE
def tnE (b : List (BitVec 8)) : Int:=if isE b = true then 0 else 80
theorem tN_le (p : List (BitVec 8) × Int) : (tN p).length ≤ p.1.length:=by
  have:=tkR_le p.1
  unfold tN ttT; split
  · split
    · rw [List.length_take]; omega
    · simp
  · simp
theorem lN_ok (p : List (BitVec 8) × Int) : (lN 7 p).length ≤ 7 ∧ ∀ n ∈ lN 7 p,i64ok n:=by
  unfold lN; split
  · obtain ⟨h1,h2,h3⟩ := tlF_ok p.1 (tkN p.1)
    unfold tlL
    split
    · rename_i h
      refine ⟨?_,h3⟩
      unfold tlE at h
      split at h
      · omega
      · split at h
        · omega
        · omega
    · simp
  · simp
theorem entF_ok {b : List (BitVec 8)} (h : b.length ≤ 150000000000000) : okN (entF b):=by
  have l1 : (q1 b).1.length ≤ b.length:=rS_le _
  have l2 : (q2 b).1.length ≤ (q1 b).1.length:=rS_le _
  have l3:=tN_le (q2 b)
  obtain ⟨h1,h2⟩:=lN_ok (e3 b)
  exact ⟨by simp only [entF,dat]; omega,by simp only [entF,idat]; omega,h2⟩
noncomputable def pf144 : List AV → Option AV
  | [v]=>(row? .u8 8 v).bind fun b=>if b.length ≤ 150000000000000 then some (.tup [.agg (entA (tnF b)),.raw (.int .i64 (tnE b))]) else none
  | _=>none
def tbMg0:=(And.intro (And.intro (And.intro (And.intro (And.intro @teE (And.intro @entA_strip @entA_snap)) (And.intro @entA_noview (And.intro @entA_take @entA_one))) (And.intro (And.intro @dropE (And.intro @zeroE @splice_ent)) (And.intro @splice_ent' (And.intro @entA_len @rep1)))) (And.intro (And.intro (And.intro @rep2 (And.intro @rep3 @rep5)) (And.intro @one_le (And.intro @le2 @le3))) (And.intro (And.intro @le5 (And.intro @dr1 @dr2)) (And.intro @dr3 (And.intro @dr5 @EZ_te))))) (And.intro (And.intro (And.intro (And.intro @EZ_glob (And.intro @EZ_gs @EZ_dyn)) (And.intro @EZ_mu (And.intro @EZ_n @EZ_t))) (And.intro (And.intro @EZ_l (And.intro @EZ_w @ev4)) (And.intro @number_is (And.intro @text_is @list_is)))) (And.intro (And.intro (And.intro @wholeE_is (And.intro @wrE_at @rdA_len)) (And.intro @rdA_0 (And.intro @rdA_1 @rdA_ren))) (And.intro (And.intro @q1_is (And.intro @q2_is @q3_is)) (And.intro (And.intro @zz0 @zz1) (And.intro @rdA_take @rdA_one))))))
set_option maxRecDepth 4000 in
theorem sound144 : SoundV Tryd.prog glob 144 pf144:=by
  refine SoundV.walk EZ okZ mixed Tryd.func144 rfl Tryd.call144 (by kernel_rfl) ?_
  intro args r hr
  unfold pf144 at hr
  split at hr
  · simp only [Option.bind_eq_some_iff] at hr
    obtain ⟨b,h1,hr⟩:=hr
    split at hr
    · rename_i hc
      cases hr
      obtain ⟨fl,rfl⟩:=row?_of h1
      rw [Tryd.ntmps144,Tryd.results144]
      refine ⟨by simp,?_⟩
      have l1 : (q1 b).1.length ≤ b.length:=rS_le _
      have l2 : (q2 b).1.length ≤ (q1 b).1.length:=rS_le _
      have l3 : (e3 b).1.length ≤ (q2 b).1.length:=tS_le _
      have m1:=eq_true (show (q1 b).1.length ≤ 150000000000000 by omega)
      have m2:=eq_true (show (q2 b).1.length ≤ 150000000000000 by omega)
      have m3:=eq_true (show (e3 b).1.length ≤ 150000000000000 by omega)
      have m0:=eq_true hc
      have hw:=wrE_at (t:=rN (b,0)) (k:=rN (q1 b)) (d:=tN (q2 b)) (m:=lN 7 (e3 b)) rfl rfl (entF_ok hc)
      have hi : (decide ((e4 b).2 = 0) && (decide ((entR ⟨rN (b,0),rN (q1 b),some (tN (q2 b)),some (lN 7 (e3 b))⟩).2 = 0) && decide ((entR ⟨rN (b,0),rN (q1 b),some (tN (q2 b)),some (lN 7 (e3 b))⟩).1 = b))) = isE b:=rfl
      cases h : isE b
      · rw [h] at hi
        rw [show tnF b = noE by rw [tnF,h]; rfl,show tnE b = 80 by rw [tnE,h]; rfl]
        simp (maxSteps:=1000000) (disch:=first | omega | assumption | (simp only [updB,dsB,reduceCtorEq,Nat.reduceEqDiff, *]; done) | (simp only [lnB] <;> omega) | fail) only [ev0,ev1,ev2,ev3,↓reduceIte,reduceCtorEq,Nat.reduceAdd,Nat.reduceSub,Nat.reduceMul,Nat.reduceLT,Nat.reduceLeDiff,Nat.reduceEqDiff,Nat.reduceBEq,BitVec.reduceOfInt,Int.reduceLE,Int.reduceLT,Int.reduceGT,Int.reduceGE,Int.reduceNeg,Int.reduceAdd,Int.reduceSub,Int.reduceMul,Int.reduceToNat,↓bind_go,↓map_go,wantedV,isWrite,grow,write,ofV,AV.cells,Abs.start,Abs.strip,endQ,resV,rawsRes,rawRes,exports,export1,AS.grown,AS.put,Env.know,Env.boxed,isSelf,convSelf,convV,loadV,storeV,fieldAddrV,fieldV,indexAddrV,indexV,partV,isAggK,isStr,place,ipS,lenV,min2V,makeV,freshSl,sliceV,boundOr,bound,bounds,cutFl,copyV,slCells,srcV,appendV,room,zerosOf,eqNeg,kd,takeR,hasViewL,hasView,freshR,freshC,snapAll,snap,snapL,flatL,pureL,pureA,fillC,arrOK,oneA,partB,AV.laid,ren1,CR.gr,applyW,useL,AS.mute,isGen,startG,ev5,tbMg0,List.map_nil,List.all_nil,List.drop_zero,glob,rd?_at,rd?_lit,row?_b,List.size_toArray,Array.size_empty,List.length_nil,Int.reduceBEq,Int.reduceBNe,beq_self_eq_true,Bx.own.injEq,ne_eq,and_false,false_and,and_true,true_and,not_false_eq_true,Bool.not_true,Bool.not_false,m0,m1,m2,m3,hw,hi,e3_is,e4_is]
        exact ResQ.same rfl
      · rw [h] at hi
        rw [show tnF b = entF b by rw [tnF,h]; rfl,show tnE b = 0 by rw [tnE,h]; rfl]
        simp (maxSteps:=1000000) (disch:=first | omega | assumption | (simp only [updB,dsB,reduceCtorEq,Nat.reduceEqDiff, *]; done) | (simp only [lnB] <;> omega) | fail) only [ev0,ev1,ev2,ev3,↓reduceIte,reduceCtorEq,Nat.reduceAdd,Nat.reduceSub,Nat.reduceMul,Nat.reduceLT,Nat.reduceLeDiff,Nat.reduceEqDiff,Nat.reduceBEq,BitVec.reduceOfInt,Int.reduceLE,Int.reduceLT,Int.reduceGT,Int.reduceGE,Int.reduceNeg,Int.reduceAdd,Int.reduceSub,Int.reduceMul,Int.reduceToNat,↓bind_go,↓map_go,wantedV,isWrite,grow,write,ofV,AV.cells,Abs.start,Abs.strip,endQ,resV,rawsRes,rawRes,exports,export1,AS.grown,AS.put,Env.know,Env.boxed,isSelf,convSelf,convV,loadV,storeV,fieldAddrV,fieldV,indexAddrV,indexV,partV,isAggK,isStr,place,ipS,lenV,min2V,makeV,freshSl,sliceV,boundOr,bound,bounds,cutFl,copyV,slCells,srcV,appendV,room,zerosOf,eqNeg,kd,takeR,hasViewL,hasView,freshR,freshC,snapAll,snap,snapL,flatL,pureL,pureA,fillC,arrOK,oneA,partB,AV.laid,ren1,CR.gr,applyW,useL,AS.mute,isGen,startG,ev5,tbMg0,List.map_nil,List.all_nil,List.drop_zero,glob,rd?_at,rd?_lit,row?_b,List.size_toArray,Array.size_empty,List.length_nil,Int.reduceBEq,Int.reduceBNe,beq_self_eq_true,Bx.own.injEq,ne_eq,and_false,false_and,and_true,true_and,not_false_eq_true,Bool.not_true,Bool.not_false,m0,m1,m2,m3,hw,hi,e3_is,e4_is]
        exact ResQ.same rfl
    · cases hr
  · cases hr
end Go.Proofs.YtddeffdgldjdjaaDoor.W
