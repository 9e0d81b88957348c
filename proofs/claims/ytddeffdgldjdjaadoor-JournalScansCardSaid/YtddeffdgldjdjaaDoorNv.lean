/- What the document reads as a record: what the walk comes to. -/
import Derived.Test.YtddeffdgldjdjaaDoorMl
import Derived.Test.YtddeffdgldjdjaaDoorNt
namespace Go.Proofs.YtddeffdgldjdjaaDoor.W
set_option linter.unusedSimpArgs false
set_option linter.unusedVariables false
set_option linter.defProp false
open Go Go.Abs
set_option maxHeartbeats 16000000
def refX (b : List (BitVec 8)) : Rec :=
  if tkN b = 1 then ⟨1,0,0,0,tkN (tkR b),tkN (tkR (tkR b)),noE⟩
  else if tkN b = 2 then ⟨2,tkN (tkR b),0,0,0,0,tnF (ttT (tkR (tkR b)) 4096)⟩
  else if tkN b = 3 then ⟨3,tkN (tkR b),tkN (tkR (tkR b)),tkN (tkR (tkR (tkR b))),0,0,noE⟩
  else ⟨tkN b,0,0,0,0,0,noE⟩
theorem refX_ok {b : List (BitVec 8)} (hl : b.length ≤ 150000000000000) : recOK (refX b):=by
  have n0 : okN noE:=by unfold okN noE; simp [dat,idat]
  have t0 : ∀ c,i64ok (tkN c : Int):=fun c=>by have:=tkN_lt c; unfold i64ok; omega
  have z0 : i64ok 0:=by unfold i64ok; omega
  have l1:=tkR_le b
  have l2:=tkR_le (tkR b)
  have l3:=ttT_le (tkR (tkR b)) 4096
  have o1 : i64ok 1:=by unfold i64ok; omega
  have o2 : i64ok 2:=by unfold i64ok; omega
  have o3 : i64ok 3:=by unfold i64ok; omega
  unfold refX
  split
  · exact ⟨n0,o1,z0,z0,z0,t0 _,t0 _⟩
  · split
    · refine ⟨?_,o2,t0 _,z0,z0,z0,z0⟩
      show okN (tnF _)
      unfold tnF
      split
      · exact entF_ok (by omega)
      · exact n0
    · split
      · exact ⟨n0,o3,t0 _,t0 _,t0 _,z0,z0⟩
      · exact ⟨n0,t0 _,z0,z0,z0,z0,z0⟩
noncomputable def ERO : Env:=((ES0.know 147 (fun xs=>pf165 (xs.map norm))).know 120 (fun xs=>pf145 (xs.map norm))).know 148 pf144
theorem okRO : EnvOK Tryd.prog ERO:=((okS0.know (liftS sound147.norm)).know (liftS sound120.norm)).know (liftS sound148)
theorem ERO_te : ERO.te = te:=rfl
theorem ERO_glob : ERO.glob = globS:=rfl
theorem ERO_gs : ERO.gs = []:=rfl
theorem ERO_dyn : ERO.dyn = false:=rfl
theorem ERO_mu (d : Nat) : ERO.mu d = false:=rfl
theorem ERO_t : ERO.tbl 147 = some (.val (fun xs=>pf165 (xs.map norm))):=rfl
theorem ERO_x : ERO.tbl 120 = some (.val (fun xs=>pf145 (xs.map norm))):=rfl
theorem ERO_e : ERO.tbl 148 = some (.val pf144):=rfl
noncomputable def pf121 : List AV → Option AV
  | [v]=>(row? .u8 8 v).bind fun b=>if b.length ≤ 150000000000000 then some (.agg (recA (refX b))) else none
  | _=>none
theorem pf121_at {n : Nat} {b : List (BitVec 8)} {fl : Fl} (h : n = b.length) (hl : b.length ≤ 150000000000000) : pf121 [.sl n (nums .u8 b) fl] = some (.agg (recA (refX b))):=by
  simp only [pf121,row?_at h,Option.bind_some,if_pos hl]
theorem ok4K : i64ok 4096:=by unfold i64ok; omega
theorem spl10 (a b c d f g h i j k : AV) (e : Eny) : splice [a,b,c,d,f,g,h,i,j,k] 6 (entA e) = a :: b :: c :: d :: f :: g :: entA e:=by simp [splice,entA]
theorem spl4 (a b c d e f g h i j k l : AV) : splice [a,b,c,d,e,f,g,h,i,j] 4 [k,l] = [a,b,c,d,k,l,g,h,i,j]:=rfl
theorem recA_pureL (r : Rec) : pureL (recA r) = true:=by have:=recA_pure r; simpa only [pureA] using this
theorem toRec (k i t n h v : Int) (e : Eny) : AV.raw (.int .i64 k) :: .raw (.int .i64 i) :: .raw (.int .i64 t) :: .raw (.int .i64 n) :: .raw (.int .i64 h) :: .raw (.int .i64 v) :: entA e = recA ⟨k,i,t,n,h,v,e⟩:=rfl
def tbNv0:=(And.intro (And.intro (And.intro (And.intro (And.intro @teE @spl10) (And.intro @spl4 @ERO_te)) (And.intro (And.intro @ERO_glob @ERO_gs) (And.intro @ERO_dyn @ERO_mu))) (And.intro (And.intro (And.intro @ERO_t @ERO_x) (And.intro @ERO_e @ev4)) (And.intro (And.intro @zz0 @zz1) (And.intro @zeroRec (And.intro @take_at @ttake_at))))) (And.intro (And.intro (And.intro (And.intro @tke_at @entA_strip) (And.intro @entA_len @entA_one)) (And.intro (And.intro @entA_take @entA_snap) (And.intro @entA_noview (And.intro @recA_len @recA_take)))) (And.intro (And.intro (And.intro @recA_drop @recA_snap) (And.intro @recA_noview @recA_strip)) (And.intro (And.intro @recA_oneA @splice_rec) (And.intro @recA_pureL (And.intro @dropE @rep_zeroN))))))
theorem sound121 : SoundV Tryd.prog globS 121 pf121:=by
  refine SoundV.walk ERO okRO mixed Tryd.func121 rfl Tryd.call121 (by kernel_rfl) ?_
  intro args r hr
  unfold pf121 at hr
  split at hr
  · simp only [Option.bind_eq_some_iff] at hr
    obtain ⟨b,h1,hr⟩:=hr
    split at hr
    · rename_i hc
      cases hr
      obtain ⟨fl,rfl⟩:=row?_of h1
      rw [Tryd.ntmps121,Tryd.results121]
      refine ⟨by simp,?_⟩
      have l1:=tkR_le b
      have l2:=tkR_le (tkR b)
      have l3:=tkR_le (tkR (tkR b))
      have l4:=ttT_le (tkR (tkR b)) 4096
      by_cases c1 : tkN b = 1
      · have d1 : ((tkN b : Nat) : Int) = 1 := by rw [c1]; rfl
        rw [refX,if_pos c1]
        simp (maxSteps:=1000000) (disch:=first | omega | exact ok4K | (simp only [digF_len,putK_len,putB_len,shaB_lenW,lnB] <;> omega) | fail) only [ev0,ev1,ev2,ev3,↓reduceIte,reduceCtorEq,Nat.reduceAdd,Nat.reduceSub,Nat.reduceMul,Nat.reduceLT,Nat.reduceLeDiff,Nat.reduceEqDiff,Nat.reduceBEq,BitVec.reduceOfInt,Int.reduceLE,Int.reduceLT,Int.reduceGT,Int.reduceGE,Int.reduceNeg,Int.reduceAdd,Int.reduceSub,Int.reduceMul,Int.reduceToNat,↓bind_go,↓map_go,wantedV,isWrite,grow,write,ofV,AV.cells,Abs.start,Abs.strip,endQ,resV,rawsRes,rawRes,exports,export1,AS.grown,AS.put,Env.know,Env.boxed,isSelf,convSelf,convV,loadV,storeV,fieldAddrV,fieldV,indexAddrV,indexV,partV,isAggK,isStr,place,ipS,lenV,min2V,makeV,freshSl,sliceV,boundOr,bound,bounds,cutFl,copyV,slCells,srcV,appendV,room,zerosOf,eqNeg,kd,takeR,hasViewL,hasView,freshR,freshC,snapAll,snap,snapL,flatL,pureL,pureA,fillC,arrOK,oneA,partB,AV.laid,ren1,CR.gr,applyW,useL,AS.mute,isGen,startG,ev5,tbNv0,globS,List.drop_zero,List.map_cons,List.map_nil,List.all_nil,List.size_toArray,Array.size_empty,List.length_nil,List.length_cons,Int.reduceBEq,Int.reduceBNe,beq_self_eq_true,d1]
        exact ResQ.same rfl
      have d1 : ((tkN b : Int) == 1) = false:=beq_eq_false_iff_ne.2 (by omega)
      by_cases c2 : tkN b = 2
      · have d2 : ((tkN b : Nat) : Int) = 2 := by rw [c2]; rfl
        rw [refX,if_neg c1,if_pos c2]
        simp (maxSteps:=1000000) (disch:=first | omega | exact ok4K | (simp only [digF_len,putK_len,putB_len,shaB_lenW,lnB] <;> omega) | fail) only [ev0,ev1,ev2,ev3,↓reduceIte,reduceCtorEq,Nat.reduceAdd,Nat.reduceSub,Nat.reduceMul,Nat.reduceLT,Nat.reduceLeDiff,Nat.reduceEqDiff,Nat.reduceBEq,BitVec.reduceOfInt,Int.reduceLE,Int.reduceLT,Int.reduceGT,Int.reduceGE,Int.reduceNeg,Int.reduceAdd,Int.reduceSub,Int.reduceMul,Int.reduceToNat,↓bind_go,↓map_go,wantedV,isWrite,grow,write,ofV,AV.cells,Abs.start,Abs.strip,endQ,resV,rawsRes,rawRes,exports,export1,AS.grown,AS.put,Env.know,Env.boxed,isSelf,convSelf,convV,loadV,storeV,fieldAddrV,fieldV,indexAddrV,indexV,partV,isAggK,isStr,place,ipS,lenV,min2V,makeV,freshSl,sliceV,boundOr,bound,bounds,cutFl,copyV,slCells,srcV,appendV,room,zerosOf,eqNeg,kd,takeR,hasViewL,hasView,freshR,freshC,snapAll,snap,snapL,flatL,pureL,pureA,fillC,arrOK,oneA,partB,AV.laid,ren1,CR.gr,applyW,useL,AS.mute,isGen,startG,ev5,tbNv0,globS,List.drop_zero,List.map_cons,List.map_nil,List.all_nil,List.size_toArray,Array.size_empty,List.length_nil,List.length_cons,Int.reduceBEq,Int.reduceBNe,beq_self_eq_true,d2,toRec]
        exact ResQ.same rfl
      have d2 : ((tkN b : Int) == 2) = false:=beq_eq_false_iff_ne.2 (by omega)
      by_cases c3 : tkN b = 3
      · have d3 : ((tkN b : Nat) : Int) = 3 := by rw [c3]; rfl
        rw [refX,if_neg c1,if_neg c2,if_pos c3]
        simp (maxSteps:=1000000) (disch:=first | omega | exact ok4K | (simp only [digF_len,putK_len,putB_len,shaB_lenW,lnB] <;> omega) | fail) only [ev0,ev1,ev2,ev3,↓reduceIte,reduceCtorEq,Nat.reduceAdd,Nat.reduceSub,Nat.reduceMul,Nat.reduceLT,Nat.reduceLeDiff,Nat.reduceEqDiff,Nat.reduceBEq,BitVec.reduceOfInt,Int.reduceLE,Int.reduceLT,Int.reduceGT,Int.reduceGE,Int.reduceNeg,Int.reduceAdd,Int.reduceSub,Int.reduceMul,Int.reduceToNat,↓bind_go,↓map_go,wantedV,isWrite,grow,write,ofV,AV.cells,Abs.start,Abs.strip,endQ,resV,rawsRes,rawRes,exports,export1,AS.grown,AS.put,Env.know,Env.boxed,isSelf,convSelf,convV,loadV,storeV,fieldAddrV,fieldV,indexAddrV,indexV,partV,isAggK,isStr,place,ipS,lenV,min2V,makeV,freshSl,sliceV,boundOr,bound,bounds,cutFl,copyV,slCells,srcV,appendV,room,zerosOf,eqNeg,kd,takeR,hasViewL,hasView,freshR,freshC,snapAll,snap,snapL,flatL,pureL,pureA,fillC,arrOK,oneA,partB,AV.laid,ren1,CR.gr,applyW,useL,AS.mute,isGen,startG,ev5,tbNv0,globS,List.drop_zero,List.map_cons,List.map_nil,List.all_nil,List.size_toArray,Array.size_empty,List.length_nil,List.length_cons,Int.reduceBEq,Int.reduceBNe,beq_self_eq_true,d3]
        exact ResQ.same rfl
      have d3 : ((tkN b : Int) == 3) = false:=beq_eq_false_iff_ne.2 (by omega)
      rw [refX,if_neg c1,if_neg c2,if_neg c3]
      simp (maxSteps:=1000000) (disch:=first | omega | exact ok4K | (simp only [digF_len,putK_len,putB_len,shaB_lenW,lnB] <;> omega) | fail) only [ev0,ev1,ev2,ev3,↓reduceIte,reduceCtorEq,Nat.reduceAdd,Nat.reduceSub,Nat.reduceMul,Nat.reduceLT,Nat.reduceLeDiff,Nat.reduceEqDiff,Nat.reduceBEq,BitVec.reduceOfInt,Int.reduceLE,Int.reduceLT,Int.reduceGT,Int.reduceGE,Int.reduceNeg,Int.reduceAdd,Int.reduceSub,Int.reduceMul,Int.reduceToNat,↓bind_go,↓map_go,wantedV,isWrite,grow,write,ofV,AV.cells,Abs.start,Abs.strip,endQ,resV,rawsRes,rawRes,exports,export1,AS.grown,AS.put,Env.know,Env.boxed,isSelf,convSelf,convV,loadV,storeV,fieldAddrV,fieldV,indexAddrV,indexV,partV,isAggK,isStr,place,ipS,lenV,min2V,makeV,freshSl,sliceV,boundOr,bound,bounds,cutFl,copyV,slCells,srcV,appendV,room,zerosOf,eqNeg,kd,takeR,hasViewL,hasView,freshR,freshC,snapAll,snap,snapL,flatL,pureL,pureA,fillC,arrOK,oneA,partB,AV.laid,ren1,CR.gr,applyW,useL,AS.mute,isGen,startG,ev5,tbNv0,globS,List.drop_zero,List.map_cons,List.map_nil,List.all_nil,List.size_toArray,Array.size_empty,List.length_nil,List.length_cons,Int.reduceBEq,Int.reduceBNe,beq_self_eq_true,d1,d2,d3]
      exact ResQ.same rfl
    · cases hr
  · cases hr
end Go.Proofs.YtddeffdgldjdjaaDoor.W
