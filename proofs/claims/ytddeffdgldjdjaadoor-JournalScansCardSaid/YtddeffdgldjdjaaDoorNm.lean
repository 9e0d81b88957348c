/- The document's examples of records: what the walks come to. -/
import Derived.Test.YtddeffdgldjdjaaDoorNk
namespace Go.Proofs.YtddeffdgldjdjaaDoor.W
set_option linter.unusedSimpArgs false
set_option linter.unusedVariables false
set_option linter.defProp false
open Go Go.Abs
set_option maxHeartbeats 16000000
def entR' (i t : Int) : Rec:=⟨2,i,0,0,0,0,⟨t,0,none,none⟩⟩
def pf57 : List AV → Option AV
  | [v,w]=>(int? v).bind fun i=>(int? w).bind fun t=>some (.agg (recA (entR' i t)))
  | _=>none
theorem pf57_at {i t : Int} : pf57 [.raw (.int .i64 i),.raw (.int .i64 t)] = some (.agg (recA (entR' i t))):=rfl
theorem splice_6 (a b c d e f g h i j k l m n : AV) : splice [a,b,c,d,e,f,g,h,i,j] 6 [k,l,m,n] = [a,b,c,d,e,f,k,l,m,n]:=rfl
theorem splice_4 (a b c d e f g h i j k l : AV) : splice [a,b,c,d,e,f,g,h,i,j] 4 [k,l] = [a,b,c,d,k,l,g,h,i,j]:=rfl
theorem sound57 : SoundV Tryd.prog globS 57 pf57:=by
  refine SoundV.walk ES0 okS0 mixed Tryd.func57 rfl Tryd.call57 (by kernel_rfl) ?_
  intro args r hr
  unfold pf57 at hr
  split at hr
  · simp only [Option.bind_eq_some_iff] at hr
    obtain ⟨i,h1,t,h2,hr⟩:=hr
    cases hr
    rw [int?_of h1,int?_of h2,Tryd.ntmps57,Tryd.results57]
    refine ⟨by simp,?_⟩
    simp (maxSteps:=1000000) (disch:=first | omega | (simp only [nums_len,lnB] <;> omega) | fail) only [ev0,ev1,ev2,ev3,↓reduceIte,reduceCtorEq,Nat.reduceAdd,Nat.reduceSub,Nat.reduceMul,Nat.reduceLT,Nat.reduceLeDiff,Nat.reduceEqDiff,Nat.reduceBEq,BitVec.reduceOfInt,Int.reduceLE,Int.reduceLT,Int.reduceGT,Int.reduceGE,Int.reduceNeg,Int.reduceAdd,Int.reduceSub,Int.reduceMul,Int.reduceToNat,↓bind_go,↓map_go,wantedV,isWrite,grow,write,ofV,AV.cells,Abs.start,Abs.strip,endQ,resV,rawsRes,rawRes,exports,export1,AS.grown,AS.put,Env.know,Env.boxed,isSelf,convSelf,convV,loadV,storeV,fieldAddrV,fieldV,indexAddrV,indexV,partV,isAggK,isStr,place,ipS,lenV,min2V,makeV,freshSl,sliceV,boundOr,bound,bounds,cutFl,copyV,slCells,srcV,appendV,room,zerosOf,eqNeg,kd,takeR,hasViewL,hasView,freshR,freshC,snapAll,snap,snapL,flatL,pureL,pureA,fillC,arrOK,oneA,partB,AV.laid,ren1,CR.gr,applyW,useL,AS.mute,isGen,startG,ev5,teE,splice_6,ES0_te,ES0_glob,ES0_gs,ES0_dyn,ES0_mu,globS,ev4,zeroRec,List.size_toArray,Array.size_empty,List.length_nil]
    exact ResQ.same rfl
  · cases hr
def shR : Rec:=⟨1,0,0,0,3,1,noE⟩
def shA : List (BitVec 8):=[1#8,6#8,1#8,1#8,1#8,3#8,1#8,1#8,83#8,37#8,203#8,30#8]
def shB : List (BitVec 8):=[1#8,11#8,1#8,2#8,1#8,1#8,1#8,5#8,1#8,1#8,0#8,0#8,0#8,95#8,86#8,76#8,218#8]
theorem shA_is : putF shR = (shA,0):=by decide +kernel
theorem shB_is : putF (entR' 1 1) = (shB,0):=by decide +kernel
def shX : List (BitVec 8):=shA ++ shB.take 16
theorem shX_n : (scanF oneS shX).2 = 12:=by decide +kernel
theorem shX_l : (scanF oneS shX).1.length = 1:=by decide +kernel
theorem shX_h : ((scanF oneS shX).1.getD 0 noRec).h = 3:=by decide +kernel
theorem put_at' {k i t n h v a b : Int} (hk : recOK ⟨k,i,t,n,h,v,⟨a,b,none,none⟩⟩) : pf48 [.agg [.raw (.int .i64 k),.raw (.int .i64 i),.raw (.int .i64 t),.raw (.int .i64 n),.raw (.int .i64 h),.raw (.int .i64 v),.raw (.int .i64 a),.raw (.int .i64 b),.raw (.slice none 0 0),.raw (.slice none 0 0)]] =
    some (.tup [.sl (putF ⟨k,i,t,n,h,v,⟨a,b,none,none⟩⟩).1.length (nums .u8 (putF ⟨k,i,t,n,h,v,⟨a,b,none,none⟩⟩).1) .bor,.raw (.int .i64 (putF ⟨k,i,t,n,h,v,⟨a,b,none,none⟩⟩).2)]):=put_at hk
theorem okE0 (a b : Int) : okN ⟨a,b,none,none⟩:=by unfold okN; simp [dat,idat]
theorem shA_at : pf48 [.agg [.raw (.int .i64 1),.raw (.int .i64 0),.raw (.int .i64 0),.raw (.int .i64 0),.raw (.int .i64 3),.raw (.int .i64 1),.raw (.int .i64 0),.raw (.int .i64 0),.raw (.slice none 0 0),.raw (.slice none 0 0)]] =
    some (.tup [.sl 12 (nums .u8 shA) .bor,.raw (.int .i64 0)]):=by
  rw [put_at' ⟨okE0 _ _,by unfold i64ok; dsimp only; omega,by unfold i64ok; dsimp only; omega,by unfold i64ok; dsimp only; omega,by unfold i64ok; dsimp only; omega,by unfold i64ok; dsimp only; omega,by unfold i64ok; dsimp only; omega⟩]
  rw [show putF ⟨1,0,0,0,3,1,⟨0,0,none,none⟩⟩ = (shA,0) from shA_is]
  rfl
theorem shB_at : pf48 [.agg (recA (entR' 1 1))] = some (.tup [.sl 17 (nums .u8 shB) .bor,.raw (.int .i64 0)]):=by
  rw [put_at ⟨okE0 _ _,by unfold i64ok; dsimp only [entR']; omega,by unfold i64ok; dsimp only [entR']; omega,by unfold i64ok; dsimp only [entR']; omega,by unfold i64ok; dsimp only [entR']; omega,by unfold i64ok; dsimp only [entR']; omega,by unfold i64ok; dsimp only [entR']; omega⟩,shB_is]
  rfl
theorem shA_len : shA.length = 12:=by decide
theorem shB_len : shB.length = 17:=by decide
theorem scan_at {n : Nat} {b : List (BitVec 8)} {fl : Fl} (h : n = b.length) (hl : b.length ≤ 1000000000000) : pf50 [.sl n (nums .u8 b) fl] = some (.tup [.sl (scanF oneS b).1.length (recsA (scanF oneS b).1) .bor,.raw (.int .i64 (scanF oneS b).2)]):=by
  simp only [pf50,row?_at h,Option.bind_some,if_pos hl]
theorem shX_is : ∃ r,(scanF oneS shX).1 = [r] ∧ r.h = 3:=by
  have h1:=shX_l
  have h2:=shX_h
  generalize (scanF oneS shX).1 = l at h1 h2
  match l,h1 with
  | [r],_=>exact ⟨r,rfl,h2⟩
theorem shX_at (fl : Fl) : ∃ r : Rec,r.h = 3 ∧ pf50 [.sl 28 (nums .u8 (shA ++ shB.take 16)) fl] = some (.tup [.sl 1 (recA r) .bor,.raw (.int .i64 12)]):=by
  obtain ⟨r,h1,h2⟩:=shX_is
  refine ⟨r,h2,?_⟩
  have:=scan_at (n:=28) (b:=shX) (fl:=fl) (by decide) (by decide)
  rw [h1,shX_n] at this
  rw [show shA ++ shB.take 16 = shX from rfl,this]
  simp [recsA]
theorem foldE3 : foldL [entR' 1 1,entR' 2 1,entR' 2 2] = some ⟨0,0,0,0,0,some [⟨1,0,none,none⟩,⟨2,0,none,none⟩]⟩:=by rfl
theorem foldE1 : foldL [entR' 2 1] = none:=by rfl
theorem foldEB : foldL [entR' 1 1,entR' 2 1,⟨3,1,1,0,0,0,noE⟩] = some ⟨0,0,1,1,0,some [⟨1,0,none,none⟩]⟩:=by rfl
end Go.Proofs.YtddeffdgldjdjaaDoor.W
/- The document's examples of records hold: what the walk comes to. -/
namespace Go.Proofs.YtddeffdgldjdjaaDoor.W
set_option linter.unusedSimpArgs false
set_option linter.unusedVariables false
set_option linter.defProp false
open Go Go.Abs
set_option maxHeartbeats 16000000
noncomputable def ESH : Env:=(((ES0.know 48 pf48).know 57 pf57).know 50 (fun xs=>pf50 (xs.map norm))).know 54 (fun xs=>pf54 (xs.map norm))
theorem okSH : EnvOK Tryd.prog ESH:=(((okS0.know sound48).know sound57).know sound50.norm).know sound54.norm
theorem ESH_te : ESH.te = te:=rfl
theorem ESH_glob : ESH.glob = globS:=rfl
theorem ESH_gs : ESH.gs = []:=rfl
theorem ESH_dyn : ESH.dyn = false:=rfl
theorem ESH_mu (d : Nat) : ESH.mu d = false:=rfl
theorem ESH_p : ESH.tbl 48 = some (.val pf48):=rfl
theorem ESH_e : ESH.tbl 57 = some (.val pf57):=rfl
theorem ESH_s : ESH.tbl 50 = some (.val (fun xs=>pf50 (xs.map norm))):=rfl
theorem ESH_f : ESH.tbl 54 = some (.val (fun xs=>pf54 (xs.map norm))):=rfl
def pf44 : List AV → Option AV
  | []=>some (.raw (.bool true))
  | _=>none
theorem small_fold {l : List Rec} (h : l.length ≤ 100) (h2 : l.all (fun r=>decide (-100 ≤ r.i ∧ r.i ≤ 100)) = true) : l.length ≤ 1000000 ∧ ∀ r ∈ l,smallI r.i :=
  ⟨by omega,fun r hr=>by have:=of_decide_eq_true (List.all_eq_true.1 h2 r hr); unfold smallI; omega⟩
theorem rep3_len : (rep 3 ([.raw (.int .i64 0),.raw (.int .i64 0),.raw (.int .i64 0),.raw (.int .i64 0),.raw (.int .i64 0),.raw (.int .i64 0),.raw (.int .i64 0),.raw (.int .i64 0),.raw (.slice none 0 0),.raw (.slice none 0 0)] : List AV)).length = 30:=rfl
theorem rep3_drop : (rep 3 ([.raw (.int .i64 0),.raw (.int .i64 0),.raw (.int .i64 0),.raw (.int .i64 0),.raw (.int .i64 0),.raw (.int .i64 0),.raw (.int .i64 0),.raw (.int .i64 0),.raw (.slice none 0 0),.raw (.slice none 0 0)] : List AV)).drop 30 = []:=rfl
theorem recsA_snap {bx : Boxes} (l : List Rec) : snapL bx (recsA l) = some (recsA l):=by
  induction l with
  | nil=>rfl
  | cons e l ih=>rw [recsA_cons]; exact snapL_app (recA_snap e) ih
theorem recsA_noview (l : List Rec) : hasViewL (recsA l) = false:=by
  induction l with
  | nil=>rfl
  | cons e l ih=>rw [recsA_cons,hasViewL_app,recA_noview,ih]; rfl
theorem recs3 (a b c : Rec) : recA a ++ (recA b ++ recA c) = recsA [a,b,c]:=by simp [recsA]
theorem recs3' (a b : Rec) : recA a ++ (recA b ++ [.raw (.int .i64 3),.raw (.int .i64 1),.raw (.int .i64 1),.raw (.int .i64 0),.raw (.int .i64 0),.raw (.int .i64 0),.raw (.int .i64 0),.raw (.int .i64 0),.raw (.slice none 0 0),.raw (.slice none 0 0)]) = recsA [a,b,⟨3,1,1,0,0,0,noE⟩]:=rfl
theorem fold3_at (fl : Fl) : pf54 [.sl 3 (recsA [entR' 1 1,entR' 2 1,entR' 2 2]) fl] = some (.tup [.agg (stA ⟨0,0,0,0,0,some [⟨1,0,none,none⟩,⟨2,0,none,none⟩]⟩ .bor),.raw (.int .i64 0)]):=by
  have h:=small_fold (l:=[entR' 1 1,entR' 2 1,entR' 2 2]) (by decide) (by decide)
  have:=pf54_at (n:=3) (fl:=fl) rfl h.1 h.2
  rw [foldE3] at this; exact this
theorem fold1_at (fl : Fl) : pf54 [.sl 1 (recA (entR' 2 1)) fl] = some (.tup [.agg [.raw (.int .i64 0),.raw (.int .i64 0),.raw (.int .i64 0),.raw (.int .i64 0),.raw (.int .i64 0),.raw (.slice none 0 0)],.raw (.int .i64 110)]):=by
  have h:=small_fold (l:=[entR' 2 1]) (by decide) (by decide)
  have:=pf54_at (n:=1) (fl:=fl) rfl h.1 h.2
  rw [foldE1] at this
  rw [show recA (entR' 2 1) = recsA [entR' 2 1] by simp [recsA]]; exact this
theorem foldB_at (fl : Fl) : pf54 [.sl 3 (recsA [entR' 1 1,entR' 2 1,⟨3,1,1,0,0,0,noE⟩]) fl] = some (.tup [.agg (stA ⟨0,0,1,1,0,some [⟨1,0,none,none⟩]⟩ .bor),.raw (.int .i64 0)]):=by
  have h:=small_fold (l:=[entR' 1 1,entR' 2 1,⟨3,1,1,0,0,0,noE⟩]) (by decide) (by decide)
  have:=pf54_at (n:=3) (fl:=fl) rfl h.1 h.2
  rw [foldEB] at this; exact this
theorem lapp_nil {α : Type} (m : List α) : List.append [] m = m:=rfl
theorem lapp_cons {α : Type} (a : α) (l m : List α) : List.append (a :: l) m = a :: List.append l m:=rfl
theorem n1 : ((1 : Nat) : Int) = 1:=rfl
theorem n2 : ((2 : Nat) : Int) = 2:=rfl
theorem n3 : ((3 : Nat) : Int) = 3:=rfl
theorem n12 : ((12 : Nat) : Int) = 12:=rfl
theorem n17 : ((17 : Nat) : Int) = 17:=rfl
set_option maxRecDepth 8000 in
theorem sound44 : SoundV Tryd.prog globS 44 pf44:=by
  refine SoundV.walk ESH okSH mixed Tryd.func44 rfl Tryd.call44 (by kernel_rfl) ?_
  intro args r hr
  unfold pf44 at hr
  split at hr
  · cases hr
    rw [Tryd.ntmps44,Tryd.results44]
    refine ⟨by simp,?_⟩
    obtain ⟨q,hq,hX⟩:=shX_at .bor
    have qh : ((recA q).drop 4)[0]? = some (.raw (.int .i64 3)):=by rw [← hq]; rfl
    have qe : ((entsA [⟨1,0,none,none⟩,⟨2,0,none,none⟩]).drop 4)[0]? = some (.raw (.int .i64 2)):=rfl
    simp (maxSteps:=1000000) (disch:=first | omega | (simp only [nums_len,shA_len,shB_len,lnB] <;> omega) | fail) only [ev0,ev1,ev2,ev3,↓reduceIte,reduceCtorEq,Nat.reduceAdd,Nat.reduceSub,Nat.reduceMul,Nat.reduceLT,Nat.reduceLeDiff,Nat.reduceEqDiff,Nat.reduceBEq,BitVec.reduceOfInt,Int.reduceLE,Int.reduceLT,Int.reduceGT,Int.reduceGE,Int.reduceNeg,Int.reduceAdd,Int.reduceSub,Int.reduceMul,Int.reduceToNat,↓bind_go,↓map_go,wantedV,isWrite,grow,write,ofV,AV.cells,Abs.start,Abs.strip,endQ,resV,rawsRes,rawRes,exports,export1,AS.grown,AS.put,Env.know,Env.boxed,isSelf,convSelf,convV,loadV,storeV,fieldAddrV,fieldV,indexAddrV,indexV,partV,isAggK,isStr,place,ipS,lenV,min2V,makeV,freshSl,sliceV,boundOr,bound,bounds,cutFl,copyV,slCells,srcV,appendV,room,zerosOf,eqNeg,kd,takeR,hasViewL,hasView,freshR,freshC,snapAll,snap,snapL,flatL,pureL,pureA,fillC,arrOK,oneA,partB,AV.laid,ren1,CR.gr,applyW,useL,AS.mute,isGen,startG,ev5,teE,recs3,recs3',recsA_snap,recsA_noview,recsA_len,recsA_oneA,recsA_pure,esA_none,esA_some,stA_is,List.length_cons,rep3_len,rep3_drop,fold3_at,foldB_at,n1,n2,n3,n12,n17,rep_one,splice_6,splice_4,ESH_te,ESH_glob,ESH_gs,ESH_dyn,ESH_mu,ESH_p,ESH_e,ESH_s,ESH_f,globS,ev4,zeroRec,zeroSt,shA_at,shB_at,shA_len,shB_len,pf57_at,fold1_at,recA_len,recA_strip,recA_oneA,recA_snap,recA_noview,splice_rec,List.size_toArray,Array.size_empty,List.length_nil,List.map_nil,List.all_nil,Int.reduceBEq,Int.reduceBNe,beq_self_eq_true,hX,lapp_nil,lapp_cons,qh,qe]
    exact ResQ.same rfl
  · cases hr
end Go.Proofs.YtddeffdgldjdjaaDoor.W
