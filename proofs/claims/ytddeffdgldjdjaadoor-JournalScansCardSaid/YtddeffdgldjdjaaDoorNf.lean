/- A record is read from the front,or none: what the walk comes to. -/
import Derived.Test.YtddeffdgldjdjaaDoorNe
namespace Go.Proofs.YtddeffdgldjdjaaDoor.W
set_option linter.unusedSimpArgs false
set_option linter.unusedVariables false
set_option linter.defProp false
open Go Go.Abs
set_option maxHeartbeats 16000000
theorem liftX {f : FuncId} {gf : List AV→Boxes→(Abs.Id→Bool)→Option CR} (h : SoundX Tryd.prog glob f gf) : SoundX Tryd.prog globS f gf :=
  ⟨h.1,fun N g box w hv _=>h.2 N g box w hv (fun gi xs hx=>by cases hx)⟩
theorem liftG {f : FuncId} {gf : List AV→Boxes→(Abs.Id→Bool)→Option CR} (h : SoundG Tryd.prog glob f gf) : SoundG Tryd.prog globS f gf :=
  ⟨h.1,fun N g box w hv _=>h.2 N g box w hv (fun gi xs hx=>by cases hx)⟩
def preB (b w : List (BitVec 8)) : Bool:=decide (w.length ≤ b.length) && decide (b.take w.length = w)
def pf119 : List AV → Option AV
  | [v,w]=>(row? .u8 8 v).bind fun b=>(row? .u8 8 w).bind fun m=>some (.raw (.bool (preB b m)))
  | _=>none
theorem pf119_at {n m : Nat} {b c : List (BitVec 8)} {fl gl : Fl} (h : n = b.length) (h2 : m = c.length) : pf119 [.sl n (nums .u8 b) fl,.sl m (nums .u8 c) gl] = some (.raw (.bool (preB b c))):=by
  simp only [pf119,row?_at h,row?_at h2,Option.bind_some]
noncomputable def EHP : Env:=E0.know 146 (fun xs=>pf146 (xs.map norm))
theorem okHP : EnvOK Tryd.prog EHP:=ok0.know sound146.norm
theorem EHP_te : EHP.te = te:=rfl
theorem EHP_glob : EHP.glob = glob:=rfl
theorem EHP_gs : EHP.gs = []:=rfl
theorem EHP_dyn : EHP.dyn = false:=rfl
theorem EHP_mu (d : Nat) : EHP.mu d = false:=rfl
theorem EHP_b : EHP.tbl 146 = some (.val (fun xs=>pf146 (xs.map norm))):=rfl
theorem pf146_at' {n m : Nat} {b c : List (BitVec 8)} {fl gl : Fl} (h : n = b.length) (h2 : m = c.length) : pf146 [.sl n (nums .u8 b) fl,.sl m (nums .u8 c) gl] = some (.raw (.bool (decide (b = c)))):=by
  simp only [pf146,row?_at h,row?_at h2,Option.bind_some]
def tbNf0:=(And.intro (And.intro (And.intro @teE @EHP_te) (And.intro @EHP_glob @EHP_gs)) (And.intro (And.intro @EHP_dyn @EHP_mu) (And.intro @EHP_b @pf146_at')))
theorem sound119 : SoundV Tryd.prog glob 119 pf119:=by
  refine SoundV.walk EHP okHP mixed Tryd.func119 rfl Tryd.call119 (by kernel_rfl) ?_
  intro args r hr
  unfold pf119 at hr
  split at hr
  · simp only [Option.bind_eq_some_iff] at hr
    obtain ⟨b,h1,m,h2,hr⟩:=hr
    cases hr
    obtain ⟨fl,rfl⟩:=row?_of h1
    obtain ⟨gl,rfl⟩:=row?_of h2
    rw [Tryd.ntmps119,Tryd.results119]
    refine ⟨by simp,?_⟩
    by_cases hl : m.length ≤ b.length
    · have d1 : decide ((b.length : Int) ≥ (m.length : Int)) = true := decide_eq_true (by omega)
      have hp : preB b m = decide (b.take m.length = m):=by rw [preB,decide_eq_true hl,Bool.true_and]
      rw [hp]
      simp (maxSteps:=1000000) (disch:=first | omega | (simp only [nums_len,lnB] <;> omega) | fail) only [ev0,ev1,ev2,ev3,↓reduceIte,reduceCtorEq,Nat.reduceAdd,Nat.reduceSub,Nat.reduceMul,Nat.reduceLT,Nat.reduceLeDiff,Nat.reduceEqDiff,Nat.reduceBEq,BitVec.reduceOfInt,Int.reduceLE,Int.reduceLT,Int.reduceGT,Int.reduceGE,Int.reduceNeg,Int.reduceAdd,Int.reduceSub,Int.reduceMul,Int.reduceToNat,↓bind_go,↓map_go,wantedV,isWrite,grow,write,ofV,AV.cells,Abs.start,Abs.strip,endQ,resV,rawsRes,rawRes,exports,export1,AS.grown,AS.put,Env.know,Env.boxed,isSelf,convSelf,convV,loadV,storeV,fieldAddrV,fieldV,indexAddrV,indexV,partV,isAggK,isStr,place,ipS,lenV,min2V,makeV,freshSl,sliceV,boundOr,bound,bounds,cutFl,copyV,slCells,srcV,appendV,room,zerosOf,eqNeg,kd,takeR,hasViewL,hasView,freshR,freshC,snapAll,snap,snapL,flatL,pureL,pureA,fillC,arrOK,oneA,partB,AV.laid,ren1,CR.gr,applyW,useL,AS.mute,isGen,startG,ev5,tbNf0,glob,d1]
      exact ResQ.same rfl
    · have d1 : decide ((b.length : Int) ≥ (m.length : Int)) = false := decide_eq_false (by omega)
      have hp : preB b m = false:=by rw [preB,decide_eq_false hl,Bool.false_and]
      rw [hp]
      simp (maxSteps:=1000000) (disch:=first | omega | (simp only [nums_len,lnB] <;> omega) | fail) only [ev0,ev1,ev2,ev3,↓reduceIte,reduceCtorEq,Nat.reduceAdd,Nat.reduceSub,Nat.reduceMul,Nat.reduceLT,Nat.reduceLeDiff,Nat.reduceEqDiff,Nat.reduceBEq,BitVec.reduceOfInt,Int.reduceLE,Int.reduceLT,Int.reduceGT,Int.reduceGE,Int.reduceNeg,Int.reduceAdd,Int.reduceSub,Int.reduceMul,Int.reduceToNat,↓bind_go,↓map_go,wantedV,isWrite,grow,write,ofV,AV.cells,Abs.start,Abs.strip,endQ,resV,rawsRes,rawRes,exports,export1,AS.grown,AS.put,Env.know,Env.boxed,isSelf,convSelf,convV,loadV,storeV,fieldAddrV,fieldV,indexAddrV,indexV,partV,isAggK,isStr,place,ipS,lenV,min2V,makeV,freshSl,sliceV,boundOr,bound,bounds,cutFl,copyV,slCells,srcV,appendV,room,zerosOf,eqNeg,kd,takeR,hasViewL,hasView,freshR,freshC,snapAll,snap,snapL,flatL,pureL,pureA,fillC,arrOK,oneA,partB,AV.laid,ren1,CR.gr,applyW,useL,AS.mute,isGen,startG,ev5,tbNf0,glob,d1]
      exact ResQ.same rfl
  · cases hr
noncomputable def gdOne (m : Option Value) (args : List AV) (bx : Boxes) (us : Abs.Id → Bool) : Option (CR × Option Value) := match m,args with
  | none,[.ptr _ 0,.ptr _ 0]=>some ({ v:=.ret (.tup []) },none)
  | some pv,[.ptr r 0,.ptr q 0]=>open Classical in if pv = brk ∧ (∃ cs,bx r = some cs ∧ cs.length = 10) ∧ (∃ c,bx q = some [c]) ∧ r ≠ q then some ({ v:=.ret (.tup []),wr:=[(r,recA noRec),(q,[.raw (.int .i64 0)])] },none) else none
  | _,_=>none
theorem raws_low {L : Nat} (vs : List Value) : lowL L (vs.map AV.raw) ∧ ∀ x ∈ vs.map AV.raw,(∀ n ys i z,x = .sl n ys (.own i z)→i.lvl < L ∧ i.gen ≠ 0) ∧ ∀ vs,x ≠ .tup vs:=by
  refine ⟨lowL_pure _ ?_,fun x hx=>?_⟩
  · induction vs with
    | nil=>rfl
    | cons v vs ih=>simp only [List.map_cons,pureL,pureA,ih]; rfl
  · obtain ⟨v,_,rfl⟩ := List.mem_map.1 hx
    exact ⟨fun _ _ _ _ h=>(by cases h),fun _ h=>(by cases h)⟩
theorem under20 : Tryd.prog.underlying 20 = some (.interface (Tryd.prog.methodsAt 20)):=by kernel_rfl
def ppI : PP:={ is:=[20] }
theorem okI : EnvP Tryd.prog ES0 ppI:=⟨okS0,(fun _ _ _ h=>by simp [ppI] at h),(fun t h=>by
  have : t = 20:=by simpa [ppI] using h
  subst this
  exact under20)⟩
theorem ppI_fs : ppI.fs = []:=rfl
theorem ppI_is : ppI.is = [20]:=rfl
def tbNf1:=(And.intro (And.intro (And.intro (And.intro @teE (And.intro @awpP_skip @awpP_label)) (And.intro (And.intro @awpP_exit @awpP_ret) (And.intro @awpP_seq @awpP_draw))) (And.intro (And.intro @awpP_region (And.intro @awpP_cond @awpP_block)) (And.intro (And.intro @awpP_scope @awpP_loop) (And.intro @thenQ_pan @blockQ_pan)))) (And.intro (And.intro (And.intro @regsQO_nil (And.intro @regsQO_cons @stepV_O)) (And.intro (And.intro @ES0_te @ES0_glob) (And.intro @ES0_gs @ES0_dyn))) (And.intro (And.intro @ES0_mu (And.intro @ppI_fs @ppI_is)) (And.intro (And.intro @zeroRec @ev4) (And.intro @own_ne @own_ne')))))
theorem sound116 : SoundD Tryd.prog globS 116 gdOne:=by
  refine SoundD.rec ES0 ppI okI mixed Tryd.func116 rfl rfl rfl rfl (by decide) Tryd.call116 (by kernel_rfl) gdOne ?_
  intro m args bx us cr m' hr
  unfold gdOne at hr
  split at hr
  · cases hr
    rw [Tryd.ntmps116,Tryd.results116]
    refine ⟨rfl,by simp,fun L hlow hus hbf=>?_⟩
    simp (maxSteps:=1000000) (disch:=first | omega | assumption | (simp only [updB,updI,dsB,reduceCtorEq,Nat.reduceEqDiff,Bx.own.injEq,Abs.Id.mk.injEq,and_false,false_and,and_true,true_and,if_false,↓reduceIte,Option.isSome_some, *]; done) | (simp only [lnB] <;> omega) | fail) only [ev0,ev1,ev2,ev3,↓reduceIte,reduceCtorEq,Nat.reduceAdd,Nat.reduceSub,Nat.reduceMul,Nat.reduceLT,Nat.reduceLeDiff,Nat.reduceEqDiff,Nat.reduceBEq,BitVec.reduceOfInt,Int.reduceLE,Int.reduceLT,Int.reduceGT,Int.reduceGE,Int.reduceNeg,Int.reduceAdd,Int.reduceSub,Int.reduceMul,Int.reduceToNat,↓bind_go,↓map_go,wantedV,isWrite,grow,write,ofV,AV.cells,Abs.start,Abs.strip,endQ,resV,rawsRes,rawRes,exports,export1,AS.grown,AS.put,Env.know,Env.boxed,isSelf,convSelf,convV,loadV,storeV,fieldAddrV,fieldV,indexAddrV,indexV,partV,isAggK,isStr,place,ipS,lenV,min2V,makeV,freshSl,sliceV,boundOr,bound,bounds,cutFl,copyV,slCells,srcV,appendV,room,zerosOf,eqNeg,kd,takeR,hasViewL,hasView,freshR,freshC,snapAll,snap,snapL,flatL,pureL,pureA,fillC,arrOK,oneA,partB,AV.laid,ren1,CR.gr,applyW,useL,AS.mute,isGen,startG,ev5,tbNf1,panV,stepP,ifcV,rawOf,rawsOf,endXQ,Option.getD_some,Option.getD_none,globS,Bx.own.injEq,and_false,false_and,and_true,true_and,List.size_toArray,Array.size_empty,List.length_nil,Int.reduceBEq,Int.reduceBNe,beq_self_eq_true]
    exact ⟨_,rfl,EndG.r0 [] [] rfl .nil rfl (fun _ _=>rfl) (fun _ _=>rfl)⟩
  · rename_i pv r q
    split at hr
    · rename_i hc
      cases hr
      obtain ⟨rfl,⟨cs,hr1,hr2⟩,⟨c,hq1⟩,hne⟩:=hc
      obtain ⟨r0,r1,r2,r3,r4,r5,r6,r7,r8,r9,rfl⟩ : ∃ r0 r1 r2 r3 r4 r5 r6 r7 r8 r9,cs = [r0,r1,r2,r3,r4,r5,r6,r7,r8,r9]:=by
        match cs,hr2 with
        | [r0,r1,r2,r3,r4,r5,r6,r7,r8,r9],_=>exact ⟨r0,r1,r2,r3,r4,r5,r6,r7,r8,r9,rfl⟩
      rw [Tryd.ntmps116,Tryd.results116]
      refine ⟨rfl,by simp,fun L hlow hus hbf=>?_⟩
      have hrL:=(hlow r (by rw [hr1]; rfl)).1
      have hqL:=(hlow q (by rw [hq1]; rfl)).1
      have hqr:=eq_false (Ne.symm hne)
      simp (maxSteps:=1000000) (disch:=first | omega | assumption | (simp only [updB,updI,dsB,reduceCtorEq,Nat.reduceEqDiff,Bx.own.injEq,Abs.Id.mk.injEq,and_false,false_and,and_true,true_and,if_false,↓reduceIte,Option.isSome_some, *]; done) | (simp only [lnB] <;> omega) | fail) only [ev0,ev1,ev2,ev3,↓reduceIte,reduceCtorEq,Nat.reduceAdd,Nat.reduceSub,Nat.reduceMul,Nat.reduceLT,Nat.reduceLeDiff,Nat.reduceEqDiff,Nat.reduceBEq,BitVec.reduceOfInt,Int.reduceLE,Int.reduceLT,Int.reduceGT,Int.reduceGE,Int.reduceNeg,Int.reduceAdd,Int.reduceSub,Int.reduceMul,Int.reduceToNat,↓bind_go,↓map_go,wantedV,isWrite,grow,write,ofV,AV.cells,Abs.start,Abs.strip,endQ,resV,rawsRes,rawRes,exports,export1,AS.grown,AS.put,Env.know,Env.boxed,isSelf,convSelf,convV,loadV,storeV,fieldAddrV,fieldV,indexAddrV,indexV,partV,isAggK,isStr,place,ipS,lenV,min2V,makeV,freshSl,sliceV,boundOr,bound,bounds,cutFl,copyV,slCells,srcV,appendV,room,zerosOf,eqNeg,kd,takeR,hasViewL,hasView,freshR,freshC,snapAll,snap,snapL,flatL,pureL,pureA,fillC,arrOK,oneA,partB,AV.laid,ren1,CR.gr,applyW,useL,AS.mute,isGen,startG,ev5,tbNf1,panV,stepP,ifcV,rawOf,rawsOf,endXQ,Option.getD_some,Option.getD_none,globS,Bx.own.injEq,and_false,false_and,and_true,true_and,List.size_toArray,Array.size_empty,List.length_nil,Int.reduceBEq,Int.reduceBNe,beq_self_eq_true,hr1,hq1,brk,hqr,List.set_cons_zero]
      refine ⟨_,rfl,EndG.w2 (xs1:=recA noRec) (xs2:=[.raw (.int .i64 0)]) [] [] rfl .nil rfl hne hrL hqL (by rw [hr1]; rfl) (by rw [hq1]; rfl) (fun b' hb h1 h2=>?_) ?_ updB_self (ExpL.same (raws_low (List.replicate 8 (.int .i64 0) ++ [.slice none 0 0,.slice none 0 0]))) (ExpL.same (raws_low [.int .i64 0])) (fun _ _=>rfl)⟩
      · have e : b' ≠ .own L 3 1 := fun e => by rw [e] at hb; exact Nat.lt_irrefl _ hb
        simp only [updB,if_neg h1,if_neg h2,if_neg e]
      · simp only [updB,if_neg hne,↓reduceIte]; rfl
    · cases hr
  · cases hr
end Go.Proofs.YtddeffdgldjdjaaDoor.W
