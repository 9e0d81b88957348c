/- Small functions of the seat's program,walked. -/
import Derived.Test.YtddeffdgldjdjaaDoorBa
import Derived.Test.YtddeffdgldjdjaaDoorM3
import Derived.Test.YtddeffdgldjdjaaDoorM4
namespace Go.Proofs.YtddeffdgldjdjaaDoor
set_option linter.unusedSimpArgs false
set_option linter.unusedVariables false
set_option linter.defProp false
open Go Go.Abs
def addL : List (BitVec 32):=[1116352408#32,1899447441#32,3049323471#32,3921009573#32,961987163#32,1508970993#32,2453635748#32,2870763221#32,3624381080#32,310598401#32,607225278#32,1426881987#32,1925078388#32,2162078206#32,2614888103#32,3248222580#32,3835390401#32,4022224774#32,264347078#32,604807628#32,770255983#32,1249150122#32,1555081692#32,1996064986#32,2554220882#32,2821834349#32,2952996808#32,3210313671#32,3336571891#32,3584528711#32,113926993#32,338241895#32,666307205#32,773529912#32,1294757372#32,1396182291#32,1695183700#32,1986661051#32,2177026350#32,2456956037#32,2730485921#32,2820302411#32,3259730800#32,3345764771#32,3516065817#32,3600352804#32,4094571909#32,275423344#32,430227734#32,506948616#32,659060556#32,883997877#32,958139571#32,1322822218#32,1537002063#32,1747873779#32,1955562222#32,2024104815#32,2227730452#32,2361852424#32,2428436474#32,2756734187#32,3204031479#32,3329325298#32]
def globS : Nat→Option (List AV):=fun i=>if i = 0 then some (nums .u32 addL) else none
def ES0 : Env:={ te:=te,glob:=globS,tbl:=fun _=>none,mu:=fun _=>false,dyn:=false,gs:=[] }
theorem okS0 : EnvOK Tryd.prog ES0:=⟨te_ok,(fun _ _ h=>by cases h),(fun _ _ h=>by cases h)⟩
theorem ES0_te : ES0.te = te:=rfl
theorem ES0_glob : ES0.glob = globS:=rfl
theorem ES0_gs : ES0.gs = []:=rfl
theorem ES0_dyn : ES0.dyn = false:=rfl
theorem ES0_mu (d : Nat) : ES0.mu d = false:=rfl
def rotl (x : BitVec 32) (n : Int) : BitVec 32:=x <<< (BitVec.ofInt 64 n &&& 31#64).toNat ||| x >>> (32#64 - (BitVec.ofInt 64 n &&& 31#64)).toNat
def pf149 : List AV → Option AV
  | [a,b]=>(num? .u32 32 a).bind fun x=>(int? b).map fun n=>.raw (.int .u32 ((rotl x n).toNat : Int))
  | _=>none
set_option maxHeartbeats 1000000
def tbHb0:=(And.intro (And.intro @teE (And.intro @ES0_te @ES0_glob)) (And.intro @ES0_gs (And.intro @ES0_dyn @ES0_mu)))
theorem sound149 : SoundV Tryd.prog globS 149 pf149:=by
  refine SoundV.walk ES0 okS0 mixed Tryd.func149 rfl Tryd.call149 (by kernel_rfl) ?_
  intro args r h
  unfold pf149 at h
  split at h
  · rename_i a b
    simp only [Option.bind_eq_some_iff,Option.map_eq_some_iff] at h
    obtain ⟨x,h1,n,h2,rfl⟩:=h
    rw [num?_of h1,int?_of h2]
    rw [Tryd.ntmps149,Tryd.results149]
    refine ⟨by simp,?_⟩
    simp (maxSteps:=1000000) (disch:=first | omega | (simp only [nums_len,lnB] <;> omega) | fail) only [ev0,ev1,ev2,ev3,↓reduceIte,reduceCtorEq,Nat.reduceAdd,Nat.reduceSub,Nat.reduceMul,Nat.reduceLT,Nat.reduceLeDiff,Nat.reduceEqDiff,Nat.reduceBEq,BitVec.reduceOfInt,Int.reduceLE,Int.reduceLT,Int.reduceGT,Int.reduceGE,Int.reduceNeg,Int.reduceAdd,Int.reduceSub,Int.reduceMul,Int.reduceToNat,↓bind_go,↓map_go,wantedV,isWrite,grow,write,ofV,AV.cells,Abs.start,Abs.strip,endQ,resV,rawsRes,rawRes,exports,export1,AS.grown,AS.put,Env.know,Env.boxed,isSelf,convSelf,convV,loadV,storeV,fieldAddrV,fieldV,indexAddrV,indexV,partV,isAggK,isStr,place,ipS,lenV,min2V,makeV,freshSl,sliceV,boundOr,bound,bounds,cutFl,copyV,slCells,srcV,appendV,room,zerosOf,eqNeg,kd,takeR,hasViewL,hasView,freshR,freshC,snapAll,snap,snapL,flatL,pureL,pureA,fillC,arrOK,oneA,partB,AV.laid,ren1,CR.gr,applyW,useL,AS.mute,isGen,startG,ev5,tbHb0,globS]
    exact ResQ.same rfl
  · cases h
def ES1 : Env:=ES0.know 149 pf149
theorem okS1 : EnvOK Tryd.prog ES1:=okS0.know sound149
theorem ES1_te : ES1.te = te:=rfl
theorem ES1_glob : ES1.glob = globS:=rfl
theorem ES1_gs : ES1.gs = []:=rfl
theorem ES1_dyn : ES1.dyn = false:=rfl
theorem ES1_mu (d : Nat) : ES1.mu d = false:=rfl
theorem ES1_r : ES1.tbl 149 = some (.val pf149):=rfl
def rotr (x : BitVec 32) (n : Int) : BitVec 32:=rotl x (IntKind.i64.wrap (0 - n))
def pf122 : List AV → Option AV
  | [a,b]=>(num? .u32 32 a).bind fun x=>(int? b).map fun n=>.raw (.int .u32 ((rotr x n).toNat : Int))
  | _=>none
theorem pf149_at (x : BitVec 32) (n : Int) : pf149 [.raw (.int .u32 (x.toNat : Int)),.raw (.int .i64 n)] = some (.raw (.int .u32 ((rotl x n).toNat : Int))):=by
  simp only [pf149,num?_num,int?,Option.bind_some,Option.map_some]
theorem pf122_at (x : BitVec 32) (n : Int) : pf122 [.raw (.int .u32 (x.toNat : Int)),.raw (.int .i64 n)] = some (.raw (.int .u32 ((rotr x n).toNat : Int))):=by
  simp only [pf122,num?_num,int?,Option.bind_some,Option.map_some]
theorem sound122 : SoundV Tryd.prog globS 122 pf122:=by
  refine SoundV.walk ES1 okS1 mixed Tryd.func122 rfl Tryd.call122 (by kernel_rfl) ?_
  intro args r h
  unfold pf122 at h
  split at h
  · rename_i a b
    simp only [Option.bind_eq_some_iff,Option.map_eq_some_iff] at h
    obtain ⟨x,h1,n,h2,rfl⟩:=h
    rw [num?_of h1,int?_of h2]
    rw [Tryd.ntmps122,Tryd.results122]
    refine ⟨by simp,?_⟩
    simp (maxSteps:=1000000) (disch:=first | omega | (simp only [nums_len,lnB] <;> omega) | fail) only [ev0,ev1,ev2,ev3,↓reduceIte,reduceCtorEq,Nat.reduceAdd,Nat.reduceSub,Nat.reduceMul,Nat.reduceLT,Nat.reduceLeDiff,Nat.reduceEqDiff,Nat.reduceBEq,BitVec.reduceOfInt,Int.reduceLE,Int.reduceLT,Int.reduceGT,Int.reduceGE,Int.reduceNeg,Int.reduceAdd,Int.reduceSub,Int.reduceMul,Int.reduceToNat,↓bind_go,↓map_go,wantedV,isWrite,grow,write,ofV,AV.cells,Abs.start,Abs.strip,endQ,resV,rawsRes,rawRes,exports,export1,AS.grown,AS.put,Env.know,Env.boxed,isSelf,convSelf,convV,loadV,storeV,fieldAddrV,fieldV,indexAddrV,indexV,partV,isAggK,isStr,place,ipS,lenV,min2V,makeV,freshSl,sliceV,boundOr,bound,bounds,cutFl,copyV,slCells,srcV,appendV,room,zerosOf,eqNeg,kd,takeR,hasViewL,hasView,freshR,freshC,snapAll,snap,snapL,flatL,pureL,pureA,fillC,arrOK,oneA,partB,AV.laid,ren1,CR.gr,applyW,useL,AS.mute,isGen,startG,ev5,tbHb0,globS,ES1_te,ES1_glob,ES1_gs,ES1_dyn,ES1_mu,ES1_r,pf149_at]
    exact ResQ.same rfl
  · cases h
def beginL : List (BitVec 32):=[1779033703#32,3144134277#32,1013904242#32,2773480762#32,1359893119#32,2600822924#32,528734635#32,1541459225#32]
def pf91 : List AV → Option AV
  | []=>some (.agg (nums .u32 beginL))
  | _=>none
theorem sound91 : SoundV Tryd.prog globS 91 pf91:=by
  refine SoundV.walk ES0 okS0 mixed Tryd.func91 rfl Tryd.call91 (by kernel_rfl) ?_
  intro args r h
  unfold pf91 at h
  split at h
  · cases h
    rw [Tryd.ntmps91,Tryd.results91]
    refine ⟨by simp,?_⟩
    simp (maxSteps:=1000000) (disch:=first | omega | (simp only [nums_len,lnB] <;> omega) | fail) only [ev0,ev1,ev2,ev3,↓reduceIte,reduceCtorEq,Nat.reduceAdd,Nat.reduceSub,Nat.reduceMul,Nat.reduceLT,Nat.reduceLeDiff,Nat.reduceEqDiff,Nat.reduceBEq,BitVec.reduceOfInt,Int.reduceLE,Int.reduceLT,Int.reduceGT,Int.reduceGE,Int.reduceNeg,Int.reduceAdd,Int.reduceSub,Int.reduceMul,Int.reduceToNat,↓bind_go,↓map_go,wantedV,isWrite,grow,write,ofV,AV.cells,Abs.start,Abs.strip,endQ,resV,rawsRes,rawRes,exports,export1,AS.grown,AS.put,Env.know,Env.boxed,isSelf,convSelf,convV,loadV,storeV,fieldAddrV,fieldV,indexAddrV,indexV,partV,isAggK,isStr,place,ipS,lenV,min2V,makeV,freshSl,sliceV,boundOr,bound,bounds,cutFl,copyV,slCells,srcV,appendV,room,zerosOf,eqNeg,kd,takeR,hasViewL,hasView,freshR,freshC,snapAll,snap,snapL,flatL,pureL,pureA,fillC,arrOK,oneA,partB,AV.laid,ren1,CR.gr,applyW,useL,AS.mute,isGen,startG,ev5,tbHb0,globS]
    exact ResQ.same rfl
  · cases h
theorem ns_strip {k : IntKind} {w : Nat} (l : List (BitVec w)) : List.map strip (nums k l) = nums k l:=by
  simp only [nums,List.map_map]; rfl
theorem ns_set {k : IntKind} {w : Nat} (l : List (BitVec w)) (i : Nat) (x : BitVec w) : (nums k l).set i (.raw (.int k (x.toNat : Int))) = nums k (l.set i x):=by
  simp only [nums,List.map_set]
end Go.Proofs.YtddeffdgldjdjaaDoor
