/- The document's constants: what the walks of its functions come to. -/
import Derived.Test.YtddeffdgldjdjaaDoorHd
namespace Go.Proofs.YtddeffdgldjdjaaDoor
set_option linter.unusedSimpArgs false
set_option linter.unusedVariables false
set_option linter.defProp false
open Go Go.Abs
open Nat renaming reduceAdd→zaa,reduceSub→zab,reduceMul→zac,reduceLT→zad,reduceLeDiff→zae,reduceEqDiff→zaf,reduceBEq→zag
open BitVec renaming reduceOfInt→zah
open Int renaming reduceLE→zai,reduceLT→zaj,reduceGT→zak,reduceGE→zal,reduceNeg→zam,reduceAdd→zan,reduceSub→zao,reduceMul→zap,reduceToNat→zaq
open Go.Abs renaming bind_go→zar,map_go→zas,wantedV→zat,isWrite→zau,grow→zav,write→zaw,ofV→zax,start→zaz,strip→zba,endQ→zbb,resV→zbc,rawsRes→zbd,rawRes→zbe,exports→zbf,export1→zbg,isSelf→zbl,convSelf→zbm,convV→zbn,loadV→zbo,storeV→zbp,fieldAddrV→zbq,fieldV→zbr,indexAddrV→zbs,indexV→zbt,partV→zbu,isAggK→zbv,isStr→zbw,place→zbx,ipS→zby,lenV→zbz,min2V→zca,makeV→zcb,freshSl→zcc,sliceV→zcd,boundOr→zce,bound→zcf,bounds→zcg,cutFl→zch,copyV→zci,slCells→zcj,srcV→zck,appendV→zcl,room→zcm,zerosOf→zcn,eqNeg→zco,kd→zcp,takeR→zcq,hasViewL→zcr,hasView→zcs,freshR→zct,freshC→zcu,snapAll→zcv,snap→zcw,snapL→zcx,flatL→zcy,pureL→zcz,pureA→zda,fillC→zdb,arrOK→zdc,oneA→zdd,partB→zde,ren1→zdg,applyW→zdi,useL→zdj,isGen→zdl,startG→zdm
open Go.Abs.AV renaming cells→zay,laid→zdf
open Go.Abs.AS renaming grown→zbh,put→zbi,mute→zdk
open Go.Abs.Env renaming know→zbj,boxed→zbk
open Go.Abs.CR renaming gr→zdh
def right (x : BitVec 32) (n : Int) : BitVec 32:=x >>> n.toNat ||| x <<< (32 - n).toNat
def pf137 : List AV → Option AV
  | [a,b]=>(num? .u32 32 a).bind fun x=>(int? b).bind fun n=>if 0 ≤ n ∧ n ≤ 32 then some (.raw (.int .u32 ((right x n).toNat : Int))) else none
  | _=>none
theorem pf137_at (x : BitVec 32) (n : Int) (h : 0 ≤ n ∧ n ≤ 32) : pf137 [.raw (.int .u32 (x.toNat : Int)),.raw (.int .i64 n)] = some (.raw (.int .u32 ((right x n).toNat : Int))):=by
  simp only [pf137,num?_num,int?,Option.bind_some,if_pos h]
set_option maxHeartbeats 4000000
def tbIa0:=(And.intro (And.intro (And.intro @teE @ES0_te) (And.intro @ES0_glob @ES0_gs)) (And.intro (And.intro @ES0_dyn @ES0_mu) (And.intro @ns_strip @ns_set)))
theorem sound137 : SoundV Tryd.prog globS 137 pf137:=by
  refine SoundV.walk ES0 okS0 mixed Tryd.func137 rfl Tryd.call137 (by kernel_rfl) ?_
  intro args r h
  unfold pf137 at h
  split at h
  · simp only [Option.bind_eq_some_iff] at h
    obtain ⟨x,h1,n,h2,h3⟩:=h
    split at h3
    · rename_i hn
      obtain ⟨hn0,hn1⟩:=hn
      cases h3
      rw [num?_of h1,int?_of h2]
      rw [Tryd.ntmps137,Tryd.results137]
      refine ⟨by simp,?_⟩
      simp (maxSteps:=1000000) (disch:=first | omega | (simp only [nums_len,lnB] <;> omega) | fail) only [ev0,ev1,ev2,ev3,↓reduceIte,reduceCtorEq,zaa,zab,zac,zad,zae,zaf,zag,zah,zai,zaj,zak,zal,zam,zan,zao,zap,zaq,↓zar,↓zas,zat,zau,zav,zaw,zax,zay,zaz,zba,zbb,zbc,zbd,zbe,zbf,zbg,zbh,zbi,zbj,zbk,zbl,zbm,zbn,zbo,zbp,zbq,zbr,zbs,zbt,zbu,zbv,zbw,zbx,zby,zbz,zca,zcb,zcc,zcd,zce,zcf,zcg,zch,zci,zcj,zck,zcl,zcm,zcn,zco,zcp,zcq,zcr,zcs,zct,zcu,zcv,zcw,zcx,zcy,zcz,zda,zdb,zdc,zdd,zde,zdf,zdg,zdh,zdi,zdj,zdk,zdl,zdm,ev5,tbIa0,globS]
      refine .same ?_
      have e : (32 - n).toNat = 32 - n.toNat:=by omega
      simp only [right,e]
    · cases h3
  · cases h
def mulIn (a b : List (BitVec 64)) (i : Nat) (out : List (BitVec 64)) : Nat → List (BitVec 64) × BitVec 64
  | 0=>(out,0#64)
  | k + 1 =>
    let p:=mulIn a b i out k
    let x:=p.2 + p.1.getD (i + k) 0#64 + a.getD i 0#64 * b.getD k 0#64
    (p.1.set (i + k) (x % 65536#64),x / 65536#64)
def mulOut (a b : List (BitVec 64)) : Nat → List (BitVec 64)
  | 0=>List.replicate 12 0#64
  | i + 1 =>
    let p:=mulIn a b i (mulOut a b i) 4
    p.1.set (i + 4) p.2
theorem mulIn_len (a b : List (BitVec 64)) (i : Nat) (out : List (BitVec 64)) (k : Nat) : (mulIn a b i out k).1.length = out.length:=by
  induction k with
  | zero=>rfl
  | succ k ih=>simp only [mulIn,List.length_set,ih]
theorem mulOut_len (a b : List (BitVec 64)) (i : Nat) : (mulOut a b i).length = 12:=by
  induction i with
  | zero=>simp [mulOut]
  | succ i ih=>simp only [mulOut,List.length_set,mulIn_len,ih]
def pf158 : List AV → Option AV
  | [a,b]=>(agg? .u64 64 8 a).bind fun a=>(agg? .u64 64 4 b).bind fun b=>some (.agg (nums .u64 (mulOut a b 8)))
  | _=>none
theorem pf158_at {a b : List (BitVec 64)} (ha : a.length = 8) (hb : b.length = 4) : pf158 [.agg (nums .u64 a),.agg (nums .u64 b)] = some (.agg (nums .u64 (mulOut a b 8))):=by
  simp only [pf158,agg?_at ha,agg?_at hb,Option.bind_some]
theorem sound158 : SoundV Tryd.prog globS 158 pf158:=by
  refine SoundV.walk ES0 okS0 mixed Tryd.func158 rfl Tryd.call158 (by kernel_rfl) ?_
  intro args r h
  unfold pf158 at h
  split at h
  · simp only [Option.bind_eq_some_iff] at h
    obtain ⟨a,h1,b,h2,h3⟩:=h
    cases h3
    obtain ⟨rfl,la⟩:=agg?_of h1
    obtain ⟨rfl,lb⟩:=agg?_of h2
    rw [Tryd.ntmps158,Tryd.results158]
    refine ⟨by simp,?_⟩
    simp (maxSteps:=1000000) (disch:=first | omega | (simp only [nums_len,lnB] <;> omega) | fail) only [ev0,ev1,ev2,ev3,↓reduceIte,reduceCtorEq,zaa,zab,zac,zad,zae,zaf,zag,zah,zai,zaj,zak,zal,zam,zan,zao,zap,zaq,↓zar,↓zas,zat,zau,zav,zaw,zax,zay,zaz,zba,zbb,zbc,zbd,zbe,zbf,zbg,zbh,zbi,zbj,zbk,zbl,zbm,zbn,zbo,zbp,zbq,zbr,zbs,zbt,zbu,zbv,zbw,zbx,zby,zbz,zca,zcb,zcc,zcd,zce,zcf,zcg,zch,zci,zcj,zck,zcl,zcm,zcn,zco,zcp,zcq,zcr,zcs,zct,zcu,zcv,zcw,zcx,zcy,zcz,zda,zdb,zdc,zdd,zde,zdf,zdg,zdh,zdi,zdj,zdk,zdl,zdm,ev5,tbIa0,globS,la,lb]
    refine loopQ_of (fun n σ => ∃ i,i ≤ 8 ∧ n = 8 - i ∧ σ.slots 6 = .raw (.int .i64 (i : Int)) ∧ σ.slots 2 = .ptr (.own 0 2 1) 0 ∧ σ.slots 3 = .ptr (.own 0 3 1) 0 ∧ σ.slots 4 = .ptr (.own 0 4 1) 0 ∧ σ.slots 5 = .ptr (.own 0 5 1) 0 ∧
      σ.box (.own 0 2 1) = some (nums .u64 a) ∧ σ.box (.own 0 3 1) = some (nums .u64 b) ∧ σ.box (.own 0 4 1) = some (nums .u64 (List.replicate 12 0#64)) ∧ σ.box (.own 0 5 1) = some (nums .u64 (mulOut a b i))) 8 ?_ ?_
    · refine ⟨0,by omega,by omega,?_⟩
      simp (maxSteps:=1000000) (disch:=first | omega | (simp only [nums_len,lnB] <;> omega) | fail) only [ev0,ev1,ev2,ev3,↓reduceIte,reduceCtorEq,zaa,zab,zac,zad,zae,zaf,zag,zah,zai,zaj,zak,zal,zam,zan,zao,zap,zaq,↓zar,↓zas,zat,zau,zav,zaw,zax,zay,zaz,zba,zbb,zbc,zbd,zbe,zbf,zbg,zbh,zbi,zbj,zbk,zbl,zbm,zbn,zbo,zbp,zbq,zbr,zbs,zbt,zbu,zbv,zbw,zbx,zby,zbz,zca,zcb,zcc,zcd,zce,zcf,zcg,zch,zci,zcj,zck,zcl,zcm,zcn,zco,zcp,zcq,zcr,zcs,zct,zcu,zcv,zcw,zcx,zcy,zcz,zda,zdb,zdc,zdd,zde,zdf,zdg,zdh,zdi,zdj,zdk,zdl,zdm,ev5,tbIa0,globS,la,lb]
      exact ⟨rfl,rfl⟩
    · rintro n ⟨sl,gn,bx,us⟩ ⟨i,hi,rfl,s6,s2,s3,s4,s5,b2,b3,b4,b5⟩
      dsimp only at s6 s2 s3 s4 s5 b2 b3 b4 b5
      have lo:=mulOut_len a b i
      generalize hO : mulOut a b i = O at b5 lo
      simp (maxSteps:=1000000) (disch:=first | omega | (simp only [nums_len,lnB] <;> omega) | fail) only [ev0,ev1,ev2,ev3,↓reduceIte,reduceCtorEq,zaa,zab,zac,zad,zae,zaf,zag,zah,zai,zaj,zak,zal,zam,zan,zao,zap,zaq,↓zar,↓zas,zat,zau,zav,zaw,zax,zay,zaz,zba,zbb,zbc,zbd,zbe,zbf,zbg,zbh,zbi,zbj,zbk,zbl,zbm,zbn,zbo,zbp,zbq,zbr,zbs,zbt,zbu,zbv,zbw,zbx,zby,zbz,zca,zcb,zcc,zcd,zce,zcf,zcg,zch,zci,zcj,zck,zcl,zcm,zcn,zco,zcp,zcq,zcr,zcs,zct,zcu,zcv,zcw,zcx,zcy,zcz,zda,zdb,zdc,zdd,zde,zdf,zdg,zdh,zdi,zdj,zdk,zdl,zdm,ev5,tbIa0,globS,s6,s2,s3,s4,s5,b2,b3,b4,b5,la,lb,lo]
      refine condQ_dec (fun hlt=>?_) (fun hge=>?_)
      · have hlt : i < 8 := by omega
        simp (maxSteps:=1000000) (disch:=first | omega | (simp only [nums_len,lnB] <;> omega) | fail) only [ev0,ev1,ev2,ev3,↓reduceIte,reduceCtorEq,zaa,zab,zac,zad,zae,zaf,zag,zah,zai,zaj,zak,zal,zam,zan,zao,zap,zaq,↓zar,↓zas,zat,zau,zav,zaw,zax,zay,zaz,zba,zbb,zbc,zbd,zbe,zbf,zbg,zbh,zbi,zbj,zbk,zbl,zbm,zbn,zbo,zbp,zbq,zbr,zbs,zbt,zbu,zbv,zbw,zbx,zby,zbz,zca,zcb,zcc,zcd,zce,zcf,zcg,zch,zci,zcj,zck,zcl,zcm,zcn,zco,zcp,zcq,zcr,zcs,zct,zcu,zcv,zcw,zcx,zcy,zcz,zda,zdb,zdc,zdd,zde,zdf,zdg,zdh,zdi,zdj,zdk,zdl,zdm,ev5,tbIa0,globS,s6,s2,s3,s4,s5,b2,b3,b4,b5,la,lb,lo]
        refine loopQ_of (fun n σ => ∃ k,k ≤ 4 ∧ n = 4 - k ∧ σ.slots 8 = .raw (.int .i64 (k : Int)) ∧ σ.slots 7 = .raw (.int .u64 ((mulIn a b i O k).2.toNat : Int)) ∧ σ.slots 6 = .raw (.int .i64 (i : Int)) ∧ σ.slots 2 = .ptr (.own 0 2 1) 0 ∧ σ.slots 3 = .ptr (.own 0 3 1) 0 ∧ σ.slots 4 = .ptr (.own 0 4 1) 0 ∧ σ.slots 5 = .ptr (.own 0 5 1) 0 ∧
          σ.box (.own 0 2 1) = some (nums .u64 a) ∧ σ.box (.own 0 3 1) = some (nums .u64 b) ∧ σ.box (.own 0 4 1) = some (nums .u64 (List.replicate 12 0#64)) ∧ σ.box (.own 0 5 1) = some (nums .u64 (mulIn a b i O k).1)) 4 ?_ ?_
        · refine ⟨0,by omega,by omega,?_⟩
          simp (maxSteps:=1000000) (disch:=first | omega | (simp only [nums_len,lnB] <;> omega) | fail) only [ev0,ev1,ev2,ev3,↓reduceIte,reduceCtorEq,zaa,zab,zac,zad,zae,zaf,zag,zah,zai,zaj,zak,zal,zam,zan,zao,zap,zaq,↓zar,↓zas,zat,zau,zav,zaw,zax,zay,zaz,zba,zbb,zbc,zbd,zbe,zbf,zbg,zbh,zbi,zbj,zbk,zbl,zbm,zbn,zbo,zbp,zbq,zbr,zbs,zbt,zbu,zbv,zbw,zbx,zby,zbz,zca,zcb,zcc,zcd,zce,zcf,zcg,zch,zci,zcj,zck,zcl,zcm,zcn,zco,zcp,zcq,zcr,zcs,zct,zcu,zcv,zcw,zcx,zcy,zcz,zda,zdb,zdc,zdd,zde,zdf,zdg,zdh,zdi,zdj,zdk,zdl,zdm,ev5,tbIa0,globS,s6,s2,s3,s4,s5,b2,b3,b4,b5,la,lb,lo]
          exact ⟨rfl,rfl,rfl⟩
        · clear s6 s2 s3 s4 s5 b2 b3 b4 b5 sl gn bx us
          rintro n ⟨sl,gn,bx,us⟩ ⟨k,hk,rfl,s8,s7,s6,s2,s3,s4,s5,b2,b3,b4,b5⟩
          dsimp only at s8 s7 s6 s2 s3 s4 s5 b2 b3 b4 b5
          have lp:=mulIn_len a b i O k
          rw [lo] at lp
          generalize hp : mulIn a b i O k = p at s7 b5 lp
          simp (maxSteps:=1000000) (disch:=first | omega | (simp only [nums_len,lnB] <;> omega) | fail) only [ev0,ev1,ev2,ev3,↓reduceIte,reduceCtorEq,zaa,zab,zac,zad,zae,zaf,zag,zah,zai,zaj,zak,zal,zam,zan,zao,zap,zaq,↓zar,↓zas,zat,zau,zav,zaw,zax,zay,zaz,zba,zbb,zbc,zbd,zbe,zbf,zbg,zbh,zbi,zbj,zbk,zbl,zbm,zbn,zbo,zbp,zbq,zbr,zbs,zbt,zbu,zbv,zbw,zbx,zby,zbz,zca,zcb,zcc,zcd,zce,zcf,zcg,zch,zci,zcj,zck,zcl,zcm,zcn,zco,zcp,zcq,zcr,zcs,zct,zcu,zcv,zcw,zcx,zcy,zcz,zda,zdb,zdc,zdd,zde,zdf,zdg,zdh,zdi,zdj,zdk,zdl,zdm,ev5,tbIa0,globS,s8,s7,s6,s2,s3,s4,s5,b2,b3,b4,b5,la,lb,lp]
          refine condQ_dec (fun hlt2=>?_) (fun hge=>?_)
          · have hlt2 : k < 4 := by omega
            simp (maxSteps:=1000000) (disch:=first | omega | (simp only [nums_len,lnB] <;> omega) | fail) only [ev0,ev1,ev2,ev3,↓reduceIte,reduceCtorEq,zaa,zab,zac,zad,zae,zaf,zag,zah,zai,zaj,zak,zal,zam,zan,zao,zap,zaq,↓zar,↓zas,zat,zau,zav,zaw,zax,zay,zaz,zba,zbb,zbc,zbd,zbe,zbf,zbg,zbh,zbi,zbj,zbk,zbl,zbm,zbn,zbo,zbp,zbq,zbr,zbs,zbt,zbu,zbv,zbw,zbx,zby,zbz,zca,zcb,zcc,zcd,zce,zcf,zcg,zch,zci,zcj,zck,zcl,zcm,zcn,zco,zcp,zcq,zcr,zcs,zct,zcu,zcv,zcw,zcx,zcy,zcz,zda,zdb,zdc,zdd,zde,zdf,zdg,zdh,zdi,zdj,zdk,zdl,zdm,ev5,tbIa0,globS,s8,s7,s6,s2,s3,s4,s5,b2,b3,b4,b5,la,lb,lp]
            refine ⟨4 - (k + 1),by omega,k + 1,by omega,rfl,rfl,?_⟩
            rw [mulIn,hp]
            exact ⟨rfl,rfl⟩
          · have hk : k = 4 := by omega
            subst hk
            simp (maxSteps:=1000000) (disch:=first | omega | (simp only [nums_len,lnB] <;> omega) | fail) only [ev0,ev1,ev2,ev3,↓reduceIte,reduceCtorEq,zaa,zab,zac,zad,zae,zaf,zag,zah,zai,zaj,zak,zal,zam,zan,zao,zap,zaq,↓zar,↓zas,zat,zau,zav,zaw,zax,zay,zaz,zba,zbb,zbc,zbd,zbe,zbf,zbg,zbh,zbi,zbj,zbk,zbl,zbm,zbn,zbo,zbp,zbq,zbr,zbs,zbt,zbu,zbv,zbw,zbx,zby,zbz,zca,zcb,zcc,zcd,zce,zcf,zcg,zch,zci,zcj,zck,zcl,zcm,zcn,zco,zcp,zcq,zcr,zcs,zct,zcu,zcv,zcw,zcx,zcy,zcz,zda,zdb,zdc,zdd,zde,zdf,zdg,zdh,zdi,zdj,zdk,zdl,zdm,ev5,tbIa0,globS,s8,s7,s6,s2,s3,s4,s5,b2,b3,b4,b5,la,lb,lp]
            refine ⟨8 - (i + 1),by omega,i + 1,by omega,rfl,rfl,?_⟩
            rw [mulOut,hO,hp]
      · have hi : i = 8 := by omega
        subst hi
        simp (maxSteps:=1000000) (disch:=first | omega | (simp only [nums_len,lnB] <;> omega) | fail) only [ev0,ev1,ev2,ev3,↓reduceIte,reduceCtorEq,zaa,zab,zac,zad,zae,zaf,zag,zah,zai,zaj,zak,zal,zam,zan,zao,zap,zaq,↓zar,↓zas,zat,zau,zav,zaw,zax,zay,zaz,zba,zbb,zbc,zbd,zbe,zbf,zbg,zbh,zbi,zbj,zbk,zbl,zbm,zbn,zbo,zbp,zbq,zbr,zbs,zbt,zbu,zbv,zbw,zbx,zby,zbz,zca,zcb,zcc,zcd,zce,zcf,zcg,zch,zci,zcj,zck,zcl,zcm,zcn,zco,zcp,zcq,zcr,zcs,zct,zcu,zcv,zcw,zcx,zcy,zcz,zda,zdb,zdc,zdd,zde,zdf,zdg,zdh,zdi,zdj,zdk,zdl,zdm,ev5,tbIa0,globS,s6,s2,s3,s4,s5,b2,b3,b4,b5,la,lb,lo]
        rw [← hO]
        exact ResQ.same rfl
  · cases h
end Go.Proofs.YtddeffdgldjdjaaDoor
/- The document's roots: what the walks of its functions come to. -/
namespace Go.Proofs.YtddeffdgldjdjaaDoor
set_option linter.unusedSimpArgs false
set_option linter.unusedVariables false
set_option linter.defProp false
open Go Go.Abs
open Nat renaming reduceAdd→zaa,reduceSub→zab,reduceMul→zac,reduceLT→zad,reduceLeDiff→zae,reduceEqDiff→zaf,reduceBEq→zag
open BitVec renaming reduceOfInt→zah
open Int renaming reduceLE→zai,reduceLT→zaj,reduceGT→zak,reduceGE→zal,reduceNeg→zam,reduceAdd→zan,reduceSub→zao,reduceMul→zap,reduceToNat→zaq
open Go.Abs renaming bind_go→zar,map_go→zas,wantedV→zat,isWrite→zau,grow→zav,write→zaw,ofV→zax,start→zaz,strip→zba,endQ→zbb,resV→zbc,rawsRes→zbd,rawRes→zbe,exports→zbf,export1→zbg,isSelf→zbl,convSelf→zbm,convV→zbn,loadV→zbo,storeV→zbp,fieldAddrV→zbq,fieldV→zbr,indexAddrV→zbs,indexV→zbt,partV→zbu,isAggK→zbv,isStr→zbw,place→zbx,ipS→zby,lenV→zbz,min2V→zca,makeV→zcb,freshSl→zcc,sliceV→zcd,boundOr→zce,bound→zcf,bounds→zcg,cutFl→zch,copyV→zci,slCells→zcj,srcV→zck,appendV→zcl,room→zcm,zerosOf→zcn,eqNeg→zco,kd→zcp,takeR→zcq,hasViewL→zcr,hasView→zcs,freshR→zct,freshC→zcu,snapAll→zcv,snap→zcw,snapL→zcx,flatL→zcy,pureL→zcz,pureA→zda,fillC→zdb,arrOK→zdc,oneA→zdd,partB→zde,ren1→zdg,applyW→zdi,useL→zdj,isGen→zdl,startG→zdm
open Go.Abs.AV renaming cells→zay,laid→zdf
open Go.Abs.AS renaming grown→zbh,put→zbi,mute→zdk
open Go.Abs.Env renaming know→zbj,boxed→zbk
open Go.Abs.CR renaming gr→zdh
theorem rem_u64' (x y : BitVec 64) (h : 0 < y.toNat) : intV .rem .u64 (x.toNat : Int) (y.toNat : Int) = some (.raw (.int .u64 ((x % y).toNat : Int))):=by
  have hy:=y.isLt
  rw [rem_u64 x _ (by omega) (by omega)]
  simp
theorem cast_eq (x y : BitVec 64) : ((x.toNat : Int) != (y.toNat : Int)) = (x != y):=by
  rw [Bool.eq_iff_iff]
  simp [Int.natCast_inj,BitVec.toNat_inj]
theorem agg4 {k : IntKind} {w : Nat} (a b c d : BitVec w) : AV.agg [.raw (.int k (a.toNat : Int)),.raw (.int k (b.toNat : Int)),.raw (.int k (c.toNat : Int)),.raw (.int k (d.toNat : Int))] = .agg (nums k [a,b,c,d]):=rfl
theorem agg8 {k : IntKind} {w : Nat} (a b c d e f g z : BitVec w) : AV.agg [.raw (.int k (a.toNat : Int)),.raw (.int k (b.toNat : Int)),.raw (.int k (c.toNat : Int)),.raw (.int k (d.toNat : Int)),.raw (.int k (e.toNat : Int)),.raw (.int k (f.toNat : Int)),.raw (.int k (g.toNat : Int)),.raw (.int k (z.toNat : Int))] = .agg (nums k [a,b,c,d,e,f,g,z]):=rfl
theorem agg44 {k : IntKind} {w : Nat} (a b c d : BitVec w) (l : List (BitVec w)) : AV.agg (.raw (.int k (a.toNat : Int)) :: .raw (.int k (b.toNat : Int)) :: .raw (.int k (c.toNat : Int)) :: .raw (.int k (d.toNat : Int)) :: nums k l) = .agg (nums k (a :: b :: c :: d :: l)):=rfl
def ES4 : Env:=ES0.know 158 pf158
theorem okS4 : EnvOK Tryd.prog ES4:=okS0.know sound158
theorem ES4_te : ES4.te = te:=rfl
theorem ES4_gs : ES4.gs = []:=rfl
theorem ES4_dyn : ES4.dyn = false:=rfl
theorem ES4_glob : ES4.glob = globS:=rfl
theorem ES4_mu (d : Nat) : ES4.mu d = false:=rfl
theorem ES4_158 : ES4.tbl 158 = some (.val pf158):=rfl
def digitsR (x : BitVec 64) : List (BitVec 64):=[x % 65536#64,x >>> 16 % 65536#64,x >>> 32 % 65536#64,x >>> 48]
def cmpF (p q : List (BitVec 64)) : Nat → Bool
  | 0=>false
  | i + 1=>if p.getD i 0#64 != q.getD i 0#64 then decide (((p.getD i 0#64).toNat : Int) > ((q.getD i 0#64).toNat : Int)) else cmpF p q i
def power (x : BitVec 64) (third : Bool) : List (BitVec 64) :=
  let d:=digitsR x
  let p:=mulOut ([d.getD 0 0#64,d.getD 1 0#64,d.getD 2 0#64,d.getD 3 0#64] ++ List.replicate 4 0#64) d 8
  if third then mulOut [p.getD 0 0#64,p.getD 1 0#64,p.getD 2 0#64,p.getD 3 0#64,p.getD 4 0#64,p.getD 5 0#64,p.getD 6 0#64,p.getD 7 0#64] d 8 else p
theorem power_len (x : BitVec 64) (third : Bool) : (power x third).length = 12:=by
  unfold power; cases third <;> simp [mulOut_len]
def aboveF (x n : BitVec 64) (third : Bool) : Bool:=cmpF (power x third) ((List.replicate 12 0#64).set (if third then 6 else 4) n) 12
def pf138 : List AV → Option AV
  | [x,n,t]=>(num? .u64 64 x).bind fun x=>(num? .u64 64 n).bind fun n=>(bool? t).bind fun t=>some (.raw (.bool (aboveF x n t)))
  | _=>none
theorem pf138_at {x n : BitVec 64} {t : Bool} : pf138 [.raw (.int .u64 (x.toNat : Int)),.raw (.int .u64 (n.toNat : Int)),.raw (.bool t)] = some (.raw (.bool (aboveF x n t))):=by
  simp only [pf138,num?_num,bool?_at,Option.bind_some]
set_option maxHeartbeats 4000000
def tbIb0:=(And.intro (And.intro (And.intro (And.intro @teE @ES4_te) (And.intro @ES4_gs @ES4_dyn)) (And.intro (And.intro @ES4_glob @ES4_mu) (And.intro @ES4_158 @pf158_at))) (And.intro (And.intro (And.intro @mulOut_len @ns_strip) (And.intro @ns_set @rem_u64')) (And.intro (And.intro @cast_eq @agg4) (And.intro @agg8 @agg44))))
theorem sound138 : SoundV Tryd.prog globS 138 pf138:=by
  refine SoundV.walk ES4 okS4 mixed Tryd.func138 rfl Tryd.call138 (by kernel_rfl) ?_
  intro args r h
  unfold pf138 at h
  split at h
  · simp only [Option.bind_eq_some_iff] at h
    obtain ⟨x,h1,n,h2,t,h3,h4⟩:=h
    cases h4
    rw [num?_of h1,num?_of h2,bool?_of h3]
    rw [Tryd.ntmps138,Tryd.results138]
    refine ⟨by simp,?_⟩
    obtain ⟨p,hp⟩ : ∃ p,p = power x t:=⟨_,rfl⟩
    obtain ⟨q,hq⟩ : ∃ q,q = (List.replicate 12 0#64).set (if t then 6 else 4) n:=⟨_,rfl⟩
    have lq : q.length = 12:=by rw [hq]; simp
    have lp : p.length = 12:=by rw [hp]; exact power_len x t
    have hr : aboveF x n t = cmpF p q 12:=by rw [hp,hq]; rfl
    rw [hr]
    clear hr
    cases t
    all_goals (simp (maxSteps:=1000000) (disch:=first | omega | (simp only [mulOut_len,lnB] <;> omega) | fail) only [ev0,ev1,ev2,ev3,↓reduceIte,reduceCtorEq,zaa,zab,zac,zad,zae,zaf,zag,zah,zai,zaj,zak,zal,zam,zan,zao,zap,zaq,↓zar,↓zas,zat,zau,zav,zaw,zax,zay,zaz,zba,zbb,zbc,zbd,zbe,zbf,zbg,zbh,zbi,zbj,zbk,zbl,zbm,zbn,zbo,zbp,zbq,zbr,zbs,zbt,zbu,zbv,zbw,zbx,zby,zbz,zca,zcb,zcc,zcd,zce,zcf,zcg,zch,zci,zcj,zck,zcl,zcm,zcn,zco,zcp,zcq,zcr,zcs,zct,zcu,zcv,zcw,zcx,zcy,zcz,zda,zdb,zdc,zdd,zde,zdf,zdg,zdh,zdi,zdj,zdk,zdl,zdm,ev5,tbIb0,globS,List.getD_cons_zero,List.getD_cons_succ])
    all_goals (refine loopQ_of (fun m σ => m ≤ 12 ∧ cmpF p q m = cmpF p q 12 ∧ σ.slots 11 = .raw (.int .i64 ((m : Int) - 1)) ∧ σ.slots 8 = .ptr (.own 0 8 1) 0 ∧ σ.slots 10 = .ptr (.own 0 10 1) 0 ∧
        σ.box (.own 0 8 1) = some (nums .u64 p) ∧ σ.box (.own 0 10 1) = some (nums .u64 q)) 12 ?_ ?_)
    all_goals first
      | (refine ⟨by omega,rfl,?_⟩
         simp (maxSteps:=1000000) (disch:=first | omega | (simp only [mulOut_len,lnB] <;> omega) | fail) only [ev0,ev1,ev2,ev3,↓reduceIte,reduceCtorEq,zaa,zab,zac,zad,zae,zaf,zag,zah,zai,zaj,zak,zal,zam,zan,zao,zap,zaq,↓zar,↓zas,zat,zau,zav,zaw,zax,zay,zaz,zba,zbb,zbc,zbd,zbe,zbf,zbg,zbh,zbi,zbj,zbk,zbl,zbm,zbn,zbo,zbp,zbq,zbr,zbs,zbt,zbu,zbv,zbw,zbx,zby,zbz,zca,zcb,zcc,zcd,zce,zcf,zcg,zch,zci,zcj,zck,zcl,zcm,zcn,zco,zcp,zcq,zcr,zcs,zct,zcu,zcv,zcw,zcx,zcy,zcz,zda,zdb,zdc,zdd,zde,zdf,zdg,zdh,zdi,zdj,zdk,zdl,zdm,ev5,tbIb0,globS,List.getD_cons_zero,List.getD_cons_succ]
         rw [hp,hq]
         exact ⟨rfl,rfl,rfl⟩)
      | skip
    all_goals (
      rintro m ⟨sl,gn,bx,us⟩ ⟨hm,he,s11,s8,s10,b8,b10⟩
      dsimp only at s11 s8 s10 b8 b10
      clear hp hq
      cases m with
      | zero =>
        rw [show ((0 : Nat) : Int) - 1 = -1 from rfl] at s11
        simp (maxSteps:=1000000) (disch:=first | omega | (simp only [mulOut_len,lnB] <;> omega) | fail) only [ev0,ev1,ev2,ev3,↓reduceIte,reduceCtorEq,zaa,zab,zac,zad,zae,zaf,zag,zah,zai,zaj,zak,zal,zam,zan,zao,zap,zaq,↓zar,↓zas,zat,zau,zav,zaw,zax,zay,zaz,zba,zbb,zbc,zbd,zbe,zbf,zbg,zbh,zbi,zbj,zbk,zbl,zbm,zbn,zbo,zbp,zbq,zbr,zbs,zbt,zbu,zbv,zbw,zbx,zby,zbz,zca,zcb,zcc,zcd,zce,zcf,zcg,zch,zci,zcj,zck,zcl,zcm,zcn,zco,zcp,zcq,zcr,zcs,zct,zcu,zcv,zcw,zcx,zcy,zcz,zda,zdb,zdc,zdd,zde,zdf,zdg,zdh,zdi,zdj,zdk,zdl,zdm,ev5,tbIb0,globS,List.getD_cons_zero,List.getD_cons_succ,s11,s8,s10,b8,b10,lp,lq]
        rw [← he]
        exact ResQ.same rfl
      | succ j =>
        rw [show ((j + 1 : Nat) : Int) - 1 = (j : Int) by omega] at s11
        simp (maxSteps:=1000000) (disch:=first | omega | (simp only [mulOut_len,lnB] <;> omega) | fail) only [ev0,ev1,ev2,ev3,↓reduceIte,reduceCtorEq,zaa,zab,zac,zad,zae,zaf,zag,zah,zai,zaj,zak,zal,zam,zan,zao,zap,zaq,↓zar,↓zas,zat,zau,zav,zaw,zax,zay,zaz,zba,zbb,zbc,zbd,zbe,zbf,zbg,zbh,zbi,zbj,zbk,zbl,zbm,zbn,zbo,zbp,zbq,zbr,zbs,zbt,zbu,zbv,zbw,zbx,zby,zbz,zca,zcb,zcc,zcd,zce,zcf,zcg,zch,zci,zcj,zck,zcl,zcm,zcn,zco,zcp,zcq,zcr,zcs,zct,zcu,zcv,zcw,zcx,zcy,zcz,zda,zdb,zdc,zdd,zde,zdf,zdg,zdh,zdi,zdj,zdk,zdl,zdm,ev5,tbIb0,globS,List.getD_cons_zero,List.getD_cons_succ,s11,s8,s10,b8,b10,lp,lq]
        refine condQ_dec (fun hge=>?_) (fun hlt=>absurd (Int.natCast_nonneg j) hlt)
        simp (maxSteps:=1000000) (disch:=first | omega | (simp only [mulOut_len,lnB] <;> omega) | fail) only [ev0,ev1,ev2,ev3,↓reduceIte,reduceCtorEq,zaa,zab,zac,zad,zae,zaf,zag,zah,zai,zaj,zak,zal,zam,zan,zao,zap,zaq,↓zar,↓zas,zat,zau,zav,zaw,zax,zay,zaz,zba,zbb,zbc,zbd,zbe,zbf,zbg,zbh,zbi,zbj,zbk,zbl,zbm,zbn,zbo,zbp,zbq,zbr,zbs,zbt,zbu,zbv,zbw,zbx,zby,zbz,zca,zcb,zcc,zcd,zce,zcf,zcg,zch,zci,zcj,zck,zcl,zcm,zcn,zco,zcp,zcq,zcr,zcs,zct,zcu,zcv,zcw,zcx,zcy,zcz,zda,zdb,zdc,zdd,zde,zdf,zdg,zdh,zdi,zdj,zdk,zdl,zdm,ev5,tbIb0,globS,List.getD_cons_zero,List.getD_cons_succ,s11,s8,s10,b8,b10,lp,lq]
        refine condQ_bool (fun hne=>?_) (fun heq=>?_)
        · simp (maxSteps := 1000000) (disch := first | omega | (simp only [mulOut_len,lnB] <;> omega) | fail) only [ev0,ev1,ev2,ev3,↓reduceIte,reduceCtorEq,zaa,zab,zac,zad,zae,zaf,zag,zah,zai,zaj,zak,zal,zam,zan,zao,zap,zaq,↓zar,↓zas,zat,zau,zav,zaw,zax,zay,zaz,zba,zbb,zbc,zbd,zbe,zbf,zbg,zbh,zbi,zbj,zbk,zbl,zbm,zbn,zbo,zbp,zbq,zbr,zbs,zbt,zbu,zbv,zbw,zbx,zby,zbz,zca,zcb,zcc,zcd,zce,zcf,zcg,zch,zci,zcj,zck,zcl,zcm,zcn,zco,zcp,zcq,zcr,zcs,zct,zcu,zcv,zcw,zcx,zcy,zcz,zda,zdb,zdc,zdd,zde,zdf,zdg,zdh,zdi,zdj,zdk,zdl,zdm,ev5,tbIb0,globS,List.getD_cons_zero,List.getD_cons_succ,s11,s8,s10,b8,b10,lp,lq]
          refine .same ?_
          rw [← he,cmpF,if_pos hne]
        · simp (maxSteps := 1000000) (disch := first | omega | (simp only [mulOut_len,lnB] <;> omega) | fail) only [ev0,ev1,ev2,ev3,↓reduceIte,reduceCtorEq,zaa,zab,zac,zad,zae,zaf,zag,zah,zai,zaj,zak,zal,zam,zan,zao,zap,zaq,↓zar,↓zas,zat,zau,zav,zaw,zax,zay,zaz,zba,zbb,zbc,zbd,zbe,zbf,zbg,zbh,zbi,zbj,zbk,zbl,zbm,zbn,zbo,zbp,zbq,zbr,zbs,zbt,zbu,zbv,zbw,zbx,zby,zbz,zca,zcb,zcc,zcd,zce,zcf,zcg,zch,zci,zcj,zck,zcl,zcm,zcn,zco,zcp,zcq,zcr,zcs,zct,zcu,zcv,zcw,zcx,zcy,zcz,zda,zdb,zdc,zdd,zde,zdf,zdg,zdh,zdi,zdj,zdk,zdl,zdm,ev5,tbIb0,globS,List.getD_cons_zero,List.getD_cons_succ,s11,s8,s10,b8,b10,lp,lq]
          rw [cmpF,if_neg (by rw [heq]; decide)] at he
          exact ⟨j,by omega,by omega,he,rfl⟩)
  · cases h
theorem int_eq {k : IntKind} {a b : Int} (h : a = b) : AV.raw (.int k a) = .raw (.int k b):=by rw [h]
def ES5 : Env:=ES0.know 138 pf138
theorem okS5 : EnvOK Tryd.prog ES5:=okS0.know sound138
theorem ES5_te : ES5.te = te:=rfl
theorem ES5_gs : ES5.gs = []:=rfl
theorem ES5_dyn : ES5.dyn = false:=rfl
theorem ES5_glob : ES5.glob = globS:=rfl
theorem ES5_mu (d : Nat) : ES5.mu d = false:=rfl
theorem ES5_138 : ES5.tbl 138 = some (.val pf138):=rfl
def rootF (n : BitVec 64) (third : Bool) : Nat → BitVec 64
  | 0=>0#64
  | k + 1=>if aboveF (rootF n third k + 1#64 <<< (36 - k)) n third then rootF n third k else rootF n third k + 1#64 <<< (36 - k)
def root (n : BitVec 64) (third : Bool) : BitVec 32:=BitVec.ofNat 32 (rootF n third 37).toNat
def pf107 : List AV → Option AV
  | [n,t]=>(num? .u64 64 n).bind fun n=>(bool? t).bind fun t=>some (.raw (.int .u32 ((root n t).toNat : Int)))
  | _=>none
theorem pf107_at {n : BitVec 64} {t : Bool} : pf107 [.raw (.int .u64 (n.toNat : Int)),.raw (.bool t)] = some (.raw (.int .u32 ((root n t).toNat : Int))):=by
  simp only [pf107,num?_num,bool?_at,Option.bind_some]
def tbIb1:=(And.intro (And.intro (And.intro @teE @ES5_te) (And.intro @ES5_gs (And.intro @ES5_dyn @ES5_glob))) (And.intro (And.intro @ES5_mu @ES5_138) (And.intro @pf138_at (And.intro @ns_strip @ns_set))))
theorem sound107 : SoundV Tryd.prog globS 107 pf107:=by
  refine SoundV.walk ES5 okS5 mixed Tryd.func107 rfl Tryd.call107 (by kernel_rfl) ?_
  intro args r h
  unfold pf107 at h
  split at h
  · simp only [Option.bind_eq_some_iff] at h
    obtain ⟨n,h2,t,h3,h4⟩:=h
    cases h4
    rw [num?_of h2,bool?_of h3]
    rw [Tryd.ntmps107,Tryd.results107]
    refine ⟨by simp,?_⟩
    simp (maxSteps:=1000000) (disch:=first | omega | (simp only [mulOut_len,lnB] <;> omega) | fail) only [ev0,ev1,ev2,ev3,↓reduceIte,reduceCtorEq,zaa,zab,zac,zad,zae,zaf,zag,zah,zai,zaj,zak,zal,zam,zan,zao,zap,zaq,↓zar,↓zas,zat,zau,zav,zaw,zax,zay,zaz,zba,zbb,zbc,zbd,zbe,zbf,zbg,zbh,zbi,zbj,zbk,zbl,zbm,zbn,zbo,zbp,zbq,zbr,zbs,zbt,zbu,zbv,zbw,zbx,zby,zbz,zca,zcb,zcc,zcd,zce,zcf,zcg,zch,zci,zcj,zck,zcl,zcm,zcn,zco,zcp,zcq,zcr,zcs,zct,zcu,zcv,zcw,zcx,zcy,zcz,zda,zdb,zdc,zdd,zde,zdf,zdg,zdh,zdi,zdj,zdk,zdl,zdm,ev5,tbIb1,globS]
    refine loopQ_of (fun m σ=>∃ k,k ≤ 37 ∧ m = 37 - k ∧ σ.slots 6 = .raw (.int .i64 (36 - (k : Int))) ∧ σ.slots 0 = .raw (.int .u64 (n.toNat : Int)) ∧ σ.slots 1 = .raw (.bool t) ∧ σ.slots 5 = .raw (.int .u64 ((rootF n t k).toNat : Int))) 37 ?_ ?_
    · refine ⟨0,by omega,by omega,?_⟩
      simp (maxSteps:=1000000) (disch:=first | omega | (simp only [mulOut_len,lnB] <;> omega) | fail) only [ev0,ev1,ev2,ev3,↓reduceIte,reduceCtorEq,zaa,zab,zac,zad,zae,zaf,zag,zah,zai,zaj,zak,zal,zam,zan,zao,zap,zaq,↓zar,↓zas,zat,zau,zav,zaw,zax,zay,zaz,zba,zbb,zbc,zbd,zbe,zbf,zbg,zbh,zbi,zbj,zbk,zbl,zbm,zbn,zbo,zbp,zbq,zbr,zbs,zbt,zbu,zbv,zbw,zbx,zby,zbz,zca,zcb,zcc,zcd,zce,zcf,zcg,zch,zci,zcj,zck,zcl,zcm,zcn,zco,zcp,zcq,zcr,zcs,zct,zcu,zcv,zcw,zcx,zcy,zcz,zda,zdb,zdc,zdd,zde,zdf,zdg,zdh,zdi,zdj,zdk,zdl,zdm,ev5,tbIb1,globS]
      exact ⟨rfl,rfl⟩
    · rintro m ⟨sl,gn,bx,us⟩ ⟨k,hk,rfl,s6,s0,s1,s5⟩
      dsimp only at s6 s0 s1 s5
      generalize hr : rootF n t k = r at s5
      simp (maxSteps:=1000000) (disch:=first | omega | (simp only [mulOut_len,lnB] <;> omega) | fail) only [ev0,ev1,ev2,ev3,↓reduceIte,reduceCtorEq,zaa,zab,zac,zad,zae,zaf,zag,zah,zai,zaj,zak,zal,zam,zan,zao,zap,zaq,↓zar,↓zas,zat,zau,zav,zaw,zax,zay,zaz,zba,zbb,zbc,zbd,zbe,zbf,zbg,zbh,zbi,zbj,zbk,zbl,zbm,zbn,zbo,zbp,zbq,zbr,zbs,zbt,zbu,zbv,zbw,zbx,zby,zbz,zca,zcb,zcc,zcd,zce,zcf,zcg,zch,zci,zcj,zck,zcl,zcm,zcn,zco,zcp,zcq,zcr,zcs,zct,zcu,zcv,zcw,zcx,zcy,zcz,zda,zdb,zdc,zdd,zde,zdf,zdg,zdh,zdi,zdj,zdk,zdl,zdm,ev5,tbIb1,globS,s6,s0,s1,s5]
      refine condQ_dec (fun hge=>?_) (fun hlt=>?_)
      · have hlt : k < 37 := by omega
        simp (maxSteps:=1000000) (disch:=first | omega | (simp only [mulOut_len,lnB] <;> omega) | fail) only [ev0,ev1,ev2,ev3,↓reduceIte,reduceCtorEq,zaa,zab,zac,zad,zae,zaf,zag,zah,zai,zaj,zak,zal,zam,zan,zao,zap,zaq,↓zar,↓zas,zat,zau,zav,zaw,zax,zay,zaz,zba,zbb,zbc,zbd,zbe,zbf,zbg,zbh,zbi,zbj,zbk,zbl,zbm,zbn,zbo,zbp,zbq,zbr,zbs,zbt,zbu,zbv,zbw,zbx,zby,zbz,zca,zcb,zcc,zcd,zce,zcf,zcg,zch,zci,zcj,zck,zcl,zcm,zcn,zco,zcp,zcq,zcr,zcs,zct,zcu,zcv,zcw,zcx,zcy,zcz,zda,zdb,zdc,zdd,zde,zdf,zdg,zdh,zdi,zdj,zdk,zdl,zdm,ev5,tbIb1,globS,s6,s0,s1,s5]
        refine condQ_bool (fun ha=>?_) (fun ha=>?_)
        · simp (maxSteps := 1000000) (disch := first | omega | (simp only [mulOut_len,lnB] <;> omega) | fail) only [ev0,ev1,ev2,ev3,↓reduceIte,reduceCtorEq,zaa,zab,zac,zad,zae,zaf,zag,zah,zai,zaj,zak,zal,zam,zan,zao,zap,zaq,↓zar,↓zas,zat,zau,zav,zaw,zax,zay,zaz,zba,zbb,zbc,zbd,zbe,zbf,zbg,zbh,zbi,zbj,zbk,zbl,zbm,zbn,zbo,zbp,zbq,zbr,zbs,zbt,zbu,zbv,zbw,zbx,zby,zbz,zca,zcb,zcc,zcd,zce,zcf,zcg,zch,zci,zcj,zck,zcl,zcm,zcn,zco,zcp,zcq,zcr,zcs,zct,zcu,zcv,zcw,zcx,zcy,zcz,zda,zdb,zdc,zdd,zde,zdf,zdg,zdh,zdi,zdj,zdk,zdl,zdm,ev5,tbIb1,globS,s6,s0,s1,s5]
          refine ⟨37 - (k + 1),by omega,k + 1,by omega,rfl,int_eq (by omega),?_⟩
          rw [rootF,hr,if_neg (by simpa using ha)]
        · simp (maxSteps := 1000000) (disch := first | omega | (simp only [mulOut_len,lnB] <;> omega) | fail) only [ev0,ev1,ev2,ev3,↓reduceIte,reduceCtorEq,zaa,zab,zac,zad,zae,zaf,zag,zah,zai,zaj,zak,zal,zam,zan,zao,zap,zaq,↓zar,↓zas,zat,zau,zav,zaw,zax,zay,zaz,zba,zbb,zbc,zbd,zbe,zbf,zbg,zbh,zbi,zbj,zbk,zbl,zbm,zbn,zbo,zbp,zbq,zbr,zbs,zbt,zbu,zbv,zbw,zbx,zby,zbz,zca,zcb,zcc,zcd,zce,zcf,zcg,zch,zci,zcj,zck,zcl,zcm,zcn,zco,zcp,zcq,zcr,zcs,zct,zcu,zcv,zcw,zcx,zcy,zcz,zda,zdb,zdc,zdd,zde,zdf,zdg,zdh,zdi,zdj,zdk,zdl,zdm,ev5,tbIb1,globS,s6,s0,s1,s5]
          refine ⟨37 - (k + 1),by omega,k + 1,by omega,rfl,int_eq (by omega),?_⟩
          rw [rootF,hr,if_pos (by simpa using ha)]
      · have hk : k = 37 := by omega
        subst hk
        simp (maxSteps:=1000000) (disch:=first | omega | (simp only [mulOut_len,lnB] <;> omega) | fail) only [ev0,ev1,ev2,ev3,↓reduceIte,reduceCtorEq,zaa,zab,zac,zad,zae,zaf,zag,zah,zai,zaj,zak,zal,zam,zan,zao,zap,zaq,↓zar,↓zas,zat,zau,zav,zaw,zax,zay,zaz,zba,zbb,zbc,zbd,zbe,zbf,zbg,zbh,zbi,zbj,zbk,zbl,zbm,zbn,zbo,zbp,zbq,zbr,zbs,zbt,zbu,zbv,zbw,zbx,zby,zbz,zca,zcb,zcc,zcd,zce,zcf,zcg,zch,zci,zcj,zck,zcl,zcm,zcn,zco,zcp,zcq,zcr,zcs,zct,zcu,zcv,zcw,zcx,zcy,zcz,zda,zdb,zdc,zdd,zde,zdf,zdg,zdh,zdi,zdj,zdk,zdl,zdm,ev5,tbIb1,globS,s6,s0,s1,s5]
        rw [← hr]
        exact ResQ.same rfl
  · cases h
def pl : Nat → List (BitVec 64)
  | 0=>[]
  | n + 1=>if 2 ≤ n ∧ (pl n).all (fun q=>BitVec.ofNat 64 n % q != 0#64) = true then pl n ++ [BitVec.ofNat 64 n] else pl n
theorem pl_pos (n : Nat) (hn : n ≤ 1000) : ∀ i,i < (pl n).length→0 < ((pl n).getD i 0#64).toNat:=by
  induction n with
  | zero=>intro i hi; simp [pl] at hi
  | succ n ih =>
    intro i hi
    unfold pl at hi ⊢
    split
    · rename_i hc
      rw [if_pos hc] at hi
      by_cases h : i < (pl n).length
      · rw [List.getD_eq_getElem?_getD,List.getElem?_append_left h,← List.getD_eq_getElem?_getD]; exact ih (by omega) i h
      · have : i = (pl n).length := by simp at hi; omega
        subst this
        simp
        omega
    · rename_i hc
      rw [if_neg hc] at hi
      exact ih (by omega) i hi
theorem pl_up (n m : Nat) (h : n ≤ m) : (pl n).length ≤ (pl m).length:=by
  induction m with
  | zero => have : n = 0 := by omega
            subst this; exact Nat.le_refl _
  | succ m ih =>
    by_cases e : n = m + 1
    · subst e; exact Nat.le_refl _
    · have := ih (by omega)
      rw [show pl (m + 1) = if 2 ≤ m ∧ (pl m).all (fun q=>BitVec.ofNat 64 m % q != 0#64) = true then pl m ++ [BitVec.ofNat 64 m] else pl m from rfl]
      split
      · simp; omega
      · exact this
theorem pl_8 : (pl 19).length = 7 ∧ (pl 20).length = 8:=by decide +kernel
theorem pl_64 : (pl 311).length = 63 ∧ (pl 312).length = 64:=by decide +kernel
def pf106 : List AV → Option AV
  | [v]=>(int? v).bind fun n=>if n = 8 then some (.sl 8 (nums .u64 (pl 20)) .bor) else if n = 64 then some (.sl 64 (nums .u64 (pl 312)) .bor) else none
  | _=>none
def nodiv (l : List (BitVec 64)) (x : BitVec 64) (k : Nat) : Bool:=(l.take k).all fun q=>x % q != 0#64
theorem nodiv_succ (l : List (BitVec 64)) (x : BitVec 64) (k : Nat) (h : k < l.length) : nodiv l x (k + 1) = (nodiv l x k && (x % l.getD k 0#64 != 0#64)):=by
  rw [nodiv,List.take_add_one,List.all_append,List.getElem?_eq_getElem h,List.getD_eq_getElem?_getD,List.getElem?_eq_getElem h]
  simp only [Option.toList_some,List.all_cons,List.all_nil,Bool.and_true,Option.getD_some,nodiv]
theorem zero_cast (x : BitVec 64) : ((x.toNat : Int) != 0) = (x != 0#64):=cast_eq x 0#64
def tbIb2:=(And.intro (And.intro (And.intro @teE @ES0_te) (And.intro @ES0_glob (And.intro @ES0_gs @ES0_dyn))) (And.intro (And.intro @ES0_mu @rem_u64') (And.intro @zero_cast (And.intro @ns_strip @ns_set))))
theorem sound106 : SoundV Tryd.prog globS 106 pf106:=by
  refine SoundV.walk ES0 okS0 mixed Tryd.func106 rfl Tryd.call106 (by kernel_rfl) ?_
  intro args r h
  unfold pf106 at h
  split at h
  · rename_i v
    simp only [Option.bind_eq_some_iff] at h
    obtain ⟨n,h1,h2⟩:=h
    rw [int?_of h1]
    obtain ⟨many,top,hn,hr,t0,t1,t2,t3,t4⟩ : ∃ many top : Nat,n = many ∧ r = .sl many (nums .u64 (pl top)) .bor ∧ top ≤ 900 ∧ many ≤ 900 ∧ 2 < top ∧ (pl top).length = many ∧ (pl (top - 1)).length < many:=by
      split at h2
      · rename_i e; cases h2; exact ⟨8,20,e,rfl,by omega,by omega,by omega,pl_8.2,by rw [pl_8.1]; omega⟩
      · split at h2
        · rename_i e; cases h2; exact ⟨64,312,e,rfl,by omega,by omega,by omega,pl_64.2,by rw [pl_64.1]; omega⟩
        · cases h2
    clear h1 h2
    subst hn hr
    rw [Tryd.ntmps106,Tryd.results106]
    refine ⟨by simp,?_⟩
    simp (maxSteps:=1000000) (disch:=first | omega | (simp only [mulOut_len,lnB] <;> omega) | fail) only [ev0,ev1,ev2,ev3,↓reduceIte,reduceCtorEq,zaa,zab,zac,zad,zae,zaf,zag,zah,zai,zaj,zak,zal,zam,zan,zao,zap,zaq,↓zar,↓zas,zat,zau,zav,zaw,zax,zay,zaz,zba,zbb,zbc,zbd,zbe,zbf,zbg,zbh,zbi,zbj,zbk,zbl,zbm,zbn,zbo,zbp,zbq,zbr,zbs,zbt,zbu,zbv,zbw,zbx,zby,zbz,zca,zcb,zcc,zcd,zce,zcf,zcg,zch,zci,zcj,zck,zcl,zcm,zcn,zco,zcp,zcq,zcr,zcs,zct,zcu,zcv,zcw,zcx,zcy,zcz,zda,zdb,zdc,zdd,zde,zdf,zdg,zdh,zdi,zdj,zdk,zdl,zdm,ev5,tbIb2,globS]
    refine loopQ_wk _ (Wk.at (d:=3) (v:=.sl 0 [] (.own ⟨0,3,0,0⟩ 1)) (by simp (maxSteps:=1000000) (disch:=first | omega | (simp only [mulOut_len,lnB] <;> omega) | fail) only [ev0,ev1,ev2,ev3,↓reduceIte,reduceCtorEq,zaa,zab,zac,zad,zae,zaf,zag,zah,zai,zaj,zak,zal,zam,zan,zao,zap,zaq,↓zar,↓zas,zat,zau,zav,zaw,zax,zay,zaz,zba,zbb,zbc,zbd,zbe,zbf,zbg,zbh,zbi,zbj,zbk,zbl,zbm,zbn,zbo,zbp,zbq,zbr,zbs,zbt,zbu,zbv,zbw,zbx,zby,zbz,zca,zcb,zcc,zcd,zce,zcf,zcg,zch,zci,zcj,zck,zcl,zcm,zcn,zco,zcp,zcq,zcr,zcs,zct,zcu,zcv,zcw,zcx,zcy,zcz,zda,zdb,zdc,zdd,zde,zdf,zdg,zdh,zdi,zdj,zdk,zdl,zdm,ev5,tbIb2,globS]; exact .nil 3 1)) (fun m σ=>∃ n i,2 ≤ n ∧ n ≤ top ∧ m = top - n ∧ σ.slots 4 = .raw (.int .u64 ((BitVec.ofNat 64 n).toNat : Int)) ∧ σ.slots 0 = .raw (.int .i64 (many : Int)) ∧ σ.slots 3 = .sl (pl n).length (nums .u64 (pl n)) (.own i 1) ∧ Free σ.used (σ.gen 33) 33 i) (top - 2) ?_ ?_
    · refine ⟨2,⟨0,3,0,0⟩,by omega,by omega,rfl,?_⟩
      simp (maxSteps:=1000000) (disch:=first | omega | (simp only [mulOut_len,lnB] <;> omega) | fail) only [ev0,ev1,ev2,ev3,↓reduceIte,reduceCtorEq,zaa,zab,zac,zad,zae,zaf,zag,zah,zai,zaj,zak,zal,zam,zan,zao,zap,zaq,↓zar,↓zas,zat,zau,zav,zaw,zax,zay,zaz,zba,zbb,zbc,zbd,zbe,zbf,zbg,zbh,zbi,zbj,zbk,zbl,zbm,zbn,zbo,zbp,zbq,zbr,zbs,zbt,zbu,zbv,zbw,zbx,zby,zbz,zca,zcb,zcc,zcd,zce,zcf,zcg,zch,zci,zcj,zck,zcl,zcm,zcn,zco,zcp,zcq,zcr,zcs,zct,zcu,zcv,zcw,zcx,zcy,zcz,zda,zdb,zdc,zdd,zde,zdf,zdg,zdh,zdi,zdj,zdk,zdl,zdm,ev5,tbIb2,globS]
      exact ⟨rfl,rfl,⟨rfl,fun _ _=>rfl,by simp⟩⟩
    · rintro m ⟨sl,gn,bx,us⟩ ⟨n,i,hn2,hnt,rfl,s4,s0,s3,hf⟩
      dsimp only at s4 s0 s3 hf
      have hp:=pl_pos n (by omega)
      have hl:=pl_up n top hnt
      have hnext : pl (n + 1) = if 2 ≤ n ∧ nodiv (pl n) (BitVec.ofNat 64 n) (pl n).length = true then pl n ++ [BitVec.ofNat 64 n] else pl n:=by
        rw [nodiv,List.take_length]; rfl
      have hge' : (pl n).length ≥ many→n = top:=by
        intro h
        apply Classical.byContradiction
        intro hne
        have:=pl_up n (top - 1) (by omega)
        omega
      generalize hL : pl n = L at s3 hp hl hnext hge'
      have hx1 : BitVec.ofNat 64 (n + 1) = BitVec.ofNat 64 n + 1#64:=by simp [BitVec.ofNat_add]
      generalize hx : BitVec.ofNat 64 n = x at s4 hnext hx1
      have hf0:=hf.now
      simp (maxSteps:=1000000) (disch:=first | omega | (simp only [mulOut_len,lnB] <;> omega) | fail) only [ev0,ev1,ev2,ev3,↓reduceIte,reduceCtorEq,zaa,zab,zac,zad,zae,zaf,zag,zah,zai,zaj,zak,zal,zam,zan,zao,zap,zaq,↓zar,↓zas,zat,zau,zav,zaw,zax,zay,zaz,zba,zbb,zbc,zbd,zbe,zbf,zbg,zbh,zbi,zbj,zbk,zbl,zbm,zbn,zbo,zbp,zbq,zbr,zbs,zbt,zbu,zbv,zbw,zbx,zby,zbz,zca,zcb,zcc,zcd,zce,zcf,zcg,zch,zci,zcj,zck,zcl,zcm,zcn,zco,zcp,zcq,zcr,zcs,zct,zcu,zcv,zcw,zcx,zcy,zcz,zda,zdb,zdc,zdd,zde,zdf,zdg,zdh,zdi,zdj,zdk,zdl,zdm,ev5,tbIb2,globS,s4,s0,s3,hf0]
      refine condQ_dec (fun hlt=>?_) (fun hge=>?_)
      · have hlt : L.length < many := by omega
        have hnt' : n < top:=by
          apply Classical.byContradiction; intro h
          have : n = top:=by omega
          subst this
          rw [hL] at t3; omega
        simp (maxSteps:=1000000) (disch:=first | omega | (simp only [mulOut_len,lnB] <;> omega) | fail) only [ev0,ev1,ev2,ev3,↓reduceIte,reduceCtorEq,zaa,zab,zac,zad,zae,zaf,zag,zah,zai,zaj,zak,zal,zam,zan,zao,zap,zaq,↓zar,↓zas,zat,zau,zav,zaw,zax,zay,zaz,zba,zbb,zbc,zbd,zbe,zbf,zbg,zbh,zbi,zbj,zbk,zbl,zbm,zbn,zbo,zbp,zbq,zbr,zbs,zbt,zbu,zbv,zbw,zbx,zby,zbz,zca,zcb,zcc,zcd,zce,zcf,zcg,zch,zci,zcj,zck,zcl,zcm,zcn,zco,zcp,zcq,zcr,zcs,zct,zcu,zcv,zcw,zcx,zcy,zcz,zda,zdb,zdc,zdd,zde,zdf,zdg,zdh,zdi,zdj,zdk,zdl,zdm,ev5,tbIb2,globS,s4,s0,s3,hf0]
        refine loopQ_of (fun m σ=>∃ k,k ≤ L.length ∧ m = L.length - k ∧ σ.slots 6 = .raw (.int .i64 (k : Int)) ∧ σ.slots 5 = .raw (.bool (nodiv L x k)) ∧ σ.slots 4 = .raw (.int .u64 (x.toNat : Int)) ∧ σ.slots 0 = .raw (.int .i64 (many : Int)) ∧ σ.slots 3 = .sl L.length (nums .u64 L) (.own i 1) ∧ Free σ.used (σ.gen 33) 33 i) L.length ?_ ?_
        · refine ⟨0,by omega,by omega,?_⟩
          simp (maxSteps:=1000000) (disch:=first | omega | (simp only [mulOut_len,lnB] <;> omega) | fail) only [ev0,ev1,ev2,ev3,↓reduceIte,reduceCtorEq,zaa,zab,zac,zad,zae,zaf,zag,zah,zai,zaj,zak,zal,zam,zan,zao,zap,zaq,↓zar,↓zas,zat,zau,zav,zaw,zax,zay,zaz,zba,zbb,zbc,zbd,zbe,zbf,zbg,zbh,zbi,zbj,zbk,zbl,zbm,zbn,zbo,zbp,zbq,zbr,zbs,zbt,zbu,zbv,zbw,zbx,zby,zbz,zca,zcb,zcc,zcd,zce,zcf,zcg,zch,zci,zcj,zck,zcl,zcm,zcn,zco,zcp,zcq,zcr,zcs,zct,zcu,zcv,zcw,zcx,zcy,zcz,zda,zdb,zdc,zdd,zde,zdf,zdg,zdh,zdi,zdj,zdk,zdl,zdm,ev5,tbIb2,globS,s4,s0,s3,hf0]
          exact ⟨rfl,rfl,hf⟩
        · clear s4 s0 s3 hf hf0 sl gn bx us
          rintro m ⟨sl,gn,bx,us⟩ ⟨k,hk,rfl,s6,s5,s4,s0,s3,hf⟩
          dsimp only at s6 s5 s4 s0 s3 hf
          have hf0:=hf.now
          simp (maxSteps:=1000000) (disch:=first | omega | (simp only [mulOut_len,lnB] <;> omega) | fail) only [ev0,ev1,ev2,ev3,↓reduceIte,reduceCtorEq,zaa,zab,zac,zad,zae,zaf,zag,zah,zai,zaj,zak,zal,zam,zan,zao,zap,zaq,↓zar,↓zas,zat,zau,zav,zaw,zax,zay,zaz,zba,zbb,zbc,zbd,zbe,zbf,zbg,zbh,zbi,zbj,zbk,zbl,zbm,zbn,zbo,zbp,zbq,zbr,zbs,zbt,zbu,zbv,zbw,zbx,zby,zbz,zca,zcb,zcc,zcd,zce,zcf,zcg,zch,zci,zcj,zck,zcl,zcm,zcn,zco,zcp,zcq,zcr,zcs,zct,zcu,zcv,zcw,zcx,zcy,zcz,zda,zdb,zdc,zdd,zde,zdf,zdg,zdh,zdi,zdj,zdk,zdl,zdm,ev5,tbIb2,globS,s6,s5,s4,s0,s3,hf0]
          refine condQ_dec (fun hlt2=>?_) (fun hge=>?_)
          · have hlt2 : k < L.length := by omega
            have hpk:=hp k hlt2
            have hs:=nodiv_succ L x k hlt2
            cases hb : nodiv L x k
            · rw [hb] at s5 hs
              simp (maxSteps:=1000000) (disch:=first | omega | (simp only [mulOut_len,lnB] <;> omega) | fail) only [ev0,ev1,ev2,ev3,↓reduceIte,reduceCtorEq,zaa,zab,zac,zad,zae,zaf,zag,zah,zai,zaj,zak,zal,zam,zan,zao,zap,zaq,↓zar,↓zas,zat,zau,zav,zaw,zax,zay,zaz,zba,zbb,zbc,zbd,zbe,zbf,zbg,zbh,zbi,zbj,zbk,zbl,zbm,zbn,zbo,zbp,zbq,zbr,zbs,zbt,zbu,zbv,zbw,zbx,zby,zbz,zca,zcb,zcc,zcd,zce,zcf,zcg,zch,zci,zcj,zck,zcl,zcm,zcn,zco,zcp,zcq,zcr,zcs,zct,zcu,zcv,zcw,zcx,zcy,zcz,zda,zdb,zdc,zdd,zde,zdf,zdg,zdh,zdi,zdj,zdk,zdl,zdm,ev5,tbIb2,globS,s6,s5,s4,s0,s3,hf0]
              refine ⟨L.length - (k + 1),by omega,k + 1,by omega,rfl,rfl,?_,hf⟩
              rw [hs]; rfl
            · rw [hb] at s5 hs
              simp (maxSteps:=1000000) (disch:=first | omega | (simp only [mulOut_len,lnB] <;> omega) | fail) only [ev0,ev1,ev2,ev3,↓reduceIte,reduceCtorEq,zaa,zab,zac,zad,zae,zaf,zag,zah,zai,zaj,zak,zal,zam,zan,zao,zap,zaq,↓zar,↓zas,zat,zau,zav,zaw,zax,zay,zaz,zba,zbb,zbc,zbd,zbe,zbf,zbg,zbh,zbi,zbj,zbk,zbl,zbm,zbn,zbo,zbp,zbq,zbr,zbs,zbt,zbu,zbv,zbw,zbx,zby,zbz,zca,zcb,zcc,zcd,zce,zcf,zcg,zch,zci,zcj,zck,zcl,zcm,zcn,zco,zcp,zcq,zcr,zcs,zct,zcu,zcv,zcw,zcx,zcy,zcz,zda,zdb,zdc,zdd,zde,zdf,zdg,zdh,zdi,zdj,zdk,zdl,zdm,ev5,tbIb2,globS,s6,s5,s4,s0,s3,hf0]
              refine ⟨L.length - (k + 1),by omega,k + 1,by omega,rfl,rfl,?_,hf⟩
              rw [hs]; rfl
          · have hk : k = L.length := by omega
            subst hk
            simp (maxSteps:=1000000) (disch:=first | omega | (simp only [mulOut_len,lnB] <;> omega) | fail) only [ev0,ev1,ev2,ev3,↓reduceIte,reduceCtorEq,zaa,zab,zac,zad,zae,zaf,zag,zah,zai,zaj,zak,zal,zam,zan,zao,zap,zaq,↓zar,↓zas,zat,zau,zav,zaw,zax,zay,zaz,zba,zbb,zbc,zbd,zbe,zbf,zbg,zbh,zbi,zbj,zbk,zbl,zbm,zbn,zbo,zbp,zbq,zbr,zbs,zbt,zbu,zbv,zbw,zbx,zby,zbz,zca,zcb,zcc,zcd,zce,zcf,zcg,zch,zci,zcj,zck,zcl,zcm,zcn,zco,zcp,zcq,zcr,zcs,zct,zcu,zcv,zcw,zcx,zcy,zcz,zda,zdb,zdc,zdd,zde,zdf,zdg,zdh,zdi,zdj,zdk,zdl,zdm,ev5,tbIb2,globS,s6,s5,s4,s0,s3,hf0]
            refine condQ_bool (fun hb=>?_) (fun hb=>?_)
            · simp (maxSteps := 1000000) (disch := first | omega | (simp only [mulOut_len,lnB] <;> omega) | fail) only [ev0,ev1,ev2,ev3,↓reduceIte,reduceCtorEq,zaa,zab,zac,zad,zae,zaf,zag,zah,zai,zaj,zak,zal,zam,zan,zao,zap,zaq,↓zar,↓zas,zat,zau,zav,zaw,zax,zay,zaz,zba,zbb,zbc,zbd,zbe,zbf,zbg,zbh,zbi,zbj,zbk,zbl,zbm,zbn,zbo,zbp,zbq,zbr,zbs,zbt,zbu,zbv,zbw,zbx,zby,zbz,zca,zcb,zcc,zcd,zce,zcf,zcg,zch,zci,zcj,zck,zcl,zcm,zcn,zco,zcp,zcq,zcr,zcs,zct,zcu,zcv,zcw,zcx,zcy,zcz,zda,zdb,zdc,zdd,zde,zdf,zdg,zdh,zdi,zdj,zdk,zdl,zdm,ev5,tbIb2,globS,s6,s5,s4,s0,s3,hf0]
              rw [hb,if_pos ⟨hn2,rfl⟩] at hnext
              refine ⟨top - (n + 1),by omega,n + 1,⟨0,33,0,gn 33 + 1⟩,by omega,by omega,rfl,by rw [hx1],?_,hf.go⟩
              rw [hnext]
              exact sl_eq (by simp) rfl
            · simp (maxSteps := 1000000) (disch := first | omega | (simp only [mulOut_len,lnB] <;> omega) | fail) only [ev0,ev1,ev2,ev3,↓reduceIte,reduceCtorEq,zaa,zab,zac,zad,zae,zaf,zag,zah,zai,zaj,zak,zal,zam,zan,zao,zap,zaq,↓zar,↓zas,zat,zau,zav,zaw,zax,zay,zaz,zba,zbb,zbc,zbd,zbe,zbf,zbg,zbh,zbi,zbj,zbk,zbl,zbm,zbn,zbo,zbp,zbq,zbr,zbs,zbt,zbu,zbv,zbw,zbx,zby,zbz,zca,zcb,zcc,zcd,zce,zcf,zcg,zch,zci,zcj,zck,zcl,zcm,zcn,zco,zcp,zcq,zcr,zcs,zct,zcu,zcv,zcw,zcx,zcy,zcz,zda,zdb,zdc,zdd,zde,zdf,zdg,zdh,zdi,zdj,zdk,zdl,zdm,ev5,tbIb2,globS,s6,s5,s4,s0,s3,hf0]
              rw [hb,if_neg (by simp)] at hnext
              refine ⟨top - (n + 1),by omega,n + 1,i,by omega,by omega,rfl,by rw [hx1],?_,hf⟩
              rw [hnext]
      · have hk : n = top := hge' (by omega)
        subst hk
        simp (maxSteps:=1000000) (disch:=first | omega | (simp only [mulOut_len,lnB] <;> omega) | fail) only [ev0,ev1,ev2,ev3,↓reduceIte,reduceCtorEq,zaa,zab,zac,zad,zae,zaf,zag,zah,zai,zaj,zak,zal,zam,zan,zao,zap,zaq,↓zar,↓zas,zat,zau,zav,zaw,zax,zay,zaz,zba,zbb,zbc,zbd,zbe,zbf,zbg,zbh,zbi,zbj,zbk,zbl,zbm,zbn,zbo,zbp,zbq,zbr,zbs,zbt,zbu,zbv,zbw,zbx,zby,zbz,zca,zcb,zcc,zcd,zce,zcf,zcg,zch,zci,zcj,zck,zcl,zcm,zcn,zco,zcp,zcq,zcr,zcs,zct,zcu,zcv,zcw,zcx,zcy,zcz,zda,zdb,zdc,zdd,zde,zdf,zdg,zdh,zdi,zdj,zdk,zdl,zdm,ev5,tbIb2,globS,s4,s0,s3,hf0]
        rw [← t3,hL]
        exact .bor
  · cases h
end Go.Proofs.YtddeffdgldjdjaaDoor
