/- The document's tables: what the walks of its functions come to. -/
import Derived.Test.YtddeffdgldjdjaaDoorIb
namespace Go.Proofs.YtddeffdgldjdjaaDoor
set_option linter.unusedSimpArgs false
set_option linter.unusedVariables false
set_option linter.defProp false
open Go Go.Abs
open Nat renaming reduceAdd→zaa,reduceSub→zab,reduceMul→zac,reduceLT→zad,reduceLeDiff→zae,reduceEqDiff→zaf,reduceBEq→zag
open BitVec renaming reduceOfInt→zah
open Int renaming reduceLE→zai,reduceLT→zaj,reduceGT→zak,reduceGE→zal,reduceNeg→zam,reduceAdd→zan,reduceSub→zao,reduceMul→zap,reduceToNat→zaq
open Go.Abs renaming bind_go→zar,map_go→zas,wantedV→zat,isWrite→zau,grow→zav,write→zaw,ofV→zax,start→zaz,strip→zba,endQ→zbb,resV→zbc,rawsRes→zbd,rawRes→zbe,exports→zbf,export1→zbg,isSelf→zbl,convSelf→zbm,convV→zbn,loadV→zbo,storeV→zbp,fieldAddrV→zbq,fieldV→zbr,indexAddrV→zbs,indexV→zbt,partV→zbu,isAggK→zbv,isStr→zbw,place→zbx,ipS→zby,lenV→zbz,min2V→zca,makeV→zcb,freshSl→zcc,sliceV→zcd,boundOr→zce,bound→zcf,bounds→zcg,cutFl→zch,copyV→zci,slCells→zcj,srcV→zck,appendV→zcl,room→zcm,zerosOf→zcn,eqNeg→zco,kd→zcp,takeR→zcq,hasViewL→zcr,hasView→zcs,freshR→zct,freshC→zcu,snapAll→zcv,snap→zcw,snapL→zcx,flatL→zcy,pureL→zcz,pureA→zda,fillC→zdb,arrOK→zdc,oneA→zdd,partB→zde,ren1→zdg,applyW→zdi,useL→zdj,isGen→zdl,startG→zdm
open Go.Abs.AV renaming cells→zay,laid→zdf
open Go.Abs.AS renaming grown→zbh,put→zbi,mute→zdk
open Go.Abs.Env renaming know→zbj,boxed→zbk
open Go.Abs.CR renaming gr→zdh
def ES6 : Env:=(ES0.know 107 pf107).know 106 pf106
theorem okS6 : EnvOK Tryd.prog ES6:=(okS0.know sound107).know sound106
theorem ES6_te : ES6.te = te:=rfl
theorem ES6_gs : ES6.gs = []:=rfl
theorem ES6_dyn : ES6.dyn = false:=rfl
theorem ES6_glob : ES6.glob = globS:=rfl
theorem ES6_mu (d : Nat) : ES6.mu d = false:=rfl
theorem ES6_106 : ES6.tbl 106 = some (.val pf106):=rfl
theorem ES6_107 : ES6.tbl 107 = some (.val pf107):=rfl
theorem pf106_8 : pf106 [.raw (.int .i64 8)] = some (.sl 8 (nums .u64 (pl 20)) .bor):=rfl
theorem pf106_64 : pf106 [.raw (.int .i64 64)] = some (.sl 64 (nums .u64 (pl 312)) .bor):=rfl
def thirdsF : Nat → List (BitVec 32)
  | 0=>[]
  | k + 1=>thirdsF k ++ [root ((pl 312).getD k 0#64) true]
def secsF : Nat → List (BitVec 32)
  | 0=>List.replicate 8 0#32
  | k + 1=>(secsF k).set k (root ((pl 20).getD k 0#64) false)
theorem thirds_len (k : Nat) : (thirdsF k).length = k:=by
  induction k with
  | zero=>rfl
  | succ k ih=>simp [thirdsF,ih]
theorem secs_len (k : Nat) : (secsF k).length = 8:=by
  induction k with
  | zero=>rfl
  | succ k ih=>simp [secsF,ih]
def pf75 : List AV → Option AV
  | []=>some (.sl 64 (nums .u32 (thirdsF 64)) .bor)
  | _=>none
def pf76 : List AV → Option AV
  | []=>some (.agg (nums .u32 (secsF 8)))
  | _=>none
set_option maxHeartbeats 4000000
def tbIc0:=(And.intro (And.intro (And.intro @teE (And.intro @ES6_te @ES6_gs)) (And.intro @ES6_dyn (And.intro @ES6_glob @ES6_mu))) (And.intro (And.intro @ES6_106 (And.intro @ES6_107 @pf107_at)) (And.intro (And.intro @pf106_8 @pf106_64) (And.intro @ns_strip @ns_set))))
theorem sound75 : SoundV Tryd.prog globS 75 pf75:=by
  refine SoundV.walk ES6 okS6 mixed Tryd.func75 rfl Tryd.call75 (by kernel_rfl) ?_
  intro args r h
  unfold pf75 at h
  split at h
  · cases h
    rw [Tryd.ntmps75,Tryd.results75]
    refine ⟨by simp,?_⟩
    have lp : (pl 312).length = 64:=pl_64.2
    simp (maxSteps:=1000000) (disch:=first | omega | (simp only [nums_len,lnB] <;> omega) | fail) only [ev0,ev1,ev2,ev3,↓reduceIte,reduceCtorEq,zaa,zab,zac,zad,zae,zaf,zag,zah,zai,zaj,zak,zal,zam,zan,zao,zap,zaq,↓zar,↓zas,zat,zau,zav,zaw,zax,zay,zaz,zba,zbb,zbc,zbd,zbe,zbf,zbg,zbh,zbi,zbj,zbk,zbl,zbm,zbn,zbo,zbp,zbq,zbr,zbs,zbt,zbu,zbv,zbw,zbx,zby,zbz,zca,zcb,zcc,zcd,zce,zcf,zcg,zch,zci,zcj,zck,zcl,zcm,zcn,zco,zcp,zcq,zcr,zcs,zct,zcu,zcv,zcw,zcx,zcy,zcz,zda,zdb,zdc,zdd,zde,zdf,zdg,zdh,zdi,zdj,zdk,zdl,zdm,ev5,tbIc0,globS]
    refine loopQ_wk _ (Wk.at (d:=1) (v:=.sl 0 [] (.own ⟨0,1,0,0⟩ 1)) (by simp (maxSteps:=1000000) (disch:=first | omega | (simp only [nums_len,lnB] <;> omega) | fail) only [ev0,ev1,ev2,ev3,↓reduceIte,reduceCtorEq,zaa,zab,zac,zad,zae,zaf,zag,zah,zai,zaj,zak,zal,zam,zan,zao,zap,zaq,↓zar,↓zas,zat,zau,zav,zaw,zax,zay,zaz,zba,zbb,zbc,zbd,zbe,zbf,zbg,zbh,zbi,zbj,zbk,zbl,zbm,zbn,zbo,zbp,zbq,zbr,zbs,zbt,zbu,zbv,zbw,zbx,zby,zbz,zca,zcb,zcc,zcd,zce,zcf,zcg,zch,zci,zcj,zck,zcl,zcm,zcn,zco,zcp,zcq,zcr,zcs,zct,zcu,zcv,zcw,zcx,zcy,zcz,zda,zdb,zdc,zdd,zde,zdf,zdg,zdh,zdi,zdj,zdk,zdl,zdm,ev5,tbIc0,globS]; exact .nil 1 1)) (fun m σ=>∃ k i,k ≤ 64 ∧ m = 64 - k ∧ σ.slots 3 = .raw (.int .i64 (k : Int)) ∧ σ.slots 2 = .sl 64 (nums .u64 (pl 312)) .bor ∧ σ.slots 1 = .sl k (nums .u32 (thirdsF k)) (.own i 1) ∧ Free σ.used (σ.gen 16) 16 i) 64 ?_ ?_
    · refine ⟨0,⟨0,1,0,0⟩,by omega,by omega,?_⟩
      simp (maxSteps:=1000000) (disch:=first | omega | (simp only [nums_len,lnB] <;> omega) | fail) only [ev0,ev1,ev2,ev3,↓reduceIte,reduceCtorEq,zaa,zab,zac,zad,zae,zaf,zag,zah,zai,zaj,zak,zal,zam,zan,zao,zap,zaq,↓zar,↓zas,zat,zau,zav,zaw,zax,zay,zaz,zba,zbb,zbc,zbd,zbe,zbf,zbg,zbh,zbi,zbj,zbk,zbl,zbm,zbn,zbo,zbp,zbq,zbr,zbs,zbt,zbu,zbv,zbw,zbx,zby,zbz,zca,zcb,zcc,zcd,zce,zcf,zcg,zch,zci,zcj,zck,zcl,zcm,zcn,zco,zcp,zcq,zcr,zcs,zct,zcu,zcv,zcw,zcx,zcy,zcz,zda,zdb,zdc,zdd,zde,zdf,zdg,zdh,zdi,zdj,zdk,zdl,zdm,ev5,tbIc0,globS]
      exact ⟨rfl,rfl,⟨rfl,fun _ _=>rfl,by simp⟩⟩
    · rintro m ⟨sl,gn,bx,us⟩ ⟨k,i,hk,rfl,s3,s2,s1,hf⟩
      dsimp only at s3 s2 s1 hf
      have hf0:=hf.now
      have lt:=thirds_len k
      simp (maxSteps:=1000000) (disch:=first | omega | (simp only [nums_len,lnB] <;> omega) | fail) only [ev0,ev1,ev2,ev3,↓reduceIte,reduceCtorEq,zaa,zab,zac,zad,zae,zaf,zag,zah,zai,zaj,zak,zal,zam,zan,zao,zap,zaq,↓zar,↓zas,zat,zau,zav,zaw,zax,zay,zaz,zba,zbb,zbc,zbd,zbe,zbf,zbg,zbh,zbi,zbj,zbk,zbl,zbm,zbn,zbo,zbp,zbq,zbr,zbs,zbt,zbu,zbv,zbw,zbx,zby,zbz,zca,zcb,zcc,zcd,zce,zcf,zcg,zch,zci,zcj,zck,zcl,zcm,zcn,zco,zcp,zcq,zcr,zcs,zct,zcu,zcv,zcw,zcx,zcy,zcz,zda,zdb,zdc,zdd,zde,zdf,zdg,zdh,zdi,zdj,zdk,zdl,zdm,ev5,tbIc0,globS,s3,s2,s1,hf0,lp,lt]
      refine condQ_dec (fun hlt=>?_) (fun hge=>?_)
      · have hlt : k < 64 := by omega
        simp (maxSteps:=1000000) (disch:=first | omega | (simp only [nums_len,lnB] <;> omega) | fail) only [ev0,ev1,ev2,ev3,↓reduceIte,reduceCtorEq,zaa,zab,zac,zad,zae,zaf,zag,zah,zai,zaj,zak,zal,zam,zan,zao,zap,zaq,↓zar,↓zas,zat,zau,zav,zaw,zax,zay,zaz,zba,zbb,zbc,zbd,zbe,zbf,zbg,zbh,zbi,zbj,zbk,zbl,zbm,zbn,zbo,zbp,zbq,zbr,zbs,zbt,zbu,zbv,zbw,zbx,zby,zbz,zca,zcb,zcc,zcd,zce,zcf,zcg,zch,zci,zcj,zck,zcl,zcm,zcn,zco,zcp,zcq,zcr,zcs,zct,zcu,zcv,zcw,zcx,zcy,zcz,zda,zdb,zdc,zdd,zde,zdf,zdg,zdh,zdi,zdj,zdk,zdl,zdm,ev5,tbIc0,globS,s3,s2,s1,hf0,lp,lt]
        exact ⟨64 - (k + 1),by omega,k + 1,⟨0,16,0,gn 16 + 1⟩,by omega,rfl,rfl,rfl,hf.go⟩
      · have hk : k = 64 := by omega
        subst hk
        simp (maxSteps:=1000000) (disch:=first | omega | (simp only [nums_len,lnB] <;> omega) | fail) only [ev0,ev1,ev2,ev3,↓reduceIte,reduceCtorEq,zaa,zab,zac,zad,zae,zaf,zag,zah,zai,zaj,zak,zal,zam,zan,zao,zap,zaq,↓zar,↓zas,zat,zau,zav,zaw,zax,zay,zaz,zba,zbb,zbc,zbd,zbe,zbf,zbg,zbh,zbi,zbj,zbk,zbl,zbm,zbn,zbo,zbp,zbq,zbr,zbs,zbt,zbu,zbv,zbw,zbx,zby,zbz,zca,zcb,zcc,zcd,zce,zcf,zcg,zch,zci,zcj,zck,zcl,zcm,zcn,zco,zcp,zcq,zcr,zcs,zct,zcu,zcv,zcw,zcx,zcy,zcz,zda,zdb,zdc,zdd,zde,zdf,zdg,zdh,zdi,zdj,zdk,zdl,zdm,ev5,tbIc0,globS,s3,s2,s1,hf0,lp,lt]
        exact .bor
  · cases h
theorem sound76 : SoundV Tryd.prog globS 76 pf76:=by
  refine SoundV.walk ES6 okS6 mixed Tryd.func76 rfl Tryd.call76 (by kernel_rfl) ?_
  intro args r h
  unfold pf76 at h
  split at h
  · cases h
    rw [Tryd.ntmps76,Tryd.results76]
    refine ⟨by simp,?_⟩
    have lp : (pl 20).length = 8:=pl_8.2
    simp (maxSteps:=1000000) (disch:=first | omega | (simp only [nums_len,lnB] <;> omega) | fail) only [ev0,ev1,ev2,ev3,↓reduceIte,reduceCtorEq,zaa,zab,zac,zad,zae,zaf,zag,zah,zai,zaj,zak,zal,zam,zan,zao,zap,zaq,↓zar,↓zas,zat,zau,zav,zaw,zax,zay,zaz,zba,zbb,zbc,zbd,zbe,zbf,zbg,zbh,zbi,zbj,zbk,zbl,zbm,zbn,zbo,zbp,zbq,zbr,zbs,zbt,zbu,zbv,zbw,zbx,zby,zbz,zca,zcb,zcc,zcd,zce,zcf,zcg,zch,zci,zcj,zck,zcl,zcm,zcn,zco,zcp,zcq,zcr,zcs,zct,zcu,zcv,zcw,zcx,zcy,zcz,zda,zdb,zdc,zdd,zde,zdf,zdg,zdh,zdi,zdj,zdk,zdl,zdm,ev5,tbIc0,globS]
    refine loopQ_of (fun m σ => ∃ k,k ≤ 8 ∧ m = 8 - k ∧ σ.slots 3 = .raw (.int .i64 (k : Int)) ∧ σ.slots 2 = .sl 8 (nums .u64 (pl 20)) .bor ∧ σ.slots 0 = .ptr (.own 0 0 1) 0 ∧ σ.slots 1 = .ptr (.own 0 1 1) 0 ∧
      σ.box (.own 0 0 1) = some (nums .u32 (List.replicate 8 0#32)) ∧ σ.box (.own 0 1 1) = some (nums .u32 (secsF k))) 8 ?_ ?_
    · refine ⟨0,by omega,by omega,?_⟩
      simp (maxSteps:=1000000) (disch:=first | omega | (simp only [nums_len,lnB] <;> omega) | fail) only [ev0,ev1,ev2,ev3,↓reduceIte,reduceCtorEq,zaa,zab,zac,zad,zae,zaf,zag,zah,zai,zaj,zak,zal,zam,zan,zao,zap,zaq,↓zar,↓zas,zat,zau,zav,zaw,zax,zay,zaz,zba,zbb,zbc,zbd,zbe,zbf,zbg,zbh,zbi,zbj,zbk,zbl,zbm,zbn,zbo,zbp,zbq,zbr,zbs,zbt,zbu,zbv,zbw,zbx,zby,zbz,zca,zcb,zcc,zcd,zce,zcf,zcg,zch,zci,zcj,zck,zcl,zcm,zcn,zco,zcp,zcq,zcr,zcs,zct,zcu,zcv,zcw,zcx,zcy,zcz,zda,zdb,zdc,zdd,zde,zdf,zdg,zdh,zdi,zdj,zdk,zdl,zdm,ev5,tbIc0,globS]
      exact ⟨rfl,rfl⟩
    · rintro m ⟨sl,gn,bx,us⟩ ⟨k,hk,rfl,s3,s2,s0,s1,b0,b1⟩
      dsimp only at s3 s2 s0 s1 b0 b1
      have ls:=secs_len k
      simp (maxSteps:=1000000) (disch:=first | omega | (simp only [nums_len,lnB] <;> omega) | fail) only [ev0,ev1,ev2,ev3,↓reduceIte,reduceCtorEq,zaa,zab,zac,zad,zae,zaf,zag,zah,zai,zaj,zak,zal,zam,zan,zao,zap,zaq,↓zar,↓zas,zat,zau,zav,zaw,zax,zay,zaz,zba,zbb,zbc,zbd,zbe,zbf,zbg,zbh,zbi,zbj,zbk,zbl,zbm,zbn,zbo,zbp,zbq,zbr,zbs,zbt,zbu,zbv,zbw,zbx,zby,zbz,zca,zcb,zcc,zcd,zce,zcf,zcg,zch,zci,zcj,zck,zcl,zcm,zcn,zco,zcp,zcq,zcr,zcs,zct,zcu,zcv,zcw,zcx,zcy,zcz,zda,zdb,zdc,zdd,zde,zdf,zdg,zdh,zdi,zdj,zdk,zdl,zdm,ev5,tbIc0,globS,s3,s2,s0,s1,b0,b1,lp,ls]
      refine condQ_dec (fun hlt=>?_) (fun hge=>?_)
      · have hlt : k < 8 := by omega
        simp (maxSteps:=1000000) (disch:=first | omega | (simp only [nums_len,lnB] <;> omega) | fail) only [ev0,ev1,ev2,ev3,↓reduceIte,reduceCtorEq,zaa,zab,zac,zad,zae,zaf,zag,zah,zai,zaj,zak,zal,zam,zan,zao,zap,zaq,↓zar,↓zas,zat,zau,zav,zaw,zax,zay,zaz,zba,zbb,zbc,zbd,zbe,zbf,zbg,zbh,zbi,zbj,zbk,zbl,zbm,zbn,zbo,zbp,zbq,zbr,zbs,zbt,zbu,zbv,zbw,zbx,zby,zbz,zca,zcb,zcc,zcd,zce,zcf,zcg,zch,zci,zcj,zck,zcl,zcm,zcn,zco,zcp,zcq,zcr,zcs,zct,zcu,zcv,zcw,zcx,zcy,zcz,zda,zdb,zdc,zdd,zde,zdf,zdg,zdh,zdi,zdj,zdk,zdl,zdm,ev5,tbIc0,globS,s3,s2,s0,s1,b0,b1,lp,ls]
        exact ⟨8 - (k + 1),by omega,k + 1,by omega,rfl,rfl,rfl⟩
      · have hk : k = 8 := by omega
        subst hk
        simp (maxSteps:=1000000) (disch:=first | omega | (simp only [nums_len,lnB] <;> omega) | fail) only [ev0,ev1,ev2,ev3,↓reduceIte,reduceCtorEq,zaa,zab,zac,zad,zae,zaf,zag,zah,zai,zaj,zak,zal,zam,zan,zao,zap,zaq,↓zar,↓zas,zat,zau,zav,zaw,zax,zay,zaz,zba,zbb,zbc,zbd,zbe,zbf,zbg,zbh,zbi,zbj,zbk,zbl,zbm,zbn,zbo,zbp,zbq,zbr,zbs,zbt,zbu,zbv,zbw,zbx,zby,zbz,zca,zcb,zcc,zcd,zce,zcf,zcg,zch,zci,zcj,zck,zcl,zcm,zcn,zco,zcp,zcq,zcr,zcs,zct,zcu,zcv,zcw,zcx,zcy,zcz,zda,zdb,zdc,zdd,zde,zdf,zdg,zdh,zdi,zdj,zdk,zdl,zdm,ev5,tbIc0,globS,s3,s2,s0,s1,b0,b1,lp,ls]
        exact ResQ.same rfl
  · cases h
def ES7 : Env:=(ES0.know 75 pf75).know 76 pf76
theorem okS7 : EnvOK Tryd.prog ES7:=(okS0.know sound75).know sound76
theorem ES7_te : ES7.te = te:=rfl
theorem ES7_gs : ES7.gs = []:=rfl
theorem ES7_dyn : ES7.dyn = false:=rfl
theorem ES7_glob : ES7.glob = globS:=rfl
theorem ES7_mu (d : Nat) : ES7.mu d = false:=rfl
theorem ES7_75 : ES7.tbl 75 = some (.val pf75):=rfl
theorem ES7_76 : ES7.tbl 76 = some (.val pf76):=rfl
def pf47 : List AV → Option AV
  | []=>some (.agg (.sl 64 (nums .u32 (thirdsF 64)) .bor :: nums .u32 (secsF 8)))
  | _=>none
theorem sound47 : SoundV Tryd.prog globS 47 pf47:=by
  refine SoundV.walk ES7 okS7 mixed Tryd.func47 rfl Tryd.call47 (by kernel_rfl) ?_
  intro args r h
  unfold pf47 at h
  split at h
  · cases h
    rw [Tryd.ntmps47,Tryd.results47]
    refine ⟨by simp,?_⟩
    simp (maxSteps:=1000000) (disch:=first | omega | (simp only [thirds_len,secs_len,lnB] <;> omega) | fail) only [ev0,ev1,ev2,ev3,↓reduceIte,reduceCtorEq,zaa,zab,zac,zad,zae,zaf,zag,zah,zai,zaj,zak,zal,zam,zan,zao,zap,zaq,↓zar,↓zas,zat,zau,zav,zaw,zax,zay,zaz,zba,zbb,zbc,zbd,zbe,zbf,zbg,zbh,zbi,zbj,zbk,zbl,zbm,zbn,zbo,zbp,zbq,zbr,zbs,zbt,zbu,zbv,zbw,zbx,zby,zbz,zca,zcb,zcc,zcd,zce,zcf,zcg,zch,zci,zcj,zck,zcl,zcm,zcn,zco,zcp,zcq,zcr,zcs,zct,zcu,zcv,zcw,zcx,zcy,zcz,zda,zdb,zdc,zdd,zde,zdf,zdg,zdh,zdi,zdj,zdk,zdl,zdm,ev5,teE,ES7_te,ES7_gs,ES7_dyn,ES7_glob,ES7_mu,ES7_75,ES7_76,pf75,pf76,ns_strip,ns_set,globS]
    exact ResQ.same rfl
  · cases h
theorem secs_eq : secsF 8 = beginL:=by decide +kernel
end Go.Proofs.YtddeffdgldjdjaaDoor
