/- The document's hash: what the walk of its function comes to. -/
import Derived.Test.YtddeffdgldjdjaaDoorId
namespace Go.Proofs.YtddeffdgldjdjaaDoor
set_option linter.unusedSimpArgs false
set_option linter.unusedVariables false
set_option linter.defProp false
open Go Go.Abs
open Nat renaming reduceAdd→zaa,reduceSub→zab,reduceMul→zac,reduceLT→zad,reduceLeDiff→zae,reduceEqDiff→zaf,reduceBEq→zag
open BitVec renaming reduceOfInt→zah
open Int renaming reduceLE→zai,reduceLT→zaj,reduceGT→zak,reduceGE→zal,reduceNeg→zam,reduceAdd→zan,reduceSub→zao,reduceMul→zap,reduceToNat→zaq
open Go.Abs renaming bind_go→zar,map_go→zas,wantedV→zat,isWrite→zau,grow→zav,write→zaw,ofV→zax,start→zaz,strip→zba,endQ→zbb,resV→zbc,rawsRes→zbd,rawRes→zbe,exports→zbf,export1→zbg,isSelf→zbl,convSelf→zbm,convV→zbn,loadV→zbo,storeV→zbp,fieldAddrV→zbq,fieldV→zbr,indexAddrV→zbs,indexV→zbt,partV→zbu,isAggK→zbv,isStr→zbw,place→zbx,ipS→zby,lenV→zbz,min2V→zca,makeV→zcb,freshSl→zcc,sliceV→zcd,boundOr→zce,bound→zcf,bounds→zcg,cutFl→zch,copyV→zci,slCells→zcj,srcV→zck,appendV→zcl,room→zcm,zerosOf→zcn,eqNeg→zco,kd→zcp,takeR→zcq,hasViewL→zcr,hasView→zcs,freshR→zct,freshC→zcu,snapAll→zcv,snap→zcw,snapL→zcx,flatL→zcy,pureL→zcz,pureA→zda,fillC→zdb,arrOK→zdc,oneA→zdd,partB→zde,ren1→zdg,applyW→zdi,useL→zdj,isGen→zdl,startG→zdm
open Go.Abs.AV renaming cells→zay,laid→zdf
open Go.Abs.AS renaming grown→zbh,put→zbi,mute→zdk
open Go.Abs.Env renaming know→zbj,boxed→zbk
open Go.Abs.CR renaming gr→zdh
def ES9 : Env:=ES0.know 105 (fun xs=>pf105 (xs.map norm))
theorem okS9 : EnvOK Tryd.prog ES9:=okS0.know sound105.norm
theorem ES9_te : ES9.te = te:=rfl
theorem ES9_gs : ES9.gs = []:=rfl
theorem ES9_dyn : ES9.dyn = false:=rfl
theorem ES9_glob : ES9.glob = globS:=rfl
theorem ES9_mu (d : Nat) : ES9.mu d = false:=rfl
theorem ES9_105 : ES9.tbl 105 = some (.val (fun xs=>pf105 (xs.map norm))):=rfl
def eatK (K : List (BitVec 32)) : Nat → List (BitVec 32) → List (BitVec 8) → List (BitVec 32)
  | 0,h,_=>h
  | n + 1,h,M=>eatK K n (pressK K h (M.take 64)) (M.drop 64)
def sumK (K H : List (BitVec 32)) (b : List (BitVec 8)) : List (BitVec 8):=outB (eatK K ((padded b).length / 64) H (padded b)) 32
def tab? : AV → Option (List (BitVec 32) × List (BitVec 32))
  | .agg (x :: xs)=>(row? .u32 32 x).bind fun K=>(deNums .u32 32 xs).bind fun H=>if K.length = 64 ∧ H.length = 8 then some (K,H) else none
  | _=>none
def pf74 : List AV → Option AV
  | [a,b]=>(tab? a).bind fun t=>(row? .u8 8 b).bind fun m=>if m.length ≤ 1099511627776 then some (.agg (nums .u8 (sumK t.1 t.2 m))) else none
  | _=>none
def padj (b : List (BitVec 8)) (j : Nat) : List (BitVec 8):=b ++ [128#8] ++ List.replicate j 0#8
theorem padj_len (b : List (BitVec 8)) (j : Nat) : (padj b j).length = b.length + 1 + j:=by simp [padj]; omega
set_option maxHeartbeats 4000000
def tbIe0:=(And.intro (And.intro (And.intro @teE (And.intro @ES9_te @ES9_gs)) (And.intro @ES9_dyn (And.intro @ES9_glob @ES9_mu))) (And.intro (And.intro @ES9_105 (And.intro @pf105_at @ns_strip)) (And.intro (And.intro @ns_set @snoc128) (And.intro @snoc0 @pressK_len))))
theorem sound74 : SoundV Tryd.prog globS 74 pf74:=by
  refine SoundV.walk ES9 okS9 mixed Tryd.func74 rfl Tryd.call74 (by kernel_rfl) ?_
  intro args r hr
  unfold pf74 at hr
  split at hr
  · simp only [Option.bind_eq_some_iff] at hr
    obtain ⟨⟨K,H⟩,h1,b,h2,hr⟩:=hr
    split at hr
    · rename_i hb
      cases hr
      unfold tab? at h1
      split at h1
      · rename_i x xs
        simp only [Option.bind_eq_some_iff] at h1
        obtain ⟨K',h3,H',h4,h5⟩:=h1
        split at h5
        · rename_i hl
          obtain ⟨lK,lH⟩:=hl
          cases h5
          obtain ⟨fl,rfl⟩:=row?_of h3
          rw [deNums_of h4]
          obtain ⟨fl',rfl⟩:=row?_of h2
          rw [Tryd.ntmps74,Tryd.results74]
          refine ⟨by simp,?_⟩
          simp (maxSteps:=1000000) (disch:=first | omega | (simp only [pressK_len,outB_len,lenBs_len,lnB] <;> omega) | fail) only [ev0,ev1,ev2,ev3,↓reduceIte,reduceCtorEq,zaa,zab,zac,zad,zae,zaf,zag,zah,zai,zaj,zak,zal,zam,zan,zao,zap,zaq,↓zar,↓zas,zat,zau,zav,zaw,zax,zay,zaz,zba,zbb,zbc,zbd,zbe,zbf,zbg,zbh,zbi,zbj,zbk,zbl,zbm,zbn,zbo,zbp,zbq,zbr,zbs,zbt,zbu,zbv,zbw,zbx,zby,zbz,zca,zcb,zcc,zcd,zce,zcf,zcg,zch,zci,zcj,zck,zcl,zcm,zcn,zco,zcp,zcq,zcr,zcs,zct,zcu,zcv,zcw,zcx,zcy,zcz,zda,zdb,zdc,zdd,zde,zdf,zdg,zdh,zdi,zdj,zdk,zdl,zdm,ev5,tbIe0,globS,lK,lH]
          refine loopQ_of (fun n σ => ∃ j i,j ≤ pad0 b.length ∧ n = pad0 b.length - j ∧ σ.slots 1 = .sl b.length (nums .u8 b) .bor ∧ σ.slots 2 = .ptr (.own 0 2 1) 0 ∧ σ.slots 4 = .ptr (.own 0 4 1) 0 ∧ σ.slots 5 = .sl (padj b j).length (nums .u8 (padj b j)) (.own i 1) ∧
            σ.box (.own 0 2 1) = some (.sl 64 (nums .u32 K) .bor :: nums .u32 H) ∧ σ.box (.own 0 4 1) = some (nums .u8 (List.replicate 32 0#8)) ∧ Free σ.used (σ.gen 22) 22 i ∧ Free σ.used (σ.gen 36) 36 i) (pad0 b.length) ?_ ?_
          · refine ⟨0,⟨0,15,0,1⟩,by omega,by omega,?_⟩
            simp (maxSteps:=1000000) (disch:=first | omega | (simp only [pressK_len,outB_len,lenBs_len,lnB] <;> omega) | fail) only [ev0,ev1,ev2,ev3,↓reduceIte,reduceCtorEq,zaa,zab,zac,zad,zae,zaf,zag,zah,zai,zaj,zak,zal,zam,zan,zao,zap,zaq,↓zar,↓zas,zat,zau,zav,zaw,zax,zay,zaz,zba,zbb,zbc,zbd,zbe,zbf,zbg,zbh,zbi,zbj,zbk,zbl,zbm,zbn,zbo,zbp,zbq,zbr,zbs,zbt,zbu,zbv,zbw,zbx,zby,zbz,zca,zcb,zcc,zcd,zce,zcf,zcg,zch,zci,zcj,zck,zcl,zcm,zcn,zco,zcp,zcq,zcr,zcs,zct,zcu,zcv,zcw,zcx,zcy,zcz,zda,zdb,zdc,zdd,zde,zdf,zdg,zdh,zdi,zdj,zdk,zdl,zdm,ev5,tbIe0,globS,lK,lH]
            refine ⟨sl_eq ?_ ?_,?_⟩
            · rw [padj_len]
            · simp [padj]
            · exact ⟨⟨by simp [updI],fun g _=>by simp [updI],by simp⟩,⟨by simp [updI],fun g _=>by simp [updI],by simp⟩⟩
          · rintro n ⟨sl,gn,bx,us⟩ ⟨j,i,hj,rfl,s1,s2,s4,s5,b2,b4,hf,hf2⟩
            dsimp only at s1 s2 s4 s5 b2 b4 hf hf2
            have hf0:=hf.now
            have lM:=padj_len b j
            have lp : pad0 b.length ≤ 63:=by rw [pad0]; omega
            have hpad : pad0 b.length = (119 - b.length % 64) % 64:=rfl
            generalize hM : padj b j = M at s5 lM
            simp (maxSteps:=1000000) (disch:=first | omega | (simp only [pressK_len,outB_len,lenBs_len,lnB] <;> omega) | fail) only [ev0,ev1,ev2,ev3,↓reduceIte,reduceCtorEq,zaa,zab,zac,zad,zae,zaf,zag,zah,zai,zaj,zak,zal,zam,zan,zao,zap,zaq,↓zar,↓zas,zat,zau,zav,zaw,zax,zay,zaz,zba,zbb,zbc,zbd,zbe,zbf,zbg,zbh,zbi,zbj,zbk,zbl,zbm,zbn,zbo,zbp,zbq,zbr,zbs,zbt,zbu,zbv,zbw,zbx,zby,zbz,zca,zcb,zcc,zcd,zce,zcf,zcg,zch,zci,zcj,zck,zcl,zcm,zcn,zco,zcp,zcq,zcr,zcs,zct,zcu,zcv,zcw,zcx,zcy,zcz,zda,zdb,zdc,zdd,zde,zdf,zdg,zdh,zdi,zdj,zdk,zdl,zdm,ev5,tbIe0,globS,lK,lH,s1,s2,s4,s5,b2,b4,hf0]
            refine condQ_bool (fun hne=>?_) (fun heq=>?_)
            · have hne : ¬ (M.length % 64 = 56):=by
                intro h
                have : ((M.length : Int) % 64) = 56:=by omega
                rw [this] at hne; cases hne
              have hlt : j < pad0 b.length:=by omega
              simp (maxSteps:=1000000) (disch:=first | omega | (simp only [pressK_len,outB_len,lenBs_len,lnB] <;> omega) | fail) only [ev0,ev1,ev2,ev3,↓reduceIte,reduceCtorEq,zaa,zab,zac,zad,zae,zaf,zag,zah,zai,zaj,zak,zal,zam,zan,zao,zap,zaq,↓zar,↓zas,zat,zau,zav,zaw,zax,zay,zaz,zba,zbb,zbc,zbd,zbe,zbf,zbg,zbh,zbi,zbj,zbk,zbl,zbm,zbn,zbo,zbp,zbq,zbr,zbs,zbt,zbu,zbv,zbw,zbx,zby,zbz,zca,zcb,zcc,zcd,zce,zcf,zcg,zch,zci,zcj,zck,zcl,zcm,zcn,zco,zcp,zcq,zcr,zcs,zct,zcu,zcv,zcw,zcx,zcy,zcz,zda,zdb,zdc,zdd,zde,zdf,zdg,zdh,zdi,zdj,zdk,zdl,zdm,ev5,tbIe0,globS,lK,lH,s1,s2,s4,s5,b2,b4,hf0]
              refine ⟨pad0 b.length - (j + 1),by omega,j + 1,⟨0,22,0,gn 22 + 1⟩,by omega,rfl,sl_eq ?_ ?_,hf.go,hf.other hf2 (by decide)⟩
              · rw [lM,padj_len]; omega
              · rw [← hM]; simp [padj,List.replicate_succ']
            · have heq : M.length % 64 = 56:=by
                apply Classical.byContradiction
                intro h
                have : ¬ ((M.length : Int) % 64) = 56:=by omega
                simp [this] at heq
              have hjp : j = pad0 b.length:=by omega
              have hM0 : M = based b 0:=by rw [← hM,hjp]; simp [padj,based,lenBs]
              clear hM
              simp (maxSteps:=1000000) (disch:=first | omega | (simp only [pressK_len,outB_len,lenBs_len,lnB] <;> omega) | fail) only [ev0,ev1,ev2,ev3,↓reduceIte,reduceCtorEq,zaa,zab,zac,zad,zae,zaf,zag,zah,zai,zaj,zak,zal,zam,zan,zao,zap,zaq,↓zar,↓zas,zat,zau,zav,zaw,zax,zay,zaz,zba,zbb,zbc,zbd,zbe,zbf,zbg,zbh,zbi,zbj,zbk,zbl,zbm,zbn,zbo,zbp,zbq,zbr,zbs,zbt,zbu,zbv,zbw,zbx,zby,zbz,zca,zcb,zcc,zcd,zce,zcf,zcg,zch,zci,zcj,zck,zcl,zcm,zcn,zco,zcp,zcq,zcr,zcs,zct,zcu,zcv,zcw,zcx,zcy,zcz,zda,zdb,zdc,zdd,zde,zdf,zdg,zdh,zdi,zdj,zdk,zdl,zdm,ev5,tbIe0,globS,lK,lH,s1,s2,s4,s5,b2,b4,hf0]
              clear hf hf0
              refine loopQ_of (fun n σ => ∃ k i,k ≤ 8 ∧ n = 8 - k ∧ σ.slots 6 = .raw (.int .i64 (7 - (k : Int))) ∧ σ.slots 1 = .sl b.length (nums .u8 b) .bor ∧ σ.slots 2 = .ptr (.own 0 2 1) 0 ∧ σ.slots 4 = .ptr (.own 0 4 1) 0 ∧ σ.slots 5 = .sl (based b k).length (nums .u8 (based b k)) (.own i 1) ∧
                σ.box (.own 0 2 1) = some (.sl 64 (nums .u32 K) .bor :: nums .u32 H) ∧ σ.box (.own 0 4 1) = some (nums .u8 (List.replicate 32 0#8)) ∧ Free σ.used (σ.gen 36) 36 i) 8 ?_ ?_
              · refine ⟨0,i,by omega,by omega,?_⟩
                simp (maxSteps:=1000000) (disch:=first | omega | (simp only [pressK_len,outB_len,lenBs_len,lnB] <;> omega) | fail) only [ev0,ev1,ev2,ev3,↓reduceIte,reduceCtorEq,zaa,zab,zac,zad,zae,zaf,zag,zah,zai,zaj,zak,zal,zam,zan,zao,zap,zaq,↓zar,↓zas,zat,zau,zav,zaw,zax,zay,zaz,zba,zbb,zbc,zbd,zbe,zbf,zbg,zbh,zbi,zbj,zbk,zbl,zbm,zbn,zbo,zbp,zbq,zbr,zbs,zbt,zbu,zbv,zbw,zbx,zby,zbz,zca,zcb,zcc,zcd,zce,zcf,zcg,zch,zci,zcj,zck,zcl,zcm,zcn,zco,zcp,zcq,zcr,zcs,zct,zcu,zcv,zcw,zcx,zcy,zcz,zda,zdb,zdc,zdd,zde,zdf,zdg,zdh,zdi,zdj,zdk,zdl,zdm,ev5,tbIe0,globS,lK,lH,s1,s2,s4,s5,b2,b4]
                rw [hM0]
                exact ⟨rfl,rfl,hf2⟩
              · clear s1 s2 s4 s5 b2 b4 hf2 hM0 lM heq sl gn bx us
                rintro n ⟨sl,gn,bx,us⟩ ⟨k,i,hk,rfl,s6,s1,s2,s4,s5,b2,b4,hf⟩
                dsimp only at s6 s1 s2 s4 s5 b2 b4 hf
                have hf0:=hf.now
                have lM : (based b k).length ≤ b.length + 200:=by rw [based_len,pad0]; omega
                generalize hM : based b k = M at s5 lM
                simp (maxSteps:=1000000) (disch:=first | omega | (simp only [pressK_len,outB_len,lenBs_len,lnB] <;> omega) | fail) only [ev0,ev1,ev2,ev3,↓reduceIte,reduceCtorEq,zaa,zab,zac,zad,zae,zaf,zag,zah,zai,zaj,zak,zal,zam,zan,zao,zap,zaq,↓zar,↓zas,zat,zau,zav,zaw,zax,zay,zaz,zba,zbb,zbc,zbd,zbe,zbf,zbg,zbh,zbi,zbj,zbk,zbl,zbm,zbn,zbo,zbp,zbq,zbr,zbs,zbt,zbu,zbv,zbw,zbx,zby,zbz,zca,zcb,zcc,zcd,zce,zcf,zcg,zch,zci,zcj,zck,zcl,zcm,zcn,zco,zcp,zcq,zcr,zcs,zct,zcu,zcv,zcw,zcx,zcy,zcz,zda,zdb,zdc,zdd,zde,zdf,zdg,zdh,zdi,zdj,zdk,zdl,zdm,ev5,tbIe0,globS,lK,lH,s6,s1,s2,s4,s5,b2,b4,hf0]
                refine condQ_dec (fun hge=>?_) (fun hlt=>?_)
                · have hlt : k < 8 := by omega
                  simp (maxSteps:=1000000) (disch:=first | omega | (simp only [pressK_len,outB_len,lenBs_len,lnB] <;> omega) | fail) only [ev0,ev1,ev2,ev3,↓reduceIte,reduceCtorEq,zaa,zab,zac,zad,zae,zaf,zag,zah,zai,zaj,zak,zal,zam,zan,zao,zap,zaq,↓zar,↓zas,zat,zau,zav,zaw,zax,zay,zaz,zba,zbb,zbc,zbd,zbe,zbf,zbg,zbh,zbi,zbj,zbk,zbl,zbm,zbn,zbo,zbp,zbq,zbr,zbs,zbt,zbu,zbv,zbw,zbx,zby,zbz,zca,zcb,zcc,zcd,zce,zcf,zcg,zch,zci,zcj,zck,zcl,zcm,zcn,zco,zcp,zcq,zcr,zcs,zct,zcu,zcv,zcw,zcx,zcy,zcz,zda,zdb,zdc,zdd,zde,zdf,zdg,zdh,zdi,zdj,zdk,zdl,zdm,ev5,tbIe0,globS,lK,lH,s6,s1,s2,s4,s5,b2,b4,hf0]
                  refine ⟨8 - (k + 1),by omega,k + 1,⟨0,36,0,gn 36 + 1⟩,by omega,rfl,int_eq (by omega),sl_eq ?_ ?_,hf.go⟩
                  · rw [← hM]; simp only [based_len]; rfl
                  · rw [← hM,show 8 * (7 - k) = 56 - 8 * k by omega]; simp only [based,lenBs,lenByte,List.append_assoc]
                · have hk : k = 8 := by omega
                  subst hk
                  simp (maxSteps:=1000000) (disch:=first | omega | (simp only [pressK_len,outB_len,lenBs_len,lnB] <;> omega) | fail) only [ev0,ev1,ev2,ev3,↓reduceIte,reduceCtorEq,zaa,zab,zac,zad,zae,zaf,zag,zah,zai,zaj,zak,zal,zam,zan,zao,zap,zaq,↓zar,↓zas,zat,zau,zav,zaw,zax,zay,zaz,zba,zbb,zbc,zbd,zbe,zbf,zbg,zbh,zbi,zbj,zbk,zbl,zbm,zbn,zbo,zbp,zbq,zbr,zbs,zbt,zbu,zbv,zbw,zbx,zby,zbz,zca,zcb,zcc,zcd,zce,zcf,zcg,zch,zci,zcj,zck,zcl,zcm,zcn,zco,zcp,zcq,zcr,zcs,zct,zcu,zcv,zcw,zcx,zcy,zcz,zda,zdb,zdc,zdd,zde,zdf,zdg,zdh,zdi,zdj,zdk,zdl,zdm,ev5,tbIe0,globS,lK,lH,s6,s1,s2,s4,s5,b2,b4,hf0]
                  have lM2 : M.length = 64 * (M.length / 64):=by
                    rw [← hM,based_len,pad0]; omega
                  generalize gn 7 + 1 = g7
                  refine loopQ_of (fun n σ => ∃ j h',j ≤ M.length / 64 ∧ n = M.length / 64 - j ∧ h'.length = 8 ∧ eatK K n h' (M.drop (64 * j)) = eatK K (M.length / 64) H M ∧ σ.slots 8 = .raw (.int .i64 (64 * (j : Int))) ∧ σ.slots 2 = .ptr (.own 0 2 1) 0 ∧ σ.slots 4 = .ptr (.own 0 4 1) 0 ∧ σ.slots 5 = .sl M.length (nums .u8 M) (.own i 1) ∧ σ.slots 7 = .ptr (.own 0 7 g7) 0 ∧
                    σ.box (.own 0 2 1) = some (.sl 64 (nums .u32 K) .bor :: nums .u32 H) ∧ σ.box (.own 0 4 1) = some (nums .u8 (List.replicate 32 0#8)) ∧ σ.box (.own 0 7 g7) = some (nums .u32 h')) (M.length / 64) ?_ ?_
                  · refine ⟨0,H,by omega,by omega,lH,rfl,?_⟩
                    simp (maxSteps:=1000000) (disch:=first | omega | (simp only [pressK_len,outB_len,lenBs_len,lnB] <;> omega) | fail) only [ev0,ev1,ev2,ev3,↓reduceIte,reduceCtorEq,zaa,zab,zac,zad,zae,zaf,zag,zah,zai,zaj,zak,zal,zam,zan,zao,zap,zaq,↓zar,↓zas,zat,zau,zav,zaw,zax,zay,zaz,zba,zbb,zbc,zbd,zbe,zbf,zbg,zbh,zbi,zbj,zbk,zbl,zbm,zbn,zbo,zbp,zbq,zbr,zbs,zbt,zbu,zbv,zbw,zbx,zby,zbz,zca,zcb,zcc,zcd,zce,zcf,zcg,zch,zci,zcj,zck,zcl,zcm,zcn,zco,zcp,zcq,zcr,zcs,zct,zcu,zcv,zcw,zcx,zcy,zcz,zda,zdb,zdc,zdd,zde,zdf,zdg,zdh,zdi,zdj,zdk,zdl,zdm,ev5,tbIe0,globS,lK,lH,s6,s1,s2,s4,s5,b2,b4]
                    exact rfl
                  · clear s6 s1 s2 s4 s5 b2 b4 hf hf0 sl gn bx us
                    rintro n ⟨sl,gn,bx,us⟩ ⟨j,h',hj,rfl,lh',he,s8,s2,s4,s5,s7,b2,b4,b7⟩
                    dsimp only at s8 s2 s4 s5 s7 b2 b4 b7
                    simp (maxSteps:=1000000) (disch:=first | omega | (simp only [pressK_len,outB_len,lenBs_len,lnB] <;> omega) | fail) only [ev0,ev1,ev2,ev3,↓reduceIte,reduceCtorEq,zaa,zab,zac,zad,zae,zaf,zag,zah,zai,zaj,zak,zal,zam,zan,zao,zap,zaq,↓zar,↓zas,zat,zau,zav,zaw,zax,zay,zaz,zba,zbb,zbc,zbd,zbe,zbf,zbg,zbh,zbi,zbj,zbk,zbl,zbm,zbn,zbo,zbp,zbq,zbr,zbs,zbt,zbu,zbv,zbw,zbx,zby,zbz,zca,zcb,zcc,zcd,zce,zcf,zcg,zch,zci,zcj,zck,zcl,zcm,zcn,zco,zcp,zcq,zcr,zcs,zct,zcu,zcv,zcw,zcx,zcy,zcz,zda,zdb,zdc,zdd,zde,zdf,zdg,zdh,zdi,zdj,zdk,zdl,zdm,ev5,tbIe0,globS,lK,lH,lh',s8,s2,s4,s5,s7,b2,b4,b7]
                    refine condQ_dec (fun hlt=>?_) (fun hge=>?_)
                    · have hlt : j < M.length / 64 := by omega
                      simp (maxSteps:=1000000) (disch:=first | omega | (simp only [pressK_len,outB_len,lenBs_len,lnB] <;> omega) | fail) only [ev0,ev1,ev2,ev3,↓reduceIte,reduceCtorEq,zaa,zab,zac,zad,zae,zaf,zag,zah,zai,zaj,zak,zal,zam,zan,zao,zap,zaq,↓zar,↓zas,zat,zau,zav,zaw,zax,zay,zaz,zba,zbb,zbc,zbd,zbe,zbf,zbg,zbh,zbi,zbj,zbk,zbl,zbm,zbn,zbo,zbp,zbq,zbr,zbs,zbt,zbu,zbv,zbw,zbx,zby,zbz,zca,zcb,zcc,zcd,zce,zcf,zcg,zch,zci,zcj,zck,zcl,zcm,zcn,zco,zcp,zcq,zcr,zcs,zct,zcu,zcv,zcw,zcx,zcy,zcz,zda,zdb,zdc,zdd,zde,zdf,zdg,zdh,zdi,zdj,zdk,zdl,zdm,ev5,tbIe0,globS,lK,lH,lh',s8,s2,s4,s5,s7,b2,b4,b7]
                      refine ⟨M.length / 64 - (j + 1),by omega,j + 1,_,by omega,rfl,?_,?_,int_eq (by omega),rfl⟩
                      · rw [pressK_len]
                      · rw [← he,show M.length / 64 - j = (M.length / 64 - (j + 1)) + 1 by omega,eatK,List.drop_drop,show 64 * j + 64 - 64 * j = 64 by omega]
                        rfl
                    · have hk : j = M.length / 64 := by omega
                      subst hk
                      simp (maxSteps:=1000000) (disch:=first | omega | (simp only [pressK_len,outB_len,lenBs_len,lnB] <;> omega) | fail) only [ev0,ev1,ev2,ev3,↓reduceIte,reduceCtorEq,zaa,zab,zac,zad,zae,zaf,zag,zah,zai,zaj,zak,zal,zam,zan,zao,zap,zaq,↓zar,↓zas,zat,zau,zav,zaw,zax,zay,zaz,zba,zbb,zbc,zbd,zbe,zbf,zbg,zbh,zbi,zbj,zbk,zbl,zbm,zbn,zbo,zbp,zbq,zbr,zbs,zbt,zbu,zbv,zbw,zbx,zby,zbz,zca,zcb,zcc,zcd,zce,zcf,zcg,zch,zci,zcj,zck,zcl,zcm,zcn,zco,zcp,zcq,zcr,zcs,zct,zcu,zcv,zcw,zcx,zcy,zcz,zda,zdb,zdc,zdd,zde,zdf,zdg,zdh,zdi,zdj,zdk,zdl,zdm,ev5,tbIe0,globS,lK,lH,lh',s8,s2,s4,s5,s7,b2,b4,b7]
                      generalize gn 9 + 1 = g9
                      rw [Nat.sub_self,eatK] at he
                      refine loopQ_of (fun n σ => ∃ k,k ≤ 32 ∧ n = 32 - k ∧ σ.slots 10 = .raw (.int .i64 (k : Int)) ∧ σ.slots 4 = .ptr (.own 0 4 1) 0 ∧ σ.slots 7 = .ptr (.own 0 7 g7) 0 ∧ σ.slots 9 = .ptr (.own 0 9 g9) 0 ∧
                        σ.box (.own 0 4 1) = some (nums .u8 (List.replicate 32 0#8)) ∧ σ.box (.own 0 7 g7) = some (nums .u32 h') ∧ σ.box (.own 0 9 g9) = some (nums .u8 (outB h' k))) 32 ?_ ?_
                      · refine ⟨0,by omega,by omega,?_⟩
                        simp (maxSteps:=1000000) (disch:=first | omega | (simp only [pressK_len,outB_len,lenBs_len,lnB] <;> omega) | fail) only [ev0,ev1,ev2,ev3,↓reduceIte,reduceCtorEq,zaa,zab,zac,zad,zae,zaf,zag,zah,zai,zaj,zak,zal,zam,zan,zao,zap,zaq,↓zar,↓zas,zat,zau,zav,zaw,zax,zay,zaz,zba,zbb,zbc,zbd,zbe,zbf,zbg,zbh,zbi,zbj,zbk,zbl,zbm,zbn,zbo,zbp,zbq,zbr,zbs,zbt,zbu,zbv,zbw,zbx,zby,zbz,zca,zcb,zcc,zcd,zce,zcf,zcg,zch,zci,zcj,zck,zcl,zcm,zcn,zco,zcp,zcq,zcr,zcs,zct,zcu,zcv,zcw,zcx,zcy,zcz,zda,zdb,zdc,zdd,zde,zdf,zdg,zdh,zdi,zdj,zdk,zdl,zdm,ev5,tbIe0,globS,lK,lH,lh',s8,s2,s4,s5,s7,b2,b4,b7]
                        exact ⟨rfl,rfl⟩
                      · clear s8 s2 s4 s5 s7 b2 b4 b7 sl gn bx us
                        rintro n ⟨sl,gn,bx,us⟩ ⟨k,hk,rfl,s10,s4,s7,s9,b4,b7,b9⟩
                        dsimp only at s10 s4 s7 s9 b4 b7 b9
                        have lo:=outB_len h' k
                        simp (maxSteps:=1000000) (disch:=first | omega | (simp only [pressK_len,outB_len,lenBs_len,lnB] <;> omega) | fail) only [ev0,ev1,ev2,ev3,↓reduceIte,reduceCtorEq,zaa,zab,zac,zad,zae,zaf,zag,zah,zai,zaj,zak,zal,zam,zan,zao,zap,zaq,↓zar,↓zas,zat,zau,zav,zaw,zax,zay,zaz,zba,zbb,zbc,zbd,zbe,zbf,zbg,zbh,zbi,zbj,zbk,zbl,zbm,zbn,zbo,zbp,zbq,zbr,zbs,zbt,zbu,zbv,zbw,zbx,zby,zbz,zca,zcb,zcc,zcd,zce,zcf,zcg,zch,zci,zcj,zck,zcl,zcm,zcn,zco,zcp,zcq,zcr,zcs,zct,zcu,zcv,zcw,zcx,zcy,zcz,zda,zdb,zdc,zdd,zde,zdf,zdg,zdh,zdi,zdj,zdk,zdl,zdm,ev5,tbIe0,globS,s10,s4,s7,s9,b4,b7,b9,lh',lo]
                        refine condQ_dec (fun hlt=>?_) (fun hge=>?_)
                        · have hlt : k < 32 := by omega
                          simp (maxSteps:=1000000) (disch:=first | omega | (simp only [pressK_len,outB_len,lenBs_len,lnB] <;> omega) | fail) only [ev0,ev1,ev2,ev3,↓reduceIte,reduceCtorEq,zaa,zab,zac,zad,zae,zaf,zag,zah,zai,zaj,zak,zal,zam,zan,zao,zap,zaq,↓zar,↓zas,zat,zau,zav,zaw,zax,zay,zaz,zba,zbb,zbc,zbd,zbe,zbf,zbg,zbh,zbi,zbj,zbk,zbl,zbm,zbn,zbo,zbp,zbq,zbr,zbs,zbt,zbu,zbv,zbw,zbx,zby,zbz,zca,zcb,zcc,zcd,zce,zcf,zcg,zch,zci,zcj,zck,zcl,zcm,zcn,zco,zcp,zcq,zcr,zcs,zct,zcu,zcv,zcw,zcx,zcy,zcz,zda,zdb,zdc,zdd,zde,zdf,zdg,zdh,zdi,zdj,zdk,zdl,zdm,ev5,tbIe0,globS,s10,s4,s7,s9,b4,b7,b9,lh',lo]
                          exact ⟨32 - (k + 1),by omega,k + 1,by omega,rfl,rfl,rfl⟩
                        · have hk : k = 32 := by omega
                          subst hk
                          simp (maxSteps:=1000000) (disch:=first | omega | (simp only [pressK_len,outB_len,lenBs_len,lnB] <;> omega) | fail) only [ev0,ev1,ev2,ev3,↓reduceIte,reduceCtorEq,zaa,zab,zac,zad,zae,zaf,zag,zah,zai,zaj,zak,zal,zam,zan,zao,zap,zaq,↓zar,↓zas,zat,zau,zav,zaw,zax,zay,zaz,zba,zbb,zbc,zbd,zbe,zbf,zbg,zbh,zbi,zbj,zbk,zbl,zbm,zbn,zbo,zbp,zbq,zbr,zbs,zbt,zbu,zbv,zbw,zbx,zby,zbz,zca,zcb,zcc,zcd,zce,zcf,zcg,zch,zci,zcj,zck,zcl,zcm,zcn,zco,zcp,zcq,zcr,zcs,zct,zcu,zcv,zcw,zcx,zcy,zcz,zda,zdb,zdc,zdd,zde,zdf,zdg,zdh,zdi,zdj,zdk,zdl,zdm,ev5,tbIe0,globS,s10,s4,s7,s9,b4,b7,b9,lh',lo]
                          rw [he,← hM]
                          exact ResQ.same rfl
        · cases h5
      · cases h1
    · cases hr
  · cases hr
theorem eatK_is (n : Nat) (h : List (BitVec 32)) (lh : h.length = 8) (M : List (BitVec 8)) : eatK addL n h M = eat n h M:=by
  induction n generalizing h M with
  | zero=>rfl
  | succ n ih =>
    rw [eatK,eat,press_is h _ lh]
    exact ih _ (by rw [press_len,lh]) _
theorem sumK_is (b : List (BitVec 8)) : sumK addL beginL b = shaB b:=by rw [sumK,shaB,eatK_is _ _ rfl]
end Go.Proofs.YtddeffdgldjdjaaDoor
