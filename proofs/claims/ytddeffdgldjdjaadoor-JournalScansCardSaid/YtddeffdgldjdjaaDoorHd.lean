/- A hash is made: what the walk of the program's function comes to. -/
import Derived.Test.YtddeffdgldjdjaaDoorHc
namespace Go.Proofs.YtddeffdgldjdjaaDoor
set_option linter.unusedSimpArgs false
set_option linter.unusedVariables false
set_option linter.defProp false
open Go Go.Abs
open Nat renaming reduceAdd→zaa,reduceSub→zab,reduceMul→zac,reduceLT→zad,reduceLeDiff→zae,reduceEqDiff→zaf,reduceBEq→zag
open BitVec renaming reduceOfInt→zah
open Int renaming reduceLE→zai,reduceLT→zaj,reduceGT→zak,reduceGE→zal,reduceNeg→zam,reduceAdd→zan,reduceSub→zao,reduceMul→zap,reduceToNat→zaq
open Go.Abs renaming bind_go→zar,map_go→zas,wantedV→zat,isWrite→zau,grow→zav,write→zaw,ofV→zax,start→zaz,strip→zba,endQ→zbb,resV→zbc,rawsRes→zbd,rawRes→zbe,exports→zbf,export1→zbg,isSelf→zbl,convSelf→zbm,convV→zbn,loadV→zbo,storeV→zbp,fieldAddrV→zbq,fieldV→zbr,indexAddrV→zbs,indexV→zbt,partV→zbu,isAggK→zbv,isStr→zbw,place→zbx,ipS→zby,lenV→zbz,min2V→zca,makeV→zcb,freshSl→zcc,sliceV→zcd,boundOr→zce,bound→zcf,bounds→zcg,cutFl→zch,copyV→zci,slCells→zcj,srcV→zck,appendV→zcl,room→zcm,zerosOf→zcn,eqNeg→zco,kd→zcp,takeR→zcq,hasViewL→zcr,hasView→zcs,freshR→zct,freshC→zcu,snapAll→zcv,snap→zcw,snapL→zcx,flatL→zcy,pureL→zcz,pureA→zda,fillC→zdb,arrOK→zdc,oneA→zdd,partB→zde,ren1→zdg,applyW→zdi,useL→zdj,isGen→zdl,startG→zdm
open Go.Abs.AV renaming cells→zay,laid→zdf
open Go.Abs.AS renaming grown→zbh,put→zbi,mute→zdk
open Go.Abs.Env renaming know→zbj,boxed→zbk
open Go.Abs.CR renaming gr→zdh
theorem snoc128 (l : List (BitVec 8)) : nums .u8 l ++ [.raw (.int .u8 128)] = nums .u8 (l ++ [128#8]):=nums_snoc l 128#8
theorem snoc0 (l : List (BitVec 8)) : nums .u8 l ++ [.raw (.int .u8 0)] = nums .u8 (l ++ [0#8]):=nums_snoc l 0#8
def pfs90 : List AV → Option AV
  | [v]=>(row? .u8 8 v).bind fun m=>if m.length ≤ 1099511627776 then some (.sl m.length (nums .u8 m) (.own ⟨0,0,0,0⟩ 1)) else none
  | _=>none
theorem pfs90_at {n : Nat} {m : List (BitVec 8)} {fl : Fl} (h : n = m.length) (h2 : m.length ≤ 1099511627776) : pfs90 [.sl n (nums .u8 m) fl] = some (.sl m.length (nums .u8 m) (.own ⟨0,0,0,0⟩ 1)):=by
  simp only [pfs90,row?_at h,Option.bind_some,if_pos h2]
set_option maxHeartbeats 4000000
def tbHd0:=(And.intro (And.intro (And.intro @teE @ES0_te) (And.intro @ES0_glob @ES0_gs)) (And.intro (And.intro @ES0_dyn @ES0_mu) (And.intro @ns_strip @ns_set)))
theorem sounds90 : SoundV Tryd.prog globS 90 pfs90:=by
  refine SoundV.walk ES0 okS0 mixed Tryd.func90 rfl Tryd.call90 (by kernel_rfl) ?_
  intro args r h
  unfold pfs90 at h
  split at h
  · simp only [Option.bind_eq_some_iff] at h
    obtain ⟨m,h1,h2⟩:=h
    split at h2
    · rename_i hm
      cases h2
      obtain ⟨fl,rfl⟩:=row?_of h1
      rw [Tryd.ntmps90,Tryd.results90]
      refine ⟨by simp,?_⟩
      by_cases h0 : m.length = 0
      · simp (maxSteps := 1000000) (disch := first | omega | (simp only [nums_len,lnB] <;> omega) | fail) only [ev0,ev1,ev2,ev3,↓reduceIte,reduceCtorEq,zaa,zab,zac,zad,zae,zaf,zag,zah,zai,zaj,zak,zal,zam,zan,zao,zap,zaq,↓zar,↓zas,zat,zau,zav,zaw,zax,zay,zaz,zba,zbb,zbc,zbd,zbe,zbf,zbg,zbh,zbi,zbj,zbk,zbl,zbm,zbn,zbo,zbp,zbq,zbr,zbs,zbt,zbu,zbv,zbw,zbx,zby,zbz,zca,zcb,zcc,zcd,zce,zcf,zcg,zch,zci,zcj,zck,zcl,zcm,zcn,zco,zcp,zcq,zcr,zcs,zct,zcu,zcv,zcw,zcx,zcy,zcz,zda,zdb,zdc,zdd,zde,zdf,zdg,zdh,zdi,zdj,zdk,zdl,zdm,ev5,tbHd0,globS,h0]
        have : m = []:=List.eq_nil_of_length_eq_zero h0
        subst this
        exact ⟨ResQ.nil 1,ResQ.same rfl⟩
      · simp (maxSteps := 1000000) (disch := first | omega | (simp only [nums_len,lnB] <;> omega) | fail) only [ev0,ev1,ev2,ev3,↓reduceIte,reduceCtorEq,zaa,zab,zac,zad,zae,zaf,zag,zah,zai,zaj,zak,zal,zam,zan,zao,zap,zaq,↓zar,↓zas,zat,zau,zav,zaw,zax,zay,zaz,zba,zbb,zbc,zbd,zbe,zbf,zbg,zbh,zbi,zbj,zbk,zbl,zbm,zbn,zbo,zbp,zbq,zbr,zbs,zbt,zbu,zbv,zbw,zbx,zby,zbz,zca,zcb,zcc,zcd,zce,zcf,zcg,zch,zci,zcj,zck,zcl,zcm,zcn,zco,zcp,zcq,zcr,zcs,zct,zcu,zcv,zcw,zcx,zcy,zcz,zda,zdb,zdc,zdd,zde,zdf,zdg,zdh,zdi,zdj,zdk,zdl,zdm,ev5,tbHd0,globS,h0]
        exact ResQ.same rfl
    · cases h2
  · cases h
def ES3 : Env:=((ES2.know 92 pf92).know 90 (fun xs=>pfs90 (xs.map norm))).know 91 pf91
theorem okS3 : EnvOK Tryd.prog ES3:=((okS2.know sound92).know sounds90.norm).know sound91
theorem ES3_te : ES3.te = te:=rfl
theorem ES3_gs : ES3.gs = []:=rfl
theorem ES3_dyn : ES3.dyn = false:=rfl
theorem ES3_glob : ES3.glob = globS:=rfl
theorem ES3_mu (d : Nat) : ES3.mu d = false:=rfl
theorem ES3_92 : ES3.tbl 92 = some (.val pf92):=rfl
theorem ES3_90 : ES3.tbl 90 = some (.val (fun xs=>pfs90 (xs.map norm))):=rfl
theorem ES3_91 : ES3.tbl 91 = some (.val pf91):=rfl
theorem pf91_at : pf91 [] = some (.agg (nums .u32 beginL)):=rfl
theorem pf92_at {h : List (BitVec 32)} {m : List (BitVec 8)} (lh : h.length = 8) (lm : m.length = 64) : pf92 [.agg (nums .u32 h),.agg (nums .u8 m)] = some (.agg (nums .u32 (press h m))):=by
  simp only [pf92,deNums_nums,Option.bind_some,lh,lm,and_self,if_true]
def lenByte (n e : Nat) : BitVec 8:=BitVec.ofInt 8 ((8 * (n : Int)).fdiv (2 ^ e))
def lenBs (n : Nat) : Nat → List (BitVec 8)
  | 0=>[]
  | k + 1=>lenBs n k ++ [lenByte n (56 - 8 * k)]
def pad0 (n : Nat) : Nat:=(119 - n % 64) % 64
def padded (m : List (BitVec 8)) : List (BitVec 8):=m ++ [128#8] ++ List.replicate (pad0 m.length) 0#8 ++ lenBs m.length 8
def eat : Nat → List (BitVec 32) → List (BitVec 8) → List (BitVec 32)
  | 0,h,_=>h
  | n + 1,h,M=>eat n (press h (M.take 64)) (M.drop 64)
def outB (h : List (BitVec 32)) : Nat → List (BitVec 8)
  | 0=>List.replicate 32 0#8
  | k + 1=>(outB h k).set k (BitVec.ofNat 8 (h.getD (k / 4) 0#32 >>> (24 - 8 * (k % 4))).toNat)
theorem outB_len (h : List (BitVec 32)) (k : Nat) : (outB h k).length = 32:=by
  induction k with
  | zero=>simp [outB]
  | succ k ih=>simp [outB,ih]
theorem lenBs_len (n k : Nat) : (lenBs n k).length = k:=by
  induction k with
  | zero=>rfl
  | succ k ih=>simp [lenBs,ih]
theorem press_len (h : List (BitVec 32)) (m : List (BitVec 8)) : (press h m).length = h.length:=by simp [press,sums_len]
def shaB (m : List (BitVec 8)) : List (BitVec 8):=outB (eat ((padded m).length / 64) beginL (padded m)) 32
def pf60 : List AV → Option AV
  | [v]=>(row? .u8 8 v).bind fun m=>if m.length ≤ 1099511627776 then some (.agg (nums .u8 (shaB m))) else none
  | _=>none
def based (b : List (BitVec 8)) (k : Nat) : List (BitVec 8):=b ++ [128#8] ++ List.replicate (pad0 b.length) 0#8 ++ lenBs b.length k
theorem based_len (b : List (BitVec 8)) (k : Nat) : (based b k).length = b.length + 1 + pad0 b.length + k:=by simp [based,lenBs_len]; omega
theorem sl_eq {k : IntKind} {w l l' : Nat} {m m' : List (BitVec w)} {fl : Fl} (h1 : l = l') (h2 : m = m') : AV.sl l (nums k m) fl = .sl l' (nums k m') fl:=by rw [h1,h2]
def tbHd1:=(And.intro (And.intro (And.intro (And.intro @teE @ES3_te) (And.intro @ES3_gs @ES3_dyn)) (And.intro (And.intro @ES3_glob @ES3_mu) (And.intro @ES3_90 @ES3_91))) (And.intro (And.intro (And.intro @ES3_92 @pfs90_at) (And.intro @pf91_at @pf92_at)) (And.intro (And.intro @press_len @ns_strip) (And.intro @ns_set (And.intro @snoc128 @snoc0)))))
theorem sound60 : SoundV Tryd.prog globS 60 pf60:=by
  refine SoundV.walk ES3 okS3 mixed Tryd.func60 rfl Tryd.call60 (by kernel_rfl) ?_
  intro args r h
  unfold pf60 at h
  split at h
  · simp only [Option.bind_eq_some_iff] at h
    obtain ⟨b,h1,h2⟩:=h
    split at h2
    · rename_i hb
      cases h2
      obtain ⟨fl,rfl⟩:=row?_of h1
      rw [Tryd.ntmps60,Tryd.results60]
      refine ⟨by simp,?_⟩
      simp (maxSteps:=1000000) (disch:=first | omega | (simp only [press_len,outB_len,lenBs_len,lnB] <;> omega) | fail) only [ev0,ev1,ev2,ev3,↓reduceIte,reduceCtorEq,zaa,zab,zac,zad,zae,zaf,zag,zah,zai,zaj,zak,zal,zam,zan,zao,zap,zaq,↓zar,↓zas,zat,zau,zav,zaw,zax,zay,zaz,zba,zbb,zbc,zbd,zbe,zbf,zbg,zbh,zbi,zbj,zbk,zbl,zbm,zbn,zbo,zbp,zbq,zbr,zbs,zbt,zbu,zbv,zbw,zbx,zby,zbz,zca,zcb,zcc,zcd,zce,zcf,zcg,zch,zci,zcj,zck,zcl,zcm,zcn,zco,zcp,zcq,zcr,zcs,zct,zcu,zcv,zcw,zcx,zcy,zcz,zda,zdb,zdc,zdd,zde,zdf,zdg,zdh,zdi,zdj,zdk,zdl,zdm,ev5,tbHd1,globS]
      refine loopQ_of (fun n σ => ∃ k i,k ≤ 8 ∧ n = 8 - k ∧ σ.slots 19 = .raw (.int .i64 (k : Int)) ∧ σ.slots 0 = .sl b.length (nums .u8 b) .bor ∧ σ.slots 2 = .ptr (.own 0 2 1) 0 ∧ σ.slots 3 = .sl (based b k).length (nums .u8 (based b k)) (.own i 1) ∧
        σ.box (.own 0 2 1) = some (nums .u8 (List.replicate 32 0#8)) ∧ Free σ.used (σ.gen 32) 32 i) 8 ?_ ?_
      · refine ⟨0,⟨0,18,0,1⟩,by omega,by omega,?_⟩
        simp (maxSteps:=1000000) (disch:=first | omega | (simp only [press_len,outB_len,lenBs_len,lnB] <;> omega) | fail) only [ev0,ev1,ev2,ev3,↓reduceIte,reduceCtorEq,zaa,zab,zac,zad,zae,zaf,zag,zah,zai,zaj,zak,zal,zam,zan,zao,zap,zaq,↓zar,↓zas,zat,zau,zav,zaw,zax,zay,zaz,zba,zbb,zbc,zbd,zbe,zbf,zbg,zbh,zbi,zbj,zbk,zbl,zbm,zbn,zbo,zbp,zbq,zbr,zbs,zbt,zbu,zbv,zbw,zbx,zby,zbz,zca,zcb,zcc,zcd,zce,zcf,zcg,zch,zci,zcj,zck,zcl,zcm,zcn,zco,zcp,zcq,zcr,zcs,zct,zcu,zcv,zcw,zcx,zcy,zcz,zda,zdb,zdc,zdd,zde,zdf,zdg,zdh,zdi,zdj,zdk,zdl,zdm,ev5,tbHd1,globS]
        refine ⟨rfl,sl_eq ?_ ?_,?_⟩
        · simp only [based_len,pad0]; omega
        · simp only [based,lenBs,List.append_nil]
          congr 2
          simp only [pad0]; omega
        · exact ⟨by simp [updI],fun g _=>by simp [updI],by simp⟩
      · rintro n ⟨sl,gn,bx,us⟩ ⟨k,i,hk,rfl,s19,s0,s2,s3,b2,hf⟩
        dsimp only at s19 s0 s2 s3 b2 hf
        have hf0:=hf.now
        have lb : beginL.length = 8:=rfl
        have lM : (based b k).length ≤ b.length + 200:=by rw [based_len,pad0]; omega
        generalize hM : based b k = M at s3 lM
        simp (maxSteps:=1000000) (disch:=first | omega | (simp only [press_len,outB_len,lenBs_len,lnB] <;> omega) | fail) only [ev0,ev1,ev2,ev3,↓reduceIte,reduceCtorEq,zaa,zab,zac,zad,zae,zaf,zag,zah,zai,zaj,zak,zal,zam,zan,zao,zap,zaq,↓zar,↓zas,zat,zau,zav,zaw,zax,zay,zaz,zba,zbb,zbc,zbd,zbe,zbf,zbg,zbh,zbi,zbj,zbk,zbl,zbm,zbn,zbo,zbp,zbq,zbr,zbs,zbt,zbu,zbv,zbw,zbx,zby,zbz,zca,zcb,zcc,zcd,zce,zcf,zcg,zch,zci,zcj,zck,zcl,zcm,zcn,zco,zcp,zcq,zcr,zcs,zct,zcu,zcv,zcw,zcx,zcy,zcz,zda,zdb,zdc,zdd,zde,zdf,zdg,zdh,zdi,zdj,zdk,zdl,zdm,ev5,tbHd1,globS,s19,s0,s2,s3,b2,hf0,lb]
        refine condQ_dec (fun hlt=>?_) (fun hge=>?_)
        · have hlt : k < 8 := by omega
          simp (maxSteps:=1000000) (disch:=first | omega | (simp only [press_len,outB_len,lenBs_len,lnB] <;> omega) | fail) only [ev0,ev1,ev2,ev3,↓reduceIte,reduceCtorEq,zaa,zab,zac,zad,zae,zaf,zag,zah,zai,zaj,zak,zal,zam,zan,zao,zap,zaq,↓zar,↓zas,zat,zau,zav,zaw,zax,zay,zaz,zba,zbb,zbc,zbd,zbe,zbf,zbg,zbh,zbi,zbj,zbk,zbl,zbm,zbn,zbo,zbp,zbq,zbr,zbs,zbt,zbu,zbv,zbw,zbx,zby,zbz,zca,zcb,zcc,zcd,zce,zcf,zcg,zch,zci,zcj,zck,zcl,zcm,zcn,zco,zcp,zcq,zcr,zcs,zct,zcu,zcv,zcw,zcx,zcy,zcz,zda,zdb,zdc,zdd,zde,zdf,zdg,zdh,zdi,zdj,zdk,zdl,zdm,ev5,tbHd1,globS,s19,s0,s2,s3,b2,hf0,lb]
          refine ⟨8 - (k + 1),by omega,k + 1,⟨0,32,0,gn 32 + 1⟩,by omega,rfl,rfl,sl_eq ?_ ?_,hf.go⟩
          · rw [← hM]; simp only [based_len]
            rfl
          · rw [← hM]; simp only [based,lenBs,lenByte,List.append_assoc]
        · have hk : k = 8 := by omega
          subst hk
          simp (maxSteps:=1000000) (disch:=first | omega | (simp only [press_len,outB_len,lenBs_len,lnB] <;> omega) | fail) only [ev0,ev1,ev2,ev3,↓reduceIte,reduceCtorEq,zaa,zab,zac,zad,zae,zaf,zag,zah,zai,zaj,zak,zal,zam,zan,zao,zap,zaq,↓zar,↓zas,zat,zau,zav,zaw,zax,zay,zaz,zba,zbb,zbc,zbd,zbe,zbf,zbg,zbh,zbi,zbj,zbk,zbl,zbm,zbn,zbo,zbp,zbq,zbr,zbs,zbt,zbu,zbv,zbw,zbx,zby,zbz,zca,zcb,zcc,zcd,zce,zcf,zcg,zch,zci,zcj,zck,zcl,zcm,zcn,zco,zcp,zcq,zcr,zcs,zct,zcu,zcv,zcw,zcx,zcy,zcz,zda,zdb,zdc,zdd,zde,zdf,zdg,zdh,zdi,zdj,zdk,zdl,zdm,ev5,tbHd1,globS,s19,s0,s2,s3,b2,hf0,lb]
          have lM2 : M.length = 64 * (M.length / 64):=by
            rw [← hM,based_len,pad0]; omega
          generalize gn 5 + 1 = g5
          refine loopQ_of (fun n σ => ∃ M' h' fl',M'.length = 64 * n ∧ M'.length ≤ M.length ∧ h'.length = 8 ∧ eat n h' M' = eat (M.length / 64) beginL M ∧ σ.slots 2 = .ptr (.own 0 2 1) 0 ∧ σ.slots 3 = .sl M'.length (nums .u8 M') fl' ∧ σ.slots 5 = .ptr (.own 0 5 g5) 0 ∧
            σ.box (.own 0 2 1) = some (nums .u8 (List.replicate 32 0#8)) ∧ σ.box (.own 0 5 g5) = some (nums .u32 h')) (M.length / 64) ?_ ?_
          · refine ⟨M,beginL,.own i 1,lM2,Nat.le_refl _,lb,rfl,?_⟩
            simp (maxSteps:=1000000) (disch:=first | omega | (simp only [press_len,outB_len,lenBs_len,lnB] <;> omega) | fail) only [ev0,ev1,ev2,ev3,↓reduceIte,reduceCtorEq,zaa,zab,zac,zad,zae,zaf,zag,zah,zai,zaj,zak,zal,zam,zan,zao,zap,zaq,↓zar,↓zas,zat,zau,zav,zaw,zax,zay,zaz,zba,zbb,zbc,zbd,zbe,zbf,zbg,zbh,zbi,zbj,zbk,zbl,zbm,zbn,zbo,zbp,zbq,zbr,zbs,zbt,zbu,zbv,zbw,zbx,zby,zbz,zca,zcb,zcc,zcd,zce,zcf,zcg,zch,zci,zcj,zck,zcl,zcm,zcn,zco,zcp,zcq,zcr,zcs,zct,zcu,zcv,zcw,zcx,zcy,zcz,zda,zdb,zdc,zdd,zde,zdf,zdg,zdh,zdi,zdj,zdk,zdl,zdm,ev5,tbHd1,globS,s19,s0,s2,s3,b2,hf0,lb]
          · clear s19 s0 s2 s3 b2 hf hf0
            rintro n ⟨sl',gn',bx',us'⟩ ⟨M',h',fl',lM',le',lh',he,s2,s3,s5,b2,b5⟩
            dsimp only at s2 s3 s5 b2 b5
            clear sl gn bx us
            simp (maxSteps:=1000000) (disch:=first | omega | (simp only [press_len,outB_len,lenBs_len,lnB] <;> omega) | fail) only [ev0,ev1,ev2,ev3,↓reduceIte,reduceCtorEq,zaa,zab,zac,zad,zae,zaf,zag,zah,zai,zaj,zak,zal,zam,zan,zao,zap,zaq,↓zar,↓zas,zat,zau,zav,zaw,zax,zay,zaz,zba,zbb,zbc,zbd,zbe,zbf,zbg,zbh,zbi,zbj,zbk,zbl,zbm,zbn,zbo,zbp,zbq,zbr,zbs,zbt,zbu,zbv,zbw,zbx,zby,zbz,zca,zcb,zcc,zcd,zce,zcf,zcg,zch,zci,zcj,zck,zcl,zcm,zcn,zco,zcp,zcq,zcr,zcs,zct,zcu,zcv,zcw,zcx,zcy,zcz,zda,zdb,zdc,zdd,zde,zdf,zdg,zdh,zdi,zdj,zdk,zdl,zdm,ev5,tbHd1,globS,s2,s3,s5,b2,b5,lh']
            refine condQ_dec (fun hlt=>?_) (fun hge=>?_)
            · have hlt : 64 ≤ M'.length := by omega
              simp (maxSteps:=1000000) (disch:=first | omega | (simp only [press_len,outB_len,lenBs_len,lnB] <;> omega) | fail) only [ev0,ev1,ev2,ev3,↓reduceIte,reduceCtorEq,zaa,zab,zac,zad,zae,zaf,zag,zah,zai,zaj,zak,zal,zam,zan,zao,zap,zaq,↓zar,↓zas,zat,zau,zav,zaw,zax,zay,zaz,zba,zbb,zbc,zbd,zbe,zbf,zbg,zbh,zbi,zbj,zbk,zbl,zbm,zbn,zbo,zbp,zbq,zbr,zbs,zbt,zbu,zbv,zbw,zbx,zby,zbz,zca,zcb,zcc,zcd,zce,zcf,zcg,zch,zci,zcj,zck,zcl,zcm,zcn,zco,zcp,zcq,zcr,zcs,zct,zcu,zcv,zcw,zcx,zcy,zcz,zda,zdb,zdc,zdd,zde,zdf,zdg,zdh,zdi,zdj,zdk,zdl,zdm,ev5,tbHd1,globS,s2,s3,s5,b2,b5,lh']
              refine ⟨n - 1,by omega,M'.drop 64,press h' (M'.take 64),_,?_,?_,?_,?_,sl_eq ?_ ?_,rfl⟩
              · simp only [List.length_drop]; omega
              · simp only [List.length_drop]; omega
              · rw [press_len,lh']
              · rw [← he]
                obtain ⟨j,rfl⟩ : ∃ j,n = j + 1:=⟨n - 1,by omega⟩
                rfl
              · simp only [List.length_drop]
              · rfl
            · have hk : n = 0 := by omega
              subst hk
              simp only [eat] at he
              subst he
              simp (maxSteps:=1000000) (disch:=first | omega | (simp only [press_len,outB_len,lenBs_len,lnB] <;> omega) | fail) only [ev0,ev1,ev2,ev3,↓reduceIte,reduceCtorEq,zaa,zab,zac,zad,zae,zaf,zag,zah,zai,zaj,zak,zal,zam,zan,zao,zap,zaq,↓zar,↓zas,zat,zau,zav,zaw,zax,zay,zaz,zba,zbb,zbc,zbd,zbe,zbf,zbg,zbh,zbi,zbj,zbk,zbl,zbm,zbn,zbo,zbp,zbq,zbr,zbs,zbt,zbu,zbv,zbw,zbx,zby,zbz,zca,zcb,zcc,zcd,zce,zcf,zcg,zch,zci,zcj,zck,zcl,zcm,zcn,zco,zcp,zcq,zcr,zcs,zct,zcu,zcv,zcw,zcx,zcy,zcz,zda,zdb,zdc,zdd,zde,zdf,zdg,zdh,zdi,zdj,zdk,zdl,zdm,ev5,tbHd1,globS,s2,s3,s5,b2,b5,lh']
              generalize gn' 6 + 1 = g6
              generalize hH : eat (M.length / 64) beginL M = H at *
              refine loopQ_of (fun n σ => ∃ k,k ≤ 32 ∧ n = 32 - k ∧ σ.slots 45 = .raw (.int .i64 (k : Int)) ∧ σ.slots 2 = .ptr (.own 0 2 1) 0 ∧ σ.slots 5 = .ptr (.own 0 5 g5) 0 ∧ σ.slots 6 = .ptr (.own 0 6 g6) 0 ∧
                σ.box (.own 0 2 1) = some (nums .u8 (List.replicate 32 0#8)) ∧ σ.box (.own 0 5 g5) = some (nums .u32 H) ∧ σ.box (.own 0 6 g6) = some (nums .u8 (outB H k))) 32 ?_ ?_
              · refine ⟨0,by omega,by omega,?_⟩
                simp (maxSteps:=1000000) (disch:=first | omega | (simp only [press_len,outB_len,lenBs_len,lnB] <;> omega) | fail) only [ev0,ev1,ev2,ev3,↓reduceIte,reduceCtorEq,zaa,zab,zac,zad,zae,zaf,zag,zah,zai,zaj,zak,zal,zam,zan,zao,zap,zaq,↓zar,↓zas,zat,zau,zav,zaw,zax,zay,zaz,zba,zbb,zbc,zbd,zbe,zbf,zbg,zbh,zbi,zbj,zbk,zbl,zbm,zbn,zbo,zbp,zbq,zbr,zbs,zbt,zbu,zbv,zbw,zbx,zby,zbz,zca,zcb,zcc,zcd,zce,zcf,zcg,zch,zci,zcj,zck,zcl,zcm,zcn,zco,zcp,zcq,zcr,zcs,zct,zcu,zcv,zcw,zcx,zcy,zcz,zda,zdb,zdc,zdd,zde,zdf,zdg,zdh,zdi,zdj,zdk,zdl,zdm,ev5,tbHd1,globS,s2,s3,s5,b2,b5,lh']
                exact ⟨rfl,rfl⟩
              · clear s2 s3 s5 b2 b5
                rintro n ⟨sl,gn,bx,us⟩ ⟨k,hk,rfl,s45,s2,s5,s6,b2,b5,b6⟩
                dsimp only at s45 s2 s5 s6 b2 b5 b6
                have lo:=outB_len H k
                simp (maxSteps:=1000000) (disch:=first | omega | (simp only [press_len,outB_len,lenBs_len,lnB] <;> omega) | fail) only [ev0,ev1,ev2,ev3,↓reduceIte,reduceCtorEq,zaa,zab,zac,zad,zae,zaf,zag,zah,zai,zaj,zak,zal,zam,zan,zao,zap,zaq,↓zar,↓zas,zat,zau,zav,zaw,zax,zay,zaz,zba,zbb,zbc,zbd,zbe,zbf,zbg,zbh,zbi,zbj,zbk,zbl,zbm,zbn,zbo,zbp,zbq,zbr,zbs,zbt,zbu,zbv,zbw,zbx,zby,zbz,zca,zcb,zcc,zcd,zce,zcf,zcg,zch,zci,zcj,zck,zcl,zcm,zcn,zco,zcp,zcq,zcr,zcs,zct,zcu,zcv,zcw,zcx,zcy,zcz,zda,zdb,zdc,zdd,zde,zdf,zdg,zdh,zdi,zdj,zdk,zdl,zdm,ev5,tbHd1,globS,s45,s2,s5,s6,b2,b5,b6,lh',lo]
                refine condQ_dec (fun hlt=>?_) (fun hge=>?_)
                · have hlt : k < 32 := by omega
                  simp (maxSteps:=1000000) (disch:=first | omega | (simp only [press_len,outB_len,lenBs_len,lnB] <;> omega) | fail) only [ev0,ev1,ev2,ev3,↓reduceIte,reduceCtorEq,zaa,zab,zac,zad,zae,zaf,zag,zah,zai,zaj,zak,zal,zam,zan,zao,zap,zaq,↓zar,↓zas,zat,zau,zav,zaw,zax,zay,zaz,zba,zbb,zbc,zbd,zbe,zbf,zbg,zbh,zbi,zbj,zbk,zbl,zbm,zbn,zbo,zbp,zbq,zbr,zbs,zbt,zbu,zbv,zbw,zbx,zby,zbz,zca,zcb,zcc,zcd,zce,zcf,zcg,zch,zci,zcj,zck,zcl,zcm,zcn,zco,zcp,zcq,zcr,zcs,zct,zcu,zcv,zcw,zcx,zcy,zcz,zda,zdb,zdc,zdd,zde,zdf,zdg,zdh,zdi,zdj,zdk,zdl,zdm,ev5,tbHd1,globS,s45,s2,s5,s6,b2,b5,b6,lh',lo]
                  exact ⟨32 - (k + 1),by omega,k + 1,by omega,rfl,rfl,rfl⟩
                · have hk : k = 32 := by omega
                  subst hk
                  simp (maxSteps:=1000000) (disch:=first | omega | (simp only [press_len,outB_len,lenBs_len,lnB] <;> omega) | fail) only [ev0,ev1,ev2,ev3,↓reduceIte,reduceCtorEq,zaa,zab,zac,zad,zae,zaf,zag,zah,zai,zaj,zak,zal,zam,zan,zao,zap,zaq,↓zar,↓zas,zat,zau,zav,zaw,zax,zay,zaz,zba,zbb,zbc,zbd,zbe,zbf,zbg,zbh,zbi,zbj,zbk,zbl,zbm,zbn,zbo,zbp,zbq,zbr,zbs,zbt,zbu,zbv,zbw,zbx,zby,zbz,zca,zcb,zcc,zcd,zce,zcf,zcg,zch,zci,zcj,zck,zcl,zcm,zcn,zco,zcp,zcq,zcr,zcs,zct,zcu,zcv,zcw,zcx,zcy,zcz,zda,zdb,zdc,zdd,zde,zdf,zdg,zdh,zdi,zdj,zdk,zdl,zdm,ev5,tbHd1,globS,s45,s2,s5,s6,b2,b5,b6,lh',lo]
                  rw [← hH,← hM]
                  exact ResQ.same rfl
    · cases h2
  · cases h
end Go.Proofs.YtddeffdgldjdjaaDoor
