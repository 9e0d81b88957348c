/- The document's pressing: what the walk of its function comes to. -/
import Derived.Test.YtddeffdgldjdjaaDoorIc
namespace Go.Proofs.YtddeffdgldjdjaaDoor
set_option linter.unusedSimpArgs false
set_option linter.unusedVariables false
set_option linter.defProp false
open Go Go.Abs
open Nat renaming reduceAdd→zaa,reduceSub→zab,reduceMul→zac,reduceLT→zad,reduceLeDiff→zae,reduceEqDiff→zaf,reduceBEq→zag
open BitVec renaming reduceOfInt→zah
open Int renaming reduceLE→zai,reduceLT→zaj,reduceGT→zak,reduceGE→zal,reduceNeg→zam,reduceAdd→zan,reduceSub→zao,reduceMul→zap,reduceToNat→zaq
open Go.Abs renaming bind_go→zar,map_go→zas,wantedV→zat,isWrite→zau,grow→zav,write→zaw,ofV→zax,start→zaz,strip→zba,endQ→zbb,resV→zbc,rawsRes→zbd,rawRes→zbe,exports→zbf,export1→zbg,isSelf→zbl,convSelf→zbm,convV→zbn,loadV→zbo,storeV→zbp,fieldAddrV→zbq,fieldV→zbr,indexAddrV→zbs,indexV→zbt,partV→zbu,isAggK→zbv,isStr→zbw,place→zbx,ipS→zby,lenV→zbz,min2V→zca,makeV→zcb,freshSl→zcc,sliceV→zcd,boundOr→zce,bound→zcf,bounds→zcg,cutFl→zch,copyV→zci,slCells→zcj,srcV→zck,appendV→zcl,room→zcm,zerosOf→zcn,eqNeg→zco,kd→zcp,takeR→zcq,hasViewL→zcr,hasView→zcs,freshR→zct,freshC→zcu,snapAll→zcv,snap→zcw,snapL→zcx,flatL→zcy,pureL→zcz,pureA→zda,fillC→zdb,arrOK→zdc,oneA→zdd,partB→zde,ren1→zdg,applyW→zdi,useL→zdj,isGen→zdl,startG→zdm
open Go.Abs.AV renaming cells→zay,laid→zdf
open Go.Abs.AS renaming grown→zbh,put→zbi,mute→zdk
open Go.Abs.Env renaming know→zbj,boxed→zbk
open Go.Abs.CR renaming gr→zdh
def ES8 : Env:=(ES0.know 137 pf137).boxed (fun d=>d == 18)
theorem okS8 : EnvOK Tryd.prog ES8:=(okS0.know sound137).boxed _
theorem ES8_te : ES8.te = te:=rfl
theorem ES8_gs : ES8.gs = []:=rfl
theorem ES8_dyn : ES8.dyn = false:=rfl
theorem ES8_glob : ES8.glob = globS:=rfl
theorem ES8_mu (d : Nat) : ES8.mu d = (d == 18):=rfl
theorem ES8_137 : ES8.tbl 137 = some (.val pf137):=rfl
theorem right_eq (x : BitVec 32) (c : Nat) (hc : (BitVec.ofInt 64 (IntKind.i64.wrap (0 - (c : Int))) &&& 31#64).toNat = 32 - c) (hd : (32#64 - (BitVec.ofInt 64 (IntKind.i64.wrap (0 - (c : Int))) &&& 31#64)).toNat = c) (h : (32 - (c : Int)).toNat = 32 - c) : right x c = rotr x c:=by
  unfold right rotr rotl
  rw [hc,hd,h,BitVec.or_comm]
  rfl
theorem right_2 (x : BitVec 32) : right x 2 = rotr x 2:=right_eq x 2 (by decide) (by decide) (by decide)
theorem right_6 (x : BitVec 32) : right x 6 = rotr x 6:=right_eq x 6 (by decide) (by decide) (by decide)
theorem right_7 (x : BitVec 32) : right x 7 = rotr x 7:=right_eq x 7 (by decide) (by decide) (by decide)
theorem right_11 (x : BitVec 32) : right x 11 = rotr x 11:=right_eq x 11 (by decide) (by decide) (by decide)
theorem right_13 (x : BitVec 32) : right x 13 = rotr x 13:=right_eq x 13 (by decide) (by decide) (by decide)
theorem right_17 (x : BitVec 32) : right x 17 = rotr x 17:=right_eq x 17 (by decide) (by decide) (by decide)
theorem right_18 (x : BitVec 32) : right x 18 = rotr x 18:=right_eq x 18 (by decide) (by decide) (by decide)
theorem right_19 (x : BitVec 32) : right x 19 = rotr x 19:=right_eq x 19 (by decide) (by decide) (by decide)
theorem right_22 (x : BitVec 32) : right x 22 = rotr x 22:=right_eq x 22 (by decide) (by decide) (by decide)
theorem right_25 (x : BitVec 32) : right x 25 = rotr x 25:=right_eq x 25 (by decide) (by decide) (by decide)
theorem ch_eq (e f g : BitVec 32) : (e &&& f) ^^^ (~~~e &&& g) = g ^^^ (e &&& (f ^^^ g)):=by
  ext i hi
  simp only [BitVec.getElem_xor,BitVec.getElem_and,BitVec.getElem_not]
  cases e[i] <;> cases f[i] <;> cases g[i] <;> rfl
theorem maj_eq (a b c : BitVec 32) : (a &&& b) ^^^ (a &&& c) ^^^ (b &&& c) = (a &&& b) ||| (c &&& (a ||| b)):=by
  ext i hi
  simp only [BitVec.getElem_xor,BitVec.getElem_and,BitVec.getElem_or]
  cases a[i] <;> cases b[i] <;> cases c[i] <;> rfl
def rndsK (K w : List (BitVec 32)) (s : St) : Nat → St
  | 0=>s
  | t + 1=>rnd (rndsK K w s t) (K.getD t 0#32) (w.getD t 0#32)
theorem rnds_is (w : List (BitVec 32)) (s : St) (t : Nat) : rnds w s t = rndsK addL w s t:=by
  induction t with
  | zero=>rfl
  | succ t ih=>simp only [rnds,rndsK,ih]
def pressK (K h : List (BitVec 32)) (m : List (BitVec 8)) : List (BitVec 32):=sums (rndsK K (sched m 64) (stOf h) 64).list h 8
theorem pressK_len (K h : List (BitVec 32)) (m : List (BitVec 8)) : (pressK K h m).length = 8:=by simp [pressK,sums_len,St.list]
theorem press_is (h : List (BitVec 32)) (m : List (BitVec 8)) (lh : h.length = 8) : pressK addL h m = press h m:=by
  unfold pressK press
  rw [rnds_is]
  generalize rndsK addL (sched m 64) (stOf h) 64 = s
  match h,lh with
  | [a,b,c,d,e,f,g,z],_ =>
    simp only [sums,St.list,List.set_cons_zero,List.set_cons_succ,List.getD_cons_zero,List.getD_cons_succ,BitVec.add_comm]
theorem schedK_len (m : List (BitVec 8)) (k : Nat) : (sched m k).length = 64:=sched_len m k
def pf105 : List AV → Option AV
  | [a,b,c]=>(agg? .u32 32 8 a).bind fun h=>(row? .u8 8 b).bind fun m=>(row? .u32 32 c).bind fun K=>if m.length = 64 ∧ K.length = 64 then some (.agg (nums .u32 (pressK K h m))) else none
  | _=>none
theorem pf105_at {n n' : Nat} {h K : List (BitVec 32)} {m : List (BitVec 8)} {fl fl' : Fl} (lh : h.length = 8) (h1 : n = m.length) (h2 : n' = K.length) (h3 : m.length = 64) (h4 : K.length = 64) : pf105 [.agg (nums .u32 h),.sl n (nums .u8 m) fl,.sl n' (nums .u32 K) fl'] = some (.agg (nums .u32 (pressK K h m))):=by
  simp only [pf105,agg?_at lh,row?_at h1,row?_at h2,Option.bind_some,h3,h4,and_self,if_true]
set_option maxHeartbeats 4000000
def tbId0:=(And.intro (And.intro (And.intro @teE @ES8_te) (And.intro @ES8_gs (And.intro @ES8_dyn @ES8_glob))) (And.intro (And.intro @ES8_mu (And.intro @ES8_137 @pf137_at)) (And.intro @ns_strip (And.intro @ns_set @agg8))))
theorem sound105 : SoundV Tryd.prog globS 105 pf105:=by
  refine SoundV.walk ES8 okS8 mixed Tryd.func105 rfl Tryd.call105 (by kernel_rfl) ?_
  intro args r hr
  unfold pf105 at hr
  split at hr
  · simp only [Option.bind_eq_some_iff] at hr
    obtain ⟨h,h1,m,h2,K,h3,hr⟩:=hr
    split at hr
    · rename_i hc
      obtain ⟨lm,lK⟩:=hc
      cases hr
      obtain ⟨rfl,lh⟩:=agg?_of h1
      obtain ⟨fl,rfl⟩:=row?_of h2
      obtain ⟨fl',rfl⟩:=row?_of h3
      rw [Tryd.ntmps105,Tryd.results105]
      refine ⟨by simp,?_⟩
      simp (maxSteps:=1000000) (disch:=first | omega | (simp only [schedK_len,press_len,lnB] <;> omega) | fail) only [ev0,ev1,ev2,ev3,↓reduceIte,reduceCtorEq,zaa,zab,zac,zad,zae,zaf,zag,zah,zai,zaj,zak,zal,zam,zan,zao,zap,zaq,↓zar,↓zas,zat,zau,zav,zaw,zax,zay,zaz,zba,zbb,zbc,zbd,zbe,zbf,zbg,zbh,zbi,zbj,zbk,zbl,zbm,zbn,zbo,zbp,zbq,zbr,zbs,zbt,zbu,zbv,zbw,zbx,zby,zbz,zca,zcb,zcc,zcd,zce,zcf,zcg,zch,zci,zcj,zck,zcl,zcm,zcn,zco,zcp,zcq,zcr,zcs,zct,zcu,zcv,zcw,zcx,zcy,zcz,zda,zdb,zdc,zdd,zde,zdf,zdg,zdh,zdi,zdj,zdk,zdl,zdm,ev5,tbId0,globS,List.getD_cons_zero,List.getD_cons_succ,lh,lm,lK]
      refine loopQ_of (fun n σ => ∃ k,k ≤ 64 ∧ n = 64 - k ∧ σ.slots 8 = .raw (.int .i64 (k : Int)) ∧ σ.slots 1 = .sl 64 (nums .u8 m) .bor ∧ σ.slots 2 = .sl 64 (nums .u32 K) .bor ∧ σ.slots 3 = .ptr (.own 0 3 1) 0 ∧ σ.slots 6 = .ptr (.own 0 6 1) 0 ∧ σ.slots 7 = .view (.own 0 18 1) 0 64 64 1 ∧
        σ.box (.own 0 3 1) = some (nums .u32 h) ∧ σ.box (.own 0 6 1) = some (nums .u32 (List.replicate 8 0#32)) ∧ σ.box (.own 0 18 1) = some (nums .u32 (sched m k))) 64 ?_ ?_
      · refine ⟨0,by omega,by omega,?_⟩
        simp (maxSteps:=1000000) (disch:=first | omega | (simp only [schedK_len,press_len,lnB] <;> omega) | fail) only [ev0,ev1,ev2,ev3,↓reduceIte,reduceCtorEq,zaa,zab,zac,zad,zae,zaf,zag,zah,zai,zaj,zak,zal,zam,zan,zao,zap,zaq,↓zar,↓zas,zat,zau,zav,zaw,zax,zay,zaz,zba,zbb,zbc,zbd,zbe,zbf,zbg,zbh,zbi,zbj,zbk,zbl,zbm,zbn,zbo,zbp,zbq,zbr,zbs,zbt,zbu,zbv,zbw,zbx,zby,zbz,zca,zcb,zcc,zcd,zce,zcf,zcg,zch,zci,zcj,zck,zcl,zcm,zcn,zco,zcp,zcq,zcr,zcs,zct,zcu,zcv,zcw,zcx,zcy,zcz,zda,zdb,zdc,zdd,zde,zdf,zdg,zdh,zdi,zdj,zdk,zdl,zdm,ev5,tbId0,globS,List.getD_cons_zero,List.getD_cons_succ,lh,lm,lK]
        exact ⟨rfl,rfl⟩
      · rintro n ⟨sl,gn,bx,us⟩ ⟨k,hk,rfl,s8,s1,s2,s3,s6,s7,b3,b6,b18⟩
        dsimp only at s8 s1 s2 s3 s6 s7 b3 b6 b18
        have lw:=sched_len m k
        simp (maxSteps:=1000000) (disch:=first | omega | (simp only [schedK_len,press_len,lnB] <;> omega) | fail) only [ev0,ev1,ev2,ev3,↓reduceIte,reduceCtorEq,zaa,zab,zac,zad,zae,zaf,zag,zah,zai,zaj,zak,zal,zam,zan,zao,zap,zaq,↓zar,↓zas,zat,zau,zav,zaw,zax,zay,zaz,zba,zbb,zbc,zbd,zbe,zbf,zbg,zbh,zbi,zbj,zbk,zbl,zbm,zbn,zbo,zbp,zbq,zbr,zbs,zbt,zbu,zbv,zbw,zbx,zby,zbz,zca,zcb,zcc,zcd,zce,zcf,zcg,zch,zci,zcj,zck,zcl,zcm,zcn,zco,zcp,zcq,zcr,zcs,zct,zcu,zcv,zcw,zcx,zcy,zcz,zda,zdb,zdc,zdd,zde,zdf,zdg,zdh,zdi,zdj,zdk,zdl,zdm,ev5,tbId0,globS,List.getD_cons_zero,List.getD_cons_succ,lh,lm,lK,lw,s8,s1,s2,s3,s6,s7,b3,b6,b18]
        refine condQ_dec (fun hlt=>?_) (fun hge=>?_)
        · have hlt : k < 64 := by omega
          simp (maxSteps:=1000000) (disch:=first | omega | (simp only [schedK_len,press_len,lnB] <;> omega) | fail) only [ev0,ev1,ev2,ev3,↓reduceIte,reduceCtorEq,zaa,zab,zac,zad,zae,zaf,zag,zah,zai,zaj,zak,zal,zam,zan,zao,zap,zaq,↓zar,↓zas,zat,zau,zav,zaw,zax,zay,zaz,zba,zbb,zbc,zbd,zbe,zbf,zbg,zbh,zbi,zbj,zbk,zbl,zbm,zbn,zbo,zbp,zbq,zbr,zbs,zbt,zbu,zbv,zbw,zbx,zby,zbz,zca,zcb,zcc,zcd,zce,zcf,zcg,zch,zci,zcj,zck,zcl,zcm,zcn,zco,zcp,zcq,zcr,zcs,zct,zcu,zcv,zcw,zcx,zcy,zcz,zda,zdb,zdc,zdd,zde,zdf,zdg,zdh,zdi,zdj,zdk,zdl,zdm,ev5,tbId0,globS,List.getD_cons_zero,List.getD_cons_succ,lh,lm,lK,lw,s8,s1,s2,s3,s6,s7,b3,b6,b18]
          refine condQ_dec (fun h16=>?_) (fun h16=>?_)
          · have h16 : k < 16 := by omega
            simp (maxSteps:=1000000) (disch:=first | omega | (simp only [schedK_len,press_len,lnB] <;> omega) | fail) only [ev0,ev1,ev2,ev3,↓reduceIte,reduceCtorEq,zaa,zab,zac,zad,zae,zaf,zag,zah,zai,zaj,zak,zal,zam,zan,zao,zap,zaq,↓zar,↓zas,zat,zau,zav,zaw,zax,zay,zaz,zba,zbb,zbc,zbd,zbe,zbf,zbg,zbh,zbi,zbj,zbk,zbl,zbm,zbn,zbo,zbp,zbq,zbr,zbs,zbt,zbu,zbv,zbw,zbx,zby,zbz,zca,zcb,zcc,zcd,zce,zcf,zcg,zch,zci,zcj,zck,zcl,zcm,zcn,zco,zcp,zcq,zcr,zcs,zct,zcu,zcv,zcw,zcx,zcy,zcz,zda,zdb,zdc,zdd,zde,zdf,zdg,zdh,zdi,zdj,zdk,zdl,zdm,ev5,tbId0,globS,List.getD_cons_zero,List.getD_cons_succ,lh,lm,lK,lw,s8,s1,s2,s3,s6,s7,b3,b6,b18]
            refine ⟨64 - (k + 1),by omega,k + 1,by omega,rfl,rfl,?_⟩
            simp only [sched,wordAt,if_pos h16,be32]
          · have h16 : ¬ k < 16 := by omega
            simp (maxSteps:=1000000) (disch:=first | omega | (simp only [schedK_len,press_len,lnB] <;> omega) | fail) only [ev0,ev1,ev2,ev3,↓reduceIte,reduceCtorEq,zaa,zab,zac,zad,zae,zaf,zag,zah,zai,zaj,zak,zal,zam,zan,zao,zap,zaq,↓zar,↓zas,zat,zau,zav,zaw,zax,zay,zaz,zba,zbb,zbc,zbd,zbe,zbf,zbg,zbh,zbi,zbj,zbk,zbl,zbm,zbn,zbo,zbp,zbq,zbr,zbs,zbt,zbu,zbv,zbw,zbx,zby,zbz,zca,zcb,zcc,zcd,zce,zcf,zcg,zch,zci,zcj,zck,zcl,zcm,zcn,zco,zcp,zcq,zcr,zcs,zct,zcu,zcv,zcw,zcx,zcy,zcz,zda,zdb,zdc,zdd,zde,zdf,zdg,zdh,zdi,zdj,zdk,zdl,zdm,ev5,tbId0,globS,List.getD_cons_zero,List.getD_cons_succ,lh,lm,lK,lw,s8,s1,s2,s3,s6,s7,b3,b6,b18]
            refine ⟨64 - (k + 1),by omega,k + 1,by omega,rfl,rfl,?_⟩
            simp only [sched,wordAt,if_neg h16,sig0,sig1,right_17,right_19,right_7,right_18]
            congr 2
            ac_rfl
        · have hk : k = 64 := by omega
          subst hk
          simp (maxSteps:=1000000) (disch:=first | omega | (simp only [schedK_len,press_len,lnB] <;> omega) | fail) only [ev0,ev1,ev2,ev3,↓reduceIte,reduceCtorEq,zaa,zab,zac,zad,zae,zaf,zag,zah,zai,zaj,zak,zal,zam,zan,zao,zap,zaq,↓zar,↓zas,zat,zau,zav,zaw,zax,zay,zaz,zba,zbb,zbc,zbd,zbe,zbf,zbg,zbh,zbi,zbj,zbk,zbl,zbm,zbn,zbo,zbp,zbq,zbr,zbs,zbt,zbu,zbv,zbw,zbx,zby,zbz,zca,zcb,zcc,zcd,zce,zcf,zcg,zch,zci,zcj,zck,zcl,zcm,zcn,zco,zcp,zcq,zcr,zcs,zct,zcu,zcv,zcw,zcx,zcy,zcz,zda,zdb,zdc,zdd,zde,zdf,zdg,zdh,zdi,zdj,zdk,zdl,zdm,ev5,tbId0,globS,List.getD_cons_zero,List.getD_cons_succ,lh,lm,lK,lw,s8,s1,s2,s3,s6,s7,b3,b6,b18]
          generalize gn 11 + 1 = g11
          refine loopQ_of (fun n σ => ∃ k s,k ≤ 64 ∧ n = 64 - k ∧ rndsK K (sched m 64) (stOf h) k = s ∧ σ.slots 12 = .raw (.int .i64 (k : Int)) ∧ σ.slots 2 = .sl 64 (nums .u32 K) .bor ∧ σ.slots 3 = .ptr (.own 0 3 1) 0 ∧ σ.slots 6 = .ptr (.own 0 6 1) 0 ∧ σ.slots 7 = .view (.own 0 18 1) 0 64 64 1 ∧ σ.slots 11 = .ptr (.own 0 11 g11) 0 ∧
            σ.box (.own 0 3 1) = some (nums .u32 h) ∧ σ.box (.own 0 6 1) = some (nums .u32 (List.replicate 8 0#32)) ∧ σ.box (.own 0 18 1) = some (nums .u32 (sched m 64)) ∧ σ.box (.own 0 11 g11) = some (nums .u32 [s.a,s.b,s.c,s.d,s.e,s.f,s.g,s.z])) 64 ?_ ?_
          · refine ⟨0,stOf h,by omega,by omega,rfl,?_⟩
            simp (maxSteps:=1000000) (disch:=first | omega | (simp only [schedK_len,press_len,lnB] <;> omega) | fail) only [ev0,ev1,ev2,ev3,↓reduceIte,reduceCtorEq,zaa,zab,zac,zad,zae,zaf,zag,zah,zai,zaj,zak,zal,zam,zan,zao,zap,zaq,↓zar,↓zas,zat,zau,zav,zaw,zax,zay,zaz,zba,zbb,zbc,zbd,zbe,zbf,zbg,zbh,zbi,zbj,zbk,zbl,zbm,zbn,zbo,zbp,zbq,zbr,zbs,zbt,zbu,zbv,zbw,zbx,zby,zbz,zca,zcb,zcc,zcd,zce,zcf,zcg,zch,zci,zcj,zck,zcl,zcm,zcn,zco,zcp,zcq,zcr,zcs,zct,zcu,zcv,zcw,zcx,zcy,zcz,zda,zdb,zdc,zdd,zde,zdf,zdg,zdh,zdi,zdj,zdk,zdl,zdm,ev5,tbId0,globS,List.getD_cons_zero,List.getD_cons_succ,lh,lm,lK,lw,s8,s1,s2,s3,s6,s7,b3,b6,b18]
            refine ⟨rfl,?_⟩
            match h,lh with
            | [a,b,c,d,e,f,g,z],_=>rfl
          · clear s8 s1 s2 s3 s6 s7 b3 b6 b18 sl gn bx us
            rintro n ⟨sl,gn,bx,us⟩ ⟨k,s,hk,rfl,hs,s12,s2,s3,s6,s7,s11,b3,b6,b18,b11⟩
            dsimp only at s12 s2 s3 s6 s7 s11 b3 b6 b18 b11
            simp (maxSteps:=1000000) (disch:=first | omega | (simp only [schedK_len,press_len,lnB] <;> omega) | fail) only [ev0,ev1,ev2,ev3,↓reduceIte,reduceCtorEq,zaa,zab,zac,zad,zae,zaf,zag,zah,zai,zaj,zak,zal,zam,zan,zao,zap,zaq,↓zar,↓zas,zat,zau,zav,zaw,zax,zay,zaz,zba,zbb,zbc,zbd,zbe,zbf,zbg,zbh,zbi,zbj,zbk,zbl,zbm,zbn,zbo,zbp,zbq,zbr,zbs,zbt,zbu,zbv,zbw,zbx,zby,zbz,zca,zcb,zcc,zcd,zce,zcf,zcg,zch,zci,zcj,zck,zcl,zcm,zcn,zco,zcp,zcq,zcr,zcs,zct,zcu,zcv,zcw,zcx,zcy,zcz,zda,zdb,zdc,zdd,zde,zdf,zdg,zdh,zdi,zdj,zdk,zdl,zdm,ev5,tbId0,globS,List.getD_cons_zero,List.getD_cons_succ,lh,lm,lK,lw,s12,s2,s3,s6,s7,s11,b3,b6,b18,b11]
            refine condQ_dec (fun hlt=>?_) (fun hge=>?_)
            · have hlt : k < 64 := by omega
              simp (maxSteps:=1000000) (disch:=first | omega | (simp only [schedK_len,press_len,lnB] <;> omega) | fail) only [ev0,ev1,ev2,ev3,↓reduceIte,reduceCtorEq,zaa,zab,zac,zad,zae,zaf,zag,zah,zai,zaj,zak,zal,zam,zan,zao,zap,zaq,↓zar,↓zas,zat,zau,zav,zaw,zax,zay,zaz,zba,zbb,zbc,zbd,zbe,zbf,zbg,zbh,zbi,zbj,zbk,zbl,zbm,zbn,zbo,zbp,zbq,zbr,zbs,zbt,zbu,zbv,zbw,zbx,zby,zbz,zca,zcb,zcc,zcd,zce,zcf,zcg,zch,zci,zcj,zck,zcl,zcm,zcn,zco,zcp,zcq,zcr,zcs,zct,zcu,zcv,zcw,zcx,zcy,zcz,zda,zdb,zdc,zdd,zde,zdf,zdg,zdh,zdi,zdj,zdk,zdl,zdm,ev5,tbId0,globS,List.getD_cons_zero,List.getD_cons_succ,lh,lm,lK,lw,s12,s2,s3,s6,s7,s11,b3,b6,b18,b11]
              refine ⟨64 - (k + 1),by omega,k + 1,rnd s (K.getD k 0#32) ((sched m 64).getD k 0#32),by omega,rfl,by rw [← hs]; rfl,rfl,?_⟩
              simp only [rnd,one,two,right_6,right_11,right_25,right_2,right_13,right_22,ch_eq,maj_eq]
            · have hk : k = 64 := by omega
              subst hk
              simp (maxSteps:=1000000) (disch:=first | omega | (simp only [schedK_len,press_len,lnB] <;> omega) | fail) only [ev0,ev1,ev2,ev3,↓reduceIte,reduceCtorEq,zaa,zab,zac,zad,zae,zaf,zag,zah,zai,zaj,zak,zal,zam,zan,zao,zap,zaq,↓zar,↓zas,zat,zau,zav,zaw,zax,zay,zaz,zba,zbb,zbc,zbd,zbe,zbf,zbg,zbh,zbi,zbj,zbk,zbl,zbm,zbn,zbo,zbp,zbq,zbr,zbs,zbt,zbu,zbv,zbw,zbx,zby,zbz,zca,zcb,zcc,zcd,zce,zcf,zcg,zch,zci,zcj,zck,zcl,zcm,zcn,zco,zcp,zcq,zcr,zcs,zct,zcu,zcv,zcw,zcx,zcy,zcz,zda,zdb,zdc,zdd,zde,zdf,zdg,zdh,zdi,zdj,zdk,zdl,zdm,ev5,tbId0,globS,List.getD_cons_zero,List.getD_cons_succ,lh,lm,lK,lw,s12,s2,s3,s6,s7,s11,b3,b6,b18,b11]
              refine loopQ_of (fun n σ => ∃ k,k ≤ 8 ∧ n = 8 - k ∧ σ.slots 17 = .raw (.int .i64 (k : Int)) ∧ σ.slots 3 = .ptr (.own 0 3 1) 0 ∧ σ.slots 6 = .ptr (.own 0 6 1) 0 ∧ σ.slots 11 = .ptr (.own 0 11 g11) 0 ∧
                σ.box (.own 0 3 1) = some (nums .u32 h) ∧ σ.box (.own 0 6 1) = some (nums .u32 (List.replicate 8 0#32)) ∧ σ.box (.own 0 11 g11) = some (nums .u32 (sums s.list h k))) 8 ?_ ?_
              · refine ⟨0,by omega,by omega,?_⟩
                simp (maxSteps:=1000000) (disch:=first | omega | (simp only [schedK_len,press_len,lnB] <;> omega) | fail) only [ev0,ev1,ev2,ev3,↓reduceIte,reduceCtorEq,zaa,zab,zac,zad,zae,zaf,zag,zah,zai,zaj,zak,zal,zam,zan,zao,zap,zaq,↓zar,↓zas,zat,zau,zav,zaw,zax,zay,zaz,zba,zbb,zbc,zbd,zbe,zbf,zbg,zbh,zbi,zbj,zbk,zbl,zbm,zbn,zbo,zbp,zbq,zbr,zbs,zbt,zbu,zbv,zbw,zbx,zby,zbz,zca,zcb,zcc,zcd,zce,zcf,zcg,zch,zci,zcj,zck,zcl,zcm,zcn,zco,zcp,zcq,zcr,zcs,zct,zcu,zcv,zcw,zcx,zcy,zcz,zda,zdb,zdc,zdd,zde,zdf,zdg,zdh,zdi,zdj,zdk,zdl,zdm,ev5,tbId0,globS,List.getD_cons_zero,List.getD_cons_succ,lh,lm,lK,lw,s12,s2,s3,s6,s7,s11,b3,b6,b18,b11]
                exact ⟨rfl,rfl⟩
              · clear s12 s2 s3 s6 s7 s11 b3 b6 b18 b11 sl gn bx us
                rintro n ⟨sl,gn,bx,us⟩ ⟨k,hk,rfl,s17,s3,s6,s11,b3,b6,b11⟩
                dsimp only at s17 s3 s6 s11 b3 b6 b11
                have lq : (sums s.list h k).length = 8:=by rw [sums_len]; rfl
                simp (maxSteps:=1000000) (disch:=first | omega | (simp only [schedK_len,press_len,lnB] <;> omega) | fail) only [ev0,ev1,ev2,ev3,↓reduceIte,reduceCtorEq,zaa,zab,zac,zad,zae,zaf,zag,zah,zai,zaj,zak,zal,zam,zan,zao,zap,zaq,↓zar,↓zas,zat,zau,zav,zaw,zax,zay,zaz,zba,zbb,zbc,zbd,zbe,zbf,zbg,zbh,zbi,zbj,zbk,zbl,zbm,zbn,zbo,zbp,zbq,zbr,zbs,zbt,zbu,zbv,zbw,zbx,zby,zbz,zca,zcb,zcc,zcd,zce,zcf,zcg,zch,zci,zcj,zck,zcl,zcm,zcn,zco,zcp,zcq,zcr,zcs,zct,zcu,zcv,zcw,zcx,zcy,zcz,zda,zdb,zdc,zdd,zde,zdf,zdg,zdh,zdi,zdj,zdk,zdl,zdm,ev5,tbId0,globS,List.getD_cons_zero,List.getD_cons_succ,lh,lq,s17,s3,s6,s11,b3,b6,b11]
                refine condQ_dec (fun hlt=>?_) (fun hge=>?_)
                · have hlt : k < 8 := by omega
                  simp (maxSteps:=1000000) (disch:=first | omega | (simp only [schedK_len,press_len,lnB] <;> omega) | fail) only [ev0,ev1,ev2,ev3,↓reduceIte,reduceCtorEq,zaa,zab,zac,zad,zae,zaf,zag,zah,zai,zaj,zak,zal,zam,zan,zao,zap,zaq,↓zar,↓zas,zat,zau,zav,zaw,zax,zay,zaz,zba,zbb,zbc,zbd,zbe,zbf,zbg,zbh,zbi,zbj,zbk,zbl,zbm,zbn,zbo,zbp,zbq,zbr,zbs,zbt,zbu,zbv,zbw,zbx,zby,zbz,zca,zcb,zcc,zcd,zce,zcf,zcg,zch,zci,zcj,zck,zcl,zcm,zcn,zco,zcp,zcq,zcr,zcs,zct,zcu,zcv,zcw,zcx,zcy,zcz,zda,zdb,zdc,zdd,zde,zdf,zdg,zdh,zdi,zdj,zdk,zdl,zdm,ev5,tbId0,globS,List.getD_cons_zero,List.getD_cons_succ,lh,lq,s17,s3,s6,s11,b3,b6,b11]
                  exact ⟨8 - (k + 1),by omega,k + 1,by omega,rfl,rfl,rfl⟩
                · have hk : k = 8 := by omega
                  subst hk
                  simp (maxSteps:=1000000) (disch:=first | omega | (simp only [schedK_len,press_len,lnB] <;> omega) | fail) only [ev0,ev1,ev2,ev3,↓reduceIte,reduceCtorEq,zaa,zab,zac,zad,zae,zaf,zag,zah,zai,zaj,zak,zal,zam,zan,zao,zap,zaq,↓zar,↓zas,zat,zau,zav,zaw,zax,zay,zaz,zba,zbb,zbc,zbd,zbe,zbf,zbg,zbh,zbi,zbj,zbk,zbl,zbm,zbn,zbo,zbp,zbq,zbr,zbs,zbt,zbu,zbv,zbw,zbx,zby,zbz,zca,zcb,zcc,zcd,zce,zcf,zcg,zch,zci,zcj,zck,zcl,zcm,zcn,zco,zcp,zcq,zcr,zcs,zct,zcu,zcv,zcw,zcx,zcy,zcz,zda,zdb,zdc,zdd,zde,zdf,zdg,zdh,zdi,zdj,zdk,zdl,zdm,ev5,tbId0,globS,List.getD_cons_zero,List.getD_cons_succ,lh,lq,s17,s3,s6,s11,b3,b6,b11]
                  rw [← hs]
                  exact ResQ.same rfl
    · cases hr
  · cases hr
end Go.Proofs.YtddeffdgldjdjaaDoor
