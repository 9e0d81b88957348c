/- A piece is pressed: what the walk of the program's function comes to. -/
import Derived.Test.YtddeffdgldjdjaaDoorHb
namespace Go.Proofs.YtddeffdgldjdjaaDoor
set_option linter.unusedSimpArgs false
set_option linter.unusedVariables false
set_option linter.defProp false
open Go Go.Abs
open Nat renaming reduceAdd→zaa,reduceSub→zab,reduceMul→zac,reduceLT→zad,reduceLeDiff→zae,reduceEqDiff→zaf,reduceBEq→zag
open BitVec renaming reduceOfInt→zah
open Int renaming reduceLE→zai,reduceLT→zaj,reduceGT→zak,reduceGE→zal,reduceNeg→zam,reduceAdd→zan,reduceSub→zao,reduceMul→zap,reduceToNat→zaq
open Go.Abs renaming bind_go→zar,map_go→zas,wantedV→zat,isWrite→zau,grow→zav,write→zaw,ofV→zax,start→zaz,strip→zba,endQ→zbb,resV→zbc,rawsRes→zbd,rawRes→zbe,exports→zbf,export1→zbg,isSelf→zbl,convSelf→zbm,convV→zbn,loadV→zbo,storeV→zbp,fieldAddrV→zbq,fieldV→zbr,indexAddrV→zbs,indexV→zbt,partV→zbu,isAggK→zbv,isStr→zbw,place→zbx,ipS→zby,lenV→zbz,min2V→zca,makeV→zcb,freshSl→zcc,sliceV→zcd,boundOr→zce,bound→zcf,bounds→zcg,cutFl→zch,copyV→zci,slCells→zcj,srcV→zck,appendV→zcl,room→zcm,zerosOf→zcn,eqNeg→zco,kd→zcp,takeR→zcq,hasViewL→zcr,hasView→zcs,freshR→zct,freshC→zcu,snapAll→zcv,snap→zcw,snapL→zcx,flatL→zcy,pureL→zcz,pureA→zda,fillC→zdb,arrOK→zdc,oneA→zdd,partB→zde,ren1→zdg,applyW→zdi,useL→zdj,isGen→zdl,startG→zdm
open Go.Abs.AV renaming cells→zay,laid→zdf
open Go.Abs.AS renaming grown→zbh,put→zbi,mute→zdk
open Go.Abs.Env renaming know→zbj,boxed→zbk
open Go.Abs.CR renaming gr→zdh
def ES2 : Env:=ES1.know 122 pf122
theorem okS2 : EnvOK Tryd.prog ES2:=okS1.know sound122
theorem ES2_te : ES2.te = te:=rfl
theorem ES2_gs : ES2.gs = []:=rfl
theorem ES2_dyn : ES2.dyn = false:=rfl
theorem ES2_glob : ES2.glob = globS:=rfl
theorem ES2_mu (d : Nat) : ES2.mu d = false:=rfl
theorem ES2_122 : ES2.tbl 122 = some (.val pf122):=rfl
def be32 (m : List (BitVec 8)) (t : Nat) : BitVec 32:=BitVec.ofNat 32 (m.getD (4 * t) 0#8).toNat <<< 24 ||| BitVec.ofNat 32 (m.getD (4 * t + 1) 0#8).toNat <<< 16 ||| BitVec.ofNat 32 (m.getD (4 * t + 2) 0#8).toNat <<< 8 ||| BitVec.ofNat 32 (m.getD (4 * t + 3) 0#8).toNat
def sig0 (x : BitVec 32) : BitVec 32:=rotr x 7 ^^^ rotr x 18 ^^^ x >>> 3
def sig1 (x : BitVec 32) : BitVec 32:=rotr x 17 ^^^ rotr x 19 ^^^ x >>> 10
def wordAt (m : List (BitVec 8)) (w : List (BitVec 32)) (t : Nat) : BitVec 32 :=
  if t < 16 then be32 m t else w.getD (t - 16) 0#32 + w.getD (t - 7) 0#32 + sig0 (w.getD (t - 15) 0#32) + sig1 (w.getD (t - 2) 0#32)
def sched (m : List (BitVec 8)) : Nat → List (BitVec 32)
  | 0=>List.replicate 64 0#32
  | t + 1=>(sched m t).set t (wordAt m (sched m t) t)
theorem sched_len (m : List (BitVec 8)) (t : Nat) : (sched m t).length = 64:=by
  induction t with
  | zero=>simp [sched]
  | succ t ih=>simp [sched,ih]
structure St where
  (a b c d e f g z : BitVec 32)
def one (s : St) (k w : BitVec 32) : BitVec 32:=s.z + (rotr s.e 6 ^^^ rotr s.e 11 ^^^ rotr s.e 25) + (s.g ^^^ (s.e &&& (s.f ^^^ s.g))) + k + w
def two (s : St) : BitVec 32:=(rotr s.a 2 ^^^ rotr s.a 13 ^^^ rotr s.a 22) + ((s.a &&& s.b) ||| (s.c &&& (s.a ||| s.b)))
def rnd (s : St) (k w : BitVec 32) : St:=⟨one s k w + two s,s.a,s.b,s.c,s.d + one s k w,s.e,s.f,s.g⟩
def rnds (w : List (BitVec 32)) (s : St) : Nat → St
  | 0=>s
  | t + 1=>rnd (rnds w s t) (addL.getD t 0#32) (w.getD t 0#32)
def St.list (s : St) : List (BitVec 32):=[s.a,s.b,s.c,s.d,s.e,s.f,s.g,s.z]
def stOf (h : List (BitVec 32)) : St:=⟨h.getD 0 0#32,h.getD 1 0#32,h.getD 2 0#32,h.getD 3 0#32,h.getD 4 0#32,h.getD 5 0#32,h.getD 6 0#32,h.getD 7 0#32⟩
def sums (h x : List (BitVec 32)) : Nat → List (BitVec 32)
  | 0=>h
  | t + 1=>(sums h x t).set t ((sums h x t).getD t 0#32 + x.getD t 0#32)
theorem sums_len (h x : List (BitVec 32)) (t : Nat) : (sums h x t).length = h.length:=by
  induction t with
  | zero=>rfl
  | succ t ih=>simp [sums,ih]
def press (h : List (BitVec 32)) (m : List (BitVec 8)) : List (BitVec 32):=sums h (rnds (sched m 64) (stOf h) 64).list 8
def pf92 : List AV → Option AV
  | [.agg hs,.agg ms]=>(deNums .u32 32 hs).bind fun h=>(deNums .u8 8 ms).bind fun m=>if h.length = 8 ∧ m.length = 64 then some (.agg (nums .u32 (press h m))) else none
  | _=>none
set_option maxHeartbeats 4000000
def tbHc0:=(And.intro (And.intro (And.intro @teE @ES2_te) (And.intro @ES2_gs (And.intro @ES2_dyn @ES2_glob))) (And.intro (And.intro @ES2_mu @ES2_122) (And.intro @pf122_at (And.intro @ns_strip @ns_set))))
theorem sound92 : SoundV Tryd.prog globS 92 pf92:=by
  refine SoundV.walk ES2 okS2 mixed Tryd.func92 rfl Tryd.call92 (by kernel_rfl) ?_
  intro args r hr
  unfold pf92 at hr
  split at hr
  · rename_i hs ms
    simp only [Option.bind_eq_some_iff] at hr
    obtain ⟨h,h1,m,h2,hr⟩:=hr
    split at hr
    · rename_i hc
      obtain ⟨lh,lm⟩:=hc
      cases hr
      rw [deNums_of h1,deNums_of h2]
      rw [Tryd.ntmps92,Tryd.results92]
      refine ⟨by simp,?_⟩
      simp (maxSteps:=1000000) (disch:=first | omega | (simp only [nums_len,lnB] <;> omega) | fail) only [ev0,ev1,ev2,ev3,↓reduceIte,reduceCtorEq,zaa,zab,zac,zad,zae,zaf,zag,zah,zai,zaj,zak,zal,zam,zan,zao,zap,zaq,↓zar,↓zas,zat,zau,zav,zaw,zax,zay,zaz,zba,zbb,zbc,zbd,zbe,zbf,zbg,zbh,zbi,zbj,zbk,zbl,zbm,zbn,zbo,zbp,zbq,zbr,zbs,zbt,zbu,zbv,zbw,zbx,zby,zbz,zca,zcb,zcc,zcd,zce,zcf,zcg,zch,zci,zcj,zck,zcl,zcm,zcn,zco,zcp,zcq,zcr,zcs,zct,zcu,zcv,zcw,zcx,zcy,zcz,zda,zdb,zdc,zdd,zde,zdf,zdg,zdh,zdi,zdj,zdk,zdl,zdm,ev5,tbHc0,globS,lh,lm]
      refine loopQ_of (fun n σ => ∃ k,k ≤ 64 ∧ n = 64 - k ∧ σ.slots 22 = .raw (.int .i64 (k : Int)) ∧ σ.slots 2 = .ptr (.own 0 2 1) 0 ∧ σ.slots 3 = .ptr (.own 0 3 1) 0 ∧ σ.slots 4 = .ptr (.own 0 4 1) 0 ∧ σ.slots 5 = .ptr (.own 0 5 1) 0 ∧
        σ.box (.own 0 2 1) = some (nums .u32 h) ∧ σ.box (.own 0 3 1) = some (nums .u8 m) ∧ σ.box (.own 0 4 1) = some (nums .u32 (List.replicate 8 0#32)) ∧ σ.box (.own 0 5 1) = some (nums .u32 (sched m k))) 64 ?_ ?_
      · refine ⟨0,by omega,by omega,?_⟩
        simp (maxSteps:=1000000) (disch:=first | omega | (simp only [nums_len,lnB] <;> omega) | fail) only [ev0,ev1,ev2,ev3,↓reduceIte,reduceCtorEq,zaa,zab,zac,zad,zae,zaf,zag,zah,zai,zaj,zak,zal,zam,zan,zao,zap,zaq,↓zar,↓zas,zat,zau,zav,zaw,zax,zay,zaz,zba,zbb,zbc,zbd,zbe,zbf,zbg,zbh,zbi,zbj,zbk,zbl,zbm,zbn,zbo,zbp,zbq,zbr,zbs,zbt,zbu,zbv,zbw,zbx,zby,zbz,zca,zcb,zcc,zcd,zce,zcf,zcg,zch,zci,zcj,zck,zcl,zcm,zcn,zco,zcp,zcq,zcr,zcs,zct,zcu,zcv,zcw,zcx,zcy,zcz,zda,zdb,zdc,zdd,zde,zdf,zdg,zdh,zdi,zdj,zdk,zdl,zdm,ev5,tbHc0,globS]
        exact ⟨rfl,rfl⟩
      · rintro n ⟨sl,gn,bx,us⟩ ⟨k,hk,rfl,s22,s2,s3,s4,s5,b2,b3,b4,b5⟩
        dsimp only at s22 s2 s3 s4 s5 b2 b3 b4 b5
        have lw:=sched_len m k
        simp (maxSteps:=1000000) (disch:=first | omega | (simp only [nums_len,lnB] <;> omega) | fail) only [ev0,ev1,ev2,ev3,↓reduceIte,reduceCtorEq,zaa,zab,zac,zad,zae,zaf,zag,zah,zai,zaj,zak,zal,zam,zan,zao,zap,zaq,↓zar,↓zas,zat,zau,zav,zaw,zax,zay,zaz,zba,zbb,zbc,zbd,zbe,zbf,zbg,zbh,zbi,zbj,zbk,zbl,zbm,zbn,zbo,zbp,zbq,zbr,zbs,zbt,zbu,zbv,zbw,zbx,zby,zbz,zca,zcb,zcc,zcd,zce,zcf,zcg,zch,zci,zcj,zck,zcl,zcm,zcn,zco,zcp,zcq,zcr,zcs,zct,zcu,zcv,zcw,zcx,zcy,zcz,zda,zdb,zdc,zdd,zde,zdf,zdg,zdh,zdi,zdj,zdk,zdl,zdm,ev5,tbHc0,globS,lh,lm,lw,s22,s2,s3,s4,s5,b2,b3,b4,b5]
        refine condQ_dec (fun hlt=>?_) (fun hge=>?_)
        · have hlt : k < 64 := by omega
          simp (maxSteps:=1000000) (disch:=first | omega | (simp only [nums_len,lnB] <;> omega) | fail) only [ev0,ev1,ev2,ev3,↓reduceIte,reduceCtorEq,zaa,zab,zac,zad,zae,zaf,zag,zah,zai,zaj,zak,zal,zam,zan,zao,zap,zaq,↓zar,↓zas,zat,zau,zav,zaw,zax,zay,zaz,zba,zbb,zbc,zbd,zbe,zbf,zbg,zbh,zbi,zbj,zbk,zbl,zbm,zbn,zbo,zbp,zbq,zbr,zbs,zbt,zbu,zbv,zbw,zbx,zby,zbz,zca,zcb,zcc,zcd,zce,zcf,zcg,zch,zci,zcj,zck,zcl,zcm,zcn,zco,zcp,zcq,zcr,zcs,zct,zcu,zcv,zcw,zcx,zcy,zcz,zda,zdb,zdc,zdd,zde,zdf,zdg,zdh,zdi,zdj,zdk,zdl,zdm,ev5,tbHc0,globS,lh,lm,lw,s22,s2,s3,s4,s5,b2,b3,b4,b5]
          refine condQ_dec (fun h16=>?_) (fun h16=>?_)
          · have h16 : k < 16 := by omega
            simp (maxSteps:=1000000) (disch:=first | omega | (simp only [nums_len,lnB] <;> omega) | fail) only [ev0,ev1,ev2,ev3,↓reduceIte,reduceCtorEq,zaa,zab,zac,zad,zae,zaf,zag,zah,zai,zaj,zak,zal,zam,zan,zao,zap,zaq,↓zar,↓zas,zat,zau,zav,zaw,zax,zay,zaz,zba,zbb,zbc,zbd,zbe,zbf,zbg,zbh,zbi,zbj,zbk,zbl,zbm,zbn,zbo,zbp,zbq,zbr,zbs,zbt,zbu,zbv,zbw,zbx,zby,zbz,zca,zcb,zcc,zcd,zce,zcf,zcg,zch,zci,zcj,zck,zcl,zcm,zcn,zco,zcp,zcq,zcr,zcs,zct,zcu,zcv,zcw,zcx,zcy,zcz,zda,zdb,zdc,zdd,zde,zdf,zdg,zdh,zdi,zdj,zdk,zdl,zdm,ev5,tbHc0,globS,lh,lm,lw,s22,s2,s3,s4,s5,b2,b3,b4,b5]
            refine ⟨64 - (k + 1),by omega,k + 1,by omega,rfl,rfl,?_⟩
            simp only [sched,wordAt,if_pos h16,be32]
          · have h16 : ¬ k < 16 := by omega
            simp (maxSteps:=1000000) (disch:=first | omega | (simp only [nums_len,lnB] <;> omega) | fail) only [ev0,ev1,ev2,ev3,↓reduceIte,reduceCtorEq,zaa,zab,zac,zad,zae,zaf,zag,zah,zai,zaj,zak,zal,zam,zan,zao,zap,zaq,↓zar,↓zas,zat,zau,zav,zaw,zax,zay,zaz,zba,zbb,zbc,zbd,zbe,zbf,zbg,zbh,zbi,zbj,zbk,zbl,zbm,zbn,zbo,zbp,zbq,zbr,zbs,zbt,zbu,zbv,zbw,zbx,zby,zbz,zca,zcb,zcc,zcd,zce,zcf,zcg,zch,zci,zcj,zck,zcl,zcm,zcn,zco,zcp,zcq,zcr,zcs,zct,zcu,zcv,zcw,zcx,zcy,zcz,zda,zdb,zdc,zdd,zde,zdf,zdg,zdh,zdi,zdj,zdk,zdl,zdm,ev5,tbHc0,globS,lh,lm,lw,s22,s2,s3,s4,s5,b2,b3,b4,b5]
            refine ⟨64 - (k + 1),by omega,k + 1,by omega,rfl,rfl,?_⟩
            simp only [sched,wordAt,if_neg h16,sig0,sig1]
        · have hk : k = 64 := by omega
          subst hk
          simp (maxSteps:=1000000) (disch:=first | omega | (simp only [nums_len,lnB] <;> omega) | fail) only [ev0,ev1,ev2,ev3,↓reduceIte,reduceCtorEq,zaa,zab,zac,zad,zae,zaf,zag,zah,zai,zaj,zak,zal,zam,zan,zao,zap,zaq,↓zar,↓zas,zat,zau,zav,zaw,zax,zay,zaz,zba,zbb,zbc,zbd,zbe,zbf,zbg,zbh,zbi,zbj,zbk,zbl,zbm,zbn,zbo,zbp,zbq,zbr,zbs,zbt,zbu,zbv,zbw,zbx,zby,zbz,zca,zcb,zcc,zcd,zce,zcf,zcg,zch,zci,zcj,zck,zcl,zcm,zcn,zco,zcp,zcq,zcr,zcs,zct,zcu,zcv,zcw,zcx,zcy,zcz,zda,zdb,zdc,zdd,zde,zdf,zdg,zdh,zdi,zdj,zdk,zdl,zdm,ev5,tbHc0,globS,lh,lm,lw,s22,s2,s3,s4,s5,b2,b3,b4,b5]
          refine loopQ_of (fun n σ => ∃ k,k ≤ 64 ∧ n = 64 - k ∧ σ.slots 112 = .raw (.int .i64 (k : Int)) ∧ σ.slots 2 = .ptr (.own 0 2 1) 0 ∧ σ.slots 4 = .ptr (.own 0 4 1) 0 ∧ σ.slots 5 = .ptr (.own 0 5 1) 0 ∧
            σ.box (.own 0 2 1) = some (nums .u32 h) ∧ σ.box (.own 0 4 1) = some (nums .u32 (List.replicate 8 0#32)) ∧ σ.box (.own 0 5 1) = some (nums .u32 (sched m 64)) ∧
            σ.slots 9 = .raw (.int .u32 ((rnds (sched m 64) (stOf h) k).a.toNat : Int)) ∧ σ.slots 10 = .raw (.int .u32 ((rnds (sched m 64) (stOf h) k).b.toNat : Int)) ∧ σ.slots 11 = .raw (.int .u32 ((rnds (sched m 64) (stOf h) k).c.toNat : Int)) ∧ σ.slots 12 = .raw (.int .u32 ((rnds (sched m 64) (stOf h) k).d.toNat : Int)) ∧
            σ.slots 13 = .raw (.int .u32 ((rnds (sched m 64) (stOf h) k).e.toNat : Int)) ∧ σ.slots 14 = .raw (.int .u32 ((rnds (sched m 64) (stOf h) k).f.toNat : Int)) ∧ σ.slots 15 = .raw (.int .u32 ((rnds (sched m 64) (stOf h) k).g.toNat : Int)) ∧ σ.slots 16 = .raw (.int .u32 ((rnds (sched m 64) (stOf h) k).z.toNat : Int))) 64 ?_ ?_
          · refine ⟨0,by omega,by omega,?_⟩
            simp (maxSteps:=1000000) (disch:=first | omega | (simp only [nums_len,lnB] <;> omega) | fail) only [ev0,ev1,ev2,ev3,↓reduceIte,reduceCtorEq,zaa,zab,zac,zad,zae,zaf,zag,zah,zai,zaj,zak,zal,zam,zan,zao,zap,zaq,↓zar,↓zas,zat,zau,zav,zaw,zax,zay,zaz,zba,zbb,zbc,zbd,zbe,zbf,zbg,zbh,zbi,zbj,zbk,zbl,zbm,zbn,zbo,zbp,zbq,zbr,zbs,zbt,zbu,zbv,zbw,zbx,zby,zbz,zca,zcb,zcc,zcd,zce,zcf,zcg,zch,zci,zcj,zck,zcl,zcm,zcn,zco,zcp,zcq,zcr,zcs,zct,zcu,zcv,zcw,zcx,zcy,zcz,zda,zdb,zdc,zdd,zde,zdf,zdg,zdh,zdi,zdj,zdk,zdl,zdm,ev5,tbHc0,globS,s2,s4,s5,b2,b4,b5]
            exact ⟨rfl,rfl,rfl,rfl,rfl,rfl,rfl,rfl,rfl⟩
          · clear s22 s2 s3 s4 s5 b2 b3 b4 b5 sl gn bx us
            rintro n ⟨sl,gn,bx,us⟩ ⟨k,hk,rfl,s112,s2,s4,s5,b2,b4,b5,s9,s10,s11,s12,s13,s14,s15,s16⟩
            dsimp only at s112 s2 s4 s5 b2 b4 b5 s9 s10 s11 s12 s13 s14 s15 s16
            have la : addL.length = 64:=rfl
            generalize hs : rnds (sched m 64) (stOf h) k = s at *
            simp (maxSteps:=1000000) (disch:=first | omega | (simp only [nums_len,lnB] <;> omega) | fail) only [ev0,ev1,ev2,ev3,↓reduceIte,reduceCtorEq,zaa,zab,zac,zad,zae,zaf,zag,zah,zai,zaj,zak,zal,zam,zan,zao,zap,zaq,↓zar,↓zas,zat,zau,zav,zaw,zax,zay,zaz,zba,zbb,zbc,zbd,zbe,zbf,zbg,zbh,zbi,zbj,zbk,zbl,zbm,zbn,zbo,zbp,zbq,zbr,zbs,zbt,zbu,zbv,zbw,zbx,zby,zbz,zca,zcb,zcc,zcd,zce,zcf,zcg,zch,zci,zcj,zck,zcl,zcm,zcn,zco,zcp,zcq,zcr,zcs,zct,zcu,zcv,zcw,zcx,zcy,zcz,zda,zdb,zdc,zdd,zde,zdf,zdg,zdh,zdi,zdj,zdk,zdl,zdm,ev5,tbHc0,globS,lh,lm,lw,la,s112,s2,s4,s5,b2,b4,b5,s9,s10,s11,s12,s13,s14,s15,s16]
            refine condQ_dec (fun hlt=>?_) (fun hge=>?_)
            · have hlt : k < 64 := by omega
              simp (maxSteps:=1000000) (disch:=first | omega | (simp only [nums_len,lnB] <;> omega) | fail) only [ev0,ev1,ev2,ev3,↓reduceIte,reduceCtorEq,zaa,zab,zac,zad,zae,zaf,zag,zah,zai,zaj,zak,zal,zam,zan,zao,zap,zaq,↓zar,↓zas,zat,zau,zav,zaw,zax,zay,zaz,zba,zbb,zbc,zbd,zbe,zbf,zbg,zbh,zbi,zbj,zbk,zbl,zbm,zbn,zbo,zbp,zbq,zbr,zbs,zbt,zbu,zbv,zbw,zbx,zby,zbz,zca,zcb,zcc,zcd,zce,zcf,zcg,zch,zci,zcj,zck,zcl,zcm,zcn,zco,zcp,zcq,zcr,zcs,zct,zcu,zcv,zcw,zcx,zcy,zcz,zda,zdb,zdc,zdd,zde,zdf,zdg,zdh,zdi,zdj,zdk,zdl,zdm,ev5,tbHc0,globS,lh,lm,lw,la,s112,s2,s4,s5,b2,b4,b5,s9,s10,s11,s12,s13,s14,s15,s16]
              refine ⟨64 - (k + 1),by omega,k + 1,by omega,rfl,rfl,?_⟩
              have hr : rnds (sched m 64) (stOf h) (k + 1) = rnd s (addL.getD k 0#32) ((sched m 64).getD k 0#32):=by rw [← hs]; rfl
              rw [hr]
              exact ⟨rfl,rfl,rfl,rfl,rfl,rfl,rfl,rfl⟩
            · have hk : k = 64 := by omega
              subst hk
              simp (maxSteps:=1000000) (disch:=first | omega | (simp only [nums_len,lnB] <;> omega) | fail) only [ev0,ev1,ev2,ev3,↓reduceIte,reduceCtorEq,zaa,zab,zac,zad,zae,zaf,zag,zah,zai,zaj,zak,zal,zam,zan,zao,zap,zaq,↓zar,↓zas,zat,zau,zav,zaw,zax,zay,zaz,zba,zbb,zbc,zbd,zbe,zbf,zbg,zbh,zbi,zbj,zbk,zbl,zbm,zbn,zbo,zbp,zbq,zbr,zbs,zbt,zbu,zbv,zbw,zbx,zby,zbz,zca,zcb,zcc,zcd,zce,zcf,zcg,zch,zci,zcj,zck,zcl,zcm,zcn,zco,zcp,zcq,zcr,zcs,zct,zcu,zcv,zcw,zcx,zcy,zcz,zda,zdb,zdc,zdd,zde,zdf,zdg,zdh,zdi,zdj,zdk,zdl,zdm,ev5,tbHc0,globS,lh,lm,lw,la,s112,s2,s4,s5,b2,b4,b5,s9,s10,s11,s12,s13,s14,s15,s16]
              refine loopQ_of (fun n σ => ∃ k,k ≤ 8 ∧ n = 8 - k ∧ σ.slots 181 = .raw (.int .i64 (k : Int)) ∧ σ.slots 180 = .agg (nums .u32 s.list) ∧ σ.slots 2 = .ptr (.own 0 2 1) 0 ∧ σ.slots 4 = .ptr (.own 0 4 1) 0 ∧
                σ.box (.own 0 2 1) = some (nums .u32 (sums h s.list k)) ∧ σ.box (.own 0 4 1) = some (nums .u32 (List.replicate 8 0#32))) 8 ?_ ?_
              · refine ⟨0,by omega,by omega,?_⟩
                simp (maxSteps:=1000000) (disch:=first | omega | (simp only [nums_len,lnB] <;> omega) | fail) only [ev0,ev1,ev2,ev3,↓reduceIte,reduceCtorEq,zaa,zab,zac,zad,zae,zaf,zag,zah,zai,zaj,zak,zal,zam,zan,zao,zap,zaq,↓zar,↓zas,zat,zau,zav,zaw,zax,zay,zaz,zba,zbb,zbc,zbd,zbe,zbf,zbg,zbh,zbi,zbj,zbk,zbl,zbm,zbn,zbo,zbp,zbq,zbr,zbs,zbt,zbu,zbv,zbw,zbx,zby,zbz,zca,zcb,zcc,zcd,zce,zcf,zcg,zch,zci,zcj,zck,zcl,zcm,zcn,zco,zcp,zcq,zcr,zcs,zct,zcu,zcv,zcw,zcx,zcy,zcz,zda,zdb,zdc,zdd,zde,zdf,zdg,zdh,zdi,zdj,zdk,zdl,zdm,ev5,tbHc0,globS,s2,s4,b2,b4]
                exact ⟨rfl,rfl,rfl⟩
              · clear s112 s2 s4 s5 b2 b4 b5 s9 s10 s11 s12 s13 s14 s15 s16 sl gn bx us
                rintro n ⟨sl,gn,bx,us⟩ ⟨k,hk,rfl,s181,s180,s2,s4,b2,b4⟩
                dsimp only at s181 s180 s2 s4 b2 b4
                have ll : s.list.length = 8:=rfl
                have lq : (sums h s.list k).length = 8:=by rw [sums_len,lh]
                simp (maxSteps:=1000000) (disch:=first | omega | (simp only [nums_len,lnB] <;> omega) | fail) only [ev0,ev1,ev2,ev3,↓reduceIte,reduceCtorEq,zaa,zab,zac,zad,zae,zaf,zag,zah,zai,zaj,zak,zal,zam,zan,zao,zap,zaq,↓zar,↓zas,zat,zau,zav,zaw,zax,zay,zaz,zba,zbb,zbc,zbd,zbe,zbf,zbg,zbh,zbi,zbj,zbk,zbl,zbm,zbn,zbo,zbp,zbq,zbr,zbs,zbt,zbu,zbv,zbw,zbx,zby,zbz,zca,zcb,zcc,zcd,zce,zcf,zcg,zch,zci,zcj,zck,zcl,zcm,zcn,zco,zcp,zcq,zcr,zcs,zct,zcu,zcv,zcw,zcx,zcy,zcz,zda,zdb,zdc,zdd,zde,zdf,zdg,zdh,zdi,zdj,zdk,zdl,zdm,ev5,tbHc0,globS,lh,lm,ll,lq,s181,s180,s2,s4,b2,b4]
                refine condQ_dec (fun hlt=>?_) (fun hge=>?_)
                · have hlt : k < 8 := by omega
                  simp (maxSteps:=1000000) (disch:=first | omega | (simp only [nums_len,lnB] <;> omega) | fail) only [ev0,ev1,ev2,ev3,↓reduceIte,reduceCtorEq,zaa,zab,zac,zad,zae,zaf,zag,zah,zai,zaj,zak,zal,zam,zan,zao,zap,zaq,↓zar,↓zas,zat,zau,zav,zaw,zax,zay,zaz,zba,zbb,zbc,zbd,zbe,zbf,zbg,zbh,zbi,zbj,zbk,zbl,zbm,zbn,zbo,zbp,zbq,zbr,zbs,zbt,zbu,zbv,zbw,zbx,zby,zbz,zca,zcb,zcc,zcd,zce,zcf,zcg,zch,zci,zcj,zck,zcl,zcm,zcn,zco,zcp,zcq,zcr,zcs,zct,zcu,zcv,zcw,zcx,zcy,zcz,zda,zdb,zdc,zdd,zde,zdf,zdg,zdh,zdi,zdj,zdk,zdl,zdm,ev5,tbHc0,globS,lh,lm,ll,lq,s181,s180,s2,s4,b2,b4]
                  refine ⟨8 - (k + 1),by omega,k + 1,by omega,rfl,rfl,?_⟩
                  simp only [sums]
                · have hk : k = 8 := by omega
                  subst hk
                  simp (maxSteps:=1000000) (disch:=first | omega | (simp only [nums_len,lnB] <;> omega) | fail) only [ev0,ev1,ev2,ev3,↓reduceIte,reduceCtorEq,zaa,zab,zac,zad,zae,zaf,zag,zah,zai,zaj,zak,zal,zam,zan,zao,zap,zaq,↓zar,↓zas,zat,zau,zav,zaw,zax,zay,zaz,zba,zbb,zbc,zbd,zbe,zbf,zbg,zbh,zbi,zbj,zbk,zbl,zbm,zbn,zbo,zbp,zbq,zbr,zbs,zbt,zbu,zbv,zbw,zbx,zby,zbz,zca,zcb,zcc,zcd,zce,zcf,zcg,zch,zci,zcj,zck,zcl,zcm,zcn,zco,zcp,zcq,zcr,zcs,zct,zcu,zcv,zcw,zcx,zcy,zcz,zda,zdb,zdc,zdd,zde,zdf,zdg,zdh,zdi,zdj,zdk,zdl,zdm,ev5,tbHc0,globS,lh,lm,ll,lq,s181,s180,s2,s4,b2,b4]
                  rw [← hs]
                  exact ResQ.same rfl
    · cases hr
  · cases hr
end Go.Proofs.YtddeffdgldjdjaaDoor
