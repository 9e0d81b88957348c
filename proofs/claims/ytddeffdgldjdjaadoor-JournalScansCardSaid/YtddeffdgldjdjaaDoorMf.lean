/- What was read is written,and held against the bytes. -/
import Derived.Test.YtddeffdgldjdjaaDoorMe
namespace Go.Proofs.YtddeffdgldjdjaaDoor.W
set_option linter.unusedSimpArgs false
set_option linter.unusedVariables false
set_option linter.defProp false
open Go Go.Abs
open Nat renaming reduceAdd→zaa,reduceSub→zab,reduceMul→zac,reduceLT→zad,reduceLeDiff→zae,reduceEqDiff→zaf,reduceBEq→zag
open BitVec renaming reduceOfInt→zah
open Int renaming reduceLE→zai,reduceLT→zaj,reduceGT→zak,reduceGE→zal,reduceNeg→zam,reduceAdd→zan,reduceSub→zao,reduceMul→zap,reduceToNat→zaq
open Go.Abs renaming bind_go→zar,map_go→zas,wantedV→zat,isWrite→zau,grow→zav,write→zaw,ofV→zax,start→zaz,strip→zba,endQ→zbb,resV→zbc,rawsRes→zbd,rawRes→zbe,exports→zbf,export1→zbg,isSelf→zbl,convSelf→zbm,convV→zbn,loadV→zbo,storeV→zbp,fieldAddrV→zbq,fieldV→zbr,indexAddrV→zbs,indexV→zbt,partV→zbu,isAggK→zbv,isStr→zbw,place→zbx,ipS→zby,lenV→zbz,min2V→zca,makeV→zcb,freshSl→zcc,sliceV→zcd,boundOr→zce,bound→zcf,bounds→zcg,cutFl→zch,copyV→zci,slCells→zcj,srcV→zck,appendV→zcl,room→zcm,zerosOf→zcn,eqNeg→zco,kd→zcp,takeR→zcq,hasViewL→zcr,hasView→zcs,freshR→zct,freshC→zcu,snapAll→zcv,snap→zcw,snapL→zcx,flatL→zcy,pureL→zcz,pureA→zda,fillC→zdb,arrOK→zdc,oneA→zdd,partB→zde,ren1→zdg,applyW→zdi,useL→zdj,isGen→zdl,startG→zdm
open Go.Abs.AV renaming cells→zay,laid→zdf
open Go.Abs.AS renaming grown→zbh,put→zbi,mute→zdk
open Go.Abs.Env renaming know→zbj,boxed→zbk
open Go.Abs.CR renaming gr→zdh
set_option maxHeartbeats 8000000
def pf146 : List AV → Option AV
  | [v,w]=>(row? .u8 8 v).bind fun l=>(row? .u8 8 w).bind fun m=>some (.raw (.bool (decide (l = m))))
  | _=>none
theorem map8_beq (l m : List (BitVec 8)) : (List.map UInt8.ofBitVec l == List.map UInt8.ofBitVec m) = decide (l = m):=by
  by_cases h : l = m
  · subst h; simp
  · have : List.map UInt8.ofBitVec l ≠ List.map UInt8.ofBitVec m:=fun e=>h (by
      have:=congrArg (List.map UInt8.toBitVec) e
      simpa [List.map_map,Function.comp_def] using this)
    simp [h,this]
theorem asB0 : asBytes [] = some []:=rfl
theorem sound146 : SoundV Tryd.prog glob 146 pf146:=by
  refine SoundV.walk EX okX mixed Tryd.func146 rfl Tryd.call146 (by kernel_rfl) ?_
  intro args r hr
  unfold pf146 at hr
  split at hr
  · simp only [Option.bind_eq_some_iff] at hr
    obtain ⟨l,h1,m,h2,hr⟩:=hr
    cases hr
    obtain ⟨fl,rfl⟩:=row?_of h1
    obtain ⟨gl,rfl⟩:=row?_of h2
    rw [Tryd.ntmps146,Tryd.results146]
    refine ⟨by simp,?_⟩
    simp (maxSteps:=1000000) (disch:=first | omega | (simp only [nums_len,lnB] <;> omega) | fail) only [ev0,ev1,ev2,ev3,↓reduceIte,reduceCtorEq,zaa,zab,zac,zad,zae,zaf,zag,zah,zai,zaj,zak,zal,zam,zan,zao,zap,zaq,↓zar,↓zas,zat,zau,zav,zaw,zax,zay,zaz,zba,zbb,zbc,zbd,zbe,zbf,zbg,zbh,zbi,zbj,zbk,zbl,zbm,zbn,zbo,zbp,zbq,zbr,zbs,zbt,zbu,zbv,zbw,zbx,zby,zbz,zca,zcb,zcc,zcd,zce,zcf,zcg,zch,zci,zcj,zck,zcl,zcm,zcn,zco,zcp,zcq,zcr,zcs,zct,zcu,zcv,zcw,zcx,zcy,zcz,zda,zdb,zdc,zdd,zde,zdf,zdg,zdh,zdi,zdj,zdk,zdl,zdm,ev5,teE,entA_strip,entA_snap,entA_noview,entA_take,entA_one,dropE,List.map_nil,List.all_nil,zeroE,splice_ent,splice_ent',entA_len,List.drop_zero,rep1,rep2,rep3,rep5,one_le,le2,le3,le5,dr1,dr2,dr3,dr5,EX_te,EX_glob,EX_gs,EX_dyn,EX_mu,glob,ev4,map8_beq,asB0]
    exact ResQ.same rfl
  · cases hr
def gfW (F : List AV → Option (List (BitVec 8) × Int)) (args : List AV) (bx : Boxes) (us : Abs.Id → Bool) : Option CR := match args with
  | [.ptr c 0]=>(bx c).bind fun cs=>(F cs).bind fun w=>some { v:=.ret (.tup [.sl w.1.length (nums .u8 w.1) .bor,.raw (.int .i64 w.2)]) }
  | _=>none
noncomputable def wrE (cs : List AV) : Option (List (BitVec 8) × Int):=(ent? cs).bind fun x=>open Classical in if okN x then some (entR x) else none
noncomputable def EY0 : Env:=EX.know 81 pf81
theorem okY0 : EnvOK Tryd.prog EY0:=okX.know sound81
theorem EY0_te : EY0.te = te:=rfl
theorem EY0_glob : EY0.glob = glob:=rfl
theorem EY0_gs : EY0.gs = []:=rfl
theorem EY0_dyn : EY0.dyn = false:=rfl
theorem EY0_mu (d : Nat) : EY0.mu d = false:=rfl
theorem EY0_e : EY0.tbl 81 = some (.val pf81):=rfl
theorem entry_at {c : Eny} (h : okN c) : pf81 [.agg (entA c)] = some (.tup [.sl (entR c).1.length (nums .u8 (entR c).1) .bor,.raw (.int .i64 (entR c).2)]):=by
  simp only [pf81,entA_strip,ent?_at,Option.bind_some,if_pos h]
theorem sound164 : SoundG Tryd.prog glob 164 (gfW wrE):=by
  refine SoundG.walk EY0 okY0 mixed Tryd.func164 rfl Tryd.call164 (by kernel_rfl) ?_
  intro args bx us cr hr
  unfold gfW at hr
  split at hr
  · rename_i c
    simp only [Option.bind_eq_some_iff] at hr
    obtain ⟨cs,hb,w,hw,hr⟩:=hr
    cases hr
    unfold wrE at hw
    simp only [Option.bind_eq_some_iff] at hw
    obtain ⟨x,hx,hw⟩:=hw
    have:=ent?_of hx
    subst this
    split at hw
    · rename_i hn
      cases hw
      have hc:=entry_at hn
      rw [Tryd.ntmps164,Tryd.results164]
      refine ⟨by simp,fun L hlow hus hbf=>?_⟩
      simp (maxSteps:=1000000) (disch:=first | omega | (simp only [nums_len,lnB] <;> omega) | fail) only [ev0,ev1,ev2,ev3,↓reduceIte,reduceCtorEq,zaa,zab,zac,zad,zae,zaf,zag,zah,zai,zaj,zak,zal,zam,zan,zao,zap,zaq,↓zar,↓zas,zat,zau,zav,zaw,zax,zay,zaz,zba,zbb,zbc,zbd,zbe,zbf,zbg,zbh,zbi,zbj,zbk,zbl,zbm,zbn,zbo,zbp,zbq,zbr,zbs,zbt,zbu,zbv,zbw,zbx,zby,zbz,zca,zcb,zcc,zcd,zce,zcf,zcg,zch,zci,zcj,zck,zcl,zcm,zcn,zco,zcp,zcq,zcr,zcs,zct,zcu,zcv,zcw,zcx,zcy,zcz,zda,zdb,zdc,zdd,zde,zdf,zdg,zdh,zdi,zdj,zdk,zdl,zdm,ev5,teE,entA_strip,entA_snap,entA_noview,entA_take,entA_one,dropE,List.map_nil,List.all_nil,zeroE,splice_ent,splice_ent',entA_len,List.drop_zero,rep1,rep2,rep3,rep5,one_le,le2,le3,le5,dr1,dr2,dr3,dr5,EY0_te,EY0_glob,EY0_gs,EY0_dyn,EY0_mu,EY0_e,glob,ev4,hb,hc]
      change EndG _ _ _ _ _ _ _
      exact EndG.r0 [.sl (entR x).1.length (nums .u8 (entR x).1) .bor,.raw (.int .i64 (entR x).2)] [_,_] rfl (.cons (.low _ sl_low (by simp) (by simp) (by simp)) (.cons (.low _ (lowA_pure _ rfl) (by simp) (by simp) (by simp)) .nil)) rfl (fun _ _=>rfl) (fun _ _=>rfl)
    · cases hw
  · cases hr
noncomputable def EY : Env:=((EY0.know 146 (fun xs=>pf146 (xs.map norm))).knowG 164 (gfW wrE)).dynamic
theorem okY : EnvOK Tryd.prog EY:=((okY0.know sound146.norm).knowG sound164).dynamic
theorem EY_te : EY.te = te:=rfl
theorem EY_glob : EY.glob = glob:=rfl
theorem EY_gs : EY.gs = [164]:=rfl
theorem EY_dyn : EY.dyn = true:=rfl
theorem EY_mu (d : Nat) : EY.mu d = false:=rfl
theorem EY_q : EY.tbl 146 = some (.val (fun xs=>pf146 (xs.map norm))):=rfl
noncomputable def wrF (g : Nat) : Option (List AV→Option (List (BitVec 8) × Int)):=if g = 164 then some wrE else none
theorem wrF_tbl {g : Nat} {F : List AV→Option (List (BitVec 8) × Int)} (h : wrF g = some F) : EY.tbl g = some (.gen (gfW F)):=by
  unfold wrF at h
  by_cases h2 : g = 164
  · subst h2; cases h; rfl
  simp only [if_neg h2] at h
  cases h
theorem gfW_at {F : List AV→Option (List (BitVec 8) × Int)} {c : Bx} {bx : Boxes} {us : Abs.Id→Bool} {cs : List AV} {w : List (BitVec 8) × Int} (hb : bx c = some cs) (hw : F cs = some w) : gfW F [.ptr c 0] bx us = some { v:=.ret (.tup [.sl w.1.length (nums .u8 w.1) .bor,.raw (.int .i64 w.2)]) }:=by
  simp only [gfW,hb,hw,Option.bind_some]
theorem beq_at {n n' : Nat} {l m : List (BitVec 8)} {fl fl' : Fl} (h : n = l.length) (h' : n' = m.length) : pf146 [.sl n (nums .u8 l) fl,.sl n' (nums .u8 m) fl'] = some (.raw (.bool (decide (l = m)))):=by
  simp only [pf146,row?_at h,row?_at h',Option.bind_some]
noncomputable def gf163 (args : List AV) (bx : Boxes) (us : Abs.Id → Bool) : Option CR := match args with
  | [.ptr r 0,v,.fn g [.ptr c 0]]=>(row? .u8 8 v).bind fun b=>(bx r).bind fun cs=>(rd? cs).bind fun p=>(wrF g).bind fun F=>(bx c).bind fun ds=>(F ds).bind fun w =>
    some { v:=.ret (.raw (.bool (decide (p.2 = 0) && (decide (w.2 = 0) && decide (w.1 = b))))) }
  | _=>none
def tbMf2:=(And.intro (And.intro (And.intro (And.intro (And.intro @teE @entA_strip) (And.intro @entA_snap @entA_noview)) (And.intro (And.intro @entA_take @entA_one) (And.intro @dropE (And.intro @zeroE @splice_ent)))) (And.intro (And.intro (And.intro @splice_ent' @entA_len) (And.intro @rep1 @rep2)) (And.intro (And.intro @rep3 @rep5) (And.intro @one_le (And.intro @le2 @le3))))) (And.intro (And.intro (And.intro (And.intro @le5 @dr1) (And.intro @dr2 @dr3)) (And.intro (And.intro @dr5 @EY_te) (And.intro @EY_glob (And.intro @EY_gs @EY_dyn)))) (And.intro (And.intro (And.intro @EY_mu @EY_q) (And.intro @ev4 (And.intro @rdA_len @rdA_0))) (And.intro (And.intro @rdA_1 @rdA_ren) (And.intro @beq_at (And.intro @zz0 @zz1))))))
theorem sound163 : SoundG Tryd.prog glob 163 gf163:=by
  refine SoundG.walk EY okY mixed Tryd.func163 rfl Tryd.call163 (by kernel_rfl) ?_
  intro args bx us cr hr
  unfold gf163 at hr
  split at hr
  · rename_i r v g c
    simp only [Option.bind_eq_some_iff] at hr
    obtain ⟨b,hv,cs,hb,p,hp,F,hF,ds,hd,w,hw,hr⟩:=hr
    have:=rd?_of hp
    subst this
    cases hr
    obtain ⟨fl,rfl⟩:=row?_of hv
    have htb:=wrF_tbl hF
    have hg : ∀ {us : Abs.Id→Bool},gfW F [.ptr c 0] bx us = some { v:=.ret (.tup [.sl w.1.length (nums .u8 w.1) .bor,.raw (.int .i64 w.2)]) }:=fun {us}=>gfW_at hd hw
    rw [Tryd.ntmps163,Tryd.results163]
    refine ⟨by simp,fun L hlow hus hbf=>?_⟩
    by_cases h1 : p.2 = 0
    · have d1 : (p.2 != 0) = false := by rw [h1]; rfl
      by_cases h2 : w.2 = 0
      · have d2 : (w.2 == 0) = true := by rw [h2]; rfl
        simp (maxSteps:=1000000) (disch:=first | omega | assumption | (simp only [updB,if_true,if_false, *]; done) | (simp only [lnB] <;> omega) | fail) only [ev0,ev1,ev2,ev3,↓reduceIte,reduceCtorEq,zaa,zab,zac,zad,zae,zaf,zag,zah,zai,zaj,zak,zal,zam,zan,zao,zap,zaq,↓zar,↓zas,zat,zau,zav,zaw,zax,zay,zaz,zba,zbb,zbc,zbd,zbe,zbf,zbg,zbh,zbi,zbj,zbk,zbl,zbm,zbn,zbo,zbp,zbq,zbr,zbs,zbt,zbu,zbv,zbw,zbx,zby,zbz,zca,zcb,zcc,zcd,zce,zcf,zcg,zch,zci,zcj,zck,zcl,zcm,zcn,zco,zcp,zcq,zcr,zcs,zct,zcu,zcv,zcw,zcx,zcy,zcz,zda,zdb,zdc,zdd,zde,zdf,zdg,zdh,zdi,zdj,zdk,zdl,zdm,ev5,tbMf2,List.map_nil,List.all_nil,List.drop_zero,glob,List.size_toArray,Array.size_empty,List.length_nil,Int.reduceBEq,Int.reduceBNe,beq_self_eq_true,hb,htb,hg,d1,d2]
        change EndG _ _ _ _ _ _ _
        exact EndG.r0 [.raw (.bool (decide (w.1 = b)))] [_] rfl (.cons (.low _ (lowA_pure _ rfl) (by simp) (by simp) (by simp)) .nil) (by simp [tupOf,h1,h2]) (fun _ _=>rfl) (fun _ _=>rfl)
      · have d2 : (w.2 == 0) = false := beq_eq_false_iff_ne.2 h2
        simp (maxSteps:=1000000) (disch:=first | omega | assumption | (simp only [updB,if_true,if_false, *]; done) | (simp only [lnB] <;> omega) | fail) only [ev0,ev1,ev2,ev3,↓reduceIte,reduceCtorEq,zaa,zab,zac,zad,zae,zaf,zag,zah,zai,zaj,zak,zal,zam,zan,zao,zap,zaq,↓zar,↓zas,zat,zau,zav,zaw,zax,zay,zaz,zba,zbb,zbc,zbd,zbe,zbf,zbg,zbh,zbi,zbj,zbk,zbl,zbm,zbn,zbo,zbp,zbq,zbr,zbs,zbt,zbu,zbv,zbw,zbx,zby,zbz,zca,zcb,zcc,zcd,zce,zcf,zcg,zch,zci,zcj,zck,zcl,zcm,zcn,zco,zcp,zcq,zcr,zcs,zct,zcu,zcv,zcw,zcx,zcy,zcz,zda,zdb,zdc,zdd,zde,zdf,zdg,zdh,zdi,zdj,zdk,zdl,zdm,ev5,tbMf2,List.map_nil,List.all_nil,List.drop_zero,glob,List.size_toArray,Array.size_empty,List.length_nil,Int.reduceBEq,Int.reduceBNe,beq_self_eq_true,hb,htb,hg,d1,d2]
        change EndG _ _ _ _ _ _ _
        exact EndG.r0 [.raw (.bool false)] [_] rfl (.cons (.low _ (lowA_pure _ rfl) (by simp) (by simp) (by simp)) .nil) (by simp [tupOf,h1,h2]) (fun _ _=>rfl) (fun _ _=>rfl)
    · have d1 : (p.2 != 0) = true := by rw [bne_iff_ne]; exact h1
      simp (maxSteps:=1000000) (disch:=first | omega | assumption | (simp only [updB,if_true,if_false, *]; done) | (simp only [lnB] <;> omega) | fail) only [ev0,ev1,ev2,ev3,↓reduceIte,reduceCtorEq,zaa,zab,zac,zad,zae,zaf,zag,zah,zai,zaj,zak,zal,zam,zan,zao,zap,zaq,↓zar,↓zas,zat,zau,zav,zaw,zax,zay,zaz,zba,zbb,zbc,zbd,zbe,zbf,zbg,zbh,zbi,zbj,zbk,zbl,zbm,zbn,zbo,zbp,zbq,zbr,zbs,zbt,zbu,zbv,zbw,zbx,zby,zbz,zca,zcb,zcc,zcd,zce,zcf,zcg,zch,zci,zcj,zck,zcl,zcm,zcn,zco,zcp,zcq,zcr,zcs,zct,zcu,zcv,zcw,zcx,zcy,zcz,zda,zdb,zdc,zdd,zde,zdf,zdg,zdh,zdi,zdj,zdk,zdl,zdm,ev5,tbMf2,List.map_nil,List.all_nil,List.drop_zero,glob,List.size_toArray,Array.size_empty,List.length_nil,Int.reduceBEq,Int.reduceBNe,beq_self_eq_true,hb,htb,hg,d1]
      change EndG _ _ _ _ _ _ _
      exact EndG.r0 [.raw (.bool false)] [_] rfl (.cons (.low _ (lowA_pure _ rfl) (by simp) (by simp) (by simp)) .nil) (by simp [tupOf,h1]) (fun _ _=>rfl) (fun _ _=>rfl)
  · cases hr
end Go.Proofs.YtddeffdgldjdjaaDoor.W
