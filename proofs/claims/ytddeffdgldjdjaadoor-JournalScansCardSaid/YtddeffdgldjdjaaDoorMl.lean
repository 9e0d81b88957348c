/- What the document reads as an entry. -/
import Derived.Test.YtddeffdgldjdjaaDoorMk
namespace Go.Proofs.YtddeffdgldjdjaaDoor.W
set_option linter.unusedSimpArgs false
set_option linter.unusedVariables false
set_option linter.defProp false
open Go Go.Abs
open Nat renaming reduceAdd→zaa,reduceSub→zab,reduceMul→zac,reduceLT→zad,reduceLeDiff→zae,reduceEqDiff→zaf,reduceBEq→zag
open BitVec renaming reduceOfInt→zah
open Int renaming reduceLE→zai,reduceLT→zaj,reduceGT→zak,reduceGE→zal,reduceNeg→zam,reduceAdd→zan,reduceSub→zao,reduceMul→zap,reduceToNat→zaq
open Go.Abs renaming bind_go→zar,map_go→zas,wantedV→zat,isWrite→zau,grow→zav,write→zaw,ofV→zax,start→zaz,strip→zba,endQ→zbb,resV→zbc,rawsRes→zbd,rawRes→zbe,exports→zbf,export1→zbg,isSelf→zbl,convSelf→zbm,convV→zbn,loadV→zbo,storeV→zbp,fieldAddrV→zbq,fieldV→zbr,indexAddrV→zbs,indexV→zbt,partV→zbu,isAggK→zbv,isStr→zbw,place→zbx,ipS→zby,lenV→zbz,min2V→zca,makeV→zcb,freshSl→zcc,sliceV→zcd,boundOr→zce,bound→zcf,bounds→zcg,cutFl→zch,copyV→zci,slCells→zcj,srcV→zck,appendV→zcl,room→zcm,zerosOf→zcn,eqNeg→zco,kd→zcp,takeR→zcq,hasViewL→zcr,hasView→zcs,freshR→zct,freshC→zcu,snapAll→zcv,snap→zcw,snapL→zcx,flatL→zcy,pureL→zcz,pureA→zda,fillC→zdb,arrOK→zdc,oneA→zdd,partB→zde,ren1→zdg,applyW→zdi,useL→zdj,isGen→zdl,startG→zdm
open Go.Abs.AV renaming cells→zay,laid→zdf
open Go.Abs.AS renaming grown→zbh,put→zbi,mute→zdk
open Go.Abs.Env renaming know→zbj,boxed→zbk
open Go.Abs.CR renaming gr→zdh
set_option maxHeartbeats 8000000
noncomputable def EC : Env:=EB.know 115 (fun xs=>pfEn (xs.map norm3))
theorem okEC : EnvOK Tryd.prog EC:=okB.know (SoundV.norm3 sound115)
theorem EC_te : EC.te = te:=rfl
theorem EC_glob : EC.glob = glob:=rfl
theorem EC_gs : EC.gs = []:=rfl
theorem EC_dyn : EC.dyn = false:=rfl
theorem EC_mu (d : Nat) : EC.mu d = false:=rfl
theorem EC_12 : EC.tbl 104 = some (.val (fun xs=>pf80 (xs.map norm))):=rfl
theorem EC_14 : EC.tbl 147 = some (.val (fun xs=>pf165 (xs.map norm))):=rfl
theorem EC_16 : EC.tbl 73 = some (.val (fun xs=>pf72 (xs.map norm))):=rfl
theorem EC_18 : EC.tbl 120 = some (.val (fun xs=>pf145 (xs.map norm))):=rfl
theorem EC_21 : EC.tbl 142 = some (.val (fun xs=>pf113 (xs.map norm))):=rfl
theorem EC_23 : EC.tbl 166 = some (.val (fun xs=>pf169 (xs.map norm))):=rfl
theorem EC_ent : EC.tbl 115 = some (.val (fun xs=>pfEn (xs.map norm3))):=rfl
def tbMl0:=(And.intro (And.intro (And.intro (And.intro (And.intro @teE (And.intro @entA_strip @entA_snap)) (And.intro @entA_noview (And.intro @entA_take @entA_one))) (And.intro (And.intro @dropE (And.intro @zeroE @splice_ent)) (And.intro (And.intro @splice_ent' @entA_len) (And.intro @rep1 @rep2)))) (And.intro (And.intro (And.intro @rep3 (And.intro @rep5 @one_le)) (And.intro (And.intro @le2 @le3) (And.intro @le5 @dr1))) (And.intro (And.intro @dr2 (And.intro @dr3 @dr5)) (And.intro (And.intro @EC_te @EC_glob) (And.intro @EC_gs @EC_dyn))))) (And.intro (And.intro (And.intro (And.intro @EC_mu (And.intro @EC_12 @EC_14)) (And.intro @EC_16 (And.intro @EC_18 @EC_21))) (And.intro (And.intro @EC_23 (And.intro @EC_ent @ev4)) (And.intro (And.intro @text_at @text_long) (And.intro @text_nil @list_at)))) (And.intro (And.intro (And.intro @list_nil (And.intro @pf80_at @put_nil)) (And.intro (And.intro @take_at @ttake_at) (And.intro @ltake_at @zz0))) (And.intro (And.intro @zz1 (And.intro @entA_0 @entA_1)) (And.intro (And.intro @entA_2 @entA_3) (And.intro @dat_beq @asB0))))))
set_option maxRecDepth 4000 in
theorem sound148 : SoundV Tryd.prog glob 148 pf144:=by
  refine SoundV.walk EC okEC mixed Tryd.func148 rfl Tryd.call148 (by kernel_rfl) ?_
  intro args r hr
  unfold pf144 at hr
  split at hr
  · simp only [Option.bind_eq_some_iff] at hr
    obtain ⟨b,h1,hr⟩:=hr
    split at hr
    · rename_i hc
      cases hr
      obtain ⟨fl,rfl⟩:=row?_of h1
      rw [Tryd.ntmps148,Tryd.results148]
      refine ⟨by simp,?_⟩
      have hok:=entF_ok hc
      have l1:=tkR_le b
      have l2:=tkR_le (tkR b)
      have l3:=ttR_le (tkR (tkR b)) 4096
      have w1 : q1 b = (tkR b,(tkE b : Int)):=rfl
      by_cases c1 : tkE b = 0
      rotate_left
      · have v2 : q2 b = (tkR b,(tkE b : Int)) := by rw [q2,w1,rS_no (by dsimp only; omega)]
        have v3 : e3 b = (tkR b,(tkE b : Int)):=by rw [e3,v2,tS_no (by dsimp only; omega)]
        have v4 : e4 b = (tkR b,(tkE b : Int)):=by rw [e4,v3,lS_no (by dsimp only; omega)]
        rw [show tnF b = noE by rw [tnF,isE,v4]; simp only [dz c1,Bool.false_and,if_false,Bool.false_eq_true],show tnE b = 80 by rw [tnE,isE,v4]; simp only [dz c1,Bool.false_and,if_false,Bool.false_eq_true]]
        simp (maxSteps:=1000000) (disch:=first | omega | exact ok4096 | (simp only [updB,dsB,reduceCtorEq,Nat.reduceEqDiff, *]; done) | (simp only [digF_len,putK_len,putB_len,lnB] <;> omega) | fail) only [ev0,ev1,ev2,ev3,↓reduceIte,reduceCtorEq,zaa,zab,zac,zad,zae,zaf,zag,zah,zai,zaj,zak,zal,zam,zan,zao,zap,zaq,↓zar,↓zas,zat,zau,zav,zaw,zax,zay,zaz,zba,zbb,zbc,zbd,zbe,zbf,zbg,zbh,zbi,zbj,zbk,zbl,zbm,zbn,zbo,zbp,zbq,zbr,zbs,zbt,zbu,zbv,zbw,zbx,zby,zbz,zca,zcb,zcc,zcd,zce,zcf,zcg,zch,zci,zcj,zck,zcl,zcm,zcn,zco,zcp,zcq,zcr,zcs,zct,zcu,zcv,zcw,zcx,zcy,zcz,zda,zdb,zdc,zdd,zde,zdf,zdg,zdh,zdi,zdj,zdk,zdl,zdm,ev5,tbMl0,List.map_nil,List.all_nil,List.drop_zero,glob,btA,itA,List.size_toArray,Array.size_empty,List.length_nil,nz_t c1]
        exact ResQ.same rfl
      have w2 : q2 b = (tkR (tkR b),(tkE (tkR b) : Int)):=by rw [q2,w1,rS_ok (by dsimp only; omega)]
      by_cases c2 : tkE (tkR b) = 0
      rotate_left
      · have v3 : e3 b = (tkR (tkR b),(tkE (tkR b) : Int)) := by rw [e3,w2,tS_no (by dsimp only; omega)]
        have v4 : e4 b = (tkR (tkR b),(tkE (tkR b) : Int)):=by rw [e4,v3,lS_no (by dsimp only; omega)]
        rw [show tnF b = noE by rw [tnF,isE,v4]; simp only [dz c2,Bool.false_and,if_false,Bool.false_eq_true],show tnE b = 80 by rw [tnE,isE,v4]; simp only [dz c2,Bool.false_and,if_false,Bool.false_eq_true]]
        simp (maxSteps:=1000000) (disch:=first | omega | exact ok4096 | (simp only [updB,dsB,reduceCtorEq,Nat.reduceEqDiff, *]; done) | (simp only [digF_len,putK_len,putB_len,lnB] <;> omega) | fail) only [ev0,ev1,ev2,ev3,↓reduceIte,reduceCtorEq,zaa,zab,zac,zad,zae,zaf,zag,zah,zai,zaj,zak,zal,zam,zan,zao,zap,zaq,↓zar,↓zas,zat,zau,zav,zaw,zax,zay,zaz,zba,zbb,zbc,zbd,zbe,zbf,zbg,zbh,zbi,zbj,zbk,zbl,zbm,zbn,zbo,zbp,zbq,zbr,zbs,zbt,zbu,zbv,zbw,zbx,zby,zbz,zca,zcb,zcc,zcd,zce,zcf,zcg,zch,zci,zcj,zck,zcl,zcm,zcn,zco,zcp,zcq,zcr,zcs,zct,zcu,zcv,zcw,zcx,zcy,zcz,zda,zdb,zdc,zdd,zde,zdf,zdg,zdh,zdi,zdj,zdk,zdl,zdm,ev5,tbMl0,List.map_nil,List.all_nil,List.drop_zero,glob,btA,itA,List.size_toArray,Array.size_empty,List.length_nil,nz_f c1,nz_t c2]
        exact ResQ.same rfl
      have w3 : e3 b = (ttR (tkR (tkR b)) 4096,(ttE (tkR (tkR b)) 4096 : Int)):=by rw [e3,w2,tS_ok (by dsimp only; omega)]
      by_cases c3 : ttE (tkR (tkR b)) 4096 = 0
      rotate_left
      · have v4 : e4 b = (ttR (tkR (tkR b)) 4096,(ttE (tkR (tkR b)) 4096 : Int)) := by rw [e4,w3,lS_no (by dsimp only; omega)]
        rw [show tnF b = noE by rw [tnF,isE,v4]; simp only [dz c3,Bool.false_and,if_false,Bool.false_eq_true],show tnE b = 80 by rw [tnE,isE,v4]; simp only [dz c3,Bool.false_and,if_false,Bool.false_eq_true]]
        simp (maxSteps:=1000000) (disch:=first | omega | exact ok4096 | (simp only [updB,dsB,reduceCtorEq,Nat.reduceEqDiff, *]; done) | (simp only [digF_len,putK_len,putB_len,lnB] <;> omega) | fail) only [ev0,ev1,ev2,ev3,↓reduceIte,reduceCtorEq,zaa,zab,zac,zad,zae,zaf,zag,zah,zai,zaj,zak,zal,zam,zan,zao,zap,zaq,↓zar,↓zas,zat,zau,zav,zaw,zax,zay,zaz,zba,zbb,zbc,zbd,zbe,zbf,zbg,zbh,zbi,zbj,zbk,zbl,zbm,zbn,zbo,zbp,zbq,zbr,zbs,zbt,zbu,zbv,zbw,zbx,zby,zbz,zca,zcb,zcc,zcd,zce,zcf,zcg,zch,zci,zcj,zck,zcl,zcm,zcn,zco,zcp,zcq,zcr,zcs,zct,zcu,zcv,zcw,zcx,zcy,zcz,zda,zdb,zdc,zdd,zde,zdf,zdg,zdh,zdi,zdj,zdk,zdl,zdm,ev5,tbMl0,List.map_nil,List.all_nil,List.drop_zero,glob,btA,itA,List.size_toArray,Array.size_empty,List.length_nil,nz_f c1,nz_f c2,nz_t c3]
        exact ResQ.same rfl
      have w4 : e4 b = (tlR (ttR (tkR (tkR b)) 4096) 7,(tlE (ttR (tkR (tkR b)) 4096) 7 : Int)):=by rw [e4,w3,lS_ok (by dsimp only; omega)]
      by_cases c4 : tlE (ttR (tkR (tkR b)) 4096) 7 = 0
      rotate_left
      · skip
        rw [show tnF b = noE by rw [tnF,isE,w4]; simp only [dz c4,Bool.false_and,if_false,Bool.false_eq_true],show tnE b = 80 by rw [tnE,isE,w4]; simp only [dz c4,Bool.false_and,if_false,Bool.false_eq_true]]
        simp (maxSteps:=1000000) (disch:=first | omega | exact ok4096 | (simp only [updB,dsB,reduceCtorEq,Nat.reduceEqDiff, *]; done) | (simp only [digF_len,putK_len,putB_len,lnB] <;> omega) | fail) only [ev0,ev1,ev2,ev3,↓reduceIte,reduceCtorEq,zaa,zab,zac,zad,zae,zaf,zag,zah,zai,zaj,zak,zal,zam,zan,zao,zap,zaq,↓zar,↓zas,zat,zau,zav,zaw,zax,zay,zaz,zba,zbb,zbc,zbd,zbe,zbf,zbg,zbh,zbi,zbj,zbk,zbl,zbm,zbn,zbo,zbp,zbq,zbr,zbs,zbt,zbu,zbv,zbw,zbx,zby,zbz,zca,zcb,zcc,zcd,zce,zcf,zcg,zch,zci,zcj,zck,zcl,zcm,zcn,zco,zcp,zcq,zcr,zcs,zct,zcu,zcv,zcw,zcx,zcy,zcz,zda,zdb,zdc,zdd,zde,zdf,zdg,zdh,zdi,zdj,zdk,zdl,zdm,ev5,tbMl0,List.map_nil,List.all_nil,List.drop_zero,glob,btA,itA,List.size_toArray,Array.size_empty,List.length_nil,nz_f c1,nz_f c2,nz_f c3,nz_t c4]
        exact ResQ.same rfl
      have hF : entF b = ⟨(tkN b : Int),(tkN (tkR b) : Int),some (ttT (tkR (tkR b)) 4096),some (tlL (ttR (tkR (tkR b)) 4096) 7)⟩:=by
        rw [entF,w1,w2,w3,rN_ok' rfl,rN_ok' (by dsimp only; omega),tN_ok (by dsimp only; omega),lN_ok' (by dsimp only; omega)]
      have hi : isE b = (decide ((entR (entF b)).2 = 0) && decide ((entR (entF b)).1 = b)):=by
        rw [isE,w4,c4]; simp
      have hE:=rentry_at hok
      have hA : entA (entF b) = [.raw (.int .i64 (tkN b : Int)),.raw (.int .i64 (tkN (tkR b) : Int)),.sl (ttT (tkR (tkR b)) 4096).length (nums .u8 (ttT (tkR (tkR b)) 4096)) .bor,.sl (tlL (ttR (tkR (tkR b)) 4096) 7).length (ints .i64 (tlL (ttR (tkR (tkR b)) 4096) 7)) .bor]:=by rw [hF]; rfl
      have hT : tnF b = if isE b = true then entF b else noE:=rfl
      have hE2 : tnE b = if isE b = true then 0 else 80:=rfl
      generalize entF b = x at hi hE hA hT hok
      rw [hA] at hE
      simp only [List.map_cons,List.map_nil] at hE
      by_cases c5 : (entR x).2 = 0
      · have d5 : ((entR x).2 != 0) = false := by rw [c5]; rfl
        by_cases c6 : (entR x).1 = b
        · have d6 : (List.map UInt8.ofBitVec (entR x).1 == List.map UInt8.ofBitVec b) = true := by rw [c6,beq_self_eq_true]
          have d6' : decide ((entR x).1 = b) = true:=decide_eq_true c6
          have hi' : isE b = true:=by rw [hi,c5,d6']; rfl
          rw [hT,hE2,if_pos hi',if_pos hi',hA]
          simp (maxSteps:=1000000) (disch:=first | omega | exact ok4096 | (simp only [updB,dsB,reduceCtorEq,Nat.reduceEqDiff, *]; done) | (simp only [digF_len,putK_len,putB_len,lnB] <;> omega) | fail) only [ev0,ev1,ev2,ev3,↓reduceIte,reduceCtorEq,zaa,zab,zac,zad,zae,zaf,zag,zah,zai,zaj,zak,zal,zam,zan,zao,zap,zaq,↓zar,↓zas,zat,zau,zav,zaw,zax,zay,zaz,zba,zbb,zbc,zbd,zbe,zbf,zbg,zbh,zbi,zbj,zbk,zbl,zbm,zbn,zbo,zbp,zbq,zbr,zbs,zbt,zbu,zbv,zbw,zbx,zby,zbz,zca,zcb,zcc,zcd,zce,zcf,zcg,zch,zci,zcj,zck,zcl,zcm,zcn,zco,zcp,zcq,zcr,zcs,zct,zcu,zcv,zcw,zcx,zcy,zcz,zda,zdb,zdc,zdd,zde,zdf,zdg,zdh,zdi,zdj,zdk,zdl,zdm,ev5,tbMl0,List.map_nil,List.all_nil,List.drop_zero,glob,btA,itA,List.size_toArray,Array.size_empty,List.length_nil,nz_f c1,nz_f c2,nz_f c3,nz_f c4,hE,d5,d6']
          exact ResQ.same rfl
        · have d6' : decide ((entR x).1 = b) = false := decide_eq_false c6
          have hi' : ¬ isE b = true:=by rw [hi,d6',Bool.and_false]; decide
          rw [hT,hE2,if_neg hi',if_neg hi']
          simp (maxSteps:=1000000) (disch:=first | omega | exact ok4096 | (simp only [updB,dsB,reduceCtorEq,Nat.reduceEqDiff, *]; done) | (simp only [digF_len,putK_len,putB_len,lnB] <;> omega) | fail) only [ev0,ev1,ev2,ev3,↓reduceIte,reduceCtorEq,zaa,zab,zac,zad,zae,zaf,zag,zah,zai,zaj,zak,zal,zam,zan,zao,zap,zaq,↓zar,↓zas,zat,zau,zav,zaw,zax,zay,zaz,zba,zbb,zbc,zbd,zbe,zbf,zbg,zbh,zbi,zbj,zbk,zbl,zbm,zbn,zbo,zbp,zbq,zbr,zbs,zbt,zbu,zbv,zbw,zbx,zby,zbz,zca,zcb,zcc,zcd,zce,zcf,zcg,zch,zci,zcj,zck,zcl,zcm,zcn,zco,zcp,zcq,zcr,zcs,zct,zcu,zcv,zcw,zcx,zcy,zcz,zda,zdb,zdc,zdd,zde,zdf,zdg,zdh,zdi,zdj,zdk,zdl,zdm,ev5,tbMl0,List.map_nil,List.all_nil,List.drop_zero,glob,btA,itA,List.size_toArray,Array.size_empty,List.length_nil,nz_f c1,nz_f c2,nz_f c3,nz_f c4,hE,d5,d6']
          exact ResQ.same rfl
      · have d5 : ((entR x).2 != 0) = true := by rw [bne_iff_ne]; exact c5
        have hi' : ¬ isE b = true:=by rw [hi,decide_eq_false c5,Bool.false_and]; decide
        rw [hT,hE2,if_neg hi',if_neg hi']
        simp (maxSteps:=1000000) (disch:=first | omega | exact ok4096 | (simp only [updB,dsB,reduceCtorEq,Nat.reduceEqDiff, *]; done) | (simp only [digF_len,putK_len,putB_len,lnB] <;> omega) | fail) only [ev0,ev1,ev2,ev3,↓reduceIte,reduceCtorEq,zaa,zab,zac,zad,zae,zaf,zag,zah,zai,zaj,zak,zal,zam,zan,zao,zap,zaq,↓zar,↓zas,zat,zau,zav,zaw,zax,zay,zaz,zba,zbb,zbc,zbd,zbe,zbf,zbg,zbh,zbi,zbj,zbk,zbl,zbm,zbn,zbo,zbp,zbq,zbr,zbs,zbt,zbu,zbv,zbw,zbx,zby,zbz,zca,zcb,zcc,zcd,zce,zcf,zcg,zch,zci,zcj,zck,zcl,zcm,zcn,zco,zcp,zcq,zcr,zcs,zct,zcu,zcv,zcw,zcx,zcy,zcz,zda,zdb,zdc,zdd,zde,zdf,zdg,zdh,zdi,zdj,zdk,zdl,zdm,ev5,tbMl0,List.map_nil,List.all_nil,List.drop_zero,glob,btA,itA,List.size_toArray,Array.size_empty,List.length_nil,nz_f c1,nz_f c2,nz_f c3,nz_f c4,hE,d5]
        exact ResQ.same rfl
    · cases hr
  · cases hr
end Go.Proofs.YtddeffdgldjdjaaDoor.W
