/- A number is taken from the front of bytes,as the document has it: what the walk comes to. -/
import Derived.Test.YtddeffdgldjdjaaDoorPe
namespace Go.Proofs.YtddeffdgldjdjaaDoor.W
set_option linter.unusedSimpArgs false
set_option linter.unusedVariables false
set_option linter.defProp false
open Go Go.Abs
open Nat renaming reduceAdd→zaa,reduceSub→zab,reduceMul→zac,reduceLT→zad,reduceLeDiff→zae,reduceEqDiff→zaf,reduceBEq→zag
open BitVec renaming reduceOfInt→zah
open Int renaming reduceLE→zai,reduceLT→zaj,reduceGT→zak,reduceGE→zal,reduceNeg→zam,reduceAdd→zan,reduceSub→zao,reduceMul→zap,reduceToNat→zaq
open Go.Abs renaming bind_go→zar,map_go→zas,wantedV→zat,isWrite→zau,grow→zav,write→zaw,ofV→zax,start→zaz,strip→zba,endQ→zbb,resV→zbc,rawsRes→zbd,rawRes→zbe,exports→zbf,export1→zbg,isSelf→zbl,convSelf→zbm,convV→zbn,loadV→zbo,storeV→zbp,fieldAddrV→zbq,fieldV→zbr,indexAddrV→zbs,indexV→zbt,partV→zbu,isAggK→zbv,isStr→zbw,place→zbx,ipS→zby,lenV→zbz,min2V→zca,makeV→zcb,freshSl→zcc,sliceV→zcd,boundOr→zce,bound→zcf,bounds→zcg,cutFl→zch,copyV→zci,slCells→zcj,srcV→zck,appendV→zcl,room→zcm,zerosOf→zcn,eqNeg→zco,kd→zcp,takeR→zcq,hasViewL→zcr,hasView→zcs,freshR→zct,freshC→zcu,snapAll→zcv,snap→zcw,snapL→zcx,flatL→zcy,pureL→zcz,pureA→zda,fillC→zdb,arrOK→zdc,oneA→zdd,partB→zde,ren1→zdg,applyW→zdi,useL→zdj,isGen→zdl,startG→zdm
open Go.Abs.AV renaming cells→zay,laid→zdf
open Go.Abs.AS renaming grown→zbh,put→zbi,mute→zdk
open Go.Abs.Env renaming know→zbj,boxed→zbk
open Go.Abs.CR renaming gr→zdh
theorem undef_is : undef = .tuple #[]:=rfl
theorem getD_dt (b : List (BitVec 8)) (s k : Nat) (h : k < s) : ((b.drop 1).take s).getD k 0#8 = b.getD (k + 1) 0#8:=by
  rw [List.getD_eq_getElem?_getD,List.getD_eq_getElem?_getD,List.getElem?_take_of_lt h,List.getElem?_drop,Nat.add_comm]
theorem u8_eq0 (c : BitVec 8) : c = 0#8 ↔ c.toNat = 0:=by
  constructor
  · intro h; rw [h]; rfl
  · intro h; apply BitVec.eq_of_toNat_eq; rw [h]; rfl
set_option maxHeartbeats 4000000
def tbPf0:=(And.intro (And.intro (And.intro @teE (And.intro @E3_te @E3_gs)) (And.intro @E3_dyn (And.intro @E3_glob @E3_mu))) (And.intro (And.intro @E3_90 (And.intro @E3_165 @pf90_at)) (And.intro @pf165_at (And.intro @wrap_u8i @undef_is))))
theorem sound147 : SoundV Tryd.prog glob 147 pf165:=by
  refine SoundV.walk E3 ok3 mixed Tryd.func147 rfl Tryd.call147 (by kernel_rfl) ?_
  intro args r hr
  unfold pf165 at hr
  split at hr
  · simp only [Option.bind_eq_some_iff] at hr
    obtain ⟨b,h1,hr⟩:=hr
    split at hr
    · rename_i hc
      cases hr
      obtain ⟨fl,rfl⟩:=row?_of h1
      rw [Tryd.ntmps147,Tryd.results147]
      refine ⟨by simp,?_⟩
      have hE : tkE b = if b.length = 0 then 3 else if tkS b > 8 then 80 else if b.length < 1 + tkS b then 3 else if (tkX b).toInt < 0 ∨ need (tkX b).toNat ≠ tkS b then 80 else 0:=rfl
      by_cases c0 : b.length = 0
      · rw [if_pos c0] at hE
        rw [tk_no hE (by decide)]
        simp (maxSteps:=1000000) (disch:=first | omega | (simp only [nums_len,lnB] <;> omega) | fail) only [ev0,ev1,ev2,ev3,↓reduceIte,reduceCtorEq,zaa,zab,zac,zad,zae,zaf,zag,zah,zai,zaj,zak,zal,zam,zan,zao,zap,zaq,↓zar,↓zas,zat,zau,zav,zaw,zax,zay,zaz,zba,zbb,zbc,zbd,zbe,zbf,zbg,zbh,zbi,zbj,zbk,zbl,zbm,zbn,zbo,zbp,zbq,zbr,zbs,zbt,zbu,zbv,zbw,zbx,zby,zbz,zca,zcb,zcc,zcd,zce,zcf,zcg,zch,zci,zcj,zck,zcl,zcm,zcn,zco,zcp,zcq,zcr,zcs,zct,zcu,zcv,zcw,zcx,zcy,zcz,zda,zdb,zdc,zdd,zde,zdf,zdg,zdh,zdi,zdj,zdk,zdl,zdm,ev5,tbPf0,glob,c0,z00]
        exact resQ_3nil
      · rw [if_neg c0] at hE
        have c0' : ((b.length : Int) == 0) = false:=by rw [beq_eq_false_iff_ne]; omega
        have hS : (b.getD 0 0#8).toNat = tkS b:=rfl
        simp (maxSteps:=1000000) (disch:=first | omega | (simp only [nums_len,lnB] <;> omega) | fail) only [ev0,ev1,ev2,ev3,↓reduceIte,reduceCtorEq,zaa,zab,zac,zad,zae,zaf,zag,zah,zai,zaj,zak,zal,zam,zan,zao,zap,zaq,↓zar,↓zas,zat,zau,zav,zaw,zax,zay,zaz,zba,zbb,zbc,zbd,zbe,zbf,zbg,zbh,zbi,zbj,zbk,zbl,zbm,zbn,zbo,zbp,zbq,zbr,zbs,zbt,zbu,zbv,zbw,zbx,zby,zbz,zca,zcb,zcc,zcd,zce,zcf,zcg,zch,zci,zcj,zck,zcl,zcm,zcn,zco,zcp,zcq,zcr,zcs,zct,zcu,zcv,zcw,zcx,zcy,zcz,zda,zdb,zdc,zdd,zde,zdf,zdg,zdh,zdi,zdj,zdk,zdl,zdm,ev5,tbPf0,glob,c0',hS]
        refine condQ_dec (fun c1=>?_) (fun c1=>?_)
        · rw [if_pos (by omega)] at hE
          rw [tk_no hE (by decide)]
          simp (maxSteps:=1000000) (disch:=first | omega | (simp only [nums_len,lnB] <;> omega) | fail) only [ev0,ev1,ev2,ev3,↓reduceIte,reduceCtorEq,zaa,zab,zac,zad,zae,zaf,zag,zah,zai,zaj,zak,zal,zam,zan,zao,zap,zaq,↓zar,↓zas,zat,zau,zav,zaw,zax,zay,zaz,zba,zbb,zbc,zbd,zbe,zbf,zbg,zbh,zbi,zbj,zbk,zbl,zbm,zbn,zbo,zbp,zbq,zbr,zbs,zbt,zbu,zbv,zbw,zbx,zby,zbz,zca,zcb,zcc,zcd,zce,zcf,zcg,zch,zci,zcj,zck,zcl,zcm,zcn,zco,zcp,zcq,zcr,zcs,zct,zcu,zcv,zcw,zcx,zcy,zcz,zda,zdb,zdc,zdd,zde,zdf,zdg,zdh,zdi,zdj,zdk,zdl,zdm,ev5,tbPf0,glob]
          exact resQ_3nil
        · have c1 : ¬ tkS b > 8 := by omega
          rw [if_neg c1] at hE
          simp (maxSteps:=1000000) (disch:=first | omega | (simp only [nums_len,lnB] <;> omega) | fail) only [ev0,ev1,ev2,ev3,↓reduceIte,reduceCtorEq,zaa,zab,zac,zad,zae,zaf,zag,zah,zai,zaj,zak,zal,zam,zan,zao,zap,zaq,↓zar,↓zas,zat,zau,zav,zaw,zax,zay,zaz,zba,zbb,zbc,zbd,zbe,zbf,zbg,zbh,zbi,zbj,zbk,zbl,zbm,zbn,zbo,zbp,zbq,zbr,zbs,zbt,zbu,zbv,zbw,zbx,zby,zbz,zca,zcb,zcc,zcd,zce,zcf,zcg,zch,zci,zcj,zck,zcl,zcm,zcn,zco,zcp,zcq,zcr,zcs,zct,zcu,zcv,zcw,zcx,zcy,zcz,zda,zdb,zdc,zdd,zde,zdf,zdg,zdh,zdi,zdj,zdk,zdl,zdm,ev5,tbPf0,glob]
          refine condQ_dec (fun c2=>?_) (fun c2=>?_)
          · rw [if_pos (by omega)] at hE
            rw [tk_no hE (by decide)]
            simp (maxSteps:=1000000) (disch:=first | omega | (simp only [nums_len,lnB] <;> omega) | fail) only [ev0,ev1,ev2,ev3,↓reduceIte,reduceCtorEq,zaa,zab,zac,zad,zae,zaf,zag,zah,zai,zaj,zak,zal,zam,zan,zao,zap,zaq,↓zar,↓zas,zat,zau,zav,zaw,zax,zay,zaz,zba,zbb,zbc,zbd,zbe,zbf,zbg,zbh,zbi,zbj,zbk,zbl,zbm,zbn,zbo,zbp,zbq,zbr,zbs,zbt,zbu,zbv,zbw,zbx,zby,zbz,zca,zcb,zcc,zcd,zce,zcf,zcg,zch,zci,zcj,zck,zcl,zcm,zcn,zco,zcp,zcq,zcr,zcs,zct,zcu,zcv,zcw,zcx,zcy,zcz,zda,zdb,zdc,zdd,zde,zdf,zdg,zdh,zdi,zdj,zdk,zdl,zdm,ev5,tbPf0,glob]
            exact resQ_3nil
          · have c2 : ¬ b.length < 1 + tkS b := by omega
            rw [if_neg c2] at hE
            have hX : accF ((b.drop 1).take (tkS b)) (tkS b) = tkX b:=rfl
            have hbad:=bad_iff ((b.drop 1).take (tkS b)) (tkS b) (by omega)
            rw [hX] at hbad
            have h1 : 0 < tkS b→((b.drop 1).take (tkS b)).getD 0 0#8 = b.getD 1 0#8:=fun h=>getD_dt b _ 0 h
            by_cases hz : tkS b = 0
            · have d0 : decide ((tkS b : Int) > 0) = false := decide_eq_false (by omega)
              have d8 : ((tkS b : Int) == 8) = false:=by rw [beq_eq_false_iff_ne]; omega
              have hok : ¬ ((tkX b).toInt < 0 ∨ need (tkX b).toNat ≠ tkS b):=fun h=>by
                rcases hbad.1 h with ⟨h,_⟩ | ⟨h,_⟩ <;> omega
              simp (maxSteps:=1000000) (disch:=first | omega | (simp only [nums_len,lnB] <;> omega) | fail) only [ev0,ev1,ev2,ev3,↓reduceIte,reduceCtorEq,zaa,zab,zac,zad,zae,zaf,zag,zah,zai,zaj,zak,zal,zam,zan,zao,zap,zaq,↓zar,↓zas,zat,zau,zav,zaw,zax,zay,zaz,zba,zbb,zbc,zbd,zbe,zbf,zbg,zbh,zbi,zbj,zbk,zbl,zbm,zbn,zbo,zbp,zbq,zbr,zbs,zbt,zbu,zbv,zbw,zbx,zby,zbz,zca,zcb,zcc,zcd,zce,zcf,zcg,zch,zci,zcj,zck,zcl,zcm,zcn,zco,zcp,zcq,zcr,zcs,zct,zcu,zcv,zcw,zcx,zcy,zcz,zda,zdb,zdc,zdd,zde,zdf,zdg,zdh,zdi,zdj,zdk,zdl,zdm,ev5,tbPf0,glob,hS,d0,d8]
              rw [if_neg hok] at hE
              have hN : tkN b = (tkX b).toNat:=by rw [tkN,if_pos hE]
              have hR : tkR b = b.drop (1 + tkS b):=by rw [tkR,if_pos hE]
              rw [hN,hR,hE]
              generalize hl : (b.drop 1).take (tkS b) = L at hX
              have gL : ∀ k,k < tkS b→L.getD k 0#8 = b.getD (k + 1) 0#8:=fun k h=>by rw [← hl]; exact getD_dt b _ k h
              have hti : (tkX b).toInt = ((tkX b).toNat : Int):=by
                have hneg : ¬ (tkX b).toInt < 0:=fun h=>hok (.inl h)
                rw [BitVec.toInt_eq_toNat_cond] at hneg ⊢
                split at hneg
                · rename_i h2; rw [if_pos h2]
                · omega
              refine loopQ_of (fun n σ=>∃ k,k ≤ tkS b ∧ n = tkS b - k ∧ σ.slots 7 = .raw (.int .i64 ((k + 1 : Nat) : Int)) ∧ σ.slots 0 = .sl b.length (nums .u8 b) .bor ∧ σ.slots 5 = .raw (.int .i64 (tkS b : Int)) ∧ σ.slots 6 = .raw (.int .i64 (accF L k).toInt) ∧ σ.gen = (fun _=>0) ∧ σ.used = (fun _=>false)) (tkS b) ?_ ?_
              · refine ⟨0,by omega,by omega,?_⟩
                simp (maxSteps:=1000000) (disch:=first | omega | (simp only [nums_len,lnB] <;> omega) | fail) only [ev0,ev1,ev2,ev3,↓reduceIte,reduceCtorEq,zaa,zab,zac,zad,zae,zaf,zag,zah,zai,zaj,zak,zal,zam,zan,zao,zap,zaq,↓zar,↓zas,zat,zau,zav,zaw,zax,zay,zaz,zba,zbb,zbc,zbd,zbe,zbf,zbg,zbh,zbi,zbj,zbk,zbl,zbm,zbn,zbo,zbp,zbq,zbr,zbs,zbt,zbu,zbv,zbw,zbx,zby,zbz,zca,zcb,zcc,zcd,zce,zcf,zcg,zch,zci,zcj,zck,zcl,zcm,zcn,zco,zcp,zcq,zcr,zcs,zct,zcu,zcv,zcw,zcx,zcy,zcz,zda,zdb,zdc,zdd,zde,zdf,zdg,zdh,zdi,zdj,zdk,zdl,zdm,ev5,tbPf0,glob]
                exact ⟨rfl,rfl⟩
              · rintro n ⟨sl,gn,bx,us⟩ ⟨k,hk,rfl,s7,s0,s5,s6,sg,su⟩
                dsimp only at s7 s0 s5 s6 sg su
                subst sg su
                simp (maxSteps:=1000000) (disch:=first | omega | (simp only [nums_len,lnB] <;> omega) | fail) only [ev0,ev1,ev2,ev3,↓reduceIte,reduceCtorEq,zaa,zab,zac,zad,zae,zaf,zag,zah,zai,zaj,zak,zal,zam,zan,zao,zap,zaq,↓zar,↓zas,zat,zau,zav,zaw,zax,zay,zaz,zba,zbb,zbc,zbd,zbe,zbf,zbg,zbh,zbi,zbj,zbk,zbl,zbm,zbn,zbo,zbp,zbq,zbr,zbs,zbt,zbu,zbv,zbw,zbx,zby,zbz,zca,zcb,zcc,zcd,zce,zcf,zcg,zch,zci,zcj,zck,zcl,zcm,zcn,zco,zcp,zcq,zcr,zcs,zct,zcu,zcv,zcw,zcx,zcy,zcz,zda,zdb,zdc,zdd,zde,zdf,zdg,zdh,zdi,zdj,zdk,zdl,zdm,ev5,tbPf0,glob,s7,s0,s5,s6]
                refine condQ_dec (fun hlt=>?_) (fun hge=>?_)
                · have hlt : k < tkS b := by omega
                  have hg:=gL k hlt
                  simp (maxSteps:=1000000) (disch:=first | omega | (simp only [nums_len,lnB] <;> omega) | fail) only [ev0,ev1,ev2,ev3,↓reduceIte,reduceCtorEq,zaa,zab,zac,zad,zae,zaf,zag,zah,zai,zaj,zak,zal,zam,zan,zao,zap,zaq,↓zar,↓zas,zat,zau,zav,zaw,zax,zay,zaz,zba,zbb,zbc,zbd,zbe,zbf,zbg,zbh,zbi,zbj,zbk,zbl,zbm,zbn,zbo,zbp,zbq,zbr,zbs,zbt,zbu,zbv,zbw,zbx,zby,zbz,zca,zcb,zcc,zcd,zce,zcf,zcg,zch,zci,zcj,zck,zcl,zcm,zcn,zco,zcp,zcq,zcr,zcs,zct,zcu,zcv,zcw,zcx,zcy,zcz,zda,zdb,zdc,zdd,zde,zdf,zdg,zdh,zdi,zdj,zdk,zdl,zdm,ev5,tbPf0,glob,s7,s0,s5,s6]
                  refine ⟨tkS b - (k + 1),by omega,k + 1,by omega,rfl,rfl,?_⟩
                  rw [accF,hg]
                · have hk : k = tkS b := by omega
                  subst hk
                  rw [hX] at s6
                  simp (maxSteps:=1000000) (disch:=first | omega | (simp only [nums_len,lnB] <;> omega) | fail) only [ev0,ev1,ev2,ev3,↓reduceIte,reduceCtorEq,zaa,zab,zac,zad,zae,zaf,zag,zah,zai,zaj,zak,zal,zam,zan,zao,zap,zaq,↓zar,↓zas,zat,zau,zav,zaw,zax,zay,zaz,zba,zbb,zbc,zbd,zbe,zbf,zbg,zbh,zbi,zbj,zbk,zbl,zbm,zbn,zbo,zbp,zbq,zbr,zbs,zbt,zbu,zbv,zbw,zbx,zby,zbz,zca,zcb,zcc,zcd,zce,zcf,zcg,zch,zci,zcj,zck,zcl,zcm,zcn,zco,zcp,zcq,zcr,zcs,zct,zcu,zcv,zcw,zcx,zcy,zcz,zda,zdb,zdc,zdd,zde,zdf,zdg,zdh,zdi,zdj,zdk,zdl,zdm,ev5,tbPf0,glob,s7,s0,s5,s6]
                  rw [hti,Nat.add_comm 1 (tkS b)]
                  exact resQ_3
            · have d0 : decide ((tkS b : Int) > 0) = true := decide_eq_true (by omega)
              have h1:=h1 (by omega)
              by_cases hz1 : (b.getD 1 0#8).toNat = 0
              · have dz : (((b.getD 1 0#8).toNat : Int) == 0) = true := by rw [hz1]; rfl
                rw [if_pos (hbad.2 (.inl ⟨by omega,by rw [h1]; exact (u8_eq0 _).2 hz1⟩))] at hE
                rw [tk_no hE (by decide)]
                simp (maxSteps:=1000000) (disch:=first | omega | (simp only [nums_len,lnB] <;> omega) | fail) only [ev0,ev1,ev2,ev3,↓reduceIte,reduceCtorEq,zaa,zab,zac,zad,zae,zaf,zag,zah,zai,zaj,zak,zal,zam,zan,zao,zap,zaq,↓zar,↓zas,zat,zau,zav,zaw,zax,zay,zaz,zba,zbb,zbc,zbd,zbe,zbf,zbg,zbh,zbi,zbj,zbk,zbl,zbm,zbn,zbo,zbp,zbq,zbr,zbs,zbt,zbu,zbv,zbw,zbx,zby,zbz,zca,zcb,zcc,zcd,zce,zcf,zcg,zch,zci,zcj,zck,zcl,zcm,zcn,zco,zcp,zcq,zcr,zcs,zct,zcu,zcv,zcw,zcx,zcy,zcz,zda,zdb,zdc,zdd,zde,zdf,zdg,zdh,zdi,zdj,zdk,zdl,zdm,ev5,tbPf0,glob,hS,d0,dz]
                exact resQ_3nil
              · have dz : (((b.getD 1 0#8).toNat : Int) == 0) = false := by rw [beq_eq_false_iff_ne]; omega
                by_cases h8 : tkS b = 8
                · have d8 : ((tkS b : Int) == 8) = true := by rw [h8]; rfl
                  by_cases hg : (b.getD 1 0#8).toNat > 127
                  · have dg : decide (((b.getD 1 0#8).toNat : Int) > 127) = true := decide_eq_true (by omega)
                    rw [if_pos (hbad.2 (.inr ⟨by omega,by rw [h1]; exact hg⟩))] at hE
                    rw [tk_no hE (by decide)]
                    simp (maxSteps:=1000000) (disch:=first | omega | (simp only [nums_len,lnB] <;> omega) | fail) only [ev0,ev1,ev2,ev3,↓reduceIte,reduceCtorEq,zaa,zab,zac,zad,zae,zaf,zag,zah,zai,zaj,zak,zal,zam,zan,zao,zap,zaq,↓zar,↓zas,zat,zau,zav,zaw,zax,zay,zaz,zba,zbb,zbc,zbd,zbe,zbf,zbg,zbh,zbi,zbj,zbk,zbl,zbm,zbn,zbo,zbp,zbq,zbr,zbs,zbt,zbu,zbv,zbw,zbx,zby,zbz,zca,zcb,zcc,zcd,zce,zcf,zcg,zch,zci,zcj,zck,zcl,zcm,zcn,zco,zcp,zcq,zcr,zcs,zct,zcu,zcv,zcw,zcx,zcy,zcz,zda,zdb,zdc,zdd,zde,zdf,zdg,zdh,zdi,zdj,zdk,zdl,zdm,ev5,tbPf0,glob,hS,d0,dz,d8,dg]
                    exact resQ_3nil
                  · have dg : decide (((b.getD 1 0#8).toNat : Int) > 127) = false := decide_eq_false (by omega)
                    have hok : ¬ ((tkX b).toInt < 0 ∨ need (tkX b).toNat ≠ tkS b):=fun h=>by
                      rcases hbad.1 h with ⟨_,h⟩ | ⟨_,h⟩
                      · rw [h1,u8_eq0] at h; omega
                      · rw [h1] at h; omega
                    simp (maxSteps:=1000000) (disch:=first | omega | (simp only [nums_len,lnB] <;> omega) | fail) only [ev0,ev1,ev2,ev3,↓reduceIte,reduceCtorEq,zaa,zab,zac,zad,zae,zaf,zag,zah,zai,zaj,zak,zal,zam,zan,zao,zap,zaq,↓zar,↓zas,zat,zau,zav,zaw,zax,zay,zaz,zba,zbb,zbc,zbd,zbe,zbf,zbg,zbh,zbi,zbj,zbk,zbl,zbm,zbn,zbo,zbp,zbq,zbr,zbs,zbt,zbu,zbv,zbw,zbx,zby,zbz,zca,zcb,zcc,zcd,zce,zcf,zcg,zch,zci,zcj,zck,zcl,zcm,zcn,zco,zcp,zcq,zcr,zcs,zct,zcu,zcv,zcw,zcx,zcy,zcz,zda,zdb,zdc,zdd,zde,zdf,zdg,zdh,zdi,zdj,zdk,zdl,zdm,ev5,tbPf0,glob,hS,d0,dz,d8,dg]
                    rw [if_neg hok] at hE
                    have hN : tkN b = (tkX b).toNat:=by rw [tkN,if_pos hE]
                    have hR : tkR b = b.drop (1 + tkS b):=by rw [tkR,if_pos hE]
                    rw [hN,hR,hE]
                    generalize hl : (b.drop 1).take (tkS b) = L at hX
                    have gL : ∀ k,k < tkS b→L.getD k 0#8 = b.getD (k + 1) 0#8:=fun k h=>by rw [← hl]; exact getD_dt b _ k h
                    have hti : (tkX b).toInt = ((tkX b).toNat : Int):=by
                      have hneg : ¬ (tkX b).toInt < 0:=fun h=>hok (.inl h)
                      rw [BitVec.toInt_eq_toNat_cond] at hneg ⊢
                      split at hneg
                      · rename_i h2; rw [if_pos h2]
                      · omega
                    refine loopQ_of (fun n σ=>∃ k,k ≤ tkS b ∧ n = tkS b - k ∧ σ.slots 7 = .raw (.int .i64 ((k + 1 : Nat) : Int)) ∧ σ.slots 0 = .sl b.length (nums .u8 b) .bor ∧ σ.slots 5 = .raw (.int .i64 (tkS b : Int)) ∧ σ.slots 6 = .raw (.int .i64 (accF L k).toInt) ∧ σ.gen = (fun _=>0) ∧ σ.used = (fun _=>false)) (tkS b) ?_ ?_
                    · refine ⟨0,by omega,by omega,?_⟩
                      simp (maxSteps:=1000000) (disch:=first | omega | (simp only [nums_len,lnB] <;> omega) | fail) only [ev0,ev1,ev2,ev3,↓reduceIte,reduceCtorEq,zaa,zab,zac,zad,zae,zaf,zag,zah,zai,zaj,zak,zal,zam,zan,zao,zap,zaq,↓zar,↓zas,zat,zau,zav,zaw,zax,zay,zaz,zba,zbb,zbc,zbd,zbe,zbf,zbg,zbh,zbi,zbj,zbk,zbl,zbm,zbn,zbo,zbp,zbq,zbr,zbs,zbt,zbu,zbv,zbw,zbx,zby,zbz,zca,zcb,zcc,zcd,zce,zcf,zcg,zch,zci,zcj,zck,zcl,zcm,zcn,zco,zcp,zcq,zcr,zcs,zct,zcu,zcv,zcw,zcx,zcy,zcz,zda,zdb,zdc,zdd,zde,zdf,zdg,zdh,zdi,zdj,zdk,zdl,zdm,ev5,tbPf0,glob]
                      exact ⟨rfl,rfl⟩
                    · rintro n ⟨sl,gn,bx,us⟩ ⟨k,hk,rfl,s7,s0,s5,s6,sg,su⟩
                      dsimp only at s7 s0 s5 s6 sg su
                      subst sg su
                      simp (maxSteps:=1000000) (disch:=first | omega | (simp only [nums_len,lnB] <;> omega) | fail) only [ev0,ev1,ev2,ev3,↓reduceIte,reduceCtorEq,zaa,zab,zac,zad,zae,zaf,zag,zah,zai,zaj,zak,zal,zam,zan,zao,zap,zaq,↓zar,↓zas,zat,zau,zav,zaw,zax,zay,zaz,zba,zbb,zbc,zbd,zbe,zbf,zbg,zbh,zbi,zbj,zbk,zbl,zbm,zbn,zbo,zbp,zbq,zbr,zbs,zbt,zbu,zbv,zbw,zbx,zby,zbz,zca,zcb,zcc,zcd,zce,zcf,zcg,zch,zci,zcj,zck,zcl,zcm,zcn,zco,zcp,zcq,zcr,zcs,zct,zcu,zcv,zcw,zcx,zcy,zcz,zda,zdb,zdc,zdd,zde,zdf,zdg,zdh,zdi,zdj,zdk,zdl,zdm,ev5,tbPf0,glob,s7,s0,s5,s6]
                      refine condQ_dec (fun hlt=>?_) (fun hge=>?_)
                      · have hlt : k < tkS b := by omega
                        have hg:=gL k hlt
                        simp (maxSteps:=1000000) (disch:=first | omega | (simp only [nums_len,lnB] <;> omega) | fail) only [ev0,ev1,ev2,ev3,↓reduceIte,reduceCtorEq,zaa,zab,zac,zad,zae,zaf,zag,zah,zai,zaj,zak,zal,zam,zan,zao,zap,zaq,↓zar,↓zas,zat,zau,zav,zaw,zax,zay,zaz,zba,zbb,zbc,zbd,zbe,zbf,zbg,zbh,zbi,zbj,zbk,zbl,zbm,zbn,zbo,zbp,zbq,zbr,zbs,zbt,zbu,zbv,zbw,zbx,zby,zbz,zca,zcb,zcc,zcd,zce,zcf,zcg,zch,zci,zcj,zck,zcl,zcm,zcn,zco,zcp,zcq,zcr,zcs,zct,zcu,zcv,zcw,zcx,zcy,zcz,zda,zdb,zdc,zdd,zde,zdf,zdg,zdh,zdi,zdj,zdk,zdl,zdm,ev5,tbPf0,glob,s7,s0,s5,s6]
                        refine ⟨tkS b - (k + 1),by omega,k + 1,by omega,rfl,rfl,?_⟩
                        rw [accF,hg]
                      · have hk : k = tkS b := by omega
                        subst hk
                        rw [hX] at s6
                        simp (maxSteps:=1000000) (disch:=first | omega | (simp only [nums_len,lnB] <;> omega) | fail) only [ev0,ev1,ev2,ev3,↓reduceIte,reduceCtorEq,zaa,zab,zac,zad,zae,zaf,zag,zah,zai,zaj,zak,zal,zam,zan,zao,zap,zaq,↓zar,↓zas,zat,zau,zav,zaw,zax,zay,zaz,zba,zbb,zbc,zbd,zbe,zbf,zbg,zbh,zbi,zbj,zbk,zbl,zbm,zbn,zbo,zbp,zbq,zbr,zbs,zbt,zbu,zbv,zbw,zbx,zby,zbz,zca,zcb,zcc,zcd,zce,zcf,zcg,zch,zci,zcj,zck,zcl,zcm,zcn,zco,zcp,zcq,zcr,zcs,zct,zcu,zcv,zcw,zcx,zcy,zcz,zda,zdb,zdc,zdd,zde,zdf,zdg,zdh,zdi,zdj,zdk,zdl,zdm,ev5,tbPf0,glob,s7,s0,s5,s6]
                        rw [hti,Nat.add_comm 1 (tkS b)]
                        exact resQ_3
                · have d8 : ((tkS b : Int) == 8) = false := by rw [beq_eq_false_iff_ne]; omega
                  have hok : ¬ ((tkX b).toInt < 0 ∨ need (tkX b).toNat ≠ tkS b):=fun h=>by
                    rcases hbad.1 h with ⟨_,h⟩ | ⟨h,_⟩
                    · rw [h1,u8_eq0] at h; omega
                    · omega
                  simp (maxSteps:=1000000) (disch:=first | omega | (simp only [nums_len,lnB] <;> omega) | fail) only [ev0,ev1,ev2,ev3,↓reduceIte,reduceCtorEq,zaa,zab,zac,zad,zae,zaf,zag,zah,zai,zaj,zak,zal,zam,zan,zao,zap,zaq,↓zar,↓zas,zat,zau,zav,zaw,zax,zay,zaz,zba,zbb,zbc,zbd,zbe,zbf,zbg,zbh,zbi,zbj,zbk,zbl,zbm,zbn,zbo,zbp,zbq,zbr,zbs,zbt,zbu,zbv,zbw,zbx,zby,zbz,zca,zcb,zcc,zcd,zce,zcf,zcg,zch,zci,zcj,zck,zcl,zcm,zcn,zco,zcp,zcq,zcr,zcs,zct,zcu,zcv,zcw,zcx,zcy,zcz,zda,zdb,zdc,zdd,zde,zdf,zdg,zdh,zdi,zdj,zdk,zdl,zdm,ev5,tbPf0,glob,hS,d0,dz,d8]
                  rw [if_neg hok] at hE
                  have hN : tkN b = (tkX b).toNat:=by rw [tkN,if_pos hE]
                  have hR : tkR b = b.drop (1 + tkS b):=by rw [tkR,if_pos hE]
                  rw [hN,hR,hE]
                  generalize hl : (b.drop 1).take (tkS b) = L at hX
                  have gL : ∀ k,k < tkS b→L.getD k 0#8 = b.getD (k + 1) 0#8:=fun k h=>by rw [← hl]; exact getD_dt b _ k h
                  have hti : (tkX b).toInt = ((tkX b).toNat : Int):=by
                    have hneg : ¬ (tkX b).toInt < 0:=fun h=>hok (.inl h)
                    rw [BitVec.toInt_eq_toNat_cond] at hneg ⊢
                    split at hneg
                    · rename_i h2; rw [if_pos h2]
                    · omega
                  refine loopQ_of (fun n σ=>∃ k,k ≤ tkS b ∧ n = tkS b - k ∧ σ.slots 7 = .raw (.int .i64 ((k + 1 : Nat) : Int)) ∧ σ.slots 0 = .sl b.length (nums .u8 b) .bor ∧ σ.slots 5 = .raw (.int .i64 (tkS b : Int)) ∧ σ.slots 6 = .raw (.int .i64 (accF L k).toInt) ∧ σ.gen = (fun _=>0) ∧ σ.used = (fun _=>false)) (tkS b) ?_ ?_
                  · refine ⟨0,by omega,by omega,?_⟩
                    simp (maxSteps:=1000000) (disch:=first | omega | (simp only [nums_len,lnB] <;> omega) | fail) only [ev0,ev1,ev2,ev3,↓reduceIte,reduceCtorEq,zaa,zab,zac,zad,zae,zaf,zag,zah,zai,zaj,zak,zal,zam,zan,zao,zap,zaq,↓zar,↓zas,zat,zau,zav,zaw,zax,zay,zaz,zba,zbb,zbc,zbd,zbe,zbf,zbg,zbh,zbi,zbj,zbk,zbl,zbm,zbn,zbo,zbp,zbq,zbr,zbs,zbt,zbu,zbv,zbw,zbx,zby,zbz,zca,zcb,zcc,zcd,zce,zcf,zcg,zch,zci,zcj,zck,zcl,zcm,zcn,zco,zcp,zcq,zcr,zcs,zct,zcu,zcv,zcw,zcx,zcy,zcz,zda,zdb,zdc,zdd,zde,zdf,zdg,zdh,zdi,zdj,zdk,zdl,zdm,ev5,tbPf0,glob]
                    exact ⟨rfl,rfl⟩
                  · rintro n ⟨sl,gn,bx,us⟩ ⟨k,hk,rfl,s7,s0,s5,s6,sg,su⟩
                    dsimp only at s7 s0 s5 s6 sg su
                    subst sg su
                    simp (maxSteps:=1000000) (disch:=first | omega | (simp only [nums_len,lnB] <;> omega) | fail) only [ev0,ev1,ev2,ev3,↓reduceIte,reduceCtorEq,zaa,zab,zac,zad,zae,zaf,zag,zah,zai,zaj,zak,zal,zam,zan,zao,zap,zaq,↓zar,↓zas,zat,zau,zav,zaw,zax,zay,zaz,zba,zbb,zbc,zbd,zbe,zbf,zbg,zbh,zbi,zbj,zbk,zbl,zbm,zbn,zbo,zbp,zbq,zbr,zbs,zbt,zbu,zbv,zbw,zbx,zby,zbz,zca,zcb,zcc,zcd,zce,zcf,zcg,zch,zci,zcj,zck,zcl,zcm,zcn,zco,zcp,zcq,zcr,zcs,zct,zcu,zcv,zcw,zcx,zcy,zcz,zda,zdb,zdc,zdd,zde,zdf,zdg,zdh,zdi,zdj,zdk,zdl,zdm,ev5,tbPf0,glob,s7,s0,s5,s6]
                    refine condQ_dec (fun hlt=>?_) (fun hge=>?_)
                    · have hlt : k < tkS b := by omega
                      have hg:=gL k hlt
                      simp (maxSteps:=1000000) (disch:=first | omega | (simp only [nums_len,lnB] <;> omega) | fail) only [ev0,ev1,ev2,ev3,↓reduceIte,reduceCtorEq,zaa,zab,zac,zad,zae,zaf,zag,zah,zai,zaj,zak,zal,zam,zan,zao,zap,zaq,↓zar,↓zas,zat,zau,zav,zaw,zax,zay,zaz,zba,zbb,zbc,zbd,zbe,zbf,zbg,zbh,zbi,zbj,zbk,zbl,zbm,zbn,zbo,zbp,zbq,zbr,zbs,zbt,zbu,zbv,zbw,zbx,zby,zbz,zca,zcb,zcc,zcd,zce,zcf,zcg,zch,zci,zcj,zck,zcl,zcm,zcn,zco,zcp,zcq,zcr,zcs,zct,zcu,zcv,zcw,zcx,zcy,zcz,zda,zdb,zdc,zdd,zde,zdf,zdg,zdh,zdi,zdj,zdk,zdl,zdm,ev5,tbPf0,glob,s7,s0,s5,s6]
                      refine ⟨tkS b - (k + 1),by omega,k + 1,by omega,rfl,rfl,?_⟩
                      rw [accF,hg]
                    · have hk : k = tkS b := by omega
                      subst hk
                      rw [hX] at s6
                      simp (maxSteps:=1000000) (disch:=first | omega | (simp only [nums_len,lnB] <;> omega) | fail) only [ev0,ev1,ev2,ev3,↓reduceIte,reduceCtorEq,zaa,zab,zac,zad,zae,zaf,zag,zah,zai,zaj,zak,zal,zam,zan,zao,zap,zaq,↓zar,↓zas,zat,zau,zav,zaw,zax,zay,zaz,zba,zbb,zbc,zbd,zbe,zbf,zbg,zbh,zbi,zbj,zbk,zbl,zbm,zbn,zbo,zbp,zbq,zbr,zbs,zbt,zbu,zbv,zbw,zbx,zby,zbz,zca,zcb,zcc,zcd,zce,zcf,zcg,zch,zci,zcj,zck,zcl,zcm,zcn,zco,zcp,zcq,zcr,zcs,zct,zcu,zcv,zcw,zcx,zcy,zcz,zda,zdb,zdc,zdd,zde,zdf,zdg,zdh,zdi,zdj,zdk,zdl,zdm,ev5,tbPf0,glob,s7,s0,s5,s6]
                      rw [hti,Nat.add_comm 1 (tkS b)]
                      exact resQ_3
    · cases hr
  · cases hr
end Go.Proofs.YtddeffdgldjdjaaDoor.W
