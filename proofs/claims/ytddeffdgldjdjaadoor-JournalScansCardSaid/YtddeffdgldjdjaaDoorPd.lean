/- A number is taken from the front of bytes: what the walks come to. -/
import Derived.Test.YtddeffdgldjdjaaDoorPc
namespace Go.Proofs.YtddeffdgldjdjaaDoor.W
set_option linter.unusedSimpArgs false
set_option linter.unusedVariables false
set_option linter.defProp false
open Go Go.Abs
open Nat renaming reduceAdd→zaa,reduceSub→zab,reduceMul→zac,reduceLT→zad,reduceLeDiff→zae,reduceEqDiff→zaf,reduceBEq→zag
open BitVec renaming reduceOfInt→zah
open Int renaming reduceLE→zai,reduceLT→zaj,reduceGT→zak,reduceGE→zal,reduceNeg→zam,reduceAdd→zan,reduceSub→zao,reduceMul→zap,reduceToNat→zaq
open Go.Abs renaming bind_go→zar,map_go→zas,wantedV→zat,isWrite→zau,grow→zav,write→zaw,ofV→zax,start→zaz,strip→zba,endQ→zbb,resV→zbc,rawsRes→zbd,rawRes→zbe,exports→zbf,export1→zbg,isSelf→zbl,convSelf→zbm,convV→zbn,loadV→zbo,storeV→zbp,fieldAddrV→zbq,fieldV→zbr,indexAddrV→zbs,indexV→zbt,partV→zbu,isAggK→zbv,isStr→zbw,place→zbx,ipS→zby,lenV→zbz,min2V→zca,makeV→zcb,freshSl→zcc,sliceV→zcd,boundOr→zce,bound→zcf,bounds→zcg,cutFl→zch,copyV→zci,slCells→zcj,srcV→zck,appendV→zcl,room→zcm,zerosOf→zcn,eqNeg→zco,kd→zcp,takeR→zcq,hasViewL→zcr,hasView→zcs,freshR→zct,freshC→zcu,snapAll→zcv,snap→zcw,snapL→zcx,flatL→zcy,pureL→zcz,pureA→zda,fillC→zdb,arrOK→zdc,oneA→zdd,partB→zde,ren1→zdg,applyW→zdi,useL→zdj,isGen→zdl,startG→zdm
open Go.Abs.AV renaming cells→zay,laid→zdf
open Go.Abs.AS renaming grown→zbh,put→zbi,mute→zdk
open Go.Abs.Env renaming know→zbj,boxed→zbk
open Go.Abs.CR renaming gr→zdh
theorem wrap_u8i (c : BitVec 8) : IntKind.i64.wrap (c.toNat : Int) = (c.toNat : Int):=by
  have:=c.isLt
  exact i64_is _ (by omega)
def accF (l : List (BitVec 8)) : Nat → BitVec 64
  | 0=>0#64
  | k + 1=>accF l k <<< 8 ||| BitVec.ofNat 64 (l.getD k 0#8).toNat
def tkS (b : List (BitVec 8)) : Nat:=(b.getD 0 0#8).toNat
def tkX (b : List (BitVec 8)) : BitVec 64:=accF ((b.drop 1).take (tkS b)) (tkS b)
def tkE (b : List (BitVec 8)) : Nat :=
  if b.length = 0 then 3 else if tkS b > 8 then 80 else if b.length < 1 + tkS b then 3 else if (tkX b).toInt < 0 ∨ need (tkX b).toNat ≠ tkS b then 80 else 0
def tkN (b : List (BitVec 8)) : Nat:=if tkE b = 0 then (tkX b).toNat else 0
def tkR (b : List (BitVec 8)) : List (BitVec 8):=if tkE b = 0 then b.drop (1 + tkS b) else []
def pf165 : List AV → Option AV
  | [v]=>(row? .u8 8 v).bind fun b=>if b.length ≤ 150000000000000 then some (.tup [.raw (.int .i64 (tkN b : Int)),.sl (tkR b).length (nums .u8 (tkR b)) .bor,.raw (.int .i64 (tkE b : Int))]) else none
  | _=>none
theorem resQ_3nil {u v : Value} : ResQ (some (.tup [.raw u,.raw (.slice none 0 0),.raw v])) (.tup [.raw u,.sl 0 [] .bor,.raw v]) :=
  ⟨_,rfl,.tup rfl fun j x r hx hr=>by
    match j with
    | 0=>simp at hx hr; subst hx hr; exact .same _ _
    | 1=>simp at hx hr; subst hx hr; exact .nilb _
    | 2=>simp at hx hr; subst hx hr; exact .same _ _
    | j + 3=>simp at hx⟩
theorem resQ_3 {u v : Value} {n : Nat} {xs : List AV} {fl : Fl} : ResQ (some (.tup [.raw u,.sl n xs fl,.raw v])) (.tup [.raw u,.sl n xs .bor,.raw v]) :=
  ⟨_,rfl,.tup rfl fun j x r hx hr=>by
    match j with
    | 0=>simp at hx hr; subst hx hr; exact .same _ _
    | 1=>simp at hx hr; subst hx hr; exact .bor _ _ _ _
    | 2=>simp at hx hr; subst hx hr; exact .same _ _
    | j + 3=>simp at hx⟩
theorem tk_no {b : List (BitVec 8)} {e : Nat} (h : tkE b = e) (h0 : e ≠ 0) : AV.tup [.raw (.int .i64 (tkN b : Int)),.sl (tkR b).length (nums .u8 (tkR b)) .bor,.raw (.int .i64 (tkE b : Int))] = .tup [.raw (.int .i64 0),.sl 0 [] .bor,.raw (.int .i64 (e : Int))]:=by
  have h1 : tkN b = 0:=by rw [tkN,if_neg (by omega)]
  have h2 : tkR b = []:=by rw [tkR,if_neg (by omega)]
  rw [h1,h2,h]
  rfl
theorem z00 : (((0 : Nat) : Int) == 0) = true:=rfl
theorem ne_cast (a b : Nat) : ((a : Int) != (b : Int)) = decide (a ≠ b):=by
  by_cases h : a = b
  · subst h; simp
  · have : ¬ ((a : Int) = (b : Int)) := by omega
    simp [h,this]
set_option maxHeartbeats 4000000
def tbPd0:=(And.intro (And.intro (And.intro @teE (And.intro @E2_te @E2_gs)) (And.intro (And.intro @E2_dyn @E2_glob) (And.intro @E2_mu @E2_109))) (And.intro (And.intro @E2_90 (And.intro @E2_136 @pf90_at)) (And.intro (And.intro @pf140_nat @pf136_at) (And.intro @need_int @wrap_u8i))))
theorem sound165 : SoundV Tryd.prog glob 165 pf165:=by
  refine SoundV.walk E2 ok2 mixed Tryd.func165 rfl Tryd.call165 (by kernel_rfl) ?_
  intro args r hr
  unfold pf165 at hr
  split at hr
  · simp only [Option.bind_eq_some_iff] at hr
    obtain ⟨b,h1,hr⟩:=hr
    split at hr
    · rename_i hc
      cases hr
      obtain ⟨fl,rfl⟩:=row?_of h1
      rw [Tryd.ntmps165,Tryd.results165]
      refine ⟨by simp,?_⟩
      have hE : tkE b = if b.length = 0 then 3 else if tkS b > 8 then 80 else if b.length < 1 + tkS b then 3 else if (tkX b).toInt < 0 ∨ need (tkX b).toNat ≠ tkS b then 80 else 0:=rfl
      by_cases c0 : b.length = 0
      · rw [if_pos c0] at hE
        rw [tk_no hE (by decide)]
        simp (maxSteps:=1000000) (disch:=first | omega | (simp only [nums_len,lnB] <;> omega) | fail) only [ev0,ev1,ev2,ev3,↓reduceIte,reduceCtorEq,zaa,zab,zac,zad,zae,zaf,zag,zah,zai,zaj,zak,zal,zam,zan,zao,zap,zaq,↓zar,↓zas,zat,zau,zav,zaw,zax,zay,zaz,zba,zbb,zbc,zbd,zbe,zbf,zbg,zbh,zbi,zbj,zbk,zbl,zbm,zbn,zbo,zbp,zbq,zbr,zbs,zbt,zbu,zbv,zbw,zbx,zby,zbz,zca,zcb,zcc,zcd,zce,zcf,zcg,zch,zci,zcj,zck,zcl,zcm,zcn,zco,zcp,zcq,zcr,zcs,zct,zcu,zcv,zcw,zcx,zcy,zcz,zda,zdb,zdc,zdd,zde,zdf,zdg,zdh,zdi,zdj,zdk,zdl,zdm,ev5,tbPd0,glob,c0,z00]
        exact resQ_3nil
      · rw [if_neg c0] at hE
        have c0' : ((b.length : Int) == 0) = false:=by rw [beq_eq_false_iff_ne]; omega
        have hS : (b.getD 0 0#8).toNat = tkS b:=rfl
        simp (maxSteps:=1000000) (disch:=first | omega | (simp only [nums_len,lnB] <;> omega) | fail) only [ev0,ev1,ev2,ev3,↓reduceIte,reduceCtorEq,zaa,zab,zac,zad,zae,zaf,zag,zah,zai,zaj,zak,zal,zam,zan,zao,zap,zaq,↓zar,↓zas,zat,zau,zav,zaw,zax,zay,zaz,zba,zbb,zbc,zbd,zbe,zbf,zbg,zbh,zbi,zbj,zbk,zbl,zbm,zbn,zbo,zbp,zbq,zbr,zbs,zbt,zbu,zbv,zbw,zbx,zby,zbz,zca,zcb,zcc,zcd,zce,zcf,zcg,zch,zci,zcj,zck,zcl,zcm,zcn,zco,zcp,zcq,zcr,zcs,zct,zcu,zcv,zcw,zcx,zcy,zcz,zda,zdb,zdc,zdd,zde,zdf,zdg,zdh,zdi,zdj,zdk,zdl,zdm,ev5,tbPd0,glob,c0',hS]
        refine condQ_dec (fun c1=>?_) (fun c1=>?_)
        · rw [if_pos (by omega)] at hE
          rw [tk_no hE (by decide)]
          simp (maxSteps:=1000000) (disch:=first | omega | (simp only [nums_len,lnB] <;> omega) | fail) only [ev0,ev1,ev2,ev3,↓reduceIte,reduceCtorEq,zaa,zab,zac,zad,zae,zaf,zag,zah,zai,zaj,zak,zal,zam,zan,zao,zap,zaq,↓zar,↓zas,zat,zau,zav,zaw,zax,zay,zaz,zba,zbb,zbc,zbd,zbe,zbf,zbg,zbh,zbi,zbj,zbk,zbl,zbm,zbn,zbo,zbp,zbq,zbr,zbs,zbt,zbu,zbv,zbw,zbx,zby,zbz,zca,zcb,zcc,zcd,zce,zcf,zcg,zch,zci,zcj,zck,zcl,zcm,zcn,zco,zcp,zcq,zcr,zcs,zct,zcu,zcv,zcw,zcx,zcy,zcz,zda,zdb,zdc,zdd,zde,zdf,zdg,zdh,zdi,zdj,zdk,zdl,zdm,ev5,tbPd0,glob]
          exact resQ_3nil
        · have c1 : ¬ tkS b > 8 := by omega
          rw [if_neg c1] at hE
          simp (maxSteps:=1000000) (disch:=first | omega | (simp only [nums_len,lnB] <;> omega) | fail) only [ev0,ev1,ev2,ev3,↓reduceIte,reduceCtorEq,zaa,zab,zac,zad,zae,zaf,zag,zah,zai,zaj,zak,zal,zam,zan,zao,zap,zaq,↓zar,↓zas,zat,zau,zav,zaw,zax,zay,zaz,zba,zbb,zbc,zbd,zbe,zbf,zbg,zbh,zbi,zbj,zbk,zbl,zbm,zbn,zbo,zbp,zbq,zbr,zbs,zbt,zbu,zbv,zbw,zbx,zby,zbz,zca,zcb,zcc,zcd,zce,zcf,zcg,zch,zci,zcj,zck,zcl,zcm,zcn,zco,zcp,zcq,zcr,zcs,zct,zcu,zcv,zcw,zcx,zcy,zcz,zda,zdb,zdc,zdd,zde,zdf,zdg,zdh,zdi,zdj,zdk,zdl,zdm,ev5,tbPd0,glob]
          refine condQ_dec (fun c2=>?_) (fun c2=>?_)
          · rw [if_pos (by omega)] at hE
            rw [tk_no hE (by decide)]
            simp (maxSteps:=1000000) (disch:=first | omega | (simp only [nums_len,lnB] <;> omega) | fail) only [ev0,ev1,ev2,ev3,↓reduceIte,reduceCtorEq,zaa,zab,zac,zad,zae,zaf,zag,zah,zai,zaj,zak,zal,zam,zan,zao,zap,zaq,↓zar,↓zas,zat,zau,zav,zaw,zax,zay,zaz,zba,zbb,zbc,zbd,zbe,zbf,zbg,zbh,zbi,zbj,zbk,zbl,zbm,zbn,zbo,zbp,zbq,zbr,zbs,zbt,zbu,zbv,zbw,zbx,zby,zbz,zca,zcb,zcc,zcd,zce,zcf,zcg,zch,zci,zcj,zck,zcl,zcm,zcn,zco,zcp,zcq,zcr,zcs,zct,zcu,zcv,zcw,zcx,zcy,zcz,zda,zdb,zdc,zdd,zde,zdf,zdg,zdh,zdi,zdj,zdk,zdl,zdm,ev5,tbPd0,glob]
            exact resQ_3nil
          · have c2 : ¬ b.length < 1 + tkS b := by omega
            rw [if_neg c2] at hE
            simp (maxSteps:=1000000) (disch:=first | omega | (simp only [nums_len,lnB] <;> omega) | fail) only [ev0,ev1,ev2,ev3,↓reduceIte,reduceCtorEq,zaa,zab,zac,zad,zae,zaf,zag,zah,zai,zaj,zak,zal,zam,zan,zao,zap,zaq,↓zar,↓zas,zat,zau,zav,zaw,zax,zay,zaz,zba,zbb,zbc,zbd,zbe,zbf,zbg,zbh,zbi,zbj,zbk,zbl,zbm,zbn,zbo,zbp,zbq,zbr,zbs,zbt,zbu,zbv,zbw,zbx,zby,zbz,zca,zcb,zcc,zcd,zce,zcf,zcg,zch,zci,zcj,zck,zcl,zcm,zcn,zco,zcp,zcq,zcr,zcs,zct,zcu,zcv,zcw,zcx,zcy,zcz,zda,zdb,zdc,zdd,zde,zdf,zdg,zdh,zdi,zdj,zdk,zdl,zdm,ev5,tbPd0,glob]
            have hX : accF ((b.drop 1).take (tkS b)) (tkS b) = tkX b:=rfl
            have lL : ((b.drop 1).take (tkS b)).length = tkS b:=by rw [List.length_take,List.length_drop]; omega
            have hL : (b.drop 1).take (1 + tkS b - 1) = (b.drop 1).take (tkS b):=by rw [show 1 + tkS b - 1 = tkS b by omega]
            rw [hL]
            generalize hl : (b.drop 1).take (tkS b) = L at hX lL ⊢
            refine loopQ_of (fun n σ=>∃ k,k ≤ tkS b ∧ n = tkS b - k ∧ σ.slots 30 = .raw (.int .i64 (k : Int)) ∧ σ.slots 29 = .raw (.int .i64 (tkS b : Int)) ∧ σ.slots 28 = .sl (tkS b) (nums .u8 L) .bor ∧ σ.slots 0 = .sl b.length (nums .u8 b) .bor ∧ σ.slots 5 = .raw (.int .i64 (tkS b : Int)) ∧ σ.slots 6 = .raw (.int .i64 (accF L k).toInt)) (tkS b) ?_ ?_
            · refine ⟨0,by omega,by omega,?_⟩
              simp (maxSteps:=1000000) (disch:=first | omega | (simp only [nums_len,lnB] <;> omega) | fail) only [ev0,ev1,ev2,ev3,↓reduceIte,reduceCtorEq,zaa,zab,zac,zad,zae,zaf,zag,zah,zai,zaj,zak,zal,zam,zan,zao,zap,zaq,↓zar,↓zas,zat,zau,zav,zaw,zax,zay,zaz,zba,zbb,zbc,zbd,zbe,zbf,zbg,zbh,zbi,zbj,zbk,zbl,zbm,zbn,zbo,zbp,zbq,zbr,zbs,zbt,zbu,zbv,zbw,zbx,zby,zbz,zca,zcb,zcc,zcd,zce,zcf,zcg,zch,zci,zcj,zck,zcl,zcm,zcn,zco,zcp,zcq,zcr,zcs,zct,zcu,zcv,zcw,zcx,zcy,zcz,zda,zdb,zdc,zdd,zde,zdf,zdg,zdh,zdi,zdj,zdk,zdl,zdm,ev5,tbPd0,glob]
              exact ⟨rfl,i64_eq (by omega),row_eq (by omega) rfl,rfl⟩
            · rintro n ⟨sl,gn,bx,us⟩ ⟨k,hk,rfl,s30,s29,s28,s0,s5,s6⟩
              dsimp only at s30 s29 s28 s0 s5 s6
              simp (maxSteps:=1000000) (disch:=first | omega | (simp only [nums_len,lnB] <;> omega) | fail) only [ev0,ev1,ev2,ev3,↓reduceIte,reduceCtorEq,zaa,zab,zac,zad,zae,zaf,zag,zah,zai,zaj,zak,zal,zam,zan,zao,zap,zaq,↓zar,↓zas,zat,zau,zav,zaw,zax,zay,zaz,zba,zbb,zbc,zbd,zbe,zbf,zbg,zbh,zbi,zbj,zbk,zbl,zbm,zbn,zbo,zbp,zbq,zbr,zbs,zbt,zbu,zbv,zbw,zbx,zby,zbz,zca,zcb,zcc,zcd,zce,zcf,zcg,zch,zci,zcj,zck,zcl,zcm,zcn,zco,zcp,zcq,zcr,zcs,zct,zcu,zcv,zcw,zcx,zcy,zcz,zda,zdb,zdc,zdd,zde,zdf,zdg,zdh,zdi,zdj,zdk,zdl,zdm,ev5,tbPd0,glob,lL,s30,s29,s28,s0,s5,s6]
              refine condQ_dec (fun hlt=>?_) (fun hge=>?_)
              · have hlt : k < tkS b := by omega
                simp (maxSteps:=1000000) (disch:=first | omega | (simp only [nums_len,lnB] <;> omega) | fail) only [ev0,ev1,ev2,ev3,↓reduceIte,reduceCtorEq,zaa,zab,zac,zad,zae,zaf,zag,zah,zai,zaj,zak,zal,zam,zan,zao,zap,zaq,↓zar,↓zas,zat,zau,zav,zaw,zax,zay,zaz,zba,zbb,zbc,zbd,zbe,zbf,zbg,zbh,zbi,zbj,zbk,zbl,zbm,zbn,zbo,zbp,zbq,zbr,zbs,zbt,zbu,zbv,zbw,zbx,zby,zbz,zca,zcb,zcc,zcd,zce,zcf,zcg,zch,zci,zcj,zck,zcl,zcm,zcn,zco,zcp,zcq,zcr,zcs,zct,zcu,zcv,zcw,zcx,zcy,zcz,zda,zdb,zdc,zdd,zde,zdf,zdg,zdh,zdi,zdj,zdk,zdl,zdm,ev5,tbPd0,glob,lL,s30,s29,s28,s0,s5,s6]
                exact ⟨tkS b - (k + 1),by omega,k + 1,by omega,rfl,rfl,rfl⟩
              · have hk : k = tkS b := by omega
                subst hk
                rw [hX] at s6
                have hx64:=(tkX b).isLt
                by_cases hneg : (tkX b).toInt < 0
                · rw [if_pos (.inl hneg)] at hE
                  rw [tk_no hE (by decide)]
                  simp (maxSteps:=1000000) (disch:=first | omega | (simp only [nums_len,lnB] <;> omega) | fail) only [ev0,ev1,ev2,ev3,↓reduceIte,reduceCtorEq,zaa,zab,zac,zad,zae,zaf,zag,zah,zai,zaj,zak,zal,zam,zan,zao,zap,zaq,↓zar,↓zas,zat,zau,zav,zaw,zax,zay,zaz,zba,zbb,zbc,zbd,zbe,zbf,zbg,zbh,zbi,zbj,zbk,zbl,zbm,zbn,zbo,zbp,zbq,zbr,zbs,zbt,zbu,zbv,zbw,zbx,zby,zbz,zca,zcb,zcc,zcd,zce,zcf,zcg,zch,zci,zcj,zck,zcl,zcm,zcn,zco,zcp,zcq,zcr,zcs,zct,zcu,zcv,zcw,zcx,zcy,zcz,zda,zdb,zdc,zdd,zde,zdf,zdg,zdh,zdi,zdj,zdk,zdl,zdm,ev5,tbPd0,glob,lL,s30,s29,s28,s0,s5,s6,hneg]
                  exact resQ_3nil
                · by_cases hnd : need (tkX b).toNat ≠ tkS b
                  · rw [if_pos (.inr hnd)] at hE
                    rw [tk_no hE (by decide)]
                    have hb64:=blen_le _ hx64
                    have hndT:=eq_true hnd
                    simp (maxSteps:=1000000) (disch:=first | omega | (simp only [nums_len,lnB] <;> omega) | fail) only [ev0,ev1,ev2,ev3,↓reduceIte,reduceCtorEq,zaa,zab,zac,zad,zae,zaf,zag,zah,zai,zaj,zak,zal,zam,zan,zao,zap,zaq,↓zar,↓zas,zat,zau,zav,zaw,zax,zay,zaz,zba,zbb,zbc,zbd,zbe,zbf,zbg,zbh,zbi,zbj,zbk,zbl,zbm,zbn,zbo,zbp,zbq,zbr,zbs,zbt,zbu,zbv,zbw,zbx,zby,zbz,zca,zcb,zcc,zcd,zce,zcf,zcg,zch,zci,zcj,zck,zcl,zcm,zcn,zco,zcp,zcq,zcr,zcs,zct,zcu,zcv,zcw,zcx,zcy,zcz,zda,zdb,zdc,zdd,zde,zdf,zdg,zdh,zdi,zdj,zdk,zdl,zdm,ev5,tbPd0,glob,lL,s30,s29,s28,s0,s5,s6,hneg,ne_cast,hndT]
                    exact resQ_3nil
                  · rw [if_neg (by omega)] at hE
                    have hb64:=blen_le _ hx64
                    have hN : tkN b = (tkX b).toNat:=by rw [tkN,if_pos hE]
                    have hR : tkR b = b.drop (1 + tkS b):=by rw [tkR,if_pos hE]
                    rw [hN,hR,hE]
                    have hnd' : need (tkX b).toNat = tkS b:=by omega
                    have hti : (tkX b).toInt = ((tkX b).toNat : Int):=by
                      rw [BitVec.toInt_eq_toNat_cond] at hneg ⊢
                      split at hneg
                      · rename_i h2; rw [if_pos h2]
                      · omega
                    simp (maxSteps:=1000000) (disch:=first | omega | (simp only [nums_len,lnB] <;> omega) | fail) only [ev0,ev1,ev2,ev3,↓reduceIte,reduceCtorEq,zaa,zab,zac,zad,zae,zaf,zag,zah,zai,zaj,zak,zal,zam,zan,zao,zap,zaq,↓zar,↓zas,zat,zau,zav,zaw,zax,zay,zaz,zba,zbb,zbc,zbd,zbe,zbf,zbg,zbh,zbi,zbj,zbk,zbl,zbm,zbn,zbo,zbp,zbq,zbr,zbs,zbt,zbu,zbv,zbw,zbx,zby,zbz,zca,zcb,zcc,zcd,zce,zcf,zcg,zch,zci,zcj,zck,zcl,zcm,zcn,zco,zcp,zcq,zcr,zcs,zct,zcu,zcv,zcw,zcx,zcy,zcz,zda,zdb,zdc,zdd,zde,zdf,zdg,zdh,zdi,zdj,zdk,zdl,zdm,ev5,tbPd0,glob,lL,s30,s29,s28,s0,s5,s6,hneg,ne_cast,hnd',ne_eq]
                    rw [hti]
                    exact resQ_3
    · cases hr
  · cases hr
end Go.Proofs.YtddeffdgldjdjaaDoor.W
