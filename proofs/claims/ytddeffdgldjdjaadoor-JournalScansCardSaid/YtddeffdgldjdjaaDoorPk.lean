/- Rows of numbers are taken from the front of bytes: what the walks come to. -/
import Derived.Test.YtddeffdgldjdjaaDoorPj
namespace Go.Proofs.YtddeffdgldjdjaaDoor.W
set_option linter.unusedSimpArgs false
set_option linter.unusedVariables false
set_option linter.defProp false
open Go Go.Abs
open Nat renaming reduceAdd→zaa,reduceSub→zab,reduceMul→zac,reduceLT→zad,reduceLeDiff→zae,reduceEqDiff→zaf,reduceBEq→zag
open BitVec renaming reduceOfInt→zah
open Int renaming reduceLE→zai,reduceLT→zaj,reduceGT→zak,reduceGE→zal,reduceNeg→zam,reduceAdd→zan,reduceSub→zao,reduceMul→zap,reduceToNat→zaq
open Go.Abs renaming bind_go→zar,map_go→zas,wantedV→zat,isWrite→zau,grow→zav,write→zaw,ofV→zax,start→zaz,strip→zba,endQ→zbb,resV→zbc,rawsRes→zbd,rawRes→zbe,exports→zbf,export1→zbg,isSelf→zbl,convSelf→zbm,convV→zbn,loadV→zbo,storeV→zbp,fieldAddrV→zbq,fieldV→zbr,indexAddrV→zbs,indexV→zbt,partV→zbu,isAggK→zbv,isStr→zbw,place→zbx,ipS→zby,lenV→zbz,min2V→zca,makeV→zcb,freshSl→zcc,sliceV→zcd,boundOr→zce,bound→zcf,bounds→zcg,cutFl→zch,copyV→zci,slCells→zcj,srcV→zck,appendV→zcl,room→zcm,zerosOf→zcn,eqNeg→zco,kd→zcp,takeR→zcq,hasViewL→zcr,hasView→zcs,freshR→zct,freshC→zcu,snapAll→zcv,snap→zcw,snapL→zcx,flatL→zcy,pureL→zcz,pureA→zda,fillC→zdb,arrOK→zdc,oneA→zdd,partB→zde,ren1→zdg,applyW→zdi,useL→zdj,isGen→zdl,startG→zdm
open Go.Abs.AV renaming cells→zay,laid→zdf
open Go.Abs.AS renaming grown→zbh,put→zbi,mute→zdk
open Go.Abs.Env renaming know→zbj,boxed→zbk
open Go.Abs.CR renaming gr→zdh
theorem rep1 (x : AV) : rep 1 [x] = [x]:=rfl
theorem one_le (x : AV) : (1 ≤ [x].length) = True:=by simp
theorem mem2 {i : Abs.Id} {x d e f : Nat} (h : i.slot ≠ d) : (i ∈ [(⟨x,d,e,f⟩ : Abs.Id)]) = False:=by
  rw [List.mem_singleton]; exact eq_false fun h2=>h (by rw [h2])
def tlF (b : List (BitVec 8)) : Nat → List Int × List (BitVec 8) × Nat
  | 0=>([],tkR b,0)
  | k + 1=>if (tlF b k).2.2 ≠ 0 then ([],[],(tlF b k).2.2) else if tkE (tlF b k).2.1 ≠ 0 then ([],[],tkE (tlF b k).2.1) else ((tlF b k).1 ++ [(tkN (tlF b k).2.1 : Int)],tkR (tlF b k).2.1,0)
theorem tlF_stop {b : List (BitVec 8)} {k e : Nat} (h : tlF b k = ([],[],e)) (h0 : e ≠ 0) : ∀ j,tlF b (k + j) = ([],[],e):=by
  intro j
  induction j with
  | zero=>exact h
  | succ j ih=>rw [show k + (j + 1) = k + j + 1 by omega,tlF,ih]; exact if_pos h0
theorem tkN_lt (b : List (BitVec 8)) : tkN b < 9223372036854775808:=by
  unfold tkN
  split
  · rename_i h
    have hneg : ¬ (tkX b).toInt < 0:=by
      intro hn
      unfold tkE at h
      split at h; · omega
      split at h; · omega
      split at h; · omega
      rw [if_pos (.inl hn)] at h; omega
    rw [toInt_neg] at hneg
    omega
  · omega
theorem tlF_ok (b : List (BitVec 8)) (k : Nat) : (tlF b k).1.length ≤ k ∧ (tlF b k).2.1.length ≤ b.length ∧ ∀ n ∈ (tlF b k).1,i64ok n:=by
  induction k with
  | zero=>exact ⟨Nat.le_refl _,tkR_le b,by simp [tlF]⟩
  | succ k ih =>
    obtain ⟨h1,h2,h3⟩:=ih
    rw [tlF]
    split
    · simp
    · split
      · simp
      · refine ⟨by simp; omega,Nat.le_trans (tkR_le _) h2,?_⟩
        intro n hn
        rcases List.mem_append.1 hn with h | h
        · exact h3 n h
        · rw [List.mem_singleton] at h
          subst h
          have:=tkN_lt (tlF b k).2.1
          unfold i64ok
          omega
def tlE (b : List (BitVec 8)) (m : Int) : Nat:=if tkE b ≠ 0 then tkE b else if (tkN b : Int) > m then 2 else (tlF b (tkN b)).2.2
def tlL (b : List (BitVec 8)) (m : Int) : List Int:=if tlE b m = 0 then (tlF b (tkN b)).1 else []
def tlR (b : List (BitVec 8)) (m : Int) : List (BitVec 8):=if tlE b m = 0 then (tlF b (tkN b)).2.1 else []
def pf169 : List AV → Option AV
  | [v,w] => (row? .u8 8 v).bind fun b => (int? w).bind fun m => if b.length ≤ 150000000000000 ∧ -9223372036854775808 ≤ m ∧ m ≤ 1000000 then
      some (.tup [.sl (tlL b m).length (ints .i64 (tlL b m)) .bor,.sl (tlR b m).length (nums .u8 (tlR b m)) .bor,.raw (.int .i64 (tlE b m : Int))]) else none
  | _=>none
theorem tl_no {b : List (BitVec 8)} {m : Int} {e : Nat} (h : tlE b m = e) (h0 : e ≠ 0) : AV.tup [.sl (tlL b m).length (ints .i64 (tlL b m)) .bor,.sl (tlR b m).length (nums .u8 (tlR b m)) .bor,.raw (.int .i64 (tlE b m : Int))] = .tup [.sl 0 [] .bor,.sl 0 [] .bor,.raw (.int .i64 (e : Int))]:=by
  have h1 : tlL b m = []:=by rw [tlL,if_neg (by omega)]
  have h2 : tlR b m = []:=by rw [tlR,if_neg (by omega)]
  rw [h1,h2,h]
  rfl
set_option maxHeartbeats 4000000
def tbPk0:=(And.intro (And.intro (And.intro (And.intro @teE @E7_te) (And.intro @E7_gs (And.intro @E7_dyn @E7_glob))) (And.intro (And.intro @E7_mu (And.intro @E7_80 @E7_104)) (And.intro @E7_147 (And.intro @E7_90 @E7_165)))) (And.intro (And.intro (And.intro @E7_78 @pf90_at) (And.intro @pf80_at (And.intro @pf165_at @ev4))) (And.intro (And.intro @mem1 (And.intro @mem2 @ne00)) (And.intro @ne10 (And.intro @rep1 @one_le)))))
theorem sound169 : SoundV Tryd.prog glob 169 pf169:=by
  refine SoundV.walk E7 ok7 mixed Tryd.func169 rfl Tryd.call169 (by kernel_rfl) ?_
  intro args r hr
  unfold pf169 at hr
  split at hr
  · simp only [Option.bind_eq_some_iff] at hr
    obtain ⟨b,h1,m,h2,hr⟩:=hr
    split at hr
    · rename_i hc
      obtain ⟨hc,hm⟩:=hc
      cases hr
      obtain ⟨fl,rfl⟩:=row?_of h1
      rw [int?_of h2,Tryd.ntmps169,Tryd.results169]
      refine ⟨by simp,?_⟩
      have hE : tlE b m = if tkE b ≠ 0 then tkE b else if (tkN b : Int) > m then 2 else (tlF b (tkN b)).2.2:=rfl
      have hle:=tkR_le b
      by_cases c0 : tkE b ≠ 0
      · rw [if_pos c0] at hE
        rw [tl_no hE c0]
        have d0 : ((tkE b : Int) != 0) = true:=by rw [bne_iff_ne]; omega
        simp (maxSteps:=1000000) (disch:=first | omega | (simp only [digF_len,putK_len,putB_len,lnB] <;> omega) | fail) only [ev0,ev1,ev2,ev3,↓reduceIte,reduceCtorEq,zaa,zab,zac,zad,zae,zaf,zag,zah,zai,zaj,zak,zal,zam,zan,zao,zap,zaq,↓zar,↓zas,zat,zau,zav,zaw,zax,zay,zaz,zba,zbb,zbc,zbd,zbe,zbf,zbg,zbh,zbi,zbj,zbk,zbl,zbm,zbn,zbo,zbp,zbq,zbr,zbs,zbt,zbu,zbv,zbw,zbx,zby,zbz,zca,zcb,zcc,zcd,zce,zcf,zcg,zch,zci,zcj,zck,zcl,zcm,zcn,zco,zcp,zcq,zcr,zcs,zct,zcu,zcv,zcw,zcx,zcy,zcz,zda,zdb,zdc,zdd,zde,zdf,zdg,zdh,zdi,zdj,zdk,zdl,zdm,ev5,tbPk0,glob,not_false_eq_true,d0]
        exact resQ_4nil
      · rw [if_neg c0] at hE
        have d0 : ((tkE b : Int) != 0) = false:=by rw [Nat.eq_zero_of_not_pos (show ¬ 0 < tkE b by omega)]; rfl
        by_cases c1 : (tkN b : Int) > m
        · rw [if_pos c1] at hE
          rw [tl_no hE (by decide)]
          have d1 : decide ((tkN b : Int) > m) = true:=decide_eq_true c1
          simp (maxSteps:=1000000) (disch:=first | omega | (simp only [digF_len,putK_len,putB_len,lnB] <;> omega) | fail) only [ev0,ev1,ev2,ev3,↓reduceIte,reduceCtorEq,zaa,zab,zac,zad,zae,zaf,zag,zah,zai,zaj,zak,zal,zam,zan,zao,zap,zaq,↓zar,↓zas,zat,zau,zav,zaw,zax,zay,zaz,zba,zbb,zbc,zbd,zbe,zbf,zbg,zbh,zbi,zbj,zbk,zbl,zbm,zbn,zbo,zbp,zbq,zbr,zbs,zbt,zbu,zbv,zbw,zbx,zby,zbz,zca,zcb,zcc,zcd,zce,zcf,zcg,zch,zci,zcj,zck,zcl,zcm,zcn,zco,zcp,zcq,zcr,zcs,zct,zcu,zcv,zcw,zcx,zcy,zcz,zda,zdb,zdc,zdd,zde,zdf,zdg,zdh,zdi,zdj,zdk,zdl,zdm,ev5,tbPk0,glob,not_false_eq_true,d0,d1]
          exact resQ_4nil
        · rw [if_neg c1] at hE
          have d1 : decide ((tkN b : Int) > m) = false:=decide_eq_false c1
          simp (maxSteps:=1000000) (disch:=first | omega | (simp only [digF_len,putK_len,putB_len,lnB] <;> omega) | fail) only [ev0,ev1,ev2,ev3,↓reduceIte,reduceCtorEq,zaa,zab,zac,zad,zae,zaf,zag,zah,zai,zaj,zak,zal,zam,zan,zao,zap,zaq,↓zar,↓zas,zat,zau,zav,zaw,zax,zay,zaz,zba,zbb,zbc,zbd,zbe,zbf,zbg,zbh,zbi,zbj,zbk,zbl,zbm,zbn,zbo,zbp,zbq,zbr,zbs,zbt,zbu,zbv,zbw,zbx,zby,zbz,zca,zcb,zcc,zcd,zce,zcf,zcg,zch,zci,zcj,zck,zcl,zcm,zcn,zco,zcp,zcq,zcr,zcs,zct,zcu,zcv,zcw,zcx,zcy,zcz,zda,zdb,zdc,zdd,zde,zdf,zdg,zdh,zdi,zdj,zdk,zdl,zdm,ev5,tbPk0,glob,not_false_eq_true,d0,d1]
          refine loopQ_wk _ (Wk.at (d:=4) (v:=.sl 0 [] (.own ⟨0,4,0,0⟩ 1)) (by simp (maxSteps:=1000000) (disch:=first | omega | (simp only [digF_len,putK_len,putB_len,lnB] <;> omega) | fail) only [ev0,ev1,ev2,ev3,↓reduceIte,reduceCtorEq,zaa,zab,zac,zad,zae,zaf,zag,zah,zai,zaj,zak,zal,zam,zan,zao,zap,zaq,↓zar,↓zas,zat,zau,zav,zaw,zax,zay,zaz,zba,zbb,zbc,zbd,zbe,zbf,zbg,zbh,zbi,zbj,zbk,zbl,zbm,zbn,zbo,zbp,zbq,zbr,zbs,zbt,zbu,zbv,zbw,zbx,zby,zbz,zca,zcb,zcc,zcd,zce,zcf,zcg,zch,zci,zcj,zck,zcl,zcm,zcn,zco,zcp,zcq,zcr,zcs,zct,zcu,zcv,zcw,zcx,zcy,zcz,zda,zdb,zdc,zdd,zde,zdf,zdg,zdh,zdi,zdj,zdk,zdl,zdm,ev5,tbPk0,glob,not_false_eq_true]; exact .nil 4 1)) (fun n σ=>∃ k i L R,k ≤ tkN b ∧ n = tkN b - k ∧ tlF b k = (L,R,0) ∧ L.length = k ∧ i.slot ≠ 42 ∧ σ.slots 24 = .raw (.int .i64 (k : Int)) ∧ σ.slots 23 = .raw (.int .i64 (tkN b : Int)) ∧ σ.slots 5 = .sl R.length (nums .u8 R) .bor ∧ σ.slots 4 = .sl k (ints .i64 L) (.own i 1) ∧ Free σ.used (σ.gen 38) 38 i) (tkN b) ?_ ?_
          · refine ⟨0,⟨0,4,0,0⟩,[],tkR b,by omega,by omega,rfl,rfl,by simp,?_⟩
            simp (maxSteps:=1000000) (disch:=first | omega | (simp only [digF_len,putK_len,putB_len,lnB] <;> omega) | fail) only [ev0,ev1,ev2,ev3,↓reduceIte,reduceCtorEq,zaa,zab,zac,zad,zae,zaf,zag,zah,zai,zaj,zak,zal,zam,zan,zao,zap,zaq,↓zar,↓zas,zat,zau,zav,zaw,zax,zay,zaz,zba,zbb,zbc,zbd,zbe,zbf,zbg,zbh,zbi,zbj,zbk,zbl,zbm,zbn,zbo,zbp,zbq,zbr,zbs,zbt,zbu,zbv,zbw,zbx,zby,zbz,zca,zcb,zcc,zcd,zce,zcf,zcg,zch,zci,zcj,zck,zcl,zcm,zcn,zco,zcp,zcq,zcr,zcs,zct,zcu,zcv,zcw,zcx,zcy,zcz,zda,zdb,zdc,zdd,zde,zdf,zdg,zdh,zdi,zdj,zdk,zdl,zdm,ev5,tbPk0,glob,not_false_eq_true]
            exact ⟨rfl,by simp [updI],fun g _=>by simp [updI],by simp⟩
          · rintro n ⟨sl,gn,bx,us⟩ ⟨k,i,L,R,hk,rfl,hT,lL,hi,sk,sN,sR,sL,hf⟩
            dsimp only at sk sN sR sL hf
            have hf0:=hf.now
            have hok:=tlF_ok b k
            rw [hT] at hok
            obtain ⟨_,lR,hokL⟩:=hok
            dsimp only at lR
            simp (maxSteps:=1000000) (disch:=first | omega | (simp only [digF_len,putK_len,putB_len,lnB] <;> omega) | fail) only [ev0,ev1,ev2,ev3,↓reduceIte,reduceCtorEq,zaa,zab,zac,zad,zae,zaf,zag,zah,zai,zaj,zak,zal,zam,zan,zao,zap,zaq,↓zar,↓zas,zat,zau,zav,zaw,zax,zay,zaz,zba,zbb,zbc,zbd,zbe,zbf,zbg,zbh,zbi,zbj,zbk,zbl,zbm,zbn,zbo,zbp,zbq,zbr,zbs,zbt,zbu,zbv,zbw,zbx,zby,zbz,zca,zcb,zcc,zcd,zce,zcf,zcg,zch,zci,zcj,zck,zcl,zcm,zcn,zco,zcp,zcq,zcr,zcs,zct,zcu,zcv,zcw,zcx,zcy,zcz,zda,zdb,zdc,zdd,zde,zdf,zdg,zdh,zdi,zdj,zdk,zdl,zdm,ev5,tbPk0,glob,not_false_eq_true,sk,sN,sR,sL,hf0,lL]
            refine condQ_dec (fun hlt=>?_) (fun hge=>?_)
            · have hlt : k < tkN b := by omega
              have hS : tlF b (k + 1) = if tkE R ≠ 0 then ([],[],tkE R) else (L ++ [(tkN R : Int)],tkR R,0):=by
                rw [tlF,hT]; simp
              by_cases e0 : tkE R ≠ 0
              · rw [if_pos e0] at hS
                have:=tlF_stop hS e0 (tkN b - (k + 1))
                rw [show k + 1 + (tkN b - (k + 1)) = tkN b by omega] at this
                rw [this] at hE
                rw [tl_no hE e0]
                have dE : ((tkE R : Int) != 0) = true:=by rw [bne_iff_ne]; omega
                simp (maxSteps:=1000000) (disch:=first | omega | (simp only [digF_len,putK_len,putB_len,lnB] <;> omega) | fail) only [ev0,ev1,ev2,ev3,↓reduceIte,reduceCtorEq,zaa,zab,zac,zad,zae,zaf,zag,zah,zai,zaj,zak,zal,zam,zan,zao,zap,zaq,↓zar,↓zas,zat,zau,zav,zaw,zax,zay,zaz,zba,zbb,zbc,zbd,zbe,zbf,zbg,zbh,zbi,zbj,zbk,zbl,zbm,zbn,zbo,zbp,zbq,zbr,zbs,zbt,zbu,zbv,zbw,zbx,zby,zbz,zca,zcb,zcc,zcd,zce,zcf,zcg,zch,zci,zcj,zck,zcl,zcm,zcn,zco,zcp,zcq,zcr,zcs,zct,zcu,zcv,zcw,zcx,zcy,zcz,zda,zdb,zdc,zdd,zde,zdf,zdg,zdh,zdi,zdj,zdk,zdl,zdm,ev5,tbPk0,glob,not_false_eq_true,sk,sN,sR,sL,hf0,lL,dE]
                exact resQ_4nil
              · rw [if_neg e0] at hS
                have dE : ((tkE R : Int) != 0) = false:=by rw [Nat.eq_zero_of_not_pos (show ¬ 0 < tkE R by omega)]; rfl
                simp (maxSteps:=1000000) (disch:=first | omega | (simp only [digF_len,putK_len,putB_len,lnB] <;> omega) | fail) only [ev0,ev1,ev2,ev3,↓reduceIte,reduceCtorEq,zaa,zab,zac,zad,zae,zaf,zag,zah,zai,zaj,zak,zal,zam,zan,zao,zap,zaq,↓zar,↓zas,zat,zau,zav,zaw,zax,zay,zaz,zba,zbb,zbc,zbd,zbe,zbf,zbg,zbh,zbi,zbj,zbk,zbl,zbm,zbn,zbo,zbp,zbq,zbr,zbs,zbt,zbu,zbv,zbw,zbx,zby,zbz,zca,zcb,zcc,zcd,zce,zcf,zcg,zch,zci,zcj,zck,zcl,zcm,zcn,zco,zcp,zcq,zcr,zcs,zct,zcu,zcv,zcw,zcx,zcy,zcz,zda,zdb,zdc,zdd,zde,zdf,zdg,zdh,zdi,zdj,zdk,zdl,zdm,ev5,tbPk0,glob,not_false_eq_true,sk,sN,sR,sL,hf0,lL,dE]
                refine ⟨tkN b - (k + 1),by omega,k + 1,⟨0,38,0,gn 38 + 1⟩,_,_,by omega,rfl,hS,by simp [lL],by simp,rfl,rfl,rfl,hf.go⟩
            · have hk : k = tkN b := by omega
              subst hk
              rw [hT] at hE
              rw [show tlL b m = L by rw [tlL,if_pos hE,hT],show tlR b m = R by rw [tlR,if_pos hE,hT],hE]
              cases hu : us ⟨0,42,0,gn 42 + 1⟩
              · simp (maxSteps := 1000000) (disch := first | omega | (simp only [digF_len,putK_len,putB_len,lnB] <;> omega) | fail) only [ev0,ev1,ev2,ev3,↓reduceIte,reduceCtorEq,zaa,zab,zac,zad,zae,zaf,zag,zah,zai,zaj,zak,zal,zam,zan,zao,zap,zaq,↓zar,↓zas,zat,zau,zav,zaw,zax,zay,zaz,zba,zbb,zbc,zbd,zbe,zbf,zbg,zbh,zbi,zbj,zbk,zbl,zbm,zbn,zbo,zbp,zbq,zbr,zbs,zbt,zbu,zbv,zbw,zbx,zby,zbz,zca,zcb,zcc,zcd,zce,zcf,zcg,zch,zci,zcj,zck,zcl,zcm,zcn,zco,zcp,zcq,zcr,zcs,zct,zcu,zcv,zcw,zcx,zcy,zcz,zda,zdb,zdc,zdd,zde,zdf,zdg,zdh,zdi,zdj,zdk,zdl,zdm,ev5,tbPk0,glob,not_false_eq_true,sk,sN,sR,sL,hf0,lL,hu]
                exact resQ_4
              · simp (maxSteps := 1000000) (disch := first | omega | (simp only [digF_len,putK_len,putB_len,lnB] <;> omega) | fail) only [ev0,ev1,ev2,ev3,↓reduceIte,reduceCtorEq,zaa,zab,zac,zad,zae,zaf,zag,zah,zai,zaj,zak,zal,zam,zan,zao,zap,zaq,↓zar,↓zas,zat,zau,zav,zaw,zax,zay,zaz,zba,zbb,zbc,zbd,zbe,zbf,zbg,zbh,zbi,zbj,zbk,zbl,zbm,zbn,zbo,zbp,zbq,zbr,zbs,zbt,zbu,zbv,zbw,zbx,zby,zbz,zca,zcb,zcc,zcd,zce,zcf,zcg,zch,zci,zcj,zck,zcl,zcm,zcn,zco,zcp,zcq,zcr,zcs,zct,zcu,zcv,zcw,zcx,zcy,zcz,zda,zdb,zdc,zdd,zde,zdf,zdg,zdh,zdi,zdj,zdk,zdl,zdm,ev5,tbPk0,glob,not_false_eq_true,sk,sN,sR,sL,hf0,lL,hu]
                exact resQ_4
    · cases hr
  · cases hr
theorem sound166 : SoundV Tryd.prog glob 166 pf169:=by
  refine SoundV.walk E7 ok7 mixed Tryd.func166 rfl Tryd.call166 (by kernel_rfl) ?_
  intro args r hr
  unfold pf169 at hr
  split at hr
  · simp only [Option.bind_eq_some_iff] at hr
    obtain ⟨b,h1,m,h2,hr⟩:=hr
    split at hr
    · rename_i hc
      obtain ⟨hc,hm⟩:=hc
      cases hr
      obtain ⟨fl,rfl⟩:=row?_of h1
      rw [int?_of h2,Tryd.ntmps166,Tryd.results166]
      refine ⟨by simp,?_⟩
      have hE : tlE b m = if tkE b ≠ 0 then tkE b else if (tkN b : Int) > m then 2 else (tlF b (tkN b)).2.2:=rfl
      have hle:=tkR_le b
      by_cases c0 : tkE b ≠ 0
      · rw [if_pos c0] at hE
        rw [tl_no hE c0]
        have d0 : ((tkE b : Int) != 0) = true:=by rw [bne_iff_ne]; omega
        simp (maxSteps:=1000000) (disch:=first | omega | (simp only [digF_len,putK_len,putB_len,lnB] <;> omega) | fail) only [ev0,ev1,ev2,ev3,↓reduceIte,reduceCtorEq,zaa,zab,zac,zad,zae,zaf,zag,zah,zai,zaj,zak,zal,zam,zan,zao,zap,zaq,↓zar,↓zas,zat,zau,zav,zaw,zax,zay,zaz,zba,zbb,zbc,zbd,zbe,zbf,zbg,zbh,zbi,zbj,zbk,zbl,zbm,zbn,zbo,zbp,zbq,zbr,zbs,zbt,zbu,zbv,zbw,zbx,zby,zbz,zca,zcb,zcc,zcd,zce,zcf,zcg,zch,zci,zcj,zck,zcl,zcm,zcn,zco,zcp,zcq,zcr,zcs,zct,zcu,zcv,zcw,zcx,zcy,zcz,zda,zdb,zdc,zdd,zde,zdf,zdg,zdh,zdi,zdj,zdk,zdl,zdm,ev5,tbPk0,glob,not_false_eq_true,d0]
        exact resQ_4nil
      · rw [if_neg c0] at hE
        have d0 : ((tkE b : Int) != 0) = false:=by rw [Nat.eq_zero_of_not_pos (show ¬ 0 < tkE b by omega)]; rfl
        by_cases c1 : (tkN b : Int) > m
        · rw [if_pos c1] at hE
          rw [tl_no hE (by decide)]
          have d1 : decide ((tkN b : Int) > m) = true:=decide_eq_true c1
          simp (maxSteps:=1000000) (disch:=first | omega | (simp only [digF_len,putK_len,putB_len,lnB] <;> omega) | fail) only [ev0,ev1,ev2,ev3,↓reduceIte,reduceCtorEq,zaa,zab,zac,zad,zae,zaf,zag,zah,zai,zaj,zak,zal,zam,zan,zao,zap,zaq,↓zar,↓zas,zat,zau,zav,zaw,zax,zay,zaz,zba,zbb,zbc,zbd,zbe,zbf,zbg,zbh,zbi,zbj,zbk,zbl,zbm,zbn,zbo,zbp,zbq,zbr,zbs,zbt,zbu,zbv,zbw,zbx,zby,zbz,zca,zcb,zcc,zcd,zce,zcf,zcg,zch,zci,zcj,zck,zcl,zcm,zcn,zco,zcp,zcq,zcr,zcs,zct,zcu,zcv,zcw,zcx,zcy,zcz,zda,zdb,zdc,zdd,zde,zdf,zdg,zdh,zdi,zdj,zdk,zdl,zdm,ev5,tbPk0,glob,not_false_eq_true,d0,d1]
          exact resQ_4nil
        · rw [if_neg c1] at hE
          have d1 : decide ((tkN b : Int) > m) = false:=decide_eq_false c1
          simp (maxSteps:=1000000) (disch:=first | omega | (simp only [digF_len,putK_len,putB_len,lnB] <;> omega) | fail) only [ev0,ev1,ev2,ev3,↓reduceIte,reduceCtorEq,zaa,zab,zac,zad,zae,zaf,zag,zah,zai,zaj,zak,zal,zam,zan,zao,zap,zaq,↓zar,↓zas,zat,zau,zav,zaw,zax,zay,zaz,zba,zbb,zbc,zbd,zbe,zbf,zbg,zbh,zbi,zbj,zbk,zbl,zbm,zbn,zbo,zbp,zbq,zbr,zbs,zbt,zbu,zbv,zbw,zbx,zby,zbz,zca,zcb,zcc,zcd,zce,zcf,zcg,zch,zci,zcj,zck,zcl,zcm,zcn,zco,zcp,zcq,zcr,zcs,zct,zcu,zcv,zcw,zcx,zcy,zcz,zda,zdb,zdc,zdd,zde,zdf,zdg,zdh,zdi,zdj,zdk,zdl,zdm,ev5,tbPk0,glob,not_false_eq_true,d0,d1]
          refine loopQ_wk _ (Wk.at (d:=10) (v:=.sl 0 [] (.own ⟨0,10,0,0⟩ 1)) (by simp (maxSteps:=1000000) (disch:=first | omega | (simp only [digF_len,putK_len,putB_len,lnB] <;> omega) | fail) only [ev0,ev1,ev2,ev3,↓reduceIte,reduceCtorEq,zaa,zab,zac,zad,zae,zaf,zag,zah,zai,zaj,zak,zal,zam,zan,zao,zap,zaq,↓zar,↓zas,zat,zau,zav,zaw,zax,zay,zaz,zba,zbb,zbc,zbd,zbe,zbf,zbg,zbh,zbi,zbj,zbk,zbl,zbm,zbn,zbo,zbp,zbq,zbr,zbs,zbt,zbu,zbv,zbw,zbx,zby,zbz,zca,zcb,zcc,zcd,zce,zcf,zcg,zch,zci,zcj,zck,zcl,zcm,zcn,zco,zcp,zcq,zcr,zcs,zct,zcu,zcv,zcw,zcx,zcy,zcz,zda,zdb,zdc,zdd,zde,zdf,zdg,zdh,zdi,zdj,zdk,zdl,zdm,ev5,tbPk0,glob,not_false_eq_true]; exact .nil 10 1)) (fun n σ=>∃ k i L R,k ≤ tkN b ∧ n = tkN b - k ∧ tlF b k = (L,R,0) ∧ L.length = k ∧ i.slot ≠ 42 ∧ σ.slots 11 = .raw (.int .i64 (k : Int)) ∧ σ.slots 7 = .raw (.int .i64 (tkN b : Int)) ∧ σ.slots 8 = .sl R.length (nums .u8 R) .bor ∧ σ.slots 10 = .sl k (ints .i64 L) (.own i 1) ∧ Free σ.used (σ.gen 44) 44 i) (tkN b) ?_ ?_
          · refine ⟨0,⟨0,10,0,0⟩,[],tkR b,by omega,by omega,rfl,rfl,by simp,?_⟩
            simp (maxSteps:=1000000) (disch:=first | omega | (simp only [digF_len,putK_len,putB_len,lnB] <;> omega) | fail) only [ev0,ev1,ev2,ev3,↓reduceIte,reduceCtorEq,zaa,zab,zac,zad,zae,zaf,zag,zah,zai,zaj,zak,zal,zam,zan,zao,zap,zaq,↓zar,↓zas,zat,zau,zav,zaw,zax,zay,zaz,zba,zbb,zbc,zbd,zbe,zbf,zbg,zbh,zbi,zbj,zbk,zbl,zbm,zbn,zbo,zbp,zbq,zbr,zbs,zbt,zbu,zbv,zbw,zbx,zby,zbz,zca,zcb,zcc,zcd,zce,zcf,zcg,zch,zci,zcj,zck,zcl,zcm,zcn,zco,zcp,zcq,zcr,zcs,zct,zcu,zcv,zcw,zcx,zcy,zcz,zda,zdb,zdc,zdd,zde,zdf,zdg,zdh,zdi,zdj,zdk,zdl,zdm,ev5,tbPk0,glob,not_false_eq_true]
            exact ⟨rfl,by simp [updI],fun g _=>by simp [updI],by simp⟩
          · rintro n ⟨sl,gn,bx,us⟩ ⟨k,i,L,R,hk,rfl,hT,lL,hi,sk,sN,sR,sL,hf⟩
            dsimp only at sk sN sR sL hf
            have hf0:=hf.now
            have hok:=tlF_ok b k
            rw [hT] at hok
            obtain ⟨_,lR,hokL⟩:=hok
            dsimp only at lR
            simp (maxSteps:=1000000) (disch:=first | omega | (simp only [digF_len,putK_len,putB_len,lnB] <;> omega) | fail) only [ev0,ev1,ev2,ev3,↓reduceIte,reduceCtorEq,zaa,zab,zac,zad,zae,zaf,zag,zah,zai,zaj,zak,zal,zam,zan,zao,zap,zaq,↓zar,↓zas,zat,zau,zav,zaw,zax,zay,zaz,zba,zbb,zbc,zbd,zbe,zbf,zbg,zbh,zbi,zbj,zbk,zbl,zbm,zbn,zbo,zbp,zbq,zbr,zbs,zbt,zbu,zbv,zbw,zbx,zby,zbz,zca,zcb,zcc,zcd,zce,zcf,zcg,zch,zci,zcj,zck,zcl,zcm,zcn,zco,zcp,zcq,zcr,zcs,zct,zcu,zcv,zcw,zcx,zcy,zcz,zda,zdb,zdc,zdd,zde,zdf,zdg,zdh,zdi,zdj,zdk,zdl,zdm,ev5,tbPk0,glob,not_false_eq_true,sk,sN,sR,sL,hf0,lL]
            refine condQ_dec (fun hlt=>?_) (fun hge=>?_)
            · have hlt : k < tkN b := by omega
              have hS : tlF b (k + 1) = if tkE R ≠ 0 then ([],[],tkE R) else (L ++ [(tkN R : Int)],tkR R,0):=by
                rw [tlF,hT]; simp
              by_cases e0 : tkE R ≠ 0
              · rw [if_pos e0] at hS
                have:=tlF_stop hS e0 (tkN b - (k + 1))
                rw [show k + 1 + (tkN b - (k + 1)) = tkN b by omega] at this
                rw [this] at hE
                rw [tl_no hE e0]
                have dE : ((tkE R : Int) != 0) = true:=by rw [bne_iff_ne]; omega
                simp (maxSteps:=1000000) (disch:=first | omega | (simp only [digF_len,putK_len,putB_len,lnB] <;> omega) | fail) only [ev0,ev1,ev2,ev3,↓reduceIte,reduceCtorEq,zaa,zab,zac,zad,zae,zaf,zag,zah,zai,zaj,zak,zal,zam,zan,zao,zap,zaq,↓zar,↓zas,zat,zau,zav,zaw,zax,zay,zaz,zba,zbb,zbc,zbd,zbe,zbf,zbg,zbh,zbi,zbj,zbk,zbl,zbm,zbn,zbo,zbp,zbq,zbr,zbs,zbt,zbu,zbv,zbw,zbx,zby,zbz,zca,zcb,zcc,zcd,zce,zcf,zcg,zch,zci,zcj,zck,zcl,zcm,zcn,zco,zcp,zcq,zcr,zcs,zct,zcu,zcv,zcw,zcx,zcy,zcz,zda,zdb,zdc,zdd,zde,zdf,zdg,zdh,zdi,zdj,zdk,zdl,zdm,ev5,tbPk0,glob,not_false_eq_true,sk,sN,sR,sL,hf0,lL,dE]
                exact resQ_4nil
              · rw [if_neg e0] at hS
                have dE : ((tkE R : Int) != 0) = false:=by rw [Nat.eq_zero_of_not_pos (show ¬ 0 < tkE R by omega)]; rfl
                simp (maxSteps:=1000000) (disch:=first | omega | (simp only [digF_len,putK_len,putB_len,lnB] <;> omega) | fail) only [ev0,ev1,ev2,ev3,↓reduceIte,reduceCtorEq,zaa,zab,zac,zad,zae,zaf,zag,zah,zai,zaj,zak,zal,zam,zan,zao,zap,zaq,↓zar,↓zas,zat,zau,zav,zaw,zax,zay,zaz,zba,zbb,zbc,zbd,zbe,zbf,zbg,zbh,zbi,zbj,zbk,zbl,zbm,zbn,zbo,zbp,zbq,zbr,zbs,zbt,zbu,zbv,zbw,zbx,zby,zbz,zca,zcb,zcc,zcd,zce,zcf,zcg,zch,zci,zcj,zck,zcl,zcm,zcn,zco,zcp,zcq,zcr,zcs,zct,zcu,zcv,zcw,zcx,zcy,zcz,zda,zdb,zdc,zdd,zde,zdf,zdg,zdh,zdi,zdj,zdk,zdl,zdm,ev5,tbPk0,glob,not_false_eq_true,sk,sN,sR,sL,hf0,lL,dE]
                refine ⟨tkN b - (k + 1),by omega,k + 1,⟨0,44,0,gn 44 + 1⟩,_,_,by omega,rfl,hS,by simp [lL],by simp,rfl,rfl,rfl,hf.go⟩
            · have hk : k = tkN b := by omega
              subst hk
              rw [hT] at hE
              rw [show tlL b m = L by rw [tlL,if_pos hE,hT],show tlR b m = R by rw [tlR,if_pos hE,hT],hE]
              cases hu : us ⟨0,42,0,gn 42 + 1⟩
              · simp (maxSteps := 1000000) (disch := first | omega | (simp only [digF_len,putK_len,putB_len,lnB] <;> omega) | fail) only [ev0,ev1,ev2,ev3,↓reduceIte,reduceCtorEq,zaa,zab,zac,zad,zae,zaf,zag,zah,zai,zaj,zak,zal,zam,zan,zao,zap,zaq,↓zar,↓zas,zat,zau,zav,zaw,zax,zay,zaz,zba,zbb,zbc,zbd,zbe,zbf,zbg,zbh,zbi,zbj,zbk,zbl,zbm,zbn,zbo,zbp,zbq,zbr,zbs,zbt,zbu,zbv,zbw,zbx,zby,zbz,zca,zcb,zcc,zcd,zce,zcf,zcg,zch,zci,zcj,zck,zcl,zcm,zcn,zco,zcp,zcq,zcr,zcs,zct,zcu,zcv,zcw,zcx,zcy,zcz,zda,zdb,zdc,zdd,zde,zdf,zdg,zdh,zdi,zdj,zdk,zdl,zdm,ev5,tbPk0,glob,not_false_eq_true,sk,sN,sR,sL,hf0,lL,hu]
                exact resQ_4
              · simp (maxSteps := 1000000) (disch := first | omega | (simp only [digF_len,putK_len,putB_len,lnB] <;> omega) | fail) only [ev0,ev1,ev2,ev3,↓reduceIte,reduceCtorEq,zaa,zab,zac,zad,zae,zaf,zag,zah,zai,zaj,zak,zal,zam,zan,zao,zap,zaq,↓zar,↓zas,zat,zau,zav,zaw,zax,zay,zaz,zba,zbb,zbc,zbd,zbe,zbf,zbg,zbh,zbi,zbj,zbk,zbl,zbm,zbn,zbo,zbp,zbq,zbr,zbs,zbt,zbu,zbv,zbw,zbx,zby,zbz,zca,zcb,zcc,zcd,zce,zcf,zcg,zch,zci,zcj,zck,zcl,zcm,zcn,zco,zcp,zcq,zcr,zcs,zct,zcu,zcv,zcw,zcx,zcy,zcz,zda,zdb,zdc,zdd,zde,zdf,zdg,zdh,zdi,zdj,zdk,zdl,zdm,ev5,tbPk0,glob,not_false_eq_true,sk,sN,sR,sL,hf0,lL,hu]
                exact resQ_4
    · cases hr
  · cases hr
end Go.Proofs.YtddeffdgldjdjaaDoor.W
