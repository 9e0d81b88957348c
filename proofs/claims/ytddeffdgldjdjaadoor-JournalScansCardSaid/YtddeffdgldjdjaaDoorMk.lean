/- What the document writes of an entry. -/
import Derived.Test.YtddeffdgldjdjaaDoorMj
namespace Go.Proofs.YtddeffdgldjdjaaDoor.W
set_option linter.unusedSimpArgs false
set_option linter.unusedVariables false
set_option linter.defProp false
open Go Go.Abs
open Nat renaming reduceAdd→zaa,reduceSub→zab,reduceMul→zac,reduceLT→zad,reduceLeDiff→zae,reduceEqDiff→zaf,reduceBEq→zag
open BitVec renaming reduceOfInt→zah
open Int renaming reduceLE→zai,reduceLT→zaj,reduceGT→zak,reduceGE→zal,reduceNeg→zam,reduceAdd→zan,reduceSub→zao,reduceMul→zap,reduceToNat→zaq
open Go.Abs renaming bind_go→zar,map_go→zas,wantedV→zat,isWrite→zau,grow→zav,write→zaw,ofV→zax,start→zaz,strip→zba,endQ→zbb,resV→zbc,rawsRes→zbd,rawRes→zbe,exports→zbf,export1→zbg,isSelf→zbl,convSelf→zbm,convV→zbn,loadV→zbo,storeV→zbp,fieldAddrV→zbq,fieldV→zbr,indexAddrV→zbs,indexV→zbt,partV→zbu,isAggK→zbv,isStr→zbw,place→zbx,ipS→zby,lenV→zbz,min2V→zca,makeV→zcb,freshSl→zcc,sliceV→zcd,boundOr→zce,bound→zcf,bounds→zcg,cutFl→zch,copyV→zci,slCells→zcj,srcV→zck,appendV→zcl,room→zcm,zerosOf→zcn,eqNeg→zco,kd→zcp,takeR→zcq,hasViewL→zcr,hasView→zcs,freshR→zct,freshC→zcu,snapAll→zcv,snap→zcw,snapL→zcx,flatL→zcy,pureL→zcz,pureA→zda,fillC→zdb,arrOK→zdc,oneA→zdd,partB→zde,ren1→zdg,applyW→zdi,useL→zdj,isGen→zdl,startG→zdm
open Go.Abs.AV renaming cells→zay,laid→zdf
open Go.Abs.AS renaming grown→zbh,put→zbi,mute→zdk
open Go.Abs.Env renaming know→zbj,boxed→zbk
open Go.Abs.CR renaming gr→zdh
set_option maxHeartbeats 8000000
noncomputable def EB : Env:=EX
theorem okB : EnvOK Tryd.prog EB:=okX
theorem EB_te : EB.te = te:=rfl
theorem EB_glob : EB.glob = glob:=rfl
theorem EB_gs : EB.gs = []:=rfl
theorem EB_dyn : EB.dyn = false:=rfl
theorem EB_mu (d : Nat) : EB.mu d = false:=rfl
theorem EB_12 : EB.tbl 104 = some (.val (fun xs=>pf80 (xs.map norm))):=rfl
theorem EB_14 : EB.tbl 147 = some (.val (fun xs=>pf165 (xs.map norm))):=rfl
theorem EB_16 : EB.tbl 73 = some (.val (fun xs=>pf72 (xs.map norm))):=rfl
theorem EB_18 : EB.tbl 120 = some (.val (fun xs=>pf145 (xs.map norm))):=rfl
theorem EB_21 : EB.tbl 142 = some (.val (fun xs=>pf113 (xs.map norm))):=rfl
theorem EB_23 : EB.tbl 166 = some (.val (fun xs=>pf169 (xs.map norm))):=rfl
noncomputable def pfEn : List AV → Option AV
  | [.agg cs]=>(ent? (cs.map strip)).bind fun c=>open Classical in if (c.d.isSome ∧ c.m.isSome) ∧ okN c then some (.tup [.sl (entR c).1.length (nums .u8 (entR c).1) .bor,.raw (.int .i64 (entR c).2)]) else none
  | _=>none
theorem rentry_at {c : Eny} (h : okN c) : pfEn (List.map norm3 [.agg (entA c)]) = some (.tup [.sl (entR c).1.length (nums .u8 (entR c).1) .bor,.raw (.int .i64 (entR c).2)]):=by
  simp only [List.map_cons,List.map_nil,norm3,ent_norm,pfEn,entA_strip,ent?_at,Option.bind_some]
  exact if_pos ⟨⟨rfl,rfl⟩,h⟩
theorem neg_snoc {m : List Int} {j : Nat} (h : j < m.length) : neg (m.take (j + 1)) = (neg (m.take j) || !decide (m.getD j 0 ≥ 0)):=by
  have e : m.take (j + 1) = m.take j ++ [m.getD j 0]:=by
    rw [List.take_add_one,List.getD_eq_getElem?_getD,List.getElem?_eq_getElem h]; rfl
  rw [e,neg,neg,List.any_append]
  congr 1
  simp only [List.any_cons,List.any_nil,Bool.or_false]
  by_cases h0 : m.getD j 0 < 0
  · rw [decide_eq_true h0,decide_eq_false (by omega)]; rfl
  · rw [decide_eq_false h0,decide_eq_true (by omega)]; rfl
def tbMk0:=(And.intro (And.intro (And.intro (And.intro (And.intro @teE (And.intro @entA_strip @entA_snap)) (And.intro @entA_noview (And.intro @entA_take @entA_one))) (And.intro (And.intro @dropE (And.intro @zeroE @splice_ent)) (And.intro @splice_ent' (And.intro @entA_len @rep1)))) (And.intro (And.intro (And.intro @rep2 (And.intro @rep3 @rep5)) (And.intro @one_le (And.intro @le2 @le3))) (And.intro (And.intro @le5 (And.intro @dr1 @dr2)) (And.intro (And.intro @dr3 @dr5) (And.intro @EB_te @EB_glob))))) (And.intro (And.intro (And.intro (And.intro @EB_gs (And.intro @EB_dyn @EB_mu)) (And.intro @EB_12 (And.intro @EB_14 @EB_16))) (And.intro (And.intro @EB_18 (And.intro @EB_21 @EB_23)) (And.intro (And.intro @ev4 @text_at) (And.intro @text_long @text_nil)))) (And.intro (And.intro (And.intro @list_at (And.intro @list_nil @pf80_at)) (And.intro @put_nil (And.intro @take_at @ttake_at))) (And.intro (And.intro @ltake_at (And.intro @zz0 @zz1)) (And.intro (And.intro @entA_0 @entA_1) (And.intro @entA_2 @entA_3))))))
set_option maxRecDepth 4000 in
theorem sound115 : SoundV Tryd.prog glob 115 pfEn:=by
  refine SoundV.walk EB okB mixed Tryd.func115 rfl Tryd.call115 (by kernel_rfl) ?_
  intro args r hr
  unfold pfEn at hr
  split at hr
  · rename_i cs
    simp only [Option.bind_eq_some_iff] at hr
    obtain ⟨c,hc,hr⟩:=hr
    split at hr
    · rename_i hn
      cases hr
      have hcs:=ent?_of hc
      rw [Tryd.ntmps115,Tryd.results115]
      refine ⟨by simp,?_⟩
      obtain ⟨t,k,d,m⟩:=c
      obtain ⟨⟨g1,g2⟩,o1,o2,o3⟩:=hn
      obtain ⟨d,rfl⟩:=Option.isSome_iff_exists.1 g1
      obtain ⟨m,rfl⟩:=Option.isSome_iff_exists.1 g2
      simp only [dat,idat] at o1 o2 o3
      obtain ⟨o,ho⟩ : ∃ o,o = (inW t 0 1099511627776 && inW k 0 2):=⟨_,rfl⟩
      have hbad : badE ⟨t,k,some d,some m⟩ = !(o && !neg m):=by
        rw [ho]; simp only [badE,idat]
        cases inW t 0 1099511627776 <;> cases inW k 0 2 <;> cases neg m <;> rfl
      have h5 : (decide (t ≥ 0) = false ∧ o = false) ∨ (decide (t ≥ 0) = true ∧ decide (t ≤ 1099511627776) = false ∧ o = false) ∨ (decide (t ≥ 0) = true ∧ decide (t ≤ 1099511627776) = true ∧ decide (k ≥ 0) = false ∧ o = false) ∨ (decide (t ≥ 0) = true ∧ decide (t ≤ 1099511627776) = true ∧ decide (k ≥ 0) = true ∧ decide (k ≤ 2) = false ∧ o = false) ∨ (decide (t ≥ 0) = true ∧ decide (t ≤ 1099511627776) = true ∧ decide (k ≥ 0) = true ∧ decide (k ≤ 2) = true ∧ o = true):=by
        rw [ho]; unfold inW
        cases decide (t ≥ 0) <;> cases decide (t ≤ 1099511627776) <;> cases decide (k ≥ 0) <;> cases decide (k ≤ 2) <;> simp
      clear hc g1 g2
      rcases h5 with ⟨a1,ao⟩ | ⟨a1,a2,ao⟩ | ⟨a1,a2,a3,ao⟩ | ⟨a1,a2,a3,a4,ao⟩ | ⟨a1,a2,a3,a4,ao⟩
      all_goals first | simp (maxSteps:=1000000) (disch:=first | omega | exact ok4096 | (simp only [updB,dsB,reduceCtorEq,Nat.reduceEqDiff, *]; done) | (simp only [digF_len,putK_len,putB_len,lnB] <;> omega) | fail) only [ev0,ev1,ev2,ev3,↓reduceIte,reduceCtorEq,zaa,zab,zac,zad,zae,zaf,zag,zah,zai,zaj,zak,zal,zam,zan,zao,zap,zaq,↓zar,↓zas,zat,zau,zav,zaw,zax,zay,zaz,zba,zbb,zbc,zbd,zbe,zbf,zbg,zbh,zbi,zbj,zbk,zbl,zbm,zbn,zbo,zbp,zbq,zbr,zbs,zbt,zbu,zbv,zbw,zbx,zby,zbz,zca,zcb,zcc,zcd,zce,zcf,zcg,zch,zci,zcj,zck,zcl,zcm,zcn,zco,zcp,zcq,zcr,zcs,zct,zcu,zcv,zcw,zcx,zcy,zcz,zda,zdb,zdc,zdd,zde,zdf,zdg,zdh,zdi,zdj,zdk,zdl,zdm,ev5,tbMk0,List.map_nil,List.all_nil,List.drop_zero,glob,btA,itA,List.size_toArray,Array.size_empty,List.length_nil,hcs,a1,a2,a3,a4] | simp (maxSteps:=1000000) (disch:=first | omega | exact ok4096 | (simp only [updB,dsB,reduceCtorEq,Nat.reduceEqDiff, *]; done) | (simp only [digF_len,putK_len,putB_len,lnB] <;> omega) | fail) only [ev0,ev1,ev2,ev3,↓reduceIte,reduceCtorEq,zaa,zab,zac,zad,zae,zaf,zag,zah,zai,zaj,zak,zal,zam,zan,zao,zap,zaq,↓zar,↓zas,zat,zau,zav,zaw,zax,zay,zaz,zba,zbb,zbc,zbd,zbe,zbf,zbg,zbh,zbi,zbj,zbk,zbl,zbm,zbn,zbo,zbp,zbq,zbr,zbs,zbt,zbu,zbv,zbw,zbx,zby,zbz,zca,zcb,zcc,zcd,zce,zcf,zcg,zch,zci,zcj,zck,zcl,zcm,zcn,zco,zcp,zcq,zcr,zcs,zct,zcu,zcv,zcw,zcx,zcy,zcz,zda,zdb,zdc,zdd,zde,zdf,zdg,zdh,zdi,zdj,zdk,zdl,zdm,ev5,tbMk0,List.map_nil,List.all_nil,List.drop_zero,glob,btA,itA,List.size_toArray,Array.size_empty,List.length_nil,hcs,a1,a2,a3] | simp (maxSteps:=1000000) (disch:=first | omega | exact ok4096 | (simp only [updB,dsB,reduceCtorEq,Nat.reduceEqDiff, *]; done) | (simp only [digF_len,putK_len,putB_len,lnB] <;> omega) | fail) only [ev0,ev1,ev2,ev3,↓reduceIte,reduceCtorEq,zaa,zab,zac,zad,zae,zaf,zag,zah,zai,zaj,zak,zal,zam,zan,zao,zap,zaq,↓zar,↓zas,zat,zau,zav,zaw,zax,zay,zaz,zba,zbb,zbc,zbd,zbe,zbf,zbg,zbh,zbi,zbj,zbk,zbl,zbm,zbn,zbo,zbp,zbq,zbr,zbs,zbt,zbu,zbv,zbw,zbx,zby,zbz,zca,zcb,zcc,zcd,zce,zcf,zcg,zch,zci,zcj,zck,zcl,zcm,zcn,zco,zcp,zcq,zcr,zcs,zct,zcu,zcv,zcw,zcx,zcy,zcz,zda,zdb,zdc,zdd,zde,zdf,zdg,zdh,zdi,zdj,zdk,zdl,zdm,ev5,tbMk0,List.map_nil,List.all_nil,List.drop_zero,glob,btA,itA,List.size_toArray,Array.size_empty,List.length_nil,hcs,a1,a2] | simp (maxSteps:=1000000) (disch:=first | omega | exact ok4096 | (simp only [updB,dsB,reduceCtorEq,Nat.reduceEqDiff, *]; done) | (simp only [digF_len,putK_len,putB_len,lnB] <;> omega) | fail) only [ev0,ev1,ev2,ev3,↓reduceIte,reduceCtorEq,zaa,zab,zac,zad,zae,zaf,zag,zah,zai,zaj,zak,zal,zam,zan,zao,zap,zaq,↓zar,↓zas,zat,zau,zav,zaw,zax,zay,zaz,zba,zbb,zbc,zbd,zbe,zbf,zbg,zbh,zbi,zbj,zbk,zbl,zbm,zbn,zbo,zbp,zbq,zbr,zbs,zbt,zbu,zbv,zbw,zbx,zby,zbz,zca,zcb,zcc,zcd,zce,zcf,zcg,zch,zci,zcj,zck,zcl,zcm,zcn,zco,zcp,zcq,zcr,zcs,zct,zcu,zcv,zcw,zcx,zcy,zcz,zda,zdb,zdc,zdd,zde,zdf,zdg,zdh,zdi,zdj,zdk,zdl,zdm,ev5,tbMk0,List.map_nil,List.all_nil,List.drop_zero,glob,btA,itA,List.size_toArray,Array.size_empty,List.length_nil,hcs,a1]
      all_goals
        refine loopQ_of (fun n σ=>∃ j,j ≤ m.length ∧ n = m.length - j ∧ σ.slots 5 = .raw (.int .i64 (j : Int)) ∧ σ.slots 4 = .raw (.bool (o && !neg (m.take j))) ∧ σ.slots 1 = .ptr (.own 0 1 1) 0 ∧ σ.box (.own 0 1 1) = some (entA ⟨t,k,some d,some m⟩)) m.length ?_ ?_
        · refine ⟨0,by omega,by omega,?_⟩
          simp (maxSteps:=1000000) (disch:=first | omega | exact ok4096 | (simp only [updB,dsB,reduceCtorEq,Nat.reduceEqDiff, *]; done) | (simp only [digF_len,putK_len,putB_len,lnB] <;> omega) | fail) only [ev0,ev1,ev2,ev3,↓reduceIte,reduceCtorEq,zaa,zab,zac,zad,zae,zaf,zag,zah,zai,zaj,zak,zal,zam,zan,zao,zap,zaq,↓zar,↓zas,zat,zau,zav,zaw,zax,zay,zaz,zba,zbb,zbc,zbd,zbe,zbf,zbg,zbh,zbi,zbj,zbk,zbl,zbm,zbn,zbo,zbp,zbq,zbr,zbs,zbt,zbu,zbv,zbw,zbx,zby,zbz,zca,zcb,zcc,zcd,zce,zcf,zcg,zch,zci,zcj,zck,zcl,zcm,zcn,zco,zcp,zcq,zcr,zcs,zct,zcu,zcv,zcw,zcx,zcy,zcz,zda,zdb,zdc,zdd,zde,zdf,zdg,zdh,zdi,zdj,zdk,zdl,zdm,ev5,tbMk0,List.map_nil,List.all_nil,List.drop_zero,glob,btA,itA,List.size_toArray,Array.size_empty,List.length_nil]
          rw [ao]
          exact ⟨rfl,rfl⟩
        · rintro n ⟨sl,gn,bx,us⟩ ⟨j,hj,rfl,s5,s4,s1,hb⟩
          dsimp only at s5 s4 s1 hb
          simp (maxSteps:=1000000) (disch:=first | omega | exact ok4096 | (simp only [updB,dsB,reduceCtorEq,Nat.reduceEqDiff, *]; done) | (simp only [digF_len,putK_len,putB_len,lnB] <;> omega) | fail) only [ev0,ev1,ev2,ev3,↓reduceIte,reduceCtorEq,zaa,zab,zac,zad,zae,zaf,zag,zah,zai,zaj,zak,zal,zam,zan,zao,zap,zaq,↓zar,↓zas,zat,zau,zav,zaw,zax,zay,zaz,zba,zbb,zbc,zbd,zbe,zbf,zbg,zbh,zbi,zbj,zbk,zbl,zbm,zbn,zbo,zbp,zbq,zbr,zbs,zbt,zbu,zbv,zbw,zbx,zby,zbz,zca,zcb,zcc,zcd,zce,zcf,zcg,zch,zci,zcj,zck,zcl,zcm,zcn,zco,zcp,zcq,zcr,zcs,zct,zcu,zcv,zcw,zcx,zcy,zcz,zda,zdb,zdc,zdd,zde,zdf,zdg,zdh,zdi,zdj,zdk,zdl,zdm,ev5,tbMk0,List.map_nil,List.all_nil,List.drop_zero,glob,btA,itA,List.size_toArray,Array.size_empty,List.length_nil,s5,s4,s1,hb]
          refine condQ_dec (fun hlt=>?_) (fun hge=>?_)
          · have hlt : j < m.length := by omega
            have hs:=neg_snoc hlt
            cases hq : (o && !neg (m.take j))
            · rw [hq] at s4
              simp (maxSteps:=1000000) (disch:=first | omega | exact ok4096 | (simp only [updB,dsB,reduceCtorEq,Nat.reduceEqDiff, *]; done) | (simp only [digF_len,putK_len,putB_len,lnB] <;> omega) | fail) only [ev0,ev1,ev2,ev3,↓reduceIte,reduceCtorEq,zaa,zab,zac,zad,zae,zaf,zag,zah,zai,zaj,zak,zal,zam,zan,zao,zap,zaq,↓zar,↓zas,zat,zau,zav,zaw,zax,zay,zaz,zba,zbb,zbc,zbd,zbe,zbf,zbg,zbh,zbi,zbj,zbk,zbl,zbm,zbn,zbo,zbp,zbq,zbr,zbs,zbt,zbu,zbv,zbw,zbx,zby,zbz,zca,zcb,zcc,zcd,zce,zcf,zcg,zch,zci,zcj,zck,zcl,zcm,zcn,zco,zcp,zcq,zcr,zcs,zct,zcu,zcv,zcw,zcx,zcy,zcz,zda,zdb,zdc,zdd,zde,zdf,zdg,zdh,zdi,zdj,zdk,zdl,zdm,ev5,tbMk0,List.map_nil,List.all_nil,List.drop_zero,glob,btA,itA,List.size_toArray,Array.size_empty,List.length_nil,s5,s4,s1,hb]
              refine ⟨m.length - (j + 1),by omega,j + 1,by omega,rfl,?_⟩
              have : (o && !neg (m.take (j + 1))) = false:=by
                rw [hs]; revert hq; cases o <;> cases neg (m.take j) <;> simp
              rw [this]
              first | exact ⟨rfl,rfl⟩ | exact ⟨rfl,rfl,rfl,rfl⟩ | rfl
            · rw [hq] at s4
              simp (maxSteps:=1000000) (disch:=first | omega | exact ok4096 | (simp only [updB,dsB,reduceCtorEq,Nat.reduceEqDiff, *]; done) | (simp only [digF_len,putK_len,putB_len,lnB] <;> omega) | fail) only [ev0,ev1,ev2,ev3,↓reduceIte,reduceCtorEq,zaa,zab,zac,zad,zae,zaf,zag,zah,zai,zaj,zak,zal,zam,zan,zao,zap,zaq,↓zar,↓zas,zat,zau,zav,zaw,zax,zay,zaz,zba,zbb,zbc,zbd,zbe,zbf,zbg,zbh,zbi,zbj,zbk,zbl,zbm,zbn,zbo,zbp,zbq,zbr,zbs,zbt,zbu,zbv,zbw,zbx,zby,zbz,zca,zcb,zcc,zcd,zce,zcf,zcg,zch,zci,zcj,zck,zcl,zcm,zcn,zco,zcp,zcq,zcr,zcs,zct,zcu,zcv,zcw,zcx,zcy,zcz,zda,zdb,zdc,zdd,zde,zdf,zdg,zdh,zdi,zdj,zdk,zdl,zdm,ev5,tbMk0,List.map_nil,List.all_nil,List.drop_zero,glob,btA,itA,List.size_toArray,Array.size_empty,List.length_nil,s5,s4,s1,hb]
              refine ⟨m.length - (j + 1),by omega,j + 1,by omega,rfl,?_⟩
              have : (o && !neg (m.take (j + 1))) = decide (m.getD j 0 ≥ 0):=by
                rw [hs]; revert hq; cases o <;> cases neg (m.take j) <;> simp
              rw [this]
              first | exact ⟨rfl,rfl⟩ | exact ⟨rfl,rfl,rfl,rfl⟩ | rfl
          · have hj : j = m.length := by omega
            subst hj
            rw [List.take_length] at s4
            cases hq : (o && !neg m)
            · rw [hq] at s4 hbad
              have hbad' : badE ⟨t,k,some d,some m⟩ = true:=hbad
              have hR : entR ⟨t,k,some d,some m⟩ = ([],1):=by rw [entR,if_pos hbad']
              rw [hR]
              simp (maxSteps:=1000000) (disch:=first | omega | exact ok4096 | (simp only [updB,dsB,reduceCtorEq,Nat.reduceEqDiff, *]; done) | (simp only [digF_len,putK_len,putB_len,lnB] <;> omega) | fail) only [ev0,ev1,ev2,ev3,↓reduceIte,reduceCtorEq,zaa,zab,zac,zad,zae,zaf,zag,zah,zai,zaj,zak,zal,zam,zan,zao,zap,zaq,↓zar,↓zas,zat,zau,zav,zaw,zax,zay,zaz,zba,zbb,zbc,zbd,zbe,zbf,zbg,zbh,zbi,zbj,zbk,zbl,zbm,zbn,zbo,zbp,zbq,zbr,zbs,zbt,zbu,zbv,zbw,zbx,zby,zbz,zca,zcb,zcc,zcd,zce,zcf,zcg,zch,zci,zcj,zck,zcl,zcm,zcn,zco,zcp,zcq,zcr,zcs,zct,zcu,zcv,zcw,zcx,zcy,zcz,zda,zdb,zdc,zdd,zde,zdf,zdg,zdh,zdi,zdj,zdk,zdl,zdm,ev5,tbMk0,List.map_nil,List.all_nil,List.drop_zero,glob,btA,itA,List.size_toArray,Array.size_empty,List.length_nil,s5,s4,s1,hb]
              exact resQ_2nil
            · rw [hq] at s4 hbad
              have hb' : ¬ badE ⟨t,k,some d,some m⟩ = true:=by rw [hbad]; decide
              have ho' : o = true ∧ neg m = false:=by revert hq; cases o <;> cases neg m <;> simp
              rw [ho'.1] at ho
              have k1 : (0 ≤ t ∧ t ≤ 1099511627776) ∧ (0 ≤ k ∧ k ≤ 2):=by
                have:=ho.symm
                simpa [inW] using this
              have hng:=ho'.2
              have ht:=txB_len (nmF [t,k]) d
              have n1:=need_le t.toNat (by omega)
              have n2:=need_le k.toNat (by omega)
              by_cases c4 : d.length > 4096
              · have hR : entR ⟨t,k,some d,some m⟩ = ([],2) := by rw [entR,if_neg hb']; exact if_pos (.inl c4)
                have dd : decide ((d.length : Int) > 4096) = true:=decide_eq_true (by omega)
                rw [hR]
                simp (maxSteps:=1000000) (disch:=first | omega | exact ok4096 | (simp only [updB,dsB,reduceCtorEq,Nat.reduceEqDiff, *]; done) | (simp only [digF_len,putK_len,putB_len,lnB] <;> omega) | fail) only [ev0,ev1,ev2,ev3,↓reduceIte,reduceCtorEq,zaa,zab,zac,zad,zae,zaf,zag,zah,zai,zaj,zak,zal,zam,zan,zao,zap,zaq,↓zar,↓zas,zat,zau,zav,zaw,zax,zay,zaz,zba,zbb,zbc,zbd,zbe,zbf,zbg,zbh,zbi,zbj,zbk,zbl,zbm,zbn,zbo,zbp,zbq,zbr,zbs,zbt,zbu,zbv,zbw,zbx,zby,zbz,zca,zcb,zcc,zcd,zce,zcf,zcg,zch,zci,zcj,zck,zcl,zcm,zcn,zco,zcp,zcq,zcr,zcs,zct,zcu,zcv,zcw,zcx,zcy,zcz,zda,zdb,zdc,zdd,zde,zdf,zdg,zdh,zdi,zdj,zdk,zdl,zdm,ev5,tbMk0,List.map_nil,List.all_nil,List.drop_zero,glob,btA,itA,List.size_toArray,Array.size_empty,List.length_nil,s5,s4,s1,hb,dd]
                exact resQ_2nil
              have dd : decide ((d.length : Int) > 4096) = false:=decide_eq_false (by omega)
              by_cases c5 : m.length > 7
              · have hR : entR ⟨t,k,some d,some m⟩ = ([],2) := by rw [entR,if_neg hb']; exact if_pos (.inr c5)
                have dm : decide ((m.length : Int) > 7) = true:=decide_eq_true (by omega)
                rw [hR]
                simp (maxSteps:=1000000) (disch:=first | omega | exact ok4096 | (simp only [updB,dsB,reduceCtorEq,Nat.reduceEqDiff, *]; done) | (simp only [digF_len,putK_len,putB_len,lnB] <;> omega) | fail) only [ev0,ev1,ev2,ev3,↓reduceIte,reduceCtorEq,zaa,zab,zac,zad,zae,zaf,zag,zah,zai,zaj,zak,zal,zam,zan,zao,zap,zaq,↓zar,↓zas,zat,zau,zav,zaw,zax,zay,zaz,zba,zbb,zbc,zbd,zbe,zbf,zbg,zbh,zbi,zbj,zbk,zbl,zbm,zbn,zbo,zbp,zbq,zbr,zbs,zbt,zbu,zbv,zbw,zbx,zby,zbz,zca,zcb,zcc,zcd,zce,zcf,zcg,zch,zci,zcj,zck,zcl,zcm,zcn,zco,zcp,zcq,zcr,zcs,zct,zcu,zcv,zcw,zcx,zcy,zcz,zda,zdb,zdc,zdd,zde,zdf,zdg,zdh,zdi,zdj,zdk,zdl,zdm,ev5,tbMk0,List.map_nil,List.all_nil,List.drop_zero,glob,btA,itA,List.size_toArray,Array.size_empty,List.length_nil,s5,s4,s1,hb,dd,dm]
                exact resQ_2nil
              have dm : decide ((m.length : Int) > 7) = false:=decide_eq_false (by omega)
              have hR : entR ⟨t,k,some d,some m⟩ = (putL (txB (putB (putB [] t.toNat) k.toNat) d) m,0):=by rw [entR,if_neg hb']; exact if_neg (by simp only [dat,idat]; omega)
              have hl : (txB (putB (putB [] t.toNat) k.toNat) d).length ≤ 10000:=by
                have:=txB_len (putB (putB [] t.toNat) k.toNat) d (by omega)
                rw [putB_len,putB_len,List.length_nil] at this; omega
              rw [hR]
              simp (maxSteps:=1000000) (disch:=first | omega | exact ok4096 | (simp only [updB,dsB,reduceCtorEq,Nat.reduceEqDiff, *]; done) | (simp only [digF_len,putK_len,putB_len,lnB] <;> omega) | fail) only [ev0,ev1,ev2,ev3,↓reduceIte,reduceCtorEq,zaa,zab,zac,zad,zae,zaf,zag,zah,zai,zaj,zak,zal,zam,zan,zao,zap,zaq,↓zar,↓zas,zat,zau,zav,zaw,zax,zay,zaz,zba,zbb,zbc,zbd,zbe,zbf,zbg,zbh,zbi,zbj,zbk,zbl,zbm,zbn,zbo,zbp,zbq,zbr,zbs,zbt,zbu,zbv,zbw,zbx,zby,zbz,zca,zcb,zcc,zcd,zce,zcf,zcg,zch,zci,zcj,zck,zcl,zcm,zcn,zco,zcp,zcq,zcr,zcs,zct,zcu,zcv,zcw,zcx,zcy,zcz,zda,zdb,zdc,zdd,zde,zdf,zdg,zdh,zdi,zdj,zdk,zdl,zdm,ev5,tbMk0,List.map_nil,List.all_nil,List.drop_zero,glob,btA,itA,List.size_toArray,Array.size_empty,List.length_nil,s5,s4,s1,hb,dd,dm]
              exact resQ_2
    · cases hr
  · cases hr
end Go.Proofs.YtddeffdgldjdjaaDoor.W
