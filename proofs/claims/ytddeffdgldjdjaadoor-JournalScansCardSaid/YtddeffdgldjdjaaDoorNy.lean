/- The document reads records,one behind the other: what the walk comes to. -/
import Derived.Test.YtddeffdgldjdjaaDoorNw
import Derived.Test.YtddeffdgldjdjaaDoorNm
namespace Go.Proofs.YtddeffdgldjdjaaDoor.W
set_option linter.unusedSimpArgs false
set_option linter.unusedVariables false
set_option linter.defProp false
open Go Go.Abs
open Nat renaming reduceAdd→zaa,reduceSub→zab,reduceMul→zac,reduceLT→zad,reduceLeDiff→zae,reduceEqDiff→zaf,reduceBEq→zag
open BitVec renaming reduceOfInt→zah
open Int renaming reduceLE→zai,reduceLT→zaj,reduceGT→zak,reduceGE→zal,reduceNeg→zam,reduceAdd→zan,reduceSub→zao,reduceMul→zap,reduceToNat→zaq
open Go.Abs renaming bind_go→zar,map_go→zas,wantedV→zat,isWrite→zau,grow→zav,write→zaw,ofV→zax,start→zaz,strip→zba,endQ→zbb,resV→zbc,rawsRes→zbd,rawRes→zbe,exports→zbf,export1→zbg,isSelf→zbl,convSelf→zbm,convV→zbn,loadV→zbo,storeV→zbp,fieldAddrV→zbq,fieldV→zbr,indexAddrV→zbs,indexV→zbt,partV→zbu,isAggK→zbv,isStr→zbw,place→zbx,ipS→zby,lenV→zbz,min2V→zca,makeV→zcb,freshSl→zcc,sliceV→zcd,boundOr→zce,bound→zcf,bounds→zcg,cutFl→zch,copyV→zci,slCells→zcj,srcV→zck,appendV→zcl,room→zcm,zerosOf→zcn,eqNeg→zco,kd→zcp,takeR→zcq,hasViewL→zcr,hasView→zcs,freshR→zct,freshC→zcu,snapAll→zcv,snap→zcw,snapL→zcx,flatL→zcy,pureL→zcz,pureA→zda,fillC→zdb,arrOK→zdc,oneA→zdd,partB→zde,ren1→zdg,applyW→zdi,useL→zdj,isGen→zdl,startG→zdm
open Go.Abs.AV renaming cells→zay,laid→zdf
open Go.Abs.AS renaming grown→zbh,put→zbi,mute→zdk
open Go.Abs.Env renaming know→zbj,boxed→zbk
open Go.Abs.CR renaming gr→zdh
set_option maxHeartbeats 16000000
noncomputable def pf84 : List AV → Option AV
  | [.agg ts,v]=>(tabB? (ts.map strip)).bind fun _=>(row? .u8 8 v).bind fun b=>if b.length ≤ 1000000000000 then some (.tup [.sl (scanF oneS b).1.length (recsA (scanF oneS b).1) .bor,.raw (.int .i64 (scanF oneS b).2)]) else none
  | _=>none
theorem pf84_at {n : Nat} {b : List (BitVec 8)} {fl : Fl} (h : n = b.length) (h2 : b.length ≤ 1000000000000) : pf84 [.agg tabA,.sl n (nums .u8 b) fl] = some (.tup [.sl (scanF oneS b).1.length (recsA (scanF oneS b).1) .bor,.raw (.int .i64 (scanF oneS b).2)]):=by
  simp only [pf84,tabB?_at,row?_at h,Option.bind_some,if_pos h2]
noncomputable def ERX : Env:=((ES0.know 120 (fun xs=>pf145 (xs.map norm))).know 121 pf121).know 82 pf82
theorem okRX : EnvOK Tryd.prog ERX:=((okS0.know (liftS sound120.norm)).know sound121).know sound82
theorem ERX_te : ERX.te = te:=rfl
theorem ERX_glob : ERX.glob = globS:=rfl
theorem ERX_gs : ERX.gs = []:=rfl
theorem ERX_dyn : ERX.dyn = false:=rfl
theorem ERX_mu (d : Nat) : ERX.mu d = false:=rfl
theorem ERX_t : ERX.tbl 120 = some (.val (fun xs=>pf145 (xs.map norm))):=rfl
theorem ERX_o : ERX.tbl 121 = some (.val pf121):=rfl
theorem ERX_p : ERX.tbl 82 = some (.val pf82):=rfl
def tbNy0:=(And.intro (And.intro (And.intro (And.intro (And.intro @teE @rep_one) (And.intro @recsA_pure @recsA_oneA)) (And.intro (And.intro @recsA_len @recsA_snoc) (And.intro @ERX_te @ERX_glob))) (And.intro (And.intro (And.intro @ERX_gs @ERX_dyn) (And.intro @ERX_mu @ERX_t)) (And.intro (And.intro @ERX_o @ERX_p) (And.intro @ev4 (And.intro @zz0 @ttake_at))))) (And.intro (And.intro (And.intro (And.intro @tabA_len @tabA_strip) (And.intro @tabA_one @tabA_take)) (And.intro (And.intro @tabA_drop @tabA_snap) (And.intro @tabA_noview @zeroRec))) (And.intro (And.intro (And.intro @recA_len @recA_take) (And.intro @recA_drop @recA_snap)) (And.intro (And.intro @recA_noview @recA_strip) (And.intro @recA_oneA (And.intro @splice_rec @splice_rec'))))))
theorem sound84 : SoundV Tryd.prog globS 84 pf84:=by
  refine SoundV.walk ERX okRX mixed Tryd.func84 rfl Tryd.call84 (by kernel_rfl) ?_
  intro args r hr
  unfold pf84 at hr
  split at hr
  · simp only [Option.bind_eq_some_iff] at hr
    obtain ⟨_,ht,b,h1,hr⟩:=hr
    split at hr
    · rename_i hc
      cases hr
      have htab:=tabB?_of ht
      obtain ⟨fl,rfl⟩:=row?_of h1
      rw [Tryd.ntmps84,Tryd.results84]
      refine ⟨by simp,?_⟩
      simp (maxSteps:=1000000) (disch:=first | omega | exact ok4K | (simp only [digF_len,putK_len,putB_len,shaB_lenW,lnB] <;> omega) | fail) only [ev0,ev1,ev2,ev3,↓reduceIte,reduceCtorEq,zaa,zab,zac,zad,zae,zaf,zag,zah,zai,zaj,zak,zal,zam,zan,zao,zap,zaq,↓zar,↓zas,zat,zau,zav,zaw,zax,zay,zaz,zba,zbb,zbc,zbd,zbe,zbf,zbg,zbh,zbi,zbj,zbk,zbl,zbm,zbn,zbo,zbp,zbq,zbr,zbs,zbt,zbu,zbv,zbw,zbx,zby,zbz,zca,zcb,zcc,zcd,zce,zcf,zcg,zch,zci,zcj,zck,zcl,zcm,zcn,zco,zcp,zcq,zcr,zcs,zct,zcu,zcv,zcw,zcx,zcy,zcz,zda,zdb,zdc,zdd,zde,zdf,zdg,zdh,zdi,zdj,zdk,zdl,zdm,ev5,tbNy0,List.length_cons,globS,List.size_toArray,Array.size_empty,List.length_nil,List.map_nil,List.all_nil,List.drop_zero,htab]
      refine loopQ_wk _ (Wk.at (d := 6) (v := .sl 0 [] (.own ⟨0,6,0,0⟩ 10)) (by simp (maxSteps := 1000000) (disch := first | omega | exact ok4K | (simp only [digF_len,putK_len,putB_len,shaB_lenW,lnB] <;> omega) | fail) only [ev0,ev1,ev2,ev3,↓reduceIte,reduceCtorEq,zaa,zab,zac,zad,zae,zaf,zag,zah,zai,zaj,zak,zal,zam,zan,zao,zap,zaq,↓zar,↓zas,zat,zau,zav,zaw,zax,zay,zaz,zba,zbb,zbc,zbd,zbe,zbf,zbg,zbh,zbi,zbj,zbk,zbl,zbm,zbn,zbo,zbp,zbq,zbr,zbs,zbt,zbu,zbv,zbw,zbx,zby,zbz,zca,zcb,zcc,zcd,zce,zcf,zcg,zch,zci,zcj,zck,zcl,zcm,zcn,zco,zcp,zcq,zcr,zcs,zct,zcu,zcv,zcw,zcx,zcy,zcz,zda,zdb,zdc,zdd,zde,zdf,zdg,zdh,zdi,zdj,zdk,zdl,zdm,ev5,tbNy0,List.length_cons,globS,List.size_toArray,Array.size_empty,List.length_nil,List.map_nil,List.all_nil,List.drop_zero]; exact .nil 6 10)) (fun m σ => ∃ n l i,n ≤ b.length ∧ m = b.length - n ∧ l.length ≤ n ∧ (scanF oneS b).1 = l ++ (scanF oneS (b.drop n)).1 ∧ (scanF oneS b).2 = n + (scanF oneS (b.drop n)).2 ∧ σ.slots 7 = .raw (.int .i64 (n : Int)) ∧ σ.slots 1 = .sl b.length (nums .u8 b) .bor ∧
        σ.slots 2 = .ptr (.own 0 2 1) 0 ∧ σ.box (.own 0 2 1) = some tabA ∧ σ.slots 6 = .sl l.length (recsA l) (.own i 10) ∧ Free σ.used (σ.gen 68) 68 i) b.length ?_ ?_
      · refine ⟨0,[],⟨0,6,0,0⟩,by omega,by omega,by simp,by simp,by simp,?_⟩
        simp (maxSteps:=1000000) (disch:=first | omega | exact ok4K | (simp only [digF_len,putK_len,putB_len,shaB_lenW,lnB] <;> omega) | fail) only [ev0,ev1,ev2,ev3,↓reduceIte,reduceCtorEq,zaa,zab,zac,zad,zae,zaf,zag,zah,zai,zaj,zak,zal,zam,zan,zao,zap,zaq,↓zar,↓zas,zat,zau,zav,zaw,zax,zay,zaz,zba,zbb,zbc,zbd,zbe,zbf,zbg,zbh,zbi,zbj,zbk,zbl,zbm,zbn,zbo,zbp,zbq,zbr,zbs,zbt,zbu,zbv,zbw,zbx,zby,zbz,zca,zcb,zcc,zcd,zce,zcf,zcg,zch,zci,zcj,zck,zcl,zcm,zcn,zco,zcp,zcq,zcr,zcs,zct,zcu,zcv,zcw,zcx,zcy,zcz,zda,zdb,zdc,zdd,zde,zdf,zdg,zdh,zdi,zdj,zdk,zdl,zdm,ev5,tbNy0,List.length_cons,globS,List.size_toArray,Array.size_empty,List.length_nil,List.map_nil,List.all_nil,List.drop_zero]
        exact ⟨rfl,rfl,⟨rfl,fun _ _=>rfl,by simp⟩⟩
      · rintro m ⟨sl,gn,bx,us⟩ ⟨n,l,i,hn,rfl,hl,hs1,hs2,s7,s1,s2,b2,s6,hf⟩
        dsimp only at s7 s1 s2 b2 s6 hf
        have hf0:=hf.now
        have hq:=oneS_le (b.drop n)
        rw [List.length_drop] at hq
        have hS:=refS_is (b:=b.drop n) (by rw [List.length_drop]; omega)
        obtain ⟨t1,t2⟩ : (ttE (List.take ((if (n : Int) + 4096 + 20 < (b.length : Int) then (n : Int) + 4096 + 20 else (b.length : Int)).toNat - n) (List.drop n b)) 4096 = 0 ↔ ttE (b.drop n) 4096 = 0) ∧ ttT (List.take ((if (n : Int) + 4096 + 20 < (b.length : Int) then (n : Int) + 4096 + 20 else (b.length : Int)).toNat - n) (List.drop n b)) 4096 = ttT (b.drop n) 4096:=by
          by_cases hk : (n : Int) + 4096 + 20 < (b.length : Int)
          · rw [if_pos hk]; exact tt_front (by omega)
          · rw [if_neg hk,List.take_of_length_le (by rw [List.length_drop]; omega)]; exact ⟨Iff.rfl,rfl⟩
        simp (maxSteps:=1000000) (disch:=first | omega | exact ok4K | (simp only [digF_len,putK_len,putB_len,shaB_lenW,lnB] <;> omega) | fail) only [ev0,ev1,ev2,ev3,↓reduceIte,reduceCtorEq,zaa,zab,zac,zad,zae,zaf,zag,zah,zai,zaj,zak,zal,zam,zan,zao,zap,zaq,↓zar,↓zas,zat,zau,zav,zaw,zax,zay,zaz,zba,zbb,zbc,zbd,zbe,zbf,zbg,zbh,zbi,zbj,zbk,zbl,zbm,zbn,zbo,zbp,zbq,zbr,zbs,zbt,zbu,zbv,zbw,zbx,zby,zbz,zca,zcb,zcc,zcd,zce,zcf,zcg,zch,zci,zcj,zck,zcl,zcm,zcn,zco,zcp,zcq,zcr,zcs,zct,zcu,zcv,zcw,zcx,zcy,zcz,zda,zdb,zdc,zdd,zde,zdf,zdg,zdh,zdi,zdj,zdk,zdl,zdm,ev5,tbNy0,List.length_cons,globS,List.size_toArray,Array.size_empty,List.length_nil,List.map_nil,List.all_nil,List.drop_zero,s7,s1,s2,b2,s6,hf0]
        generalize ttE (List.take ((if (n : Int) + 4096 + 20 < (b.length : Int) then (n : Int) + 4096 + 20 else (b.length : Int)).toNat - n) (List.drop n b)) 4096 = E at t1 ⊢
        by_cases e0 : ttE (b.drop n) 4096 = 0
        rotate_left
        · have d0 : ((E : Int) != 0) = true := by rw [bne_iff_ne]; have := fun h => e0 (t1.1 h); omega
          have h0 : (oneS (b.drop n)).2 = 0:=by rw [hS,refS,if_pos e0]
          rw [scanF_no h0] at hs1 hs2
          simp (maxSteps:=1000000) (disch:=first | omega | exact ok4K | (simp only [digF_len,putK_len,putB_len,shaB_lenW,lnB] <;> omega) | fail) only [ev0,ev1,ev2,ev3,↓reduceIte,reduceCtorEq,zaa,zab,zac,zad,zae,zaf,zag,zah,zai,zaj,zak,zal,zam,zan,zao,zap,zaq,↓zar,↓zas,zat,zau,zav,zaw,zax,zay,zaz,zba,zbb,zbc,zbd,zbe,zbf,zbg,zbh,zbi,zbj,zbk,zbl,zbm,zbn,zbo,zbp,zbq,zbr,zbs,zbt,zbu,zbv,zbw,zbx,zby,zbz,zca,zcb,zcc,zcd,zce,zcf,zcg,zch,zci,zcj,zck,zcl,zcm,zcn,zco,zcp,zcq,zcr,zcs,zct,zcu,zcv,zcw,zcx,zcy,zcz,zda,zdb,zdc,zdd,zde,zdf,zdg,zdh,zdi,zdj,zdk,zdl,zdm,ev5,tbNy0,List.length_cons,globS,List.size_toArray,Array.size_empty,List.length_nil,List.map_nil,List.all_nil,List.drop_zero,s7,s1,s2,b2,s6,hf0,d0]
          rw [hs1,hs2,List.append_nil]
          exact resQ_2r
        have d0 : ((E : Int) != 0) = false:=by rw [t1.2 e0]; rfl
        rw [refS,if_neg (not_not_intro e0)] at hS
        have hT:=ttT_le (b.drop n) 4096
        rw [List.length_drop] at hT
        generalize ttT (b.drop n) 4096 = T at t2 hT hS
        have ho:=refX_ok (b:=T) (by omega)
        have hone:=fun fl=>pf121_at (n:=T.length) (b:=T) (fl:=fl) rfl (by omega)
        have hput:=pf82_at ho
        generalize refX T = R at ho hone hput hS
        have hpos : (putF R).2 = 0→0 < (putF R).1.length:=fun h=>by
          obtain ⟨B,p1,_⟩:=recX_put ho h
          rw [p1,frB_len]; omega
        generalize putF R = X at hput hS hpos
        obtain ⟨X,e⟩:=X
        dsimp only at hput hS hpos
        by_cases ee : e = 0
        rotate_left
        · have d1 : (e != 0) = true := by rw [bne_iff_ne]; exact ee
          have h0 : (oneS (b.drop n)).2 = 0:=by rw [hS,if_neg (fun h=>ee h.1)]
          rw [scanF_no h0] at hs1 hs2
          simp (maxSteps:=1000000) (disch:=first | omega | exact ok4K | (simp only [digF_len,putK_len,putB_len,shaB_lenW,lnB] <;> omega) | fail) only [ev0,ev1,ev2,ev3,↓reduceIte,reduceCtorEq,zaa,zab,zac,zad,zae,zaf,zag,zah,zai,zaj,zak,zal,zam,zan,zao,zap,zaq,↓zar,↓zas,zat,zau,zav,zaw,zax,zay,zaz,zba,zbb,zbc,zbd,zbe,zbf,zbg,zbh,zbi,zbj,zbk,zbl,zbm,zbn,zbo,zbp,zbq,zbr,zbs,zbt,zbu,zbv,zbw,zbx,zby,zbz,zca,zcb,zcc,zcd,zce,zcf,zcg,zch,zci,zcj,zck,zcl,zcm,zcn,zco,zcp,zcq,zcr,zcs,zct,zcu,zcv,zcw,zcx,zcy,zcz,zda,zdb,zdc,zdd,zde,zdf,zdg,zdh,zdi,zdj,zdk,zdl,zdm,ev5,tbNy0,List.length_cons,globS,List.size_toArray,Array.size_empty,List.length_nil,List.map_nil,List.all_nil,List.drop_zero,s7,s1,s2,b2,s6,hf0,d0,t2,hone,hput,d1]
          rw [hs1,hs2,List.append_nil]
          exact resQ_2r
        have d1 : (e != 0) = false:=by rw [ee]; rfl
        by_cases hX : X.length ≤ b.length - n
        rotate_left
        · have d2 : decide ((X.length : Int) > (b.length : Int) - (n : Int)) = true := decide_eq_true (by omega)
          have h0 : (oneS (b.drop n)).2 = 0:=by
            rw [hS,if_neg]
            rintro ⟨_,h⟩
            simp only [preB,Bool.and_eq_true,decide_eq_true_eq,List.length_drop] at h
            omega
          rw [scanF_no h0] at hs1 hs2
          simp (maxSteps:=1000000) (disch:=first | omega | exact ok4K | (simp only [digF_len,putK_len,putB_len,shaB_lenW,lnB] <;> omega) | fail) only [ev0,ev1,ev2,ev3,↓reduceIte,reduceCtorEq,zaa,zab,zac,zad,zae,zaf,zag,zah,zai,zaj,zak,zal,zam,zan,zao,zap,zaq,↓zar,↓zas,zat,zau,zav,zaw,zax,zay,zaz,zba,zbb,zbc,zbd,zbe,zbf,zbg,zbh,zbi,zbj,zbk,zbl,zbm,zbn,zbo,zbp,zbq,zbr,zbs,zbt,zbu,zbv,zbw,zbx,zby,zbz,zca,zcb,zcc,zcd,zce,zcf,zcg,zch,zci,zcj,zck,zcl,zcm,zcn,zco,zcp,zcq,zcr,zcs,zct,zcu,zcv,zcw,zcx,zcy,zcz,zda,zdb,zdc,zdd,zde,zdf,zdg,zdh,zdi,zdj,zdk,zdl,zdm,ev5,tbNy0,List.length_cons,globS,List.size_toArray,Array.size_empty,List.length_nil,List.map_nil,List.all_nil,List.drop_zero,s7,s1,s2,b2,s6,hf0,d0,t2,hone,hput,d1,d2]
          rw [hs1,hs2,List.append_nil]
          exact resQ_2r
        have d2 : decide ((X.length : Int) > (b.length : Int) - (n : Int)) = false:=decide_eq_false (by omega)
        by_cases hp : (b.drop n).take X.length = X
        rotate_left
        · have d3 : (List.map UInt8.ofBitVec X == List.map UInt8.ofBitVec (List.take (n + X.length - n) (List.drop n b))) = false:=by
            rw [show n + X.length - n = X.length by omega]
            exact beq_eq_false_iff_ne.2 fun h=>hp ((List.map_inj_right (fun a b h=>UInt8.ofBitVec.inj h)).1 h).symm
          have h0 : (oneS (b.drop n)).2 = 0:=by
            rw [hS,if_neg]
            rintro ⟨_,h⟩
            simp only [preB,Bool.and_eq_true,decide_eq_true_eq] at h
            exact hp h.2
          rw [scanF_no h0] at hs1 hs2
          simp (maxSteps:=1000000) (disch:=first | omega | exact ok4K | (simp only [digF_len,putK_len,putB_len,shaB_lenW,lnB] <;> omega) | fail) only [ev0,ev1,ev2,ev3,↓reduceIte,reduceCtorEq,zaa,zab,zac,zad,zae,zaf,zag,zah,zai,zaj,zak,zal,zam,zan,zao,zap,zaq,↓zar,↓zas,zat,zau,zav,zaw,zax,zay,zaz,zba,zbb,zbc,zbd,zbe,zbf,zbg,zbh,zbi,zbj,zbk,zbl,zbm,zbn,zbo,zbp,zbq,zbr,zbs,zbt,zbu,zbv,zbw,zbx,zby,zbz,zca,zcb,zcc,zcd,zce,zcf,zcg,zch,zci,zcj,zck,zcl,zcm,zcn,zco,zcp,zcq,zcr,zcs,zct,zcu,zcv,zcw,zcx,zcy,zcz,zda,zdb,zdc,zdd,zde,zdf,zdg,zdh,zdi,zdj,zdk,zdl,zdm,ev5,tbNy0,List.length_cons,globS,List.size_toArray,Array.size_empty,List.length_nil,List.map_nil,List.all_nil,List.drop_zero,s7,s1,s2,b2,s6,hf0,d0,t2,hone,hput,d1,d2,d3]
          rw [hs1,hs2,List.append_nil]
          exact resQ_2r
        have d3 : (List.map UInt8.ofBitVec X == List.map UInt8.ofBitVec (List.take (n + X.length - n) (List.drop n b))) = true:=by
          rw [show n + X.length - n = X.length by omega,hp]
          exact beq_self_eq_true _
        rw [if_pos ⟨ee,by simp only [preB,Bool.and_eq_true,decide_eq_true_eq,List.length_drop]; exact ⟨hX,hp⟩⟩] at hS
        have hX0:=hpos ee
        have h0 : (oneS (b.drop n)).2 ≠ 0:=by rw [hS]; show X.length ≠ 0; omega
        have hg:=scanF_go oneS_le h0
        rw [hS,List.drop_drop] at hg
        dsimp only at hg
        simp (maxSteps:=1000000) (disch:=first | omega | exact ok4K | (simp only [digF_len,putK_len,putB_len,shaB_lenW,lnB] <;> omega) | fail) only [ev0,ev1,ev2,ev3,↓reduceIte,reduceCtorEq,zaa,zab,zac,zad,zae,zaf,zag,zah,zai,zaj,zak,zal,zam,zan,zao,zap,zaq,↓zar,↓zas,zat,zau,zav,zaw,zax,zay,zaz,zba,zbb,zbc,zbd,zbe,zbf,zbg,zbh,zbi,zbj,zbk,zbl,zbm,zbn,zbo,zbp,zbq,zbr,zbs,zbt,zbu,zbv,zbw,zbx,zby,zbz,zca,zcb,zcc,zcd,zce,zcf,zcg,zch,zci,zcj,zck,zcl,zcm,zcn,zco,zcp,zcq,zcr,zcs,zct,zcu,zcv,zcw,zcx,zcy,zcz,zda,zdb,zdc,zdd,zde,zdf,zdg,zdh,zdi,zdj,zdk,zdl,zdm,ev5,tbNy0,List.length_cons,globS,List.size_toArray,Array.size_empty,List.length_nil,List.map_nil,List.all_nil,List.drop_zero,s7,s1,s2,b2,s6,hf0,d0,t2,hone,hput,d1,d2,d3]
        refine ⟨b.length - (n + X.length),by omega,n + X.length,l ++ [R],⟨0,68,0,gn 68 + 1⟩,by omega,rfl,by rw [List.length_append,List.length_singleton]; omega,?_,?_,?_⟩
        · rw [hs1,hg]; simp
        · rw [hs2,hg]; dsimp only; omega
        · exact ⟨i64_eq (by omega),by rw [List.length_append,List.length_singleton],hf.go⟩
    · cases hr
  · cases hr
noncomputable def ERY : Env:=(ES0.know 47 pf47').know 84 pf84
theorem okRY : EnvOK Tryd.prog ERY:=(okS0.know sound47').know sound84
theorem ERY_te : ERY.te = te:=rfl
theorem ERY_glob : ERY.glob = globS:=rfl
theorem ERY_gs : ERY.gs = []:=rfl
theorem ERY_dyn : ERY.dyn = false:=rfl
theorem ERY_mu (d : Nat) : ERY.mu d = false:=rfl
theorem ERY_m : ERY.tbl 47 = some (.val pf47'):=rfl
theorem ERY_s : ERY.tbl 84 = some (.val pf84):=rfl
theorem makeS_at : pf47' [] = some (.agg tabA):=rfl
noncomputable def pf51 : List AV → Option AV
  | [v]=>(row? .u8 8 v).bind fun b=>if b.length ≤ 1000000000000 then some (.tup [.sl (scanF oneS b).1.length (recsA (scanF oneS b).1) .bor,.raw (.int .i64 (scanF oneS b).2)]) else none
  | _=>none
theorem pf51_at {n : Nat} {b : List (BitVec 8)} {fl : Fl} (h : n = b.length) (h2 : b.length ≤ 1000000000000) : pf51 [.sl n (nums .u8 b) fl] = some (.tup [.sl (scanF oneS b).1.length (recsA (scanF oneS b).1) .bor,.raw (.int .i64 (scanF oneS b).2)]):=by
  simp only [pf51,row?_at h,Option.bind_some,if_pos h2]
theorem sound51 : SoundV Tryd.prog globS 51 pf51:=by
  refine SoundV.walk ERY okRY mixed Tryd.func51 rfl Tryd.call51 (by kernel_rfl) ?_
  intro args r hr
  unfold pf51 at hr
  split at hr
  · simp only [Option.bind_eq_some_iff] at hr
    obtain ⟨b,h1,hr⟩:=hr
    split at hr
    · rename_i hc
      cases hr
      obtain ⟨fl,rfl⟩:=row?_of h1
      have hp:=fun fl=>pf84_at (n:=b.length) (b:=b) (fl:=fl) rfl hc
      rw [Tryd.ntmps51,Tryd.results51]
      refine ⟨by simp,?_⟩
      simp (maxSteps:=1000000) (disch:=first | omega | (simp only [digF_len,putK_len,putB_len,shaB_lenW,lnB] <;> omega) | fail) only [ev0,ev1,ev2,ev3,↓reduceIte,reduceCtorEq,zaa,zab,zac,zad,zae,zaf,zag,zah,zai,zaj,zak,zal,zam,zan,zao,zap,zaq,↓zar,↓zas,zat,zau,zav,zaw,zax,zay,zaz,zba,zbb,zbc,zbd,zbe,zbf,zbg,zbh,zbi,zbj,zbk,zbl,zbm,zbn,zbo,zbp,zbq,zbr,zbs,zbt,zbu,zbv,zbw,zbx,zby,zbz,zca,zcb,zcc,zcd,zce,zcf,zcg,zch,zci,zcj,zck,zcl,zcm,zcn,zco,zcp,zcq,zcr,zcs,zct,zcu,zcv,zcw,zcx,zcy,zcz,zda,zdb,zdc,zdd,zde,zdf,zdg,zdh,zdi,zdj,zdk,zdl,zdm,ev5,teE,recsA_pure,recsA_oneA,ERY_te,ERY_glob,ERY_gs,ERY_dyn,ERY_mu,ERY_m,ERY_s,globS,ev4,makeS_at,tabA_len,tabA_strip,tabA_one,tabA_snap,tabA_noview,hp]
      exact resQ_2r
    · cases hr
  · cases hr
end Go.Proofs.YtddeffdgldjdjaaDoor.W
