/- The document's bytes of a record: what the walk comes to. -/
import Derived.Test.YtddeffdgldjdjaaDoorNs
import Derived.Test.YtddeffdgldjdjaaDoorNg
namespace Go.Proofs.YtddeffdgldjdjaaDoor.W
set_option linter.unusedSimpArgs false
set_option linter.unusedVariables false
set_option linter.defProp false
open Go Go.Abs
open Nat renaming reduceAdd→zaa,reduceSub→zab,reduceMul→zac,reduceLT→zad,reduceLeDiff→zae,reduceEqDiff→zaf,reduceBEq→zag
open BitVec renaming reduceOfInt→zah
open Int renaming reduceLE→zai,reduceLT→zaj,reduceGT→zak,reduceGE→zal,reduceNeg→zam,reduceAdd→zan,reduceSub→zao,reduceMul→zap,reduceToNat→zaq
open Go.Abs renaming bind_go→zar,map_go→zas,wantedV→zat,isWrite→zau,grow→zav,write→zaw,ofV→zax,start→zaz,strip→zba,endQ→zbb,resV→zbc,rawsRes→zbd,rawRes→zbe,exports→zbf,export1→zbg,isSelf→zbl,convSelf→zbm,convV→zbn,loadV→zbo,storeV→zbp,fieldAddrV→zbq,fieldV→zbr,indexAddrV→zbs,indexV→zbt,partV→zbu,isAggK→zbv,isStr→zbw,place→zbx,ipS→zby,lenV→zbz,min2V→zca,makeV→zcb,freshSl→zcc,sliceV→zcd,boundOr→zce,bound→zcf,bounds→zcg,cutFl→zch,copyV→zci,slCells→zcj,srcV→zck,appendV→zcl,room→zcm,zerosOf→zcn,eqNeg→zco,kd→zcp,takeR→zcq,hasViewL→zcr,hasView→zcs,freshR→zct,freshC→zcu,snapAll→zcv,snap→zcw,snapL→zcx,flatL→zcy,pureL→zcz,pureA→zda,fillC→zdb,arrOK→zdc,oneA→zdd,partB→zde,ren1→zdg,applyW→zdi,useL→zdj,isGen→zdl,startG→zdm
open Go.Abs.AV renaming cells→zay,laid→zdf
open Go.Abs.AS renaming grown→zbh,put→zbi,mute→zdk
open Go.Abs.Env renaming know→zbj,boxed→zbk
open Go.Abs.CR renaming gr→zdh
set_option maxHeartbeats 16000000
theorem bare_is (e : Eny) : sameE e noE = decide (entNo e):=by
  obtain ⟨t,k,d,m⟩:=e
  have e : sameE ⟨t,k,d,m⟩ noE = (decide (t = 0) && (decide (k = 0) && (decide (dat d = []) && decide (idat m = [])))):=rfl
  rw [e]
  unfold entNo
  dsimp only
  by_cases h1 : t = 0 <;> by_cases h2 : k = 0 <;> by_cases h3 : dat d = [] <;> by_cases h4 : idat m = [] <;> simp [h1,h2,h3,h4]
theorem okNo : okN noE:=by unfold okN noE; simp [dat,idat]
def mayR (r : Rec) : Bool:=!numM r && !(numL r).any (fun n=>decide (oob n))
theorem putF_no {r : Rec} (h : mayR r = false) : putF r = ([],1):=by
  unfold mayR at h
  rw [putF]
  cases h1 : numM r
  · rw [if_neg (by decide)]
    rw [h1] at h
    rw [if_pos (by simpa using h)]
  · rw [if_pos rfl]
theorem putF_yes {r : Rec} (h : mayR r = true) : putF r = if r.k = 2 then (if (entR r.e).2 ≠ 0 then ([],(entR r.e).2) else if 4096 < (entR r.e).1.length then ([],2) else frF (txB (nmF (r.k :: numL r)) (entR r.e).1)) else frF (nmF (r.k :: numL r)):=by
  unfold mayR at h
  simp only [Bool.and_eq_true,Bool.not_eq_true'] at h
  rw [putF,h.1,if_neg (by decide),h.2,if_neg (by decide)]
theorem hardP_eq (h v h' v' : Int) : binV te .eql 63 (.agg [.raw (.int .i64 h),.raw (.int .i64 v)]) (.agg [.raw (.int .i64 h'),.raw (.int .i64 v')]) = some (.raw (.bool (([h,v] == [h',v'])))):=by
  simp only [binV,hard_kd,asInts,Option.map_some]
  simp [eqNeg,TK.isI64,kd,te3,List.range,List.range.loop]
noncomputable def EPT : Env:=(((((ES0.know 89 (fun xs=>pf89 (xs.map norm3))).know 114 pf114).know 104 (fun xs=>pf80 (xs.map norm))).know 115 (fun xs=>pfEn (xs.map norm3))).know 73 (fun xs=>pf72 (xs.map norm))).know 46 pf46
theorem okPT : EnvOK Tryd.prog EPT:=(((((okS0.know (liftS (SoundV.norm3 sound89))).know sound114).know (liftS sound104.norm)).know (liftS (SoundV.norm3 sound115))).know (liftS sound73.norm)).know sound46
theorem EPT_te : EPT.te = te:=rfl
theorem EPT_glob : EPT.glob = globS:=rfl
theorem EPT_gs : EPT.gs = []:=rfl
theorem EPT_dyn : EPT.dyn = false:=rfl
theorem EPT_mu (d : Nat) : EPT.mu d = false:=rfl
theorem EPT_s : EPT.tbl 89 = some (.val (fun xs=>pf89 (xs.map norm3))):=rfl
theorem EPT_i : EPT.tbl 114 = some (.val pf114):=rfl
theorem EPT_p : EPT.tbl 104 = some (.val (fun xs=>pf80 (xs.map norm))):=rfl
theorem EPT_e : EPT.tbl 115 = some (.val (fun xs=>pfEn (xs.map norm3))):=rfl
theorem EPT_t : EPT.tbl 73 = some (.val (fun xs=>pf72 (xs.map norm))):=rfl
theorem EPT_f : EPT.tbl 46 = some (.val pf46):=rfl
noncomputable def pf82 : List AV → Option AV
  | [.agg ts,.agg cs]=>(tabB? (ts.map strip)).bind fun _=>(rec? (cs.map strip)).bind fun r=>open Classical in if recOK r then some (.tup [.sl (putF r).1.length (nums .u8 (putF r).1) .bor,.raw (.int .i64 (putF r).2)]) else none
  | _=>none
theorem pf82_at {r : Rec} (h : recOK r) : pf82 [.agg tabA,.agg (recA r)] = some (.tup [.sl (putF r).1.length (nums .u8 (putF r).1) .bor,.raw (.int .i64 (putF r).2)]):=by
  simp only [pf82,tabB?_at,recA_strip,rec?_at,Option.bind_some]
  exact if_pos h
theorem rAt (r : Rec) : (recA r)[2]? = some (.raw (.int .i64 r.t)):=rfl
theorem rAi (r : Rec) : (recA r)[1]? = some (.raw (.int .i64 r.i)):=rfl
theorem rAk (r : Rec) : (recA r)[0]? = some (.raw (.int .i64 r.k)):=rfl
theorem rAn (r : Rec) : (recA r)[3]? = some (.raw (.int .i64 r.n)):=rfl
theorem rAhh (r : Rec) : (recA r)[4]? = some (.raw (.int .i64 r.h)):=rfl
theorem rAvv (r : Rec) : (recA r)[5]? = some (.raw (.int .i64 r.v)):=rfl
theorem rAhv (r : Rec) : ((recA r).drop 4).take 2 = [.raw (.int .i64 r.h),.raw (.int .i64 r.v)]:=rfl
theorem rAen (r : Rec) : ((recA r).drop 6).take 4 = entA r.e:=rfl
theorem getD_memI {l : List Int} {j : Nat} (h : j < l.length) : l.getD j 0 ∈ l:=by
  rw [List.getD_eq_getElem?_getD,List.getElem?_eq_getElem h]; exact List.getElem_mem h
theorem rep4 (x : AV) : rep 4 [x] = [x,x,x,x]:=rfl
theorem le4 (a b c d : AV) : (4 ≤ [a,b,c,d].length) = True:=by simp
theorem dr4 (a b c d : AV) : [a,b,c,d].drop 4 = []:=rfl
theorem rep_zeroN (xs : List AV) : rep 0 xs = []:=rfl
def tbNt0:=(And.intro (And.intro (And.intro (And.intro (And.intro @teE (And.intro @rep2 @rep3)) (And.intro (And.intro @rep4 @le2) (And.intro @le3 @le4))) (And.intro (And.intro (And.intro @dr2 @dr3) (And.intro @dr4 @hardP_eq)) (And.intro (And.intro @EPT_te @EPT_glob) (And.intro @EPT_gs @EPT_dyn)))) (And.intro (And.intro (And.intro @EPT_mu (And.intro @EPT_s @EPT_i)) (And.intro (And.intro @EPT_p @EPT_e) (And.intro @EPT_t @EPT_f))) (And.intro (And.intro (And.intro @ev4 @zz0) (And.intro @zz1 @two0)) (And.intro (And.intro @pf114_at @pf80_at) (And.intro @pf46_at @tabA_len))))) (And.intro (And.intro (And.intro (And.intro @tabA_one (And.intro @tabA_snap @tabA_noview)) (And.intro (And.intro @tabA_take @tabA_drop) (And.intro @tabA_strip @recA_len))) (And.intro (And.intro (And.intro @recA_strip @recA_oneA) (And.intro @recA_snap @recA_noview)) (And.intro (And.intro @rAt @rAi) (And.intro @rAk @rAn)))) (And.intro (And.intro (And.intro @rAhh (And.intro @rAvv @rAhv)) (And.intro (And.intro @rAen @zeroE) (And.intro @entA_strip @entA_len))) (And.intro (And.intro (And.intro @entA_one @entA_take) (And.intro @entA_snap @entA_noview)) (And.intro (And.intro @dropE @splice_ent') (And.intro @splice_ent @rep_zeroN))))))
theorem sound82 : SoundV Tryd.prog globS 82 pf82:=by
  refine SoundV.walk EPT okPT mixed Tryd.func82 rfl Tryd.call82 (by kernel_rfl) ?_
  intro args r hr
  unfold pf82 at hr
  split at hr
  · rename_i ts cs
    simp only [Option.bind_eq_some_iff] at hr
    obtain ⟨_,ht,q,hq,hr⟩:=hr
    split at hr
    · rename_i hn
      cases hr
      have htab:=tabB?_of ht
      have hcs:=rec?_of hq
      rw [Tryd.ntmps82,Tryd.results82]
      refine ⟨by simp,?_⟩
      refine awp_cut (fun σ=>σ.slots 2 = .ptr (.own 0 2 1) 0 ∧ σ.box (.own 0 2 1) = some tabA ∧ σ.slots 3 = .ptr (.own 0 3 1) 0 ∧ σ.box (.own 0 3 1) = some (recA q) ∧ ∀ y : Abs.Id,σ.used y = false) (by simp (maxSteps:=1000000) (disch:=first | omega | (simp only [digF_len,putK_len,putB_len,shaB_lenW,lnB] <;> omega) | fail) only [ev0,ev1,ev2,ev3,↓reduceIte,reduceCtorEq,zaa,zab,zac,zad,zae,zaf,zag,zah,zai,zaj,zak,zal,zam,zan,zao,zap,zaq,↓zar,↓zas,zat,zau,zav,zaw,zax,zay,zaz,zba,zbb,zbc,zbd,zbe,zbf,zbg,zbh,zbi,zbj,zbk,zbl,zbm,zbn,zbo,zbp,zbq,zbr,zbs,zbt,zbu,zbv,zbw,zbx,zby,zbz,zca,zcb,zcc,zcd,zce,zcf,zcg,zch,zci,zcj,zck,zcl,zcm,zcn,zco,zcp,zcq,zcr,zcs,zct,zcu,zcv,zcw,zcx,zcy,zcz,zda,zdb,zdc,zdd,zde,zdf,zdg,zdh,zdi,zdj,zdk,zdl,zdm,ev5,tbNt0,globS,List.drop_zero,List.map_cons,List.map_nil,List.all_nil,List.size_toArray,Array.size_empty,List.length_nil,List.length_cons,Int.reduceBEq,Int.reduceBNe,beq_self_eq_true,Bool.not_true,Bool.not_false,htab,hcs]; first | exact fun _=>trivial | exact fun _=>rfl) ?_
      clear ht hq htab hcs
      rintro ⟨sl,gn,bx,us⟩ ⟨s2,b2,s3,b3,u⟩
      dsimp only at s2 b2 s3 b3 u
      refine awp_cut (fun σ=>(∃ G,σ.slots 6 = .ptr (.own 0 6 G) 0 ∧ σ.box (.own 0 6 G) = some (entA noE)) ∧ σ.slots 2 = .ptr (.own 0 2 1) 0 ∧ σ.box (.own 0 2 1) = some tabA ∧ σ.slots 3 = .ptr (.own 0 3 1) 0 ∧ σ.box (.own 0 3 1) = some (recA q) ∧ ∀ y : Abs.Id,σ.used y = false) ?_ ?_
      · simp (maxSteps := 1000000) (disch := first | omega | (simp only [digF_len,putK_len,putB_len,shaB_lenW,lnB] <;> omega) | fail) only [ev0,ev1,ev2,ev3,↓reduceIte,reduceCtorEq,zaa,zab,zac,zad,zae,zaf,zag,zah,zai,zaj,zak,zal,zam,zan,zao,zap,zaq,↓zar,↓zas,zat,zau,zav,zaw,zax,zay,zaz,zba,zbb,zbc,zbd,zbe,zbf,zbg,zbh,zbi,zbj,zbk,zbl,zbm,zbn,zbo,zbp,zbq,zbr,zbs,zbt,zbu,zbv,zbw,zbx,zby,zbz,zca,zcb,zcc,zcd,zce,zcf,zcg,zch,zci,zcj,zck,zcl,zcm,zcn,zco,zcp,zcq,zcr,zcs,zct,zcu,zcv,zcw,zcx,zcy,zcz,zda,zdb,zdc,zdd,zde,zdf,zdg,zdh,zdi,zdj,zdk,zdl,zdm,ev5,tbNt0,globS,List.drop_zero,List.map_cons,List.map_nil,List.all_nil,List.size_toArray,Array.size_empty,List.length_nil,List.length_cons,Int.reduceBEq,Int.reduceBNe,beq_self_eq_true,Bool.not_true,Bool.not_false,s2,b2,s3,b3,u]
        exact ⟨⟨gn 6 + 1,rfl,by simp only [updB,if_true]; rfl⟩,by first | exact fun _=>trivial | exact fun _=>rfl⟩
      clear s2 b2 s3 b3 u sl gn bx us
      rintro ⟨sl,gn,bx,us⟩ ⟨⟨G,s6,b6⟩,s2,b2,s3,b3,u⟩
      dsimp only at s6 b6 s2 b2 s3 b3 u
      have hsm:=samee_at' hn.1 okNo
      rw [bare_is] at hsm
      refine awp_cut (fun σ=>σ.slots 7 = .raw (.bool (decide (entNo q.e))) ∧ σ.slots 2 = .ptr (.own 0 2 1) 0 ∧ σ.box (.own 0 2 1) = some tabA ∧ σ.slots 3 = .ptr (.own 0 3 1) 0 ∧ σ.box (.own 0 3 1) = some (recA q) ∧ ∀ y : Abs.Id,σ.used y = false) ?_ ?_
      · simp (maxSteps := 1000000) (disch := first | omega | (simp only [digF_len,putK_len,putB_len,shaB_lenW,lnB] <;> omega) | fail) only [ev0,ev1,ev2,ev3,↓reduceIte,reduceCtorEq,zaa,zab,zac,zad,zae,zaf,zag,zah,zai,zaj,zak,zal,zam,zan,zao,zap,zaq,↓zar,↓zas,zat,zau,zav,zaw,zax,zay,zaz,zba,zbb,zbc,zbd,zbe,zbf,zbg,zbh,zbi,zbj,zbk,zbl,zbm,zbn,zbo,zbp,zbq,zbr,zbs,zbt,zbu,zbv,zbw,zbx,zby,zbz,zca,zcb,zcc,zcd,zce,zcf,zcg,zch,zci,zcj,zck,zcl,zcm,zcn,zco,zcp,zcq,zcr,zcs,zct,zcu,zcv,zcw,zcx,zcy,zcz,zda,zdb,zdc,zdd,zde,zdf,zdg,zdh,zdi,zdj,zdk,zdl,zdm,ev5,tbNt0,globS,List.drop_zero,List.map_cons,List.map_nil,List.all_nil,List.size_toArray,Array.size_empty,List.length_nil,List.length_cons,Int.reduceBEq,Int.reduceBNe,beq_self_eq_true,Bool.not_true,Bool.not_false,s6,b6,s2,b2,s3,b3,u,hsm]
        first | exact fun _=>trivial | exact fun _=>rfl | exact u
      clear s6 b6 s2 b2 s3 b3 u sl gn bx us hsm
      rintro ⟨sl,gn,bx,us⟩ ⟨s7,s2,b2,s3,b3,u⟩
      dsimp only at s7 s2 b2 s3 b3 u
      refine awp_cut (fun σ=>σ.slots 8 = .raw (.bool false) ∧ σ.slots 7 = .raw (.bool (decide (entNo q.e))) ∧ σ.slots 2 = .ptr (.own 0 2 1) 0 ∧ σ.box (.own 0 2 1) = some tabA ∧ σ.slots 3 = .ptr (.own 0 3 1) 0 ∧ σ.box (.own 0 3 1) = some (recA q) ∧ ∀ y : Abs.Id,σ.used y = false) ?_ ?_
      · simp (maxSteps := 1000000) (disch := first | omega | (simp only [digF_len,putK_len,putB_len,shaB_lenW,lnB] <;> omega) | fail) only [ev0,ev1,ev2,ev3,↓reduceIte,reduceCtorEq,zaa,zab,zac,zad,zae,zaf,zag,zah,zai,zaj,zak,zal,zam,zan,zao,zap,zaq,↓zar,↓zas,zat,zau,zav,zaw,zax,zay,zaz,zba,zbb,zbc,zbd,zbe,zbf,zbg,zbh,zbi,zbj,zbk,zbl,zbm,zbn,zbo,zbp,zbq,zbr,zbs,zbt,zbu,zbv,zbw,zbx,zby,zbz,zca,zcb,zcc,zcd,zce,zcf,zcg,zch,zci,zcj,zck,zcl,zcm,zcn,zco,zcp,zcq,zcr,zcs,zct,zcu,zcv,zcw,zcx,zcy,zcz,zda,zdb,zdc,zdd,zde,zdf,zdg,zdh,zdi,zdj,zdk,zdl,zdm,ev5,tbNt0,globS,List.drop_zero,List.map_cons,List.map_nil,List.all_nil,List.size_toArray,Array.size_empty,List.length_nil,List.length_cons,Int.reduceBEq,Int.reduceBNe,beq_self_eq_true,Bool.not_true,Bool.not_false,s7,s2,b2,s3,b3,u]
        first | exact fun _=>trivial | exact fun _=>rfl | exact u
      clear s7 s2 b2 s3 b3 u sl gn bx us
      rintro ⟨sl,gn,bx,us⟩ ⟨s8,s7,s2,b2,s3,b3,u⟩
      dsimp only at s8 s7 s2 b2 s3 b3 u
      refine awp_cut (fun σ=>σ.slots 8 = .raw (.bool (mayR q)) ∧ σ.slots 2 = .ptr (.own 0 2 1) 0 ∧ σ.box (.own 0 2 1) = some tabA ∧ σ.slots 3 = .ptr (.own 0 3 1) 0 ∧ σ.box (.own 0 3 1) = some (recA q) ∧ ∀ y : Abs.Id,σ.used y = false) ?_ ?_
      · by_cases k1 : q.k = 1
        · have d1 : (q.k == 1) = true := by rw [k1]; rfl
          by_cases o1 : oob q.h
          · have o1' := decide_eq_true o1
            have hm : mayR q = false:=by simp [mayR,numM,numL, *]
            rw [hm]
            simp (maxSteps:=1000000) (disch:=first | omega | (simp only [digF_len,putK_len,putB_len,shaB_lenW,lnB] <;> omega) | fail) only [ev0,ev1,ev2,ev3,↓reduceIte,reduceCtorEq,zaa,zab,zac,zad,zae,zaf,zag,zah,zai,zaj,zak,zal,zam,zan,zao,zap,zaq,↓zar,↓zas,zat,zau,zav,zaw,zax,zay,zaz,zba,zbb,zbc,zbd,zbe,zbf,zbg,zbh,zbi,zbj,zbk,zbl,zbm,zbn,zbo,zbp,zbq,zbr,zbs,zbt,zbu,zbv,zbw,zbx,zby,zbz,zca,zcb,zcc,zcd,zce,zcf,zcg,zch,zci,zcj,zck,zcl,zcm,zcn,zco,zcp,zcq,zcr,zcs,zct,zcu,zcv,zcw,zcx,zcy,zcz,zda,zdb,zdc,zdd,zde,zdf,zdg,zdh,zdi,zdj,zdk,zdl,zdm,ev5,tbNt0,globS,List.drop_zero,List.map_cons,List.map_nil,List.all_nil,List.size_toArray,Array.size_empty,List.length_nil,List.length_cons,Int.reduceBEq,Int.reduceBNe,beq_self_eq_true,Bool.not_true,Bool.not_false,s8,s7,s2,b2,s3,b3,u,d1,o1']
            first | exact fun _=>trivial | exact fun _=>rfl | exact u
          have o1':=decide_eq_false o1
          by_cases o2 : oob q.v
          · have o2' := decide_eq_true o2
            have hm : mayR q = false:=by simp [mayR,numM,numL, *]
            rw [hm]
            simp (maxSteps:=1000000) (disch:=first | omega | (simp only [digF_len,putK_len,putB_len,shaB_lenW,lnB] <;> omega) | fail) only [ev0,ev1,ev2,ev3,↓reduceIte,reduceCtorEq,zaa,zab,zac,zad,zae,zaf,zag,zah,zai,zaj,zak,zal,zam,zan,zao,zap,zaq,↓zar,↓zas,zat,zau,zav,zaw,zax,zay,zaz,zba,zbb,zbc,zbd,zbe,zbf,zbg,zbh,zbi,zbj,zbk,zbl,zbm,zbn,zbo,zbp,zbq,zbr,zbs,zbt,zbu,zbv,zbw,zbx,zby,zbz,zca,zcb,zcc,zcd,zce,zcf,zcg,zch,zci,zcj,zck,zcl,zcm,zcn,zco,zcp,zcq,zcr,zcs,zct,zcu,zcv,zcw,zcx,zcy,zcz,zda,zdb,zdc,zdd,zde,zdf,zdg,zdh,zdi,zdj,zdk,zdl,zdm,ev5,tbNt0,globS,List.drop_zero,List.map_cons,List.map_nil,List.all_nil,List.size_toArray,Array.size_empty,List.length_nil,List.length_cons,Int.reduceBEq,Int.reduceBNe,beq_self_eq_true,Bool.not_true,Bool.not_false,s8,s7,s2,b2,s3,b3,u,d1,o1',o2']
            first | exact fun _=>trivial | exact fun _=>rfl | exact u
          have o2':=decide_eq_false o2
          by_cases z1 : q.i = 0
          rotate_left
          · have z1' : (q.i == 0) = false := beq_eq_false_iff_ne.2 z1
            have hm : mayR q = false:=by simp [mayR,numM,numL, *]
            rw [hm]
            simp (maxSteps:=1000000) (disch:=first | omega | (simp only [digF_len,putK_len,putB_len,shaB_lenW,lnB] <;> omega) | fail) only [ev0,ev1,ev2,ev3,↓reduceIte,reduceCtorEq,zaa,zab,zac,zad,zae,zaf,zag,zah,zai,zaj,zak,zal,zam,zan,zao,zap,zaq,↓zar,↓zas,zat,zau,zav,zaw,zax,zay,zaz,zba,zbb,zbc,zbd,zbe,zbf,zbg,zbh,zbi,zbj,zbk,zbl,zbm,zbn,zbo,zbp,zbq,zbr,zbs,zbt,zbu,zbv,zbw,zbx,zby,zbz,zca,zcb,zcc,zcd,zce,zcf,zcg,zch,zci,zcj,zck,zcl,zcm,zcn,zco,zcp,zcq,zcr,zcs,zct,zcu,zcv,zcw,zcx,zcy,zcz,zda,zdb,zdc,zdd,zde,zdf,zdg,zdh,zdi,zdj,zdk,zdl,zdm,ev5,tbNt0,globS,List.drop_zero,List.map_cons,List.map_nil,List.all_nil,List.size_toArray,Array.size_empty,List.length_nil,List.length_cons,Int.reduceBEq,Int.reduceBNe,beq_self_eq_true,Bool.not_true,Bool.not_false,s8,s7,s2,b2,s3,b3,u,d1,o1',o2',z1']
            first | exact fun _=>trivial | exact fun _=>rfl | exact u
          have z1' : (q.i == 0) = true:=by rw [beq_iff_eq]; exact z1
          by_cases z2 : q.t = 0
          rotate_left
          · have z2' : (q.t == 0) = false := beq_eq_false_iff_ne.2 z2
            have hm : mayR q = false:=by simp [mayR,numM,numL, *]
            rw [hm]
            simp (maxSteps:=1000000) (disch:=first | omega | (simp only [digF_len,putK_len,putB_len,shaB_lenW,lnB] <;> omega) | fail) only [ev0,ev1,ev2,ev3,↓reduceIte,reduceCtorEq,zaa,zab,zac,zad,zae,zaf,zag,zah,zai,zaj,zak,zal,zam,zan,zao,zap,zaq,↓zar,↓zas,zat,zau,zav,zaw,zax,zay,zaz,zba,zbb,zbc,zbd,zbe,zbf,zbg,zbh,zbi,zbj,zbk,zbl,zbm,zbn,zbo,zbp,zbq,zbr,zbs,zbt,zbu,zbv,zbw,zbx,zby,zbz,zca,zcb,zcc,zcd,zce,zcf,zcg,zch,zci,zcj,zck,zcl,zcm,zcn,zco,zcp,zcq,zcr,zcs,zct,zcu,zcv,zcw,zcx,zcy,zcz,zda,zdb,zdc,zdd,zde,zdf,zdg,zdh,zdi,zdj,zdk,zdl,zdm,ev5,tbNt0,globS,List.drop_zero,List.map_cons,List.map_nil,List.all_nil,List.size_toArray,Array.size_empty,List.length_nil,List.length_cons,Int.reduceBEq,Int.reduceBNe,beq_self_eq_true,Bool.not_true,Bool.not_false,s8,s7,s2,b2,s3,b3,u,d1,o1',o2',z1',z2']
            first | exact fun _=>trivial | exact fun _=>rfl | exact u
          have z2' : (q.t == 0) = true:=by rw [beq_iff_eq]; exact z2
          by_cases z3 : q.n = 0
          rotate_left
          · have z3' : (q.n == 0) = false := beq_eq_false_iff_ne.2 z3
            have hm : mayR q = false:=by simp [mayR,numM,numL, *]
            rw [hm]
            simp (maxSteps:=1000000) (disch:=first | omega | (simp only [digF_len,putK_len,putB_len,shaB_lenW,lnB] <;> omega) | fail) only [ev0,ev1,ev2,ev3,↓reduceIte,reduceCtorEq,zaa,zab,zac,zad,zae,zaf,zag,zah,zai,zaj,zak,zal,zam,zan,zao,zap,zaq,↓zar,↓zas,zat,zau,zav,zaw,zax,zay,zaz,zba,zbb,zbc,zbd,zbe,zbf,zbg,zbh,zbi,zbj,zbk,zbl,zbm,zbn,zbo,zbp,zbq,zbr,zbs,zbt,zbu,zbv,zbw,zbx,zby,zbz,zca,zcb,zcc,zcd,zce,zcf,zcg,zch,zci,zcj,zck,zcl,zcm,zcn,zco,zcp,zcq,zcr,zcs,zct,zcu,zcv,zcw,zcx,zcy,zcz,zda,zdb,zdc,zdd,zde,zdf,zdg,zdh,zdi,zdj,zdk,zdl,zdm,ev5,tbNt0,globS,List.drop_zero,List.map_cons,List.map_nil,List.all_nil,List.size_toArray,Array.size_empty,List.length_nil,List.length_cons,Int.reduceBEq,Int.reduceBNe,beq_self_eq_true,Bool.not_true,Bool.not_false,s8,s7,s2,b2,s3,b3,u,d1,o1',o2',z1',z2',z3']
            first | exact fun _=>trivial | exact fun _=>rfl | exact u
          have z3' : (q.n == 0) = true:=by rw [beq_iff_eq]; exact z3
          by_cases en : entNo q.e
          rotate_left
          · have en' := decide_eq_false en
            have hm : mayR q = false:=by simp [mayR,numM,numL, *]
            rw [hm]
            simp (maxSteps:=1000000) (disch:=first | omega | (simp only [digF_len,putK_len,putB_len,shaB_lenW,lnB] <;> omega) | fail) only [ev0,ev1,ev2,ev3,↓reduceIte,reduceCtorEq,zaa,zab,zac,zad,zae,zaf,zag,zah,zai,zaj,zak,zal,zam,zan,zao,zap,zaq,↓zar,↓zas,zat,zau,zav,zaw,zax,zay,zaz,zba,zbb,zbc,zbd,zbe,zbf,zbg,zbh,zbi,zbj,zbk,zbl,zbm,zbn,zbo,zbp,zbq,zbr,zbs,zbt,zbu,zbv,zbw,zbx,zby,zbz,zca,zcb,zcc,zcd,zce,zcf,zcg,zch,zci,zcj,zck,zcl,zcm,zcn,zco,zcp,zcq,zcr,zcs,zct,zcu,zcv,zcw,zcx,zcy,zcz,zda,zdb,zdc,zdd,zde,zdf,zdg,zdh,zdi,zdj,zdk,zdl,zdm,ev5,tbNt0,globS,List.drop_zero,List.map_cons,List.map_nil,List.all_nil,List.size_toArray,Array.size_empty,List.length_nil,List.length_cons,Int.reduceBEq,Int.reduceBNe,beq_self_eq_true,Bool.not_true,Bool.not_false,s8,s7,s2,b2,s3,b3,u,d1,o1',o2',z1',z2',z3',en']
            first | exact fun _=>trivial | exact fun _=>rfl | exact u
          have en':=decide_eq_true en
          have hm : mayR q = true:=by simp [mayR,numM,numL, *]
          rw [hm]
          simp (maxSteps:=1000000) (disch:=first | omega | (simp only [digF_len,putK_len,putB_len,shaB_lenW,lnB] <;> omega) | fail) only [ev0,ev1,ev2,ev3,↓reduceIte,reduceCtorEq,zaa,zab,zac,zad,zae,zaf,zag,zah,zai,zaj,zak,zal,zam,zan,zao,zap,zaq,↓zar,↓zas,zat,zau,zav,zaw,zax,zay,zaz,zba,zbb,zbc,zbd,zbe,zbf,zbg,zbh,zbi,zbj,zbk,zbl,zbm,zbn,zbo,zbp,zbq,zbr,zbs,zbt,zbu,zbv,zbw,zbx,zby,zbz,zca,zcb,zcc,zcd,zce,zcf,zcg,zch,zci,zcj,zck,zcl,zcm,zcn,zco,zcp,zcq,zcr,zcs,zct,zcu,zcv,zcw,zcx,zcy,zcz,zda,zdb,zdc,zdd,zde,zdf,zdg,zdh,zdi,zdj,zdk,zdl,zdm,ev5,tbNt0,globS,List.drop_zero,List.map_cons,List.map_nil,List.all_nil,List.size_toArray,Array.size_empty,List.length_nil,List.length_cons,Int.reduceBEq,Int.reduceBNe,beq_self_eq_true,Bool.not_true,Bool.not_false,s8,s7,s2,b2,s3,b3,u,d1,o1',o2',z1',z2',z3',en']
          first | exact fun _=>trivial | exact fun _=>rfl | exact u
        have d1 : (q.k == 1) = false:=beq_eq_false_iff_ne.2 k1
        by_cases k2 : q.k = 2
        · have d2 : (q.k == 2) = true := by rw [k2]; rfl
          by_cases o1 : oob q.i
          · have o1' := decide_eq_true o1
            have hm : mayR q = false:=by simp [mayR,numM,numL, *]
            rw [hm]
            simp (maxSteps:=1000000) (disch:=first | omega | (simp only [digF_len,putK_len,putB_len,shaB_lenW,lnB] <;> omega) | fail) only [ev0,ev1,ev2,ev3,↓reduceIte,reduceCtorEq,zaa,zab,zac,zad,zae,zaf,zag,zah,zai,zaj,zak,zal,zam,zan,zao,zap,zaq,↓zar,↓zas,zat,zau,zav,zaw,zax,zay,zaz,zba,zbb,zbc,zbd,zbe,zbf,zbg,zbh,zbi,zbj,zbk,zbl,zbm,zbn,zbo,zbp,zbq,zbr,zbs,zbt,zbu,zbv,zbw,zbx,zby,zbz,zca,zcb,zcc,zcd,zce,zcf,zcg,zch,zci,zcj,zck,zcl,zcm,zcn,zco,zcp,zcq,zcr,zcs,zct,zcu,zcv,zcw,zcx,zcy,zcz,zda,zdb,zdc,zdd,zde,zdf,zdg,zdh,zdi,zdj,zdk,zdl,zdm,ev5,tbNt0,globS,List.drop_zero,List.map_cons,List.map_nil,List.all_nil,List.size_toArray,Array.size_empty,List.length_nil,List.length_cons,Int.reduceBEq,Int.reduceBNe,beq_self_eq_true,Bool.not_true,Bool.not_false,s8,s7,s2,b2,s3,b3,u,d1,d2,o1']
            first | exact fun _=>trivial | exact fun _=>rfl | exact u
          have o1':=decide_eq_false o1
          by_cases z2 : q.t = 0
          rotate_left
          · have z2' : (q.t == 0) = false := beq_eq_false_iff_ne.2 z2
            have hm : mayR q = false:=by simp [mayR,numM,numL, *]
            rw [hm]
            simp (maxSteps:=1000000) (disch:=first | omega | (simp only [digF_len,putK_len,putB_len,shaB_lenW,lnB] <;> omega) | fail) only [ev0,ev1,ev2,ev3,↓reduceIte,reduceCtorEq,zaa,zab,zac,zad,zae,zaf,zag,zah,zai,zaj,zak,zal,zam,zan,zao,zap,zaq,↓zar,↓zas,zat,zau,zav,zaw,zax,zay,zaz,zba,zbb,zbc,zbd,zbe,zbf,zbg,zbh,zbi,zbj,zbk,zbl,zbm,zbn,zbo,zbp,zbq,zbr,zbs,zbt,zbu,zbv,zbw,zbx,zby,zbz,zca,zcb,zcc,zcd,zce,zcf,zcg,zch,zci,zcj,zck,zcl,zcm,zcn,zco,zcp,zcq,zcr,zcs,zct,zcu,zcv,zcw,zcx,zcy,zcz,zda,zdb,zdc,zdd,zde,zdf,zdg,zdh,zdi,zdj,zdk,zdl,zdm,ev5,tbNt0,globS,List.drop_zero,List.map_cons,List.map_nil,List.all_nil,List.size_toArray,Array.size_empty,List.length_nil,List.length_cons,Int.reduceBEq,Int.reduceBNe,beq_self_eq_true,Bool.not_true,Bool.not_false,s8,s7,s2,b2,s3,b3,u,d1,d2,o1',z2']
            first | exact fun _=>trivial | exact fun _=>rfl | exact u
          have z2' : (q.t == 0) = true:=by rw [beq_iff_eq]; exact z2
          by_cases z3 : q.n = 0
          rotate_left
          · have z3' : (q.n == 0) = false := beq_eq_false_iff_ne.2 z3
            have hm : mayR q = false:=by simp [mayR,numM,numL, *]
            rw [hm]
            simp (maxSteps:=1000000) (disch:=first | omega | (simp only [digF_len,putK_len,putB_len,shaB_lenW,lnB] <;> omega) | fail) only [ev0,ev1,ev2,ev3,↓reduceIte,reduceCtorEq,zaa,zab,zac,zad,zae,zaf,zag,zah,zai,zaj,zak,zal,zam,zan,zao,zap,zaq,↓zar,↓zas,zat,zau,zav,zaw,zax,zay,zaz,zba,zbb,zbc,zbd,zbe,zbf,zbg,zbh,zbi,zbj,zbk,zbl,zbm,zbn,zbo,zbp,zbq,zbr,zbs,zbt,zbu,zbv,zbw,zbx,zby,zbz,zca,zcb,zcc,zcd,zce,zcf,zcg,zch,zci,zcj,zck,zcl,zcm,zcn,zco,zcp,zcq,zcr,zcs,zct,zcu,zcv,zcw,zcx,zcy,zcz,zda,zdb,zdc,zdd,zde,zdf,zdg,zdh,zdi,zdj,zdk,zdl,zdm,ev5,tbNt0,globS,List.drop_zero,List.map_cons,List.map_nil,List.all_nil,List.size_toArray,Array.size_empty,List.length_nil,List.length_cons,Int.reduceBEq,Int.reduceBNe,beq_self_eq_true,Bool.not_true,Bool.not_false,s8,s7,s2,b2,s3,b3,u,d1,d2,o1',z2',z3']
            first | exact fun _=>trivial | exact fun _=>rfl | exact u
          have z3' : (q.n == 0) = true:=by rw [beq_iff_eq]; exact z3
          by_cases hv : q.h = 0 ∧ q.v = 0
          rotate_left
          · have hv' : ([q.h,q.v] == [(0 : Int),0]) = false := beq_eq_false_iff_ne.2 (by simpa using hv)
            have hv2 : q.h = 0→¬ q.v = 0:=fun a b=>hv ⟨a,b⟩
            have hm : mayR q = false:=by by_cases a : q.h = 0 <;> simp [mayR,numM,numL,a,hv2, *]
            rw [hm]
            simp (maxSteps:=1000000) (disch:=first | omega | (simp only [digF_len,putK_len,putB_len,shaB_lenW,lnB] <;> omega) | fail) only [ev0,ev1,ev2,ev3,↓reduceIte,reduceCtorEq,zaa,zab,zac,zad,zae,zaf,zag,zah,zai,zaj,zak,zal,zam,zan,zao,zap,zaq,↓zar,↓zas,zat,zau,zav,zaw,zax,zay,zaz,zba,zbb,zbc,zbd,zbe,zbf,zbg,zbh,zbi,zbj,zbk,zbl,zbm,zbn,zbo,zbp,zbq,zbr,zbs,zbt,zbu,zbv,zbw,zbx,zby,zbz,zca,zcb,zcc,zcd,zce,zcf,zcg,zch,zci,zcj,zck,zcl,zcm,zcn,zco,zcp,zcq,zcr,zcs,zct,zcu,zcv,zcw,zcx,zcy,zcz,zda,zdb,zdc,zdd,zde,zdf,zdg,zdh,zdi,zdj,zdk,zdl,zdm,ev5,tbNt0,globS,List.drop_zero,List.map_cons,List.map_nil,List.all_nil,List.size_toArray,Array.size_empty,List.length_nil,List.length_cons,Int.reduceBEq,Int.reduceBNe,beq_self_eq_true,Bool.not_true,Bool.not_false,s8,s7,s2,b2,s3,b3,u,d1,d2,o1',z2',z3',hv']
            first | exact fun _=>trivial | exact fun _=>rfl | exact u
          obtain ⟨hv1,hv3⟩:=hv
          have hv' : ([q.h,q.v] == [(0 : Int),0]) = true:=by rw [hv1,hv3]; rfl
          have hm : mayR q = true:=by simp [mayR,numM,numL, *]
          rw [hm]
          simp (maxSteps:=1000000) (disch:=first | omega | (simp only [digF_len,putK_len,putB_len,shaB_lenW,lnB] <;> omega) | fail) only [ev0,ev1,ev2,ev3,↓reduceIte,reduceCtorEq,zaa,zab,zac,zad,zae,zaf,zag,zah,zai,zaj,zak,zal,zam,zan,zao,zap,zaq,↓zar,↓zas,zat,zau,zav,zaw,zax,zay,zaz,zba,zbb,zbc,zbd,zbe,zbf,zbg,zbh,zbi,zbj,zbk,zbl,zbm,zbn,zbo,zbp,zbq,zbr,zbs,zbt,zbu,zbv,zbw,zbx,zby,zbz,zca,zcb,zcc,zcd,zce,zcf,zcg,zch,zci,zcj,zck,zcl,zcm,zcn,zco,zcp,zcq,zcr,zcs,zct,zcu,zcv,zcw,zcx,zcy,zcz,zda,zdb,zdc,zdd,zde,zdf,zdg,zdh,zdi,zdj,zdk,zdl,zdm,ev5,tbNt0,globS,List.drop_zero,List.map_cons,List.map_nil,List.all_nil,List.size_toArray,Array.size_empty,List.length_nil,List.length_cons,Int.reduceBEq,Int.reduceBNe,beq_self_eq_true,Bool.not_true,Bool.not_false,s8,s7,s2,b2,s3,b3,u,d1,d2,o1',z2',z3',hv']
          first | exact fun _=>trivial | exact fun _=>rfl | exact u
        have d2 : (q.k == 2) = false:=beq_eq_false_iff_ne.2 k2
        by_cases k3 : q.k = 3
        · have d3 : (q.k == 3) = true := by rw [k3]; rfl
          by_cases o1 : oob q.i
          · have o1' := decide_eq_true o1
            have hm : mayR q = false:=by simp [mayR,numM,numL, *]
            rw [hm]
            simp (maxSteps:=1000000) (disch:=first | omega | (simp only [digF_len,putK_len,putB_len,shaB_lenW,lnB] <;> omega) | fail) only [ev0,ev1,ev2,ev3,↓reduceIte,reduceCtorEq,zaa,zab,zac,zad,zae,zaf,zag,zah,zai,zaj,zak,zal,zam,zan,zao,zap,zaq,↓zar,↓zas,zat,zau,zav,zaw,zax,zay,zaz,zba,zbb,zbc,zbd,zbe,zbf,zbg,zbh,zbi,zbj,zbk,zbl,zbm,zbn,zbo,zbp,zbq,zbr,zbs,zbt,zbu,zbv,zbw,zbx,zby,zbz,zca,zcb,zcc,zcd,zce,zcf,zcg,zch,zci,zcj,zck,zcl,zcm,zcn,zco,zcp,zcq,zcr,zcs,zct,zcu,zcv,zcw,zcx,zcy,zcz,zda,zdb,zdc,zdd,zde,zdf,zdg,zdh,zdi,zdj,zdk,zdl,zdm,ev5,tbNt0,globS,List.drop_zero,List.map_cons,List.map_nil,List.all_nil,List.size_toArray,Array.size_empty,List.length_nil,List.length_cons,Int.reduceBEq,Int.reduceBNe,beq_self_eq_true,Bool.not_true,Bool.not_false,s8,s7,s2,b2,s3,b3,u,d1,d2,d3,o1']
            first | exact fun _=>trivial | exact fun _=>rfl | exact u
          have o1':=decide_eq_false o1
          by_cases o2 : oob q.t
          · have o2' := decide_eq_true o2
            have hm : mayR q = false:=by simp [mayR,numM,numL, *]
            rw [hm]
            simp (maxSteps:=1000000) (disch:=first | omega | (simp only [digF_len,putK_len,putB_len,shaB_lenW,lnB] <;> omega) | fail) only [ev0,ev1,ev2,ev3,↓reduceIte,reduceCtorEq,zaa,zab,zac,zad,zae,zaf,zag,zah,zai,zaj,zak,zal,zam,zan,zao,zap,zaq,↓zar,↓zas,zat,zau,zav,zaw,zax,zay,zaz,zba,zbb,zbc,zbd,zbe,zbf,zbg,zbh,zbi,zbj,zbk,zbl,zbm,zbn,zbo,zbp,zbq,zbr,zbs,zbt,zbu,zbv,zbw,zbx,zby,zbz,zca,zcb,zcc,zcd,zce,zcf,zcg,zch,zci,zcj,zck,zcl,zcm,zcn,zco,zcp,zcq,zcr,zcs,zct,zcu,zcv,zcw,zcx,zcy,zcz,zda,zdb,zdc,zdd,zde,zdf,zdg,zdh,zdi,zdj,zdk,zdl,zdm,ev5,tbNt0,globS,List.drop_zero,List.map_cons,List.map_nil,List.all_nil,List.size_toArray,Array.size_empty,List.length_nil,List.length_cons,Int.reduceBEq,Int.reduceBNe,beq_self_eq_true,Bool.not_true,Bool.not_false,s8,s7,s2,b2,s3,b3,u,d1,d2,d3,o1',o2']
            first | exact fun _=>trivial | exact fun _=>rfl | exact u
          have o2':=decide_eq_false o2
          by_cases o3 : oob q.n
          · have o3' := decide_eq_true o3
            have hm : mayR q = false:=by simp [mayR,numM,numL, *]
            rw [hm]
            simp (maxSteps:=1000000) (disch:=first | omega | (simp only [digF_len,putK_len,putB_len,shaB_lenW,lnB] <;> omega) | fail) only [ev0,ev1,ev2,ev3,↓reduceIte,reduceCtorEq,zaa,zab,zac,zad,zae,zaf,zag,zah,zai,zaj,zak,zal,zam,zan,zao,zap,zaq,↓zar,↓zas,zat,zau,zav,zaw,zax,zay,zaz,zba,zbb,zbc,zbd,zbe,zbf,zbg,zbh,zbi,zbj,zbk,zbl,zbm,zbn,zbo,zbp,zbq,zbr,zbs,zbt,zbu,zbv,zbw,zbx,zby,zbz,zca,zcb,zcc,zcd,zce,zcf,zcg,zch,zci,zcj,zck,zcl,zcm,zcn,zco,zcp,zcq,zcr,zcs,zct,zcu,zcv,zcw,zcx,zcy,zcz,zda,zdb,zdc,zdd,zde,zdf,zdg,zdh,zdi,zdj,zdk,zdl,zdm,ev5,tbNt0,globS,List.drop_zero,List.map_cons,List.map_nil,List.all_nil,List.size_toArray,Array.size_empty,List.length_nil,List.length_cons,Int.reduceBEq,Int.reduceBNe,beq_self_eq_true,Bool.not_true,Bool.not_false,s8,s7,s2,b2,s3,b3,u,d1,d2,d3,o1',o2',o3']
            first | exact fun _=>trivial | exact fun _=>rfl | exact u
          have o3':=decide_eq_false o3
          by_cases en : entNo q.e
          rotate_left
          · have en' := decide_eq_false en
            have hm : mayR q = false:=by simp [mayR,numM,numL, *]
            rw [hm]
            simp (maxSteps:=1000000) (disch:=first | omega | (simp only [digF_len,putK_len,putB_len,shaB_lenW,lnB] <;> omega) | fail) only [ev0,ev1,ev2,ev3,↓reduceIte,reduceCtorEq,zaa,zab,zac,zad,zae,zaf,zag,zah,zai,zaj,zak,zal,zam,zan,zao,zap,zaq,↓zar,↓zas,zat,zau,zav,zaw,zax,zay,zaz,zba,zbb,zbc,zbd,zbe,zbf,zbg,zbh,zbi,zbj,zbk,zbl,zbm,zbn,zbo,zbp,zbq,zbr,zbs,zbt,zbu,zbv,zbw,zbx,zby,zbz,zca,zcb,zcc,zcd,zce,zcf,zcg,zch,zci,zcj,zck,zcl,zcm,zcn,zco,zcp,zcq,zcr,zcs,zct,zcu,zcv,zcw,zcx,zcy,zcz,zda,zdb,zdc,zdd,zde,zdf,zdg,zdh,zdi,zdj,zdk,zdl,zdm,ev5,tbNt0,globS,List.drop_zero,List.map_cons,List.map_nil,List.all_nil,List.size_toArray,Array.size_empty,List.length_nil,List.length_cons,Int.reduceBEq,Int.reduceBNe,beq_self_eq_true,Bool.not_true,Bool.not_false,s8,s7,s2,b2,s3,b3,u,d1,d2,d3,o1',o2',o3',en']
            first | exact fun _=>trivial | exact fun _=>rfl | exact u
          have en':=decide_eq_true en
          by_cases hv : q.h = 0 ∧ q.v = 0
          rotate_left
          · have hv' : ([q.h,q.v] == [(0 : Int),0]) = false := beq_eq_false_iff_ne.2 (by simpa using hv)
            have hv2 : q.h = 0→¬ q.v = 0:=fun a b=>hv ⟨a,b⟩
            have hm : mayR q = false:=by by_cases a : q.h = 0 <;> simp [mayR,numM,numL,a,hv2, *]
            rw [hm]
            simp (maxSteps:=1000000) (disch:=first | omega | (simp only [digF_len,putK_len,putB_len,shaB_lenW,lnB] <;> omega) | fail) only [ev0,ev1,ev2,ev3,↓reduceIte,reduceCtorEq,zaa,zab,zac,zad,zae,zaf,zag,zah,zai,zaj,zak,zal,zam,zan,zao,zap,zaq,↓zar,↓zas,zat,zau,zav,zaw,zax,zay,zaz,zba,zbb,zbc,zbd,zbe,zbf,zbg,zbh,zbi,zbj,zbk,zbl,zbm,zbn,zbo,zbp,zbq,zbr,zbs,zbt,zbu,zbv,zbw,zbx,zby,zbz,zca,zcb,zcc,zcd,zce,zcf,zcg,zch,zci,zcj,zck,zcl,zcm,zcn,zco,zcp,zcq,zcr,zcs,zct,zcu,zcv,zcw,zcx,zcy,zcz,zda,zdb,zdc,zdd,zde,zdf,zdg,zdh,zdi,zdj,zdk,zdl,zdm,ev5,tbNt0,globS,List.drop_zero,List.map_cons,List.map_nil,List.all_nil,List.size_toArray,Array.size_empty,List.length_nil,List.length_cons,Int.reduceBEq,Int.reduceBNe,beq_self_eq_true,Bool.not_true,Bool.not_false,s8,s7,s2,b2,s3,b3,u,d1,d2,d3,o1',o2',o3',en',hv']
            first | exact fun _=>trivial | exact fun _=>rfl | exact u
          obtain ⟨hv1,hv3⟩:=hv
          have hv' : ([q.h,q.v] == [(0 : Int),0]) = true:=by rw [hv1,hv3]; rfl
          have hm : mayR q = true:=by simp [mayR,numM,numL, *]
          rw [hm]
          simp (maxSteps:=1000000) (disch:=first | omega | (simp only [digF_len,putK_len,putB_len,shaB_lenW,lnB] <;> omega) | fail) only [ev0,ev1,ev2,ev3,↓reduceIte,reduceCtorEq,zaa,zab,zac,zad,zae,zaf,zag,zah,zai,zaj,zak,zal,zam,zan,zao,zap,zaq,↓zar,↓zas,zat,zau,zav,zaw,zax,zay,zaz,zba,zbb,zbc,zbd,zbe,zbf,zbg,zbh,zbi,zbj,zbk,zbl,zbm,zbn,zbo,zbp,zbq,zbr,zbs,zbt,zbu,zbv,zbw,zbx,zby,zbz,zca,zcb,zcc,zcd,zce,zcf,zcg,zch,zci,zcj,zck,zcl,zcm,zcn,zco,zcp,zcq,zcr,zcs,zct,zcu,zcv,zcw,zcx,zcy,zcz,zda,zdb,zdc,zdd,zde,zdf,zdg,zdh,zdi,zdj,zdk,zdl,zdm,ev5,tbNt0,globS,List.drop_zero,List.map_cons,List.map_nil,List.all_nil,List.size_toArray,Array.size_empty,List.length_nil,List.length_cons,Int.reduceBEq,Int.reduceBNe,beq_self_eq_true,Bool.not_true,Bool.not_false,s8,s7,s2,b2,s3,b3,u,d1,d2,d3,o1',o2',o3',en',hv']
          first | exact fun _=>trivial | exact fun _=>rfl | exact u
        have d3 : (q.k == 3) = false:=beq_eq_false_iff_ne.2 k3
        have hm : mayR q = false:=by simp [mayR,numM,numL, *]
        rw [hm]
        simp (maxSteps:=1000000) (disch:=first | omega | (simp only [digF_len,putK_len,putB_len,shaB_lenW,lnB] <;> omega) | fail) only [ev0,ev1,ev2,ev3,↓reduceIte,reduceCtorEq,zaa,zab,zac,zad,zae,zaf,zag,zah,zai,zaj,zak,zal,zam,zan,zao,zap,zaq,↓zar,↓zas,zat,zau,zav,zaw,zax,zay,zaz,zba,zbb,zbc,zbd,zbe,zbf,zbg,zbh,zbi,zbj,zbk,zbl,zbm,zbn,zbo,zbp,zbq,zbr,zbs,zbt,zbu,zbv,zbw,zbx,zby,zbz,zca,zcb,zcc,zcd,zce,zcf,zcg,zch,zci,zcj,zck,zcl,zcm,zcn,zco,zcp,zcq,zcr,zcs,zct,zcu,zcv,zcw,zcx,zcy,zcz,zda,zdb,zdc,zdd,zde,zdf,zdg,zdh,zdi,zdj,zdk,zdl,zdm,ev5,tbNt0,globS,List.drop_zero,List.map_cons,List.map_nil,List.all_nil,List.size_toArray,Array.size_empty,List.length_nil,List.length_cons,Int.reduceBEq,Int.reduceBNe,beq_self_eq_true,Bool.not_true,Bool.not_false,s8,s7,s2,b2,s3,b3,u,d1,d2,d3]
        first | exact fun _=>trivial | exact fun _=>rfl | exact u
      clear s8 s7 s2 b2 s3 b3 u sl gn bx us
      rintro ⟨sl,gn,bx,us⟩ ⟨s8,s2,b2,s3,b3,u⟩
      dsimp only at s8 s2 b2 s3 b3 u
      cases hm : mayR q
      · rw [hm] at s8
        rw [putF_no hm]
        simp (maxSteps:=1000000) (disch:=first | omega | (simp only [digF_len,putK_len,putB_len,shaB_lenW,lnB] <;> omega) | fail) only [ev0,ev1,ev2,ev3,↓reduceIte,reduceCtorEq,zaa,zab,zac,zad,zae,zaf,zag,zah,zai,zaj,zak,zal,zam,zan,zao,zap,zaq,↓zar,↓zas,zat,zau,zav,zaw,zax,zay,zaz,zba,zbb,zbc,zbd,zbe,zbf,zbg,zbh,zbi,zbj,zbk,zbl,zbm,zbn,zbo,zbp,zbq,zbr,zbs,zbt,zbu,zbv,zbw,zbx,zby,zbz,zca,zcb,zcc,zcd,zce,zcf,zcg,zch,zci,zcj,zck,zcl,zcm,zcn,zco,zcp,zcq,zcr,zcs,zct,zcu,zcv,zcw,zcx,zcy,zcz,zda,zdb,zdc,zdd,zde,zdf,zdg,zdh,zdi,zdj,zdk,zdl,zdm,ev5,tbNt0,globS,List.drop_zero,List.map_cons,List.map_nil,List.all_nil,List.size_toArray,Array.size_empty,List.length_nil,List.length_cons,Int.reduceBEq,Int.reduceBNe,beq_self_eq_true,Bool.not_true,Bool.not_false,s8,s2,b2,s3,b3,u]
        exact resQ_2nil
      rw [hm] at s8
      have hy:=putF_yes hm
      have hm2:=hm
      unfold mayR at hm2
      simp only [Bool.and_eq_true,Bool.not_eq_true'] at hm2
      obtain ⟨hm3,hm4⟩:=hm2
      have hk : q.k = 1 ∨ q.k = 2 ∨ q.k = 3:=by
        by_cases k1 : q.k = 1
        · exact .inl k1
        by_cases k2 : q.k = 2
        · exact .inr (.inl k2)
        by_cases k3 : q.k = 3
        · exact .inr (.inr k3)
        simp [numM,k1,k2,k3] at hm3
      have hall : ∀ x ∈ q.k :: numL q,0 ≤ x ∧ x ≤ 1099511627776:=fun x hx=>by
        rcases List.mem_cons.1 hx with rfl | hx
        · omega
        · have h1 := List.any_eq_false.1 hm4 x hx
          have h2 : ¬ oob x:=fun h=>h1 (decide_eq_true h)
          unfold oob at h2; omega
      rcases hk with hk | hk | hk
      · have hL : numL q = [q.h,q.v] := by simp [numL,hk]
        have d2 : (q.k == 2) = false:=beq_eq_false_iff_ne.2 (by omega)
        have d3 : (q.k == 3) = false:=beq_eq_false_iff_ne.2 (by omega)
        rw [hL] at hall hy
        rw [hy]
        rw [if_neg (by omega)]
        have hio : ∀ x ∈ (q.k :: [q.h,q.v]),i64ok x:=fun x hx=>by have:=hall x hx; unfold i64ok; omega
        simp (maxSteps:=1000000) (disch:=first | omega | (simp only [digF_len,putK_len,putB_len,shaB_lenW,lnB] <;> omega) | fail) only [ev0,ev1,ev2,ev3,↓reduceIte,reduceCtorEq,zaa,zab,zac,zad,zae,zaf,zag,zah,zai,zaj,zak,zal,zam,zan,zao,zap,zaq,↓zar,↓zas,zat,zau,zav,zaw,zax,zay,zaz,zba,zbb,zbc,zbd,zbe,zbf,zbg,zbh,zbi,zbj,zbk,zbl,zbm,zbn,zbo,zbp,zbq,zbr,zbs,zbt,zbu,zbv,zbw,zbx,zby,zbz,zca,zcb,zcc,zcd,zce,zcf,zcg,zch,zci,zcj,zck,zcl,zcm,zcn,zco,zcp,zcq,zcr,zcs,zct,zcu,zcv,zcw,zcx,zcy,zcz,zda,zdb,zdc,zdd,zde,zdf,zdg,zdh,zdi,zdj,zdk,zdl,zdm,ev5,tbNt0,globS,List.drop_zero,List.map_cons,List.map_nil,List.all_nil,List.size_toArray,Array.size_empty,List.length_nil,List.length_cons,Int.reduceBEq,Int.reduceBNe,beq_self_eq_true,Bool.not_true,Bool.not_false,s8,s2,b2,s3,b3,u,d2,d3]
        refine loopQ_of (fun m σ=>∃ j gl,j ≤ 3 ∧ m = 3 - j ∧ σ.slots 11 = .raw (.int .i64 (j : Int)) ∧ σ.slots 10 = .sl (nmK (q.k :: [q.h,q.v]) j).length (nums .u8 (nmK (q.k :: [q.h,q.v]) j)) gl ∧ σ.slots 9 = .sl 3 (ints .i64 (q.k :: [q.h,q.v])) (.own ⟨0,106,0,gn 106 + 1⟩ 1) ∧ σ.slots 2 = .ptr (.own 0 2 1) 0 ∧ σ.box (.own 0 2 1) = some tabA ∧ σ.slots 3 = .ptr (.own 0 3 1) 0 ∧ σ.box (.own 0 3 1) = some (recA q)) 3 ?_ ?_
        · refine ⟨0,.own ⟨0,127,0,gn 127 + 1⟩ 1,by omega,by omega,?_⟩
          simp (maxSteps:=1000000) (disch:=first | omega | (simp only [digF_len,putK_len,putB_len,shaB_lenW,lnB] <;> omega) | fail) only [ev0,ev1,ev2,ev3,↓reduceIte,reduceCtorEq,zaa,zab,zac,zad,zae,zaf,zag,zah,zai,zaj,zak,zal,zam,zan,zao,zap,zaq,↓zar,↓zas,zat,zau,zav,zaw,zax,zay,zaz,zba,zbb,zbc,zbd,zbe,zbf,zbg,zbh,zbi,zbj,zbk,zbl,zbm,zbn,zbo,zbp,zbq,zbr,zbs,zbt,zbu,zbv,zbw,zbx,zby,zbz,zca,zcb,zcc,zcd,zce,zcf,zcg,zch,zci,zcj,zck,zcl,zcm,zcn,zco,zcp,zcq,zcr,zcs,zct,zcu,zcv,zcw,zcx,zcy,zcz,zda,zdb,zdc,zdd,zde,zdf,zdg,zdh,zdi,zdj,zdk,zdl,zdm,ev5,tbNt0,globS,List.drop_zero,List.map_cons,List.map_nil,List.all_nil,List.size_toArray,Array.size_empty,List.length_nil,List.length_cons,Int.reduceBEq,Int.reduceBNe,beq_self_eq_true,Bool.not_true,Bool.not_false,s8,s2,b2,s3,b3,u,d2,d3]
          exact ⟨rfl,rfl,rfl⟩
        · clear s8 s2 b2 s3 b3 u
          rintro m ⟨sl,gn,bx,us⟩ ⟨j,gl,hj,rfl,s11,s10,s9,s2,b2,s3,b3⟩
          dsimp only at s11 s10 s9 s2 b2 s3 b3
          have lM:=nmK_len (q.k :: [q.h,q.v]) hio j hj
          generalize hM : nmK (q.k :: [q.h,q.v]) j = M at s10 lM
          simp (maxSteps:=1000000) (disch:=first | omega | (simp only [digF_len,putK_len,putB_len,shaB_lenW,lnB] <;> omega) | fail) only [ev0,ev1,ev2,ev3,↓reduceIte,reduceCtorEq,zaa,zab,zac,zad,zae,zaf,zag,zah,zai,zaj,zak,zal,zam,zan,zao,zap,zaq,↓zar,↓zas,zat,zau,zav,zaw,zax,zay,zaz,zba,zbb,zbc,zbd,zbe,zbf,zbg,zbh,zbi,zbj,zbk,zbl,zbm,zbn,zbo,zbp,zbq,zbr,zbs,zbt,zbu,zbv,zbw,zbx,zby,zbz,zca,zcb,zcc,zcd,zce,zcf,zcg,zch,zci,zcj,zck,zcl,zcm,zcn,zco,zcp,zcq,zcr,zcs,zct,zcu,zcv,zcw,zcx,zcy,zcz,zda,zdb,zdc,zdd,zde,zdf,zdg,zdh,zdi,zdj,zdk,zdl,zdm,ev5,tbNt0,globS,List.drop_zero,List.map_cons,List.map_nil,List.all_nil,List.size_toArray,Array.size_empty,List.length_nil,List.length_cons,Int.reduceBEq,Int.reduceBNe,beq_self_eq_true,Bool.not_true,Bool.not_false,s11,s10,s9,s2,b2,s3,b3]
          refine condQ_dec (fun hlt=>?_) (fun hge=>?_)
          · have hlt : j < 3 := by omega
            have h0:=hall _ (getD_memI (l:=(q.k :: [q.h,q.v])) (j:=j) hlt)
            have hn8:=need_le (((q.k :: [q.h,q.v]) : List Int).getD j 0).toNat (by omega)
            have hN : nmK (q.k :: [q.h,q.v]) (j + 1) = putB M (((q.k :: [q.h,q.v]) : List Int).getD j 0).toNat:=by rw [nmK,hM]
            simp (maxSteps:=1000000) (disch:=first | omega | (simp only [digF_len,putK_len,putB_len,shaB_lenW,lnB] <;> omega) | fail) only [ev0,ev1,ev2,ev3,↓reduceIte,reduceCtorEq,zaa,zab,zac,zad,zae,zaf,zag,zah,zai,zaj,zak,zal,zam,zan,zao,zap,zaq,↓zar,↓zas,zat,zau,zav,zaw,zax,zay,zaz,zba,zbb,zbc,zbd,zbe,zbf,zbg,zbh,zbi,zbj,zbk,zbl,zbm,zbn,zbo,zbp,zbq,zbr,zbs,zbt,zbu,zbv,zbw,zbx,zby,zbz,zca,zcb,zcc,zcd,zce,zcf,zcg,zch,zci,zcj,zck,zcl,zcm,zcn,zco,zcp,zcq,zcr,zcs,zct,zcu,zcv,zcw,zcx,zcy,zcz,zda,zdb,zdc,zdd,zde,zdf,zdg,zdh,zdi,zdj,zdk,zdl,zdm,ev5,tbNt0,globS,List.drop_zero,List.map_cons,List.map_nil,List.all_nil,List.size_toArray,Array.size_empty,List.length_nil,List.length_cons,Int.reduceBEq,Int.reduceBNe,beq_self_eq_true,Bool.not_true,Bool.not_false,s11,s10,s9,s2,b2,s3,b3]
            refine ⟨3 - (j + 1),by omega,j + 1,.own ⟨0,140,0,gn 140 + 1⟩ 1,by omega,rfl,rfl,?_⟩
            rw [hN]
          · have hj : j = 3 := by omega
            subst hj
            have hnm : nmF (q.k :: [q.h,q.v]) = M:=hM
            rw [hnm]
            simp (maxSteps:=1000000) (disch:=first | omega | (simp only [digF_len,putK_len,putB_len,shaB_lenW,lnB] <;> omega) | fail) only [ev0,ev1,ev2,ev3,↓reduceIte,reduceCtorEq,zaa,zab,zac,zad,zae,zaf,zag,zah,zai,zaj,zak,zal,zam,zan,zao,zap,zaq,↓zar,↓zas,zat,zau,zav,zaw,zax,zay,zaz,zba,zbb,zbc,zbd,zbe,zbf,zbg,zbh,zbi,zbj,zbk,zbl,zbm,zbn,zbo,zbp,zbq,zbr,zbs,zbt,zbu,zbv,zbw,zbx,zby,zbz,zca,zcb,zcc,zcd,zce,zcf,zcg,zch,zci,zcj,zck,zcl,zcm,zcn,zco,zcp,zcq,zcr,zcs,zct,zcu,zcv,zcw,zcx,zcy,zcz,zda,zdb,zdc,zdd,zde,zdf,zdg,zdh,zdi,zdj,zdk,zdl,zdm,ev5,tbNt0,globS,List.drop_zero,List.map_cons,List.map_nil,List.all_nil,List.size_toArray,Array.size_empty,List.length_nil,List.length_cons,Int.reduceBEq,Int.reduceBNe,beq_self_eq_true,Bool.not_true,Bool.not_false,s11,s10,s9,s2,b2,s3,b3,d2]
            exact resQ_2
      · have hL : numL q = [q.i] := by simp [numL,hk]
        have d2 : (q.k == 2) = true:=by rw [hk]; rfl
        have d3 : (q.k == 3) = false:=beq_eq_false_iff_ne.2 (by omega)
        rw [hL] at hall hy
        rw [hy]
        rw [if_pos hk]
        have hio : ∀ x ∈ (q.k :: [q.i]),i64ok x:=fun x hx=>by have:=hall x hx; unfold i64ok; omega
        simp (maxSteps:=1000000) (disch:=first | omega | (simp only [digF_len,putK_len,putB_len,shaB_lenW,lnB] <;> omega) | fail) only [ev0,ev1,ev2,ev3,↓reduceIte,reduceCtorEq,zaa,zab,zac,zad,zae,zaf,zag,zah,zai,zaj,zak,zal,zam,zan,zao,zap,zaq,↓zar,↓zas,zat,zau,zav,zaw,zax,zay,zaz,zba,zbb,zbc,zbd,zbe,zbf,zbg,zbh,zbi,zbj,zbk,zbl,zbm,zbn,zbo,zbp,zbq,zbr,zbs,zbt,zbu,zbv,zbw,zbx,zby,zbz,zca,zcb,zcc,zcd,zce,zcf,zcg,zch,zci,zcj,zck,zcl,zcm,zcn,zco,zcp,zcq,zcr,zcs,zct,zcu,zcv,zcw,zcx,zcy,zcz,zda,zdb,zdc,zdd,zde,zdf,zdg,zdh,zdi,zdj,zdk,zdl,zdm,ev5,tbNt0,globS,List.drop_zero,List.map_cons,List.map_nil,List.all_nil,List.size_toArray,Array.size_empty,List.length_nil,List.length_cons,Int.reduceBEq,Int.reduceBNe,beq_self_eq_true,Bool.not_true,Bool.not_false,s8,s2,b2,s3,b3,u,d2,d3]
        refine loopQ_of (fun m σ=>∃ j gl,j ≤ 2 ∧ m = 2 - j ∧ σ.slots 11 = .raw (.int .i64 (j : Int)) ∧ σ.slots 10 = .sl (nmK (q.k :: [q.i]) j).length (nums .u8 (nmK (q.k :: [q.i]) j)) gl ∧ σ.slots 9 = .sl 2 (ints .i64 (q.k :: [q.i])) (.own ⟨0,114,0,gn 114 + 1⟩ 1) ∧ σ.slots 2 = .ptr (.own 0 2 1) 0 ∧ σ.box (.own 0 2 1) = some tabA ∧ σ.slots 3 = .ptr (.own 0 3 1) 0 ∧ σ.box (.own 0 3 1) = some (recA q)) 2 ?_ ?_
        · refine ⟨0,.own ⟨0,127,0,gn 127 + 1⟩ 1,by omega,by omega,?_⟩
          simp (maxSteps:=1000000) (disch:=first | omega | (simp only [digF_len,putK_len,putB_len,shaB_lenW,lnB] <;> omega) | fail) only [ev0,ev1,ev2,ev3,↓reduceIte,reduceCtorEq,zaa,zab,zac,zad,zae,zaf,zag,zah,zai,zaj,zak,zal,zam,zan,zao,zap,zaq,↓zar,↓zas,zat,zau,zav,zaw,zax,zay,zaz,zba,zbb,zbc,zbd,zbe,zbf,zbg,zbh,zbi,zbj,zbk,zbl,zbm,zbn,zbo,zbp,zbq,zbr,zbs,zbt,zbu,zbv,zbw,zbx,zby,zbz,zca,zcb,zcc,zcd,zce,zcf,zcg,zch,zci,zcj,zck,zcl,zcm,zcn,zco,zcp,zcq,zcr,zcs,zct,zcu,zcv,zcw,zcx,zcy,zcz,zda,zdb,zdc,zdd,zde,zdf,zdg,zdh,zdi,zdj,zdk,zdl,zdm,ev5,tbNt0,globS,List.drop_zero,List.map_cons,List.map_nil,List.all_nil,List.size_toArray,Array.size_empty,List.length_nil,List.length_cons,Int.reduceBEq,Int.reduceBNe,beq_self_eq_true,Bool.not_true,Bool.not_false,s8,s2,b2,s3,b3,u,d2,d3]
          exact ⟨rfl,rfl,rfl⟩
        · clear s8 s2 b2 s3 b3 u
          rintro m ⟨sl,gn,bx,us⟩ ⟨j,gl,hj,rfl,s11,s10,s9,s2,b2,s3,b3⟩
          dsimp only at s11 s10 s9 s2 b2 s3 b3
          have lM:=nmK_len (q.k :: [q.i]) hio j hj
          generalize hM : nmK (q.k :: [q.i]) j = M at s10 lM
          simp (maxSteps:=1000000) (disch:=first | omega | (simp only [digF_len,putK_len,putB_len,shaB_lenW,lnB] <;> omega) | fail) only [ev0,ev1,ev2,ev3,↓reduceIte,reduceCtorEq,zaa,zab,zac,zad,zae,zaf,zag,zah,zai,zaj,zak,zal,zam,zan,zao,zap,zaq,↓zar,↓zas,zat,zau,zav,zaw,zax,zay,zaz,zba,zbb,zbc,zbd,zbe,zbf,zbg,zbh,zbi,zbj,zbk,zbl,zbm,zbn,zbo,zbp,zbq,zbr,zbs,zbt,zbu,zbv,zbw,zbx,zby,zbz,zca,zcb,zcc,zcd,zce,zcf,zcg,zch,zci,zcj,zck,zcl,zcm,zcn,zco,zcp,zcq,zcr,zcs,zct,zcu,zcv,zcw,zcx,zcy,zcz,zda,zdb,zdc,zdd,zde,zdf,zdg,zdh,zdi,zdj,zdk,zdl,zdm,ev5,tbNt0,globS,List.drop_zero,List.map_cons,List.map_nil,List.all_nil,List.size_toArray,Array.size_empty,List.length_nil,List.length_cons,Int.reduceBEq,Int.reduceBNe,beq_self_eq_true,Bool.not_true,Bool.not_false,s11,s10,s9,s2,b2,s3,b3]
          refine condQ_dec (fun hlt=>?_) (fun hge=>?_)
          · have hlt : j < 2 := by omega
            have h0:=hall _ (getD_memI (l:=(q.k :: [q.i])) (j:=j) hlt)
            have hn8:=need_le (((q.k :: [q.i]) : List Int).getD j 0).toNat (by omega)
            have hN : nmK (q.k :: [q.i]) (j + 1) = putB M (((q.k :: [q.i]) : List Int).getD j 0).toNat:=by rw [nmK,hM]
            simp (maxSteps:=1000000) (disch:=first | omega | (simp only [digF_len,putK_len,putB_len,shaB_lenW,lnB] <;> omega) | fail) only [ev0,ev1,ev2,ev3,↓reduceIte,reduceCtorEq,zaa,zab,zac,zad,zae,zaf,zag,zah,zai,zaj,zak,zal,zam,zan,zao,zap,zaq,↓zar,↓zas,zat,zau,zav,zaw,zax,zay,zaz,zba,zbb,zbc,zbd,zbe,zbf,zbg,zbh,zbi,zbj,zbk,zbl,zbm,zbn,zbo,zbp,zbq,zbr,zbs,zbt,zbu,zbv,zbw,zbx,zby,zbz,zca,zcb,zcc,zcd,zce,zcf,zcg,zch,zci,zcj,zck,zcl,zcm,zcn,zco,zcp,zcq,zcr,zcs,zct,zcu,zcv,zcw,zcx,zcy,zcz,zda,zdb,zdc,zdd,zde,zdf,zdg,zdh,zdi,zdj,zdk,zdl,zdm,ev5,tbNt0,globS,List.drop_zero,List.map_cons,List.map_nil,List.all_nil,List.size_toArray,Array.size_empty,List.length_nil,List.length_cons,Int.reduceBEq,Int.reduceBNe,beq_self_eq_true,Bool.not_true,Bool.not_false,s11,s10,s9,s2,b2,s3,b3]
            refine ⟨2 - (j + 1),by omega,j + 1,.own ⟨0,140,0,gn 140 + 1⟩ 1,by omega,rfl,rfl,?_⟩
            rw [hN]
          · have hj : j = 2 := by omega
            subst hj
            have hnm : nmF (q.k :: [q.i]) = M:=hM
            rw [hnm]
            have hE:=rentry_at hn.1
            generalize entR q.e = X at hE ⊢
            obtain ⟨X,e⟩:=X
            dsimp only at hE ⊢
            simp only [List.map_cons,List.map_nil] at hE
            by_cases e0 : e = 0
            rotate_left
            · have d4 : (e != 0) = true := by rw [bne_iff_ne]; exact e0
              rw [if_pos e0]
              simp (maxSteps:=1000000) (disch:=first | omega | (simp only [digF_len,putK_len,putB_len,shaB_lenW,lnB] <;> omega) | fail) only [ev0,ev1,ev2,ev3,↓reduceIte,reduceCtorEq,zaa,zab,zac,zad,zae,zaf,zag,zah,zai,zaj,zak,zal,zam,zan,zao,zap,zaq,↓zar,↓zas,zat,zau,zav,zaw,zax,zay,zaz,zba,zbb,zbc,zbd,zbe,zbf,zbg,zbh,zbi,zbj,zbk,zbl,zbm,zbn,zbo,zbp,zbq,zbr,zbs,zbt,zbu,zbv,zbw,zbx,zby,zbz,zca,zcb,zcc,zcd,zce,zcf,zcg,zch,zci,zcj,zck,zcl,zcm,zcn,zco,zcp,zcq,zcr,zcs,zct,zcu,zcv,zcw,zcx,zcy,zcz,zda,zdb,zdc,zdd,zde,zdf,zdg,zdh,zdi,zdj,zdk,zdl,zdm,ev5,tbNt0,globS,List.drop_zero,List.map_cons,List.map_nil,List.all_nil,List.size_toArray,Array.size_empty,List.length_nil,List.length_cons,Int.reduceBEq,Int.reduceBNe,beq_self_eq_true,Bool.not_true,Bool.not_false,s11,s10,s9,s2,b2,s3,b3,d2,hE,d4]
              exact resQ_2nil
            · have d4 : (e != 0) = false := by rw [e0]; rfl
              rw [if_neg (not_not_intro e0)]
              by_cases hX : 4096 < X.length
              · have tt := fun fl fl' => text_long (b := M) (t := X) (l := M.length) (l' := X.length) (fl := fl) (fl' := fl') rfl rfl (by omega) hX
                rw [if_pos hX]
                simp (maxSteps:=1000000) (disch:=first | omega | (simp only [digF_len,putK_len,putB_len,shaB_lenW,lnB] <;> omega) | fail) only [ev0,ev1,ev2,ev3,↓reduceIte,reduceCtorEq,zaa,zab,zac,zad,zae,zaf,zag,zah,zai,zaj,zak,zal,zam,zan,zao,zap,zaq,↓zar,↓zas,zat,zau,zav,zaw,zax,zay,zaz,zba,zbb,zbc,zbd,zbe,zbf,zbg,zbh,zbi,zbj,zbk,zbl,zbm,zbn,zbo,zbp,zbq,zbr,zbs,zbt,zbu,zbv,zbw,zbx,zby,zbz,zca,zcb,zcc,zcd,zce,zcf,zcg,zch,zci,zcj,zck,zcl,zcm,zcn,zco,zcp,zcq,zcr,zcs,zct,zcu,zcv,zcw,zcx,zcy,zcz,zda,zdb,zdc,zdd,zde,zdf,zdg,zdh,zdi,zdj,zdk,zdl,zdm,ev5,tbNt0,globS,List.drop_zero,List.map_cons,List.map_nil,List.all_nil,List.size_toArray,Array.size_empty,List.length_nil,List.length_cons,Int.reduceBEq,Int.reduceBNe,beq_self_eq_true,Bool.not_true,Bool.not_false,s11,s10,s9,s2,b2,s3,b3,d2,hE,d4,tt]
                exact resQ_2nil
              · have tt := fun fl fl' => text_at (b := M) (t := X) (l := M.length) (l' := X.length) (fl := fl) (fl' := fl') rfl rfl (by omega) (by omega)
                have tl:=txB_len M X (by omega)
                rw [if_neg hX]
                simp (maxSteps:=1000000) (disch:=first | omega | (simp only [digF_len,putK_len,putB_len,shaB_lenW,lnB] <;> omega) | fail) only [ev0,ev1,ev2,ev3,↓reduceIte,reduceCtorEq,zaa,zab,zac,zad,zae,zaf,zag,zah,zai,zaj,zak,zal,zam,zan,zao,zap,zaq,↓zar,↓zas,zat,zau,zav,zaw,zax,zay,zaz,zba,zbb,zbc,zbd,zbe,zbf,zbg,zbh,zbi,zbj,zbk,zbl,zbm,zbn,zbo,zbp,zbq,zbr,zbs,zbt,zbu,zbv,zbw,zbx,zby,zbz,zca,zcb,zcc,zcd,zce,zcf,zcg,zch,zci,zcj,zck,zcl,zcm,zcn,zco,zcp,zcq,zcr,zcs,zct,zcu,zcv,zcw,zcx,zcy,zcz,zda,zdb,zdc,zdd,zde,zdf,zdg,zdh,zdi,zdj,zdk,zdl,zdm,ev5,tbNt0,globS,List.drop_zero,List.map_cons,List.map_nil,List.all_nil,List.size_toArray,Array.size_empty,List.length_nil,List.length_cons,Int.reduceBEq,Int.reduceBNe,beq_self_eq_true,Bool.not_true,Bool.not_false,s11,s10,s9,s2,b2,s3,b3,d2,hE,d4,tt]
                exact resQ_2
      · have hL : numL q = [q.i,q.t,q.n] := by simp [numL,hk]
        have d2 : (q.k == 2) = false:=beq_eq_false_iff_ne.2 (by omega)
        have d3 : (q.k == 3) = true:=by rw [hk]; rfl
        rw [hL] at hall hy
        rw [hy]
        rw [if_neg (by omega)]
        have hio : ∀ x ∈ (q.k :: [q.i,q.t,q.n]),i64ok x:=fun x hx=>by have:=hall x hx; unfold i64ok; omega
        simp (maxSteps:=1000000) (disch:=first | omega | (simp only [digF_len,putK_len,putB_len,shaB_lenW,lnB] <;> omega) | fail) only [ev0,ev1,ev2,ev3,↓reduceIte,reduceCtorEq,zaa,zab,zac,zad,zae,zaf,zag,zah,zai,zaj,zak,zal,zam,zan,zao,zap,zaq,↓zar,↓zas,zat,zau,zav,zaw,zax,zay,zaz,zba,zbb,zbc,zbd,zbe,zbf,zbg,zbh,zbi,zbj,zbk,zbl,zbm,zbn,zbo,zbp,zbq,zbr,zbs,zbt,zbu,zbv,zbw,zbx,zby,zbz,zca,zcb,zcc,zcd,zce,zcf,zcg,zch,zci,zcj,zck,zcl,zcm,zcn,zco,zcp,zcq,zcr,zcs,zct,zcu,zcv,zcw,zcx,zcy,zcz,zda,zdb,zdc,zdd,zde,zdf,zdg,zdh,zdi,zdj,zdk,zdl,zdm,ev5,tbNt0,globS,List.drop_zero,List.map_cons,List.map_nil,List.all_nil,List.size_toArray,Array.size_empty,List.length_nil,List.length_cons,Int.reduceBEq,Int.reduceBNe,beq_self_eq_true,Bool.not_true,Bool.not_false,s8,s2,b2,s3,b3,u,d2,d3]
        refine loopQ_of (fun m σ=>∃ j gl,j ≤ 4 ∧ m = 4 - j ∧ σ.slots 11 = .raw (.int .i64 (j : Int)) ∧ σ.slots 10 = .sl (nmK (q.k :: [q.i,q.t,q.n]) j).length (nums .u8 (nmK (q.k :: [q.i,q.t,q.n]) j)) gl ∧ σ.slots 9 = .sl 4 (ints .i64 (q.k :: [q.i,q.t,q.n])) (.own ⟨0,126,0,gn 126 + 1⟩ 1) ∧ σ.slots 2 = .ptr (.own 0 2 1) 0 ∧ σ.box (.own 0 2 1) = some tabA ∧ σ.slots 3 = .ptr (.own 0 3 1) 0 ∧ σ.box (.own 0 3 1) = some (recA q)) 4 ?_ ?_
        · refine ⟨0,.own ⟨0,127,0,gn 127 + 1⟩ 1,by omega,by omega,?_⟩
          simp (maxSteps:=1000000) (disch:=first | omega | (simp only [digF_len,putK_len,putB_len,shaB_lenW,lnB] <;> omega) | fail) only [ev0,ev1,ev2,ev3,↓reduceIte,reduceCtorEq,zaa,zab,zac,zad,zae,zaf,zag,zah,zai,zaj,zak,zal,zam,zan,zao,zap,zaq,↓zar,↓zas,zat,zau,zav,zaw,zax,zay,zaz,zba,zbb,zbc,zbd,zbe,zbf,zbg,zbh,zbi,zbj,zbk,zbl,zbm,zbn,zbo,zbp,zbq,zbr,zbs,zbt,zbu,zbv,zbw,zbx,zby,zbz,zca,zcb,zcc,zcd,zce,zcf,zcg,zch,zci,zcj,zck,zcl,zcm,zcn,zco,zcp,zcq,zcr,zcs,zct,zcu,zcv,zcw,zcx,zcy,zcz,zda,zdb,zdc,zdd,zde,zdf,zdg,zdh,zdi,zdj,zdk,zdl,zdm,ev5,tbNt0,globS,List.drop_zero,List.map_cons,List.map_nil,List.all_nil,List.size_toArray,Array.size_empty,List.length_nil,List.length_cons,Int.reduceBEq,Int.reduceBNe,beq_self_eq_true,Bool.not_true,Bool.not_false,s8,s2,b2,s3,b3,u,d2,d3]
          exact ⟨rfl,rfl,rfl⟩
        · clear s8 s2 b2 s3 b3 u
          rintro m ⟨sl,gn,bx,us⟩ ⟨j,gl,hj,rfl,s11,s10,s9,s2,b2,s3,b3⟩
          dsimp only at s11 s10 s9 s2 b2 s3 b3
          have lM:=nmK_len (q.k :: [q.i,q.t,q.n]) hio j hj
          generalize hM : nmK (q.k :: [q.i,q.t,q.n]) j = M at s10 lM
          simp (maxSteps:=1000000) (disch:=first | omega | (simp only [digF_len,putK_len,putB_len,shaB_lenW,lnB] <;> omega) | fail) only [ev0,ev1,ev2,ev3,↓reduceIte,reduceCtorEq,zaa,zab,zac,zad,zae,zaf,zag,zah,zai,zaj,zak,zal,zam,zan,zao,zap,zaq,↓zar,↓zas,zat,zau,zav,zaw,zax,zay,zaz,zba,zbb,zbc,zbd,zbe,zbf,zbg,zbh,zbi,zbj,zbk,zbl,zbm,zbn,zbo,zbp,zbq,zbr,zbs,zbt,zbu,zbv,zbw,zbx,zby,zbz,zca,zcb,zcc,zcd,zce,zcf,zcg,zch,zci,zcj,zck,zcl,zcm,zcn,zco,zcp,zcq,zcr,zcs,zct,zcu,zcv,zcw,zcx,zcy,zcz,zda,zdb,zdc,zdd,zde,zdf,zdg,zdh,zdi,zdj,zdk,zdl,zdm,ev5,tbNt0,globS,List.drop_zero,List.map_cons,List.map_nil,List.all_nil,List.size_toArray,Array.size_empty,List.length_nil,List.length_cons,Int.reduceBEq,Int.reduceBNe,beq_self_eq_true,Bool.not_true,Bool.not_false,s11,s10,s9,s2,b2,s3,b3]
          refine condQ_dec (fun hlt=>?_) (fun hge=>?_)
          · have hlt : j < 4 := by omega
            have h0:=hall _ (getD_memI (l:=(q.k :: [q.i,q.t,q.n])) (j:=j) hlt)
            have hn8:=need_le (((q.k :: [q.i,q.t,q.n]) : List Int).getD j 0).toNat (by omega)
            have hN : nmK (q.k :: [q.i,q.t,q.n]) (j + 1) = putB M (((q.k :: [q.i,q.t,q.n]) : List Int).getD j 0).toNat:=by rw [nmK,hM]
            simp (maxSteps:=1000000) (disch:=first | omega | (simp only [digF_len,putK_len,putB_len,shaB_lenW,lnB] <;> omega) | fail) only [ev0,ev1,ev2,ev3,↓reduceIte,reduceCtorEq,zaa,zab,zac,zad,zae,zaf,zag,zah,zai,zaj,zak,zal,zam,zan,zao,zap,zaq,↓zar,↓zas,zat,zau,zav,zaw,zax,zay,zaz,zba,zbb,zbc,zbd,zbe,zbf,zbg,zbh,zbi,zbj,zbk,zbl,zbm,zbn,zbo,zbp,zbq,zbr,zbs,zbt,zbu,zbv,zbw,zbx,zby,zbz,zca,zcb,zcc,zcd,zce,zcf,zcg,zch,zci,zcj,zck,zcl,zcm,zcn,zco,zcp,zcq,zcr,zcs,zct,zcu,zcv,zcw,zcx,zcy,zcz,zda,zdb,zdc,zdd,zde,zdf,zdg,zdh,zdi,zdj,zdk,zdl,zdm,ev5,tbNt0,globS,List.drop_zero,List.map_cons,List.map_nil,List.all_nil,List.size_toArray,Array.size_empty,List.length_nil,List.length_cons,Int.reduceBEq,Int.reduceBNe,beq_self_eq_true,Bool.not_true,Bool.not_false,s11,s10,s9,s2,b2,s3,b3]
            refine ⟨4 - (j + 1),by omega,j + 1,.own ⟨0,140,0,gn 140 + 1⟩ 1,by omega,rfl,rfl,?_⟩
            rw [hN]
          · have hj : j = 4 := by omega
            subst hj
            have hnm : nmF (q.k :: [q.i,q.t,q.n]) = M:=hM
            rw [hnm]
            simp (maxSteps:=1000000) (disch:=first | omega | (simp only [digF_len,putK_len,putB_len,shaB_lenW,lnB] <;> omega) | fail) only [ev0,ev1,ev2,ev3,↓reduceIte,reduceCtorEq,zaa,zab,zac,zad,zae,zaf,zag,zah,zai,zaj,zak,zal,zam,zan,zao,zap,zaq,↓zar,↓zas,zat,zau,zav,zaw,zax,zay,zaz,zba,zbb,zbc,zbd,zbe,zbf,zbg,zbh,zbi,zbj,zbk,zbl,zbm,zbn,zbo,zbp,zbq,zbr,zbs,zbt,zbu,zbv,zbw,zbx,zby,zbz,zca,zcb,zcc,zcd,zce,zcf,zcg,zch,zci,zcj,zck,zcl,zcm,zcn,zco,zcp,zcq,zcr,zcs,zct,zcu,zcv,zcw,zcx,zcy,zcz,zda,zdb,zdc,zdd,zde,zdf,zdg,zdh,zdi,zdj,zdk,zdl,zdm,ev5,tbNt0,globS,List.drop_zero,List.map_cons,List.map_nil,List.all_nil,List.size_toArray,Array.size_empty,List.length_nil,List.length_cons,Int.reduceBEq,Int.reduceBNe,beq_self_eq_true,Bool.not_true,Bool.not_false,s11,s10,s9,s2,b2,s3,b3,d2]
            exact resQ_2
    · cases hr
  · cases hr
end Go.Proofs.YtddeffdgldjdjaaDoor.W
