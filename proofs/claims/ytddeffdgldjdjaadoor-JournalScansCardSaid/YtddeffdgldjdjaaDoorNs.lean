/- The document's frame of a record: what the walks come to. -/
import Derived.Test.YtddeffdgldjdjaaDoorNe
import Derived.Test.YtddeffdgldjdjaaDoorIf
import Derived.Test.YtddeffdgldjdjaaDoorMk
namespace Go.Proofs.YtddeffdgldjdjaaDoor.W
set_option linter.unusedSimpArgs false
set_option linter.unusedVariables false
set_option linter.defProp false
open Go Go.Abs
open Nat renaming reduceAdd→zaa,reduceSub→zab,reduceMul→zac,reduceLT→zad,reduceLeDiff→zae,reduceEqDiff→zaf,reduceBEq→zag
open BitVec renaming reduceOfInt→zah
open Int renaming reduceLE→zai,reduceLT→zaj,reduceGT→zak,reduceGE→zal,reduceNeg→zam,reduceAdd→zan,reduceSub→zao,reduceMul→zap,reduceToNat→zaq
open Go.Abs renaming bind_go→zar,map_go→zas,wantedV→zat,isWrite→zau,grow→zav,write→zaw,ofV→zax,start→zaz,strip→zba,endQ→zbb,resV→zbc,rawsRes→zbd,rawRes→zbe,exports→zbf,export1→zbg,isSelf→zbl,convSelf→zbm,convV→zbn,loadV→zbo,storeV→zbp,fieldAddrV→zbq,fieldV→zbr,indexAddrV→zbs,indexV→zbt,partV→zbu,isAggK→zbv,isStr→zbw,place→zbx,ipS→zby,lenV→zbz,min2V→zca,makeV→zcb,freshSl→zcc,sliceV→zcd,boundOr→zce,bound→zcf,bounds→zcg,cutFl→zch,copyV→zci,slCells→zcj,srcV→zck,appendV→zcl,room→zcm,zerosOf→zcn,eqNeg→zco,kd→zcp,takeR→zcq,hasViewL→zcr,hasView→zcs,freshR→zct,freshC→zcu,snapAll→zcv,snap→zcw,snapL→zcx,flatL→zcy,pureL→zcz,pureA→zda,fillC→zdb,arrOK→zdc,oneA→zdd,partB→zde,ren1→zdg,applyW→zdi,useL→zdj,isGen→zdl,startG→zdm
open Go.Abs.AV renaming cells→zay,laid→zdf
open Go.Abs.AS renaming grown→zbh,put→zbi,mute→zdk
open Go.Abs.Env renaming know→zbj,boxed→zbk
open Go.Abs.CR renaming gr→zdh
set_option maxHeartbeats 16000000
def tabA : List AV:=.sl 64 (nums .u32 addL) .bor :: nums .u32 beginL
theorem tabA_len : tabA.length = 9:=by rw [tabA,List.length_cons,nums_len]; decide
theorem tabA_strip : tabA.map strip = tabA:=by rw [tabA,List.map_cons,nums_stripW]; rfl
theorem tabA_one : tabA.all oneA = true:=by
  rw [tabA,List.all_cons]
  simp [oneA,nums]
theorem tabA_snap {bx : Boxes} : snapL bx tabA = some tabA:=by
  simp only [tabA,snapL,snap,nums_snap,Option.map_some,Option.bind_some]
theorem tabA_noview : hasViewL tabA = false:=by simp only [tabA,hasViewL,hasView,nums_noview,Bool.or_self]
theorem tabA_take : tabA.take 9 = tabA:=List.take_of_length_le (by rw [tabA_len]; exact Nat.le_refl _)
theorem tabA_drop : tabA.drop 9 = []:=List.drop_of_length_le (by rw [tabA_len]; exact Nat.le_refl _)
theorem tsum_at {l : Nat} {m : List (BitVec 8)} {fl : Fl} (h4 : l = m.length) (h5 : m.length ≤ 1099511627776) : pf74 [.agg tabA,.sl l (nums .u8 m) fl] = some (.agg (nums .u8 (shaB m))):=by
  rw [tabA,pf74_at (by rw [addL_len]) addL_len beginL_len h4 h5,sumK_is]
def pf114 : List AV → Option AV
  | [v]=>(int? v).bind fun n=>some (.raw (.bool !decide (oob n)))
  | _=>none
theorem pf114_at {n : Int} : pf114 [.raw (.int .i64 n)] = some (.raw (.bool !decide (oob n))):=rfl
def tbNs0:=(And.intro (And.intro @teE (And.intro @ES0_te @ES0_glob)) (And.intro (And.intro @ES0_gs @ES0_dyn) (And.intro @ES0_mu @ev4)))
theorem sound114 : SoundV Tryd.prog globS 114 pf114:=by
  refine SoundV.walk ES0 okS0 mixed Tryd.func114 rfl Tryd.call114 (by kernel_rfl) ?_
  intro args r hr
  unfold pf114 at hr
  split at hr
  · simp only [Option.bind_eq_some_iff] at hr
    obtain ⟨n,h1,hr⟩:=hr
    cases hr
    rw [int?_of h1,Tryd.ntmps114,Tryd.results114]
    refine ⟨by simp,?_⟩
    by_cases c1 : n ≥ 0
    · by_cases c2 : n ≤ 1099511627776
      · rw [decide_eq_false (show ¬ oob n from fun h => by unfold oob at h; omega)]
        simp (maxSteps:=1000000) (disch:=first | omega | (simp only [nums_len,lnB] <;> omega) | fail) only [ev0,ev1,ev2,ev3,↓reduceIte,reduceCtorEq,zaa,zab,zac,zad,zae,zaf,zag,zah,zai,zaj,zak,zal,zam,zan,zao,zap,zaq,↓zar,↓zas,zat,zau,zav,zaw,zax,zay,zaz,zba,zbb,zbc,zbd,zbe,zbf,zbg,zbh,zbi,zbj,zbk,zbl,zbm,zbn,zbo,zbp,zbq,zbr,zbs,zbt,zbu,zbv,zbw,zbx,zby,zbz,zca,zcb,zcc,zcd,zce,zcf,zcg,zch,zci,zcj,zck,zcl,zcm,zcn,zco,zcp,zcq,zcr,zcs,zct,zcu,zcv,zcw,zcx,zcy,zcz,zda,zdb,zdc,zdd,zde,zdf,zdg,zdh,zdi,zdj,zdk,zdl,zdm,ev5,tbNs0,globS,decide_eq_true c1,decide_eq_true c2]
        exact ResQ.same rfl
      · rw [decide_eq_true (show oob n from .inr (by omega))]
        simp (maxSteps:=1000000) (disch:=first | omega | (simp only [nums_len,lnB] <;> omega) | fail) only [ev0,ev1,ev2,ev3,↓reduceIte,reduceCtorEq,zaa,zab,zac,zad,zae,zaf,zag,zah,zai,zaj,zak,zal,zam,zan,zao,zap,zaq,↓zar,↓zas,zat,zau,zav,zaw,zax,zay,zaz,zba,zbb,zbc,zbd,zbe,zbf,zbg,zbh,zbi,zbj,zbk,zbl,zbm,zbn,zbo,zbp,zbq,zbr,zbs,zbt,zbu,zbv,zbw,zbx,zby,zbz,zca,zcb,zcc,zcd,zce,zcf,zcg,zch,zci,zcj,zck,zcl,zcm,zcn,zco,zcp,zcq,zcr,zcs,zct,zcu,zcv,zcw,zcx,zcy,zcz,zda,zdb,zdc,zdd,zde,zdf,zdg,zdh,zdi,zdj,zdk,zdl,zdm,ev5,tbNs0,globS,decide_eq_true c1,decide_eq_false c2]
        exact ResQ.same rfl
    · rw [decide_eq_true (show oob n from .inl (by omega))]
      simp (maxSteps:=1000000) (disch:=first | omega | (simp only [nums_len,lnB] <;> omega) | fail) only [ev0,ev1,ev2,ev3,↓reduceIte,reduceCtorEq,zaa,zab,zac,zad,zae,zaf,zag,zah,zai,zaj,zak,zal,zam,zan,zao,zap,zaq,↓zar,↓zas,zat,zau,zav,zaw,zax,zay,zaz,zba,zbb,zbc,zbd,zbe,zbf,zbg,zbh,zbi,zbj,zbk,zbl,zbm,zbn,zbo,zbp,zbq,zbr,zbs,zbt,zbu,zbv,zbw,zbx,zby,zbz,zca,zcb,zcc,zcd,zce,zcf,zcg,zch,zci,zcj,zck,zcl,zcm,zcn,zco,zcp,zcq,zcr,zcs,zct,zcu,zcv,zcw,zcx,zcy,zcz,zda,zdb,zdc,zdd,zde,zdf,zdg,zdh,zdi,zdj,zdk,zdl,zdm,ev5,tbNs0,globS,decide_eq_false c1]
      exact ResQ.same rfl
  · cases hr
noncomputable def ERF : Env:=(ES0.know 73 (fun xs=>pf72 (xs.map norm))).know 74 (fun xs=>pf74 (xs.map norm))
theorem okRF : EnvOK Tryd.prog ERF:=(okS0.know (liftS sound73.norm)).know sound74.norm
theorem ERF_te : ERF.te = te:=rfl
theorem ERF_glob : ERF.glob = globS:=rfl
theorem ERF_gs : ERF.gs = []:=rfl
theorem ERF_dyn : ERF.dyn = false:=rfl
theorem ERF_mu (d : Nat) : ERF.mu d = false:=rfl
theorem ERF_p : ERF.tbl 73 = some (.val (fun xs=>pf72 (xs.map norm))):=rfl
theorem ERF_h : ERF.tbl 74 = some (.val (fun xs=>pf74 (xs.map norm))):=rfl
noncomputable def tabB? (cs : List AV) : Option Unit:=open Classical in if cs = tabA then some () else none
noncomputable def pf46 : List AV → Option AV
  | [.agg cs,v]=>(tabB? (cs.map strip)).bind fun _=>(row? .u8 8 v).bind fun b=>if b.length ≤ 9223372036854775807 then some (.tup [.sl (frF b).1.length (nums .u8 (frF b).1) .bor,.raw (.int .i64 (frF b).2)]) else none
  | _=>none
theorem tabB?_of {cs : List AV} {u : Unit} (h : tabB? cs = some u) : cs = tabA:=by
  unfold tabB? at h
  split at h
  · rename_i e; exact e
  · cases h
theorem tabB?_at : tabB? (tabA.map strip) = some ():=by rw [tabA_strip]; exact if_pos rfl
theorem pf46_at {n : Nat} {b : List (BitVec 8)} {fl : Fl} (h : n = b.length) (h2 : b.length ≤ 9223372036854775807) : pf46 [.agg tabA,.sl n (nums .u8 b) fl] = some (.tup [.sl (frF b).1.length (nums .u8 (frF b).1) .bor,.raw (.int .i64 (frF b).2)]):=by
  simp only [pf46,tabB?_at,row?_at h,Option.bind_some,if_pos h2]
def tbNs1:=(And.intro (And.intro (And.intro (And.intro @teE @ERF_te) (And.intro @ERF_glob (And.intro @ERF_gs @ERF_dyn))) (And.intro (And.intro @ERF_mu @ERF_p) (And.intro @ERF_h (And.intro @ev4 @tsum_at)))) (And.intro (And.intro (And.intro @nums_stripW @zz0) (And.intro @two0 (And.intro @shaB_lenW @tabA_len))) (And.intro (And.intro @tabA_one (And.intro @tabA_snap @tabA_noview)) (And.intro @tabA_take (And.intro @tabA_drop @tabA_strip)))))
theorem sound46 : SoundV Tryd.prog globS 46 pf46:=by
  refine SoundV.walk ERF okRF mixed Tryd.func46 rfl Tryd.call46 (by kernel_rfl) ?_
  intro args r hr
  unfold pf46 at hr
  split at hr
  · rename_i cs v
    simp only [Option.bind_eq_some_iff] at hr
    obtain ⟨_,ht,b,h1,hr⟩:=hr
    split at hr
    · rename_i hc
      cases hr
      have htab:=tabB?_of ht
      obtain ⟨fl,rfl⟩:=row?_of h1
      rw [Tryd.ntmps46,Tryd.results46]
      refine ⟨by simp,?_⟩
      by_cases hb : b.length ≤ 4096
      · rw [frF,if_pos hb]
        have t:=fun fl fl'=>text_at (b:=[]) (t:=b) (l:=0) (fl:=fl) (fl':=fl') rfl rfl (by simp) hb
        have tl : (txB [] b).length ≤ 5000:=by have:=txB_len [] b hb; simp at this; omega
        rw [nums_nil] at t
        simp (maxSteps:=1000000) (disch:=first | omega | (simp only [digF_len,putK_len,putB_len,shaB_lenW,lnB] <;> omega) | fail) only [ev0,ev1,ev2,ev3,↓reduceIte,reduceCtorEq,zaa,zab,zac,zad,zae,zaf,zag,zah,zai,zaj,zak,zal,zam,zan,zao,zap,zaq,↓zar,↓zas,zat,zau,zav,zaw,zax,zay,zaz,zba,zbb,zbc,zbd,zbe,zbf,zbg,zbh,zbi,zbj,zbk,zbl,zbm,zbn,zbo,zbp,zbq,zbr,zbs,zbt,zbu,zbv,zbw,zbx,zby,zbz,zca,zcb,zcc,zcd,zce,zcf,zcg,zch,zci,zcj,zck,zcl,zcm,zcn,zco,zcp,zcq,zcr,zcs,zct,zcu,zcv,zcw,zcx,zcy,zcz,zda,zdb,zdc,zdd,zde,zdf,zdg,zdh,zdi,zdj,zdk,zdl,zdm,ev5,tbNs1,globS,t,htab]
        rw [frB_len]
        exact resQ_2
      · rw [frF,if_neg hb]
        have t:=fun fl fl'=>text_long (b:=[]) (t:=b) (l:=0) (fl:=fl) (fl':=fl') rfl rfl (by simp) (by omega)
        rw [nums_nil] at t
        simp (maxSteps:=1000000) (disch:=first | omega | (simp only [digF_len,putK_len,putB_len,shaB_lenW,lnB] <;> omega) | fail) only [ev0,ev1,ev2,ev3,↓reduceIte,reduceCtorEq,zaa,zab,zac,zad,zae,zaf,zag,zah,zai,zaj,zak,zal,zam,zan,zao,zap,zaq,↓zar,↓zas,zat,zau,zav,zaw,zax,zay,zaz,zba,zbb,zbc,zbd,zbe,zbf,zbg,zbh,zbi,zbj,zbk,zbl,zbm,zbn,zbo,zbp,zbq,zbr,zbs,zbt,zbu,zbv,zbw,zbx,zby,zbz,zca,zcb,zcc,zcd,zce,zcf,zcg,zch,zci,zcj,zck,zcl,zcm,zcn,zco,zcp,zcq,zcr,zcs,zct,zcu,zcv,zcw,zcx,zcy,zcz,zda,zdb,zdc,zdd,zde,zdf,zdg,zdh,zdi,zdj,zdk,zdl,zdm,ev5,tbNs1,globS,t,htab]
        exact resQ_2nil
    · cases hr
  · cases hr
end Go.Proofs.YtddeffdgldjdjaaDoor.W
