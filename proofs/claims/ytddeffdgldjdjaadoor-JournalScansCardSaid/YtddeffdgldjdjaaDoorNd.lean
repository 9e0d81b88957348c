/- Which numbers a record has,and whether it has more: what the walk comes to. -/
import Derived.Test.YtddeffdgldjdjaaDoorNc
namespace Go.Proofs.YtddeffdgldjdjaaDoor.W
set_option linter.unusedSimpArgs false
set_option linter.unusedVariables false
set_option linter.defProp false
open Go Go.Abs
open Nat renaming reduceAdd→zaa,reduceSub→zab,reduceMul→zac,reduceLT→zad,reduceLeDiff→zae,reduceEqDiff→zaf,reduceBEq→zag
open BitVec renaming reduceOfInt→zah
open Int renaming reduceLE→zai,reduceLT→zaj,reduceGT→zak,reduceGE→zal,reduceNeg→zam,reduceAdd→zan,reduceSub→zao,reduceMul→zap,reduceToNat→zaq
open Go.Abs renaming bind_go→zar,map_go→zas,wantedV→zat,isWrite→zau,grow→zav,write→zaw,ofV→zax,start→zaz,strip→zba,endQ→zbb,resV→zbc,rawsRes→zbd,rawRes→zbe,exports→zbf,export1→zbg,isSelf→zbl,convSelf→zbm,convV→zbn,loadV→zbo,storeV→zbp,fieldAddrV→zbq,fieldV→zbr,indexAddrV→zbs,indexV→zbt,partV→zbu,isAggK→zbv,isStr→zbw,place→zbx,ipS→zby,lenV→zbz,min2V→zca,makeV→zcb,freshSl→zcc,sliceV→zcd,boundOr→zce,bound→zcf,bounds→zcg,cutFl→zch,copyV→zci,slCells→zcj,srcV→zck,appendV→zcl,room→zcm,zerosOf→zcn,eqNeg→zco,kd→zcp,takeR→zcq,hasViewL→zcr,hasView→zcs,freshR→zct,freshC→zcu,snapAll→zcv,snap→zcw,snapL→zcx,flatL→zcy,pureL→zcz,pureA→zda,fillC→zdb,arrOK→zdc,oneA→zdd,partB→zde,ren1→zdg,applyW→zdi,useL→zdj,isGen→zdl,startG→zdm
open Go.Abs.AV renaming cells→zay,laid→zdf
open Go.Abs.AS renaming grown→zbh,put→zbi,mute→zdk
open Go.Abs.Env renaming know→zbj,boxed→zbk
open Go.Abs.CR renaming gr→zdh
set_option maxHeartbeats 16000000
def entNo (e : Eny) : Prop:=e.t = 0 ∧ e.k = 0 ∧ dat e.d = [] ∧ idat e.m = []
instance (e : Eny) : Decidable (entNo e):=by unfold entNo; infer_instance
def numL (r : Rec) : List Int:=if r.k = 1 then [r.h,r.v] else if r.k = 2 then [r.i] else if r.k = 3 then [r.i,r.t,r.n] else []
def numM (r : Rec) : Bool :=
  if r.k = 1 then !decide (entNo r.e) || r.i != 0 || r.t != 0 || r.n != 0
  else if r.k = 2 then r.t != 0 || r.n != 0 || r.h != 0 || r.v != 0
  else if r.k = 3 then !decide (entNo r.e) || r.h != 0 || r.v != 0
  else true
theorem num_end {r : Rec} {l : List Int} {b : Bool} {n : Nat} {fl : Fl} {xs : List AV} (h1 : numL r = l) (h2 : numM r = b) (hn : n = l.length := by rfl) (hx : xs = ints .i64 l := by rfl) :
    ResQ (some (.tup [.sl n xs fl,.raw (.bool b)])) (.tup [.sl (numL r).length (ints .i64 (numL r)) .bor,.raw (.bool (numM r))]):=by
  rw [h1,h2,hn,hx]; exact resQ_2
theorem num_nil {r : Rec} (h1 : numL r = []) (h2 : numM r = true) :
    ResQ (some (.tup [.raw (.slice none 0 0),.raw (.bool true)])) (.tup [.sl (numL r).length (ints .i64 (numL r)) .bor,.raw (.bool (numM r))]):=by
  rw [h1,h2]; exact resQ_2nil
noncomputable def rec? (cs : List AV) : Option Rec:=open Classical in if h : ∃ c,cs = recA c then some h.choose else none
theorem recA_inj {c e : Rec} (h : recA c = recA e) : c = e:=by
  obtain ⟨k,i,t,n,x,v,a⟩:=c
  obtain ⟨k',i',t',n',x',v',a'⟩:=e
  simp only [recA,List.cons.injEq,AV.raw.injEq,Value.int.injEq,true_and] at h
  obtain ⟨rfl,rfl,rfl,rfl,rfl,rfl,h1⟩:=h
  rw [entA_inj h1]
theorem rec?_of {cs : List AV} {c : Rec} (h : rec? cs = some c) : cs = recA c:=by
  unfold rec? at h
  split at h
  · rename_i h0; cases h; exact h0.choose_spec
  · cases h
theorem rec?_at (c : Rec) : rec? (recA c) = some c:=by
  have h0 : ∃ e,recA c = recA e:=⟨c,rfl⟩
  unfold rec?
  rw [dif_pos h0,recA_inj h0.choose_spec.symm]
theorem hard_kd : kd te 63 = .st [(0,3),(1,3)]:=by simp only [kd,te63]
theorem hard_neq (h v h' v' : Int) : binV te .neq 63 (.agg [.raw (.int .i64 h),.raw (.int .i64 v)]) (.agg [.raw (.int .i64 h'),.raw (.int .i64 v')]) = some (.raw (.bool (!([h,v] == [h',v'])))):=by
  simp only [binV,hard_kd,asInts,Option.map_some]
  simp [eqNeg,TK.isI64,kd,te3,List.range,List.range.loop]
theorem dz0 : decide (((0 : Nat) : Int) > 0) = false:=rfl
noncomputable def pf77 : List AV → Option AV
  | [.agg cs]=>(rec? (cs.map strip)).bind fun r=>if (dat r.e.d).length ≤ 9223372036854775807 ∧ (idat r.e.m).length ≤ 9223372036854775807 then some (.tup [.sl (numL r).length (ints .i64 (numL r)) .bor,.raw (.bool (numM r))]) else none
  | _=>none
def tbNd0:=(And.intro (And.intro (And.intro (And.intro @teE @hard_neq) (And.intro @dz0 (And.intro @rep1 @rep2))) (And.intro (And.intro @rep3 @one_le) (And.intro @le2 (And.intro @le3 @dr1)))) (And.intro (And.intro (And.intro @dr2 @dr3) (And.intro @E0_te (And.intro @E0_glob @E0_gs))) (And.intro (And.intro @E0_dyn @E0_mu) (And.intro @ev4 (And.intro @zz0 @zz1)))))
theorem sound77 : SoundV Tryd.prog glob 77 pf77:=by
  refine SoundV.walk E0 ok0 mixed Tryd.func77 rfl Tryd.call77 (by kernel_rfl) ?_
  intro args r hr
  unfold pf77 at hr
  split at hr
  · rename_i cs
    simp only [Option.bind_eq_some_iff] at hr
    obtain ⟨c,hc,hr⟩:=hr
    split at hr
    · rename_i hn
      cases hr
      have hcs:=rec?_of hc
      rw [Tryd.ntmps77,Tryd.results77]
      refine ⟨by simp,?_⟩
      obtain ⟨k,i,t,n,h,v,⟨et,ek,ed,em⟩⟩:=c
      simp only [recA,entA] at hcs
      refine awp_cut (fun σ=>σ.slots 1 = .ptr (.own 0 1 1) 0 ∧ σ.box (.own 0 1 1) = some [.raw (.int .i64 k),.raw (.int .i64 i),.raw (.int .i64 t),.raw (.int .i64 n),.raw (.int .i64 h),.raw (.int .i64 v),.raw (.int .i64 et),.raw (.int .i64 ek),btA ed,itA em] ∧ ∀ q : Abs.Id,σ.used q = false) ?_ ?_
      · simp (maxSteps := 1000000) (disch := first | omega | (simp only [nums_len,lnB] <;> omega) | fail) only [ev0,ev1,ev2,ev3,↓reduceIte,reduceCtorEq,zaa,zab,zac,zad,zae,zaf,zag,zah,zai,zaj,zak,zal,zam,zan,zao,zap,zaq,↓zar,↓zas,zat,zau,zav,zaw,zax,zay,zaz,zba,zbb,zbc,zbd,zbe,zbf,zbg,zbh,zbi,zbj,zbk,zbl,zbm,zbn,zbo,zbp,zbq,zbr,zbs,zbt,zbu,zbv,zbw,zbx,zby,zbz,zca,zcb,zcc,zcd,zce,zcf,zcg,zch,zci,zcj,zck,zcl,zcm,zcn,zco,zcp,zcq,zcr,zcs,zct,zcu,zcv,zcw,zcx,zcy,zcz,zda,zdb,zdc,zdd,zde,zdf,zdg,zdh,zdi,zdj,zdk,zdl,zdm,ev5,tbNd0,glob,List.size_toArray,Array.size_empty,List.length_nil,List.length_cons,Int.reduceBEq,Int.reduceBNe,beq_self_eq_true,Bool.not_true,Bool.not_false,Bool.true_or,Bool.or_true,hcs]
        exact fun _=>trivial
      rintro ⟨sl,gn,bx,us⟩ ⟨s1,b1,u⟩
      dsimp only at s1 b1 u
      refine awp_cut (fun σ=>σ.slots 4 = .raw (.bool (!decide (entNo ⟨et,ek,ed,em⟩))) ∧ σ.slots 1 = .ptr (.own 0 1 1) 0 ∧ σ.box (.own 0 1 1) = some [.raw (.int .i64 k),.raw (.int .i64 i),.raw (.int .i64 t),.raw (.int .i64 n),.raw (.int .i64 h),.raw (.int .i64 v),.raw (.int .i64 et),.raw (.int .i64 ek),btA ed,itA em] ∧ ∀ q : Abs.Id,σ.used q = false) ?_ ?_
      · clear hcs hc
        by_cases e1 : et = 0
        · have d1 : (et != 0) = false := by rw [e1]; rfl
          by_cases e2 : ek = 0
          · have d2 : (ek != 0) = false := by rw [e2]; rfl
            cases ed with
            | none =>
              cases em with
              | none =>
                rw [decide_eq_true (show entNo _ by simp [entNo,dat,idat, *])]
                simp (maxSteps:=1000000) (disch:=first | omega | (simp only [nums_len,lnB] <;> omega) | fail) only [ev0,ev1,ev2,ev3,↓reduceIte,reduceCtorEq,zaa,zab,zac,zad,zae,zaf,zag,zah,zai,zaj,zak,zal,zam,zan,zao,zap,zaq,↓zar,↓zas,zat,zau,zav,zaw,zax,zay,zaz,zba,zbb,zbc,zbd,zbe,zbf,zbg,zbh,zbi,zbj,zbk,zbl,zbm,zbn,zbo,zbp,zbq,zbr,zbs,zbt,zbu,zbv,zbw,zbx,zby,zbz,zca,zcb,zcc,zcd,zce,zcf,zcg,zch,zci,zcj,zck,zcl,zcm,zcn,zco,zcp,zcq,zcr,zcs,zct,zcu,zcv,zcw,zcx,zcy,zcz,zda,zdb,zdc,zdd,zde,zdf,zdg,zdh,zdi,zdj,zdk,zdl,zdm,ev5,tbNd0,glob,List.size_toArray,Array.size_empty,List.length_nil,List.length_cons,Int.reduceBEq,Int.reduceBNe,beq_self_eq_true,Bool.not_true,Bool.not_false,Bool.true_or,Bool.or_true,s1,b1,u,btA,itA,d1,d2]
                first | exact fun _=>trivial | exact fun _=>rfl | exact u
              | some m =>
                cases m with
                | nil =>
                  rw [decide_eq_true (show entNo _ by simp [entNo,dat,idat, *])]
                  simp (maxSteps:=1000000) (disch:=first | omega | (simp only [nums_len,lnB] <;> omega) | fail) only [ev0,ev1,ev2,ev3,↓reduceIte,reduceCtorEq,zaa,zab,zac,zad,zae,zaf,zag,zah,zai,zaj,zak,zal,zam,zan,zao,zap,zaq,↓zar,↓zas,zat,zau,zav,zaw,zax,zay,zaz,zba,zbb,zbc,zbd,zbe,zbf,zbg,zbh,zbi,zbj,zbk,zbl,zbm,zbn,zbo,zbp,zbq,zbr,zbs,zbt,zbu,zbv,zbw,zbx,zby,zbz,zca,zcb,zcc,zcd,zce,zcf,zcg,zch,zci,zcj,zck,zcl,zcm,zcn,zco,zcp,zcq,zcr,zcs,zct,zcu,zcv,zcw,zcx,zcy,zcz,zda,zdb,zdc,zdd,zde,zdf,zdg,zdh,zdi,zdj,zdk,zdl,zdm,ev5,tbNd0,glob,List.size_toArray,Array.size_empty,List.length_nil,List.length_cons,Int.reduceBEq,Int.reduceBNe,beq_self_eq_true,Bool.not_true,Bool.not_false,Bool.true_or,Bool.or_true,s1,b1,u,btA,itA,d1,d2]
                  first | exact fun _=>trivial | exact fun _=>rfl | exact u
                | cons m0 m1 =>
                  have gm : decide (((m0 :: m1).length : Int) > 0) = true:=decide_eq_true (by simp only [List.length_cons]; omega)
                  generalize hxm : m0 :: m1 = xm at *
                  have nem : ¬ xm = []:=by rw [← hxm]; simp
                  rw [decide_eq_false (show ¬ entNo _ by simp [entNo,dat,idat, *])]
                  simp (maxSteps:=1000000) (disch:=first | omega | (simp only [nums_len,lnB] <;> omega) | fail) only [ev0,ev1,ev2,ev3,↓reduceIte,reduceCtorEq,zaa,zab,zac,zad,zae,zaf,zag,zah,zai,zaj,zak,zal,zam,zan,zao,zap,zaq,↓zar,↓zas,zat,zau,zav,zaw,zax,zay,zaz,zba,zbb,zbc,zbd,zbe,zbf,zbg,zbh,zbi,zbj,zbk,zbl,zbm,zbn,zbo,zbp,zbq,zbr,zbs,zbt,zbu,zbv,zbw,zbx,zby,zbz,zca,zcb,zcc,zcd,zce,zcf,zcg,zch,zci,zcj,zck,zcl,zcm,zcn,zco,zcp,zcq,zcr,zcs,zct,zcu,zcv,zcw,zcx,zcy,zcz,zda,zdb,zdc,zdd,zde,zdf,zdg,zdh,zdi,zdj,zdk,zdl,zdm,ev5,tbNd0,glob,List.size_toArray,Array.size_empty,List.length_nil,List.length_cons,Int.reduceBEq,Int.reduceBNe,beq_self_eq_true,Bool.not_true,Bool.not_false,Bool.true_or,Bool.or_true,s1,b1,u,btA,itA,d1,d2,gm]
                  first | exact fun _=>trivial | exact fun _=>rfl | exact u
            | some l =>
              cases l with
              | nil =>
                cases em with
                | none =>
                  rw [decide_eq_true (show entNo _ by simp [entNo,dat,idat, *])]
                  simp (maxSteps:=1000000) (disch:=first | omega | (simp only [nums_len,lnB] <;> omega) | fail) only [ev0,ev1,ev2,ev3,↓reduceIte,reduceCtorEq,zaa,zab,zac,zad,zae,zaf,zag,zah,zai,zaj,zak,zal,zam,zan,zao,zap,zaq,↓zar,↓zas,zat,zau,zav,zaw,zax,zay,zaz,zba,zbb,zbc,zbd,zbe,zbf,zbg,zbh,zbi,zbj,zbk,zbl,zbm,zbn,zbo,zbp,zbq,zbr,zbs,zbt,zbu,zbv,zbw,zbx,zby,zbz,zca,zcb,zcc,zcd,zce,zcf,zcg,zch,zci,zcj,zck,zcl,zcm,zcn,zco,zcp,zcq,zcr,zcs,zct,zcu,zcv,zcw,zcx,zcy,zcz,zda,zdb,zdc,zdd,zde,zdf,zdg,zdh,zdi,zdj,zdk,zdl,zdm,ev5,tbNd0,glob,List.size_toArray,Array.size_empty,List.length_nil,List.length_cons,Int.reduceBEq,Int.reduceBNe,beq_self_eq_true,Bool.not_true,Bool.not_false,Bool.true_or,Bool.or_true,s1,b1,u,btA,itA,d1,d2]
                  first | exact fun _=>trivial | exact fun _=>rfl | exact u
                | some m =>
                  cases m with
                  | nil =>
                    rw [decide_eq_true (show entNo _ by simp [entNo,dat,idat, *])]
                    simp (maxSteps:=1000000) (disch:=first | omega | (simp only [nums_len,lnB] <;> omega) | fail) only [ev0,ev1,ev2,ev3,↓reduceIte,reduceCtorEq,zaa,zab,zac,zad,zae,zaf,zag,zah,zai,zaj,zak,zal,zam,zan,zao,zap,zaq,↓zar,↓zas,zat,zau,zav,zaw,zax,zay,zaz,zba,zbb,zbc,zbd,zbe,zbf,zbg,zbh,zbi,zbj,zbk,zbl,zbm,zbn,zbo,zbp,zbq,zbr,zbs,zbt,zbu,zbv,zbw,zbx,zby,zbz,zca,zcb,zcc,zcd,zce,zcf,zcg,zch,zci,zcj,zck,zcl,zcm,zcn,zco,zcp,zcq,zcr,zcs,zct,zcu,zcv,zcw,zcx,zcy,zcz,zda,zdb,zdc,zdd,zde,zdf,zdg,zdh,zdi,zdj,zdk,zdl,zdm,ev5,tbNd0,glob,List.size_toArray,Array.size_empty,List.length_nil,List.length_cons,Int.reduceBEq,Int.reduceBNe,beq_self_eq_true,Bool.not_true,Bool.not_false,Bool.true_or,Bool.or_true,s1,b1,u,btA,itA,d1,d2]
                    first | exact fun _=>trivial | exact fun _=>rfl | exact u
                  | cons m0 m1 =>
                    have gm : decide (((m0 :: m1).length : Int) > 0) = true:=decide_eq_true (by simp only [List.length_cons]; omega)
                    generalize hxm : m0 :: m1 = xm at *
                    have nem : ¬ xm = []:=by rw [← hxm]; simp
                    rw [decide_eq_false (show ¬ entNo _ by simp [entNo,dat,idat, *])]
                    simp (maxSteps:=1000000) (disch:=first | omega | (simp only [nums_len,lnB] <;> omega) | fail) only [ev0,ev1,ev2,ev3,↓reduceIte,reduceCtorEq,zaa,zab,zac,zad,zae,zaf,zag,zah,zai,zaj,zak,zal,zam,zan,zao,zap,zaq,↓zar,↓zas,zat,zau,zav,zaw,zax,zay,zaz,zba,zbb,zbc,zbd,zbe,zbf,zbg,zbh,zbi,zbj,zbk,zbl,zbm,zbn,zbo,zbp,zbq,zbr,zbs,zbt,zbu,zbv,zbw,zbx,zby,zbz,zca,zcb,zcc,zcd,zce,zcf,zcg,zch,zci,zcj,zck,zcl,zcm,zcn,zco,zcp,zcq,zcr,zcs,zct,zcu,zcv,zcw,zcx,zcy,zcz,zda,zdb,zdc,zdd,zde,zdf,zdg,zdh,zdi,zdj,zdk,zdl,zdm,ev5,tbNd0,glob,List.size_toArray,Array.size_empty,List.length_nil,List.length_cons,Int.reduceBEq,Int.reduceBNe,beq_self_eq_true,Bool.not_true,Bool.not_false,Bool.true_or,Bool.or_true,s1,b1,u,btA,itA,d1,d2,gm]
                    first | exact fun _=>trivial | exact fun _=>rfl | exact u
              | cons l0 l1 =>
                have gl : decide (((l0 :: l1).length : Int) > 0) = true:=decide_eq_true (by simp only [List.length_cons]; omega)
                generalize hxl : l0 :: l1 = xl at *
                have nel : ¬ xl = []:=by rw [← hxl]; simp
                rw [decide_eq_false (show ¬ entNo _ by simp [entNo,dat,idat, *])]
                simp (maxSteps:=1000000) (disch:=first | omega | (simp only [nums_len,lnB] <;> omega) | fail) only [ev0,ev1,ev2,ev3,↓reduceIte,reduceCtorEq,zaa,zab,zac,zad,zae,zaf,zag,zah,zai,zaj,zak,zal,zam,zan,zao,zap,zaq,↓zar,↓zas,zat,zau,zav,zaw,zax,zay,zaz,zba,zbb,zbc,zbd,zbe,zbf,zbg,zbh,zbi,zbj,zbk,zbl,zbm,zbn,zbo,zbp,zbq,zbr,zbs,zbt,zbu,zbv,zbw,zbx,zby,zbz,zca,zcb,zcc,zcd,zce,zcf,zcg,zch,zci,zcj,zck,zcl,zcm,zcn,zco,zcp,zcq,zcr,zcs,zct,zcu,zcv,zcw,zcx,zcy,zcz,zda,zdb,zdc,zdd,zde,zdf,zdg,zdh,zdi,zdj,zdk,zdl,zdm,ev5,tbNd0,glob,List.size_toArray,Array.size_empty,List.length_nil,List.length_cons,Int.reduceBEq,Int.reduceBNe,beq_self_eq_true,Bool.not_true,Bool.not_false,Bool.true_or,Bool.or_true,s1,b1,u,btA,itA,d1,d2,gl]
                first | exact fun _=>trivial | exact fun _=>rfl | exact u
          · have d2 : (ek != 0) = true := by rw [bne_iff_ne]; exact e2
            rw [decide_eq_false (show ¬ entNo _ by simp [entNo,dat,idat, *])]
            simp (maxSteps:=1000000) (disch:=first | omega | (simp only [nums_len,lnB] <;> omega) | fail) only [ev0,ev1,ev2,ev3,↓reduceIte,reduceCtorEq,zaa,zab,zac,zad,zae,zaf,zag,zah,zai,zaj,zak,zal,zam,zan,zao,zap,zaq,↓zar,↓zas,zat,zau,zav,zaw,zax,zay,zaz,zba,zbb,zbc,zbd,zbe,zbf,zbg,zbh,zbi,zbj,zbk,zbl,zbm,zbn,zbo,zbp,zbq,zbr,zbs,zbt,zbu,zbv,zbw,zbx,zby,zbz,zca,zcb,zcc,zcd,zce,zcf,zcg,zch,zci,zcj,zck,zcl,zcm,zcn,zco,zcp,zcq,zcr,zcs,zct,zcu,zcv,zcw,zcx,zcy,zcz,zda,zdb,zdc,zdd,zde,zdf,zdg,zdh,zdi,zdj,zdk,zdl,zdm,ev5,tbNd0,glob,List.size_toArray,Array.size_empty,List.length_nil,List.length_cons,Int.reduceBEq,Int.reduceBNe,beq_self_eq_true,Bool.not_true,Bool.not_false,Bool.true_or,Bool.or_true,s1,b1,u,btA,itA,d1,d2]
            first | exact fun _=>trivial | exact fun _=>rfl | exact u
        · have d1 : (et != 0) = true := by rw [bne_iff_ne]; exact e1
          rw [decide_eq_false (show ¬ entNo _ by simp [entNo,dat,idat, *])]
          simp (maxSteps:=1000000) (disch:=first | omega | (simp only [nums_len,lnB] <;> omega) | fail) only [ev0,ev1,ev2,ev3,↓reduceIte,reduceCtorEq,zaa,zab,zac,zad,zae,zaf,zag,zah,zai,zaj,zak,zal,zam,zan,zao,zap,zaq,↓zar,↓zas,zat,zau,zav,zaw,zax,zay,zaz,zba,zbb,zbc,zbd,zbe,zbf,zbg,zbh,zbi,zbj,zbk,zbl,zbm,zbn,zbo,zbp,zbq,zbr,zbs,zbt,zbu,zbv,zbw,zbx,zby,zbz,zca,zcb,zcc,zcd,zce,zcf,zcg,zch,zci,zcj,zck,zcl,zcm,zcn,zco,zcp,zcq,zcr,zcs,zct,zcu,zcv,zcw,zcx,zcy,zcz,zda,zdb,zdc,zdd,zde,zdf,zdg,zdh,zdi,zdj,zdk,zdl,zdm,ev5,tbNd0,glob,List.size_toArray,Array.size_empty,List.length_nil,List.length_cons,Int.reduceBEq,Int.reduceBNe,beq_self_eq_true,Bool.not_true,Bool.not_false,Bool.true_or,Bool.or_true,s1,b1,u,btA,itA,d1]
          first | exact fun _=>trivial | exact fun _=>rfl | exact u
      clear s1 b1 u sl gn bx us hcs hc
      rintro ⟨sl,gn,bx,us⟩ ⟨s4,s1,b1,u⟩
      dsimp only at s4 s1 b1 u
      by_cases k1 : k = 1
      · subst k1
        by_cases en : entNo ⟨et,ek,ed,em⟩
        · rw [decide_eq_true en] at s4
          by_cases i1 : i = 0
          · have j1 : (i != 0) = false := by rw [i1]; rfl
            by_cases t1 : t = 0
            · have j2 : (t != 0) = false := by rw [t1]; rfl
              by_cases n1 : n = 0
              · have j3 : (n != 0) = false := by rw [n1]; rfl
                simp (maxSteps:=1000000) (disch:=first | omega | (simp only [nums_len,lnB] <;> omega) | fail) only [ev0,ev1,ev2,ev3,↓reduceIte,reduceCtorEq,zaa,zab,zac,zad,zae,zaf,zag,zah,zai,zaj,zak,zal,zam,zan,zao,zap,zaq,↓zar,↓zas,zat,zau,zav,zaw,zax,zay,zaz,zba,zbb,zbc,zbd,zbe,zbf,zbg,zbh,zbi,zbj,zbk,zbl,zbm,zbn,zbo,zbp,zbq,zbr,zbs,zbt,zbu,zbv,zbw,zbx,zby,zbz,zca,zcb,zcc,zcd,zce,zcf,zcg,zch,zci,zcj,zck,zcl,zcm,zcn,zco,zcp,zcq,zcr,zcs,zct,zcu,zcv,zcw,zcx,zcy,zcz,zda,zdb,zdc,zdd,zde,zdf,zdg,zdh,zdi,zdj,zdk,zdl,zdm,ev5,tbNd0,glob,List.size_toArray,Array.size_empty,List.length_nil,List.length_cons,Int.reduceBEq,Int.reduceBNe,beq_self_eq_true,Bool.not_true,Bool.not_false,Bool.true_or,Bool.or_true,s4,s1,b1,u,j1,j2,j3]
                refine num_end (l:=[h,v]) ?_ ?_
                · simp [numL, *]
                · exact (by simp [numM, *])
              · have j3 : (n != 0) = true := by rw [bne_iff_ne]; exact n1
                simp (maxSteps:=1000000) (disch:=first | omega | (simp only [nums_len,lnB] <;> omega) | fail) only [ev0,ev1,ev2,ev3,↓reduceIte,reduceCtorEq,zaa,zab,zac,zad,zae,zaf,zag,zah,zai,zaj,zak,zal,zam,zan,zao,zap,zaq,↓zar,↓zas,zat,zau,zav,zaw,zax,zay,zaz,zba,zbb,zbc,zbd,zbe,zbf,zbg,zbh,zbi,zbj,zbk,zbl,zbm,zbn,zbo,zbp,zbq,zbr,zbs,zbt,zbu,zbv,zbw,zbx,zby,zbz,zca,zcb,zcc,zcd,zce,zcf,zcg,zch,zci,zcj,zck,zcl,zcm,zcn,zco,zcp,zcq,zcr,zcs,zct,zcu,zcv,zcw,zcx,zcy,zcz,zda,zdb,zdc,zdd,zde,zdf,zdg,zdh,zdi,zdj,zdk,zdl,zdm,ev5,tbNd0,glob,List.size_toArray,Array.size_empty,List.length_nil,List.length_cons,Int.reduceBEq,Int.reduceBNe,beq_self_eq_true,Bool.not_true,Bool.not_false,Bool.true_or,Bool.or_true,s4,s1,b1,u,j1,j2,j3]
                refine num_end (l:=[h,v]) ?_ ?_
                · simp [numL, *]
                · exact (by simp [numM, *])
            · have j2 : (t != 0) = true := by rw [bne_iff_ne]; exact t1
              simp (maxSteps:=1000000) (disch:=first | omega | (simp only [nums_len,lnB] <;> omega) | fail) only [ev0,ev1,ev2,ev3,↓reduceIte,reduceCtorEq,zaa,zab,zac,zad,zae,zaf,zag,zah,zai,zaj,zak,zal,zam,zan,zao,zap,zaq,↓zar,↓zas,zat,zau,zav,zaw,zax,zay,zaz,zba,zbb,zbc,zbd,zbe,zbf,zbg,zbh,zbi,zbj,zbk,zbl,zbm,zbn,zbo,zbp,zbq,zbr,zbs,zbt,zbu,zbv,zbw,zbx,zby,zbz,zca,zcb,zcc,zcd,zce,zcf,zcg,zch,zci,zcj,zck,zcl,zcm,zcn,zco,zcp,zcq,zcr,zcs,zct,zcu,zcv,zcw,zcx,zcy,zcz,zda,zdb,zdc,zdd,zde,zdf,zdg,zdh,zdi,zdj,zdk,zdl,zdm,ev5,tbNd0,glob,List.size_toArray,Array.size_empty,List.length_nil,List.length_cons,Int.reduceBEq,Int.reduceBNe,beq_self_eq_true,Bool.not_true,Bool.not_false,Bool.true_or,Bool.or_true,s4,s1,b1,u,j1,j2]
              refine num_end (l:=[h,v]) ?_ ?_
              · simp [numL, *]
              · exact (by simp [numM, *])
          · have j1 : (i != 0) = true := by rw [bne_iff_ne]; exact i1
            simp (maxSteps:=1000000) (disch:=first | omega | (simp only [nums_len,lnB] <;> omega) | fail) only [ev0,ev1,ev2,ev3,↓reduceIte,reduceCtorEq,zaa,zab,zac,zad,zae,zaf,zag,zah,zai,zaj,zak,zal,zam,zan,zao,zap,zaq,↓zar,↓zas,zat,zau,zav,zaw,zax,zay,zaz,zba,zbb,zbc,zbd,zbe,zbf,zbg,zbh,zbi,zbj,zbk,zbl,zbm,zbn,zbo,zbp,zbq,zbr,zbs,zbt,zbu,zbv,zbw,zbx,zby,zbz,zca,zcb,zcc,zcd,zce,zcf,zcg,zch,zci,zcj,zck,zcl,zcm,zcn,zco,zcp,zcq,zcr,zcs,zct,zcu,zcv,zcw,zcx,zcy,zcz,zda,zdb,zdc,zdd,zde,zdf,zdg,zdh,zdi,zdj,zdk,zdl,zdm,ev5,tbNd0,glob,List.size_toArray,Array.size_empty,List.length_nil,List.length_cons,Int.reduceBEq,Int.reduceBNe,beq_self_eq_true,Bool.not_true,Bool.not_false,Bool.true_or,Bool.or_true,s4,s1,b1,u,j1]
            refine num_end (l:=[h,v]) ?_ ?_
            · simp [numL, *]
            · exact (by simp [numM, *])
        · rw [decide_eq_false en] at s4
          simp (maxSteps:=1000000) (disch:=first | omega | (simp only [nums_len,lnB] <;> omega) | fail) only [ev0,ev1,ev2,ev3,↓reduceIte,reduceCtorEq,zaa,zab,zac,zad,zae,zaf,zag,zah,zai,zaj,zak,zal,zam,zan,zao,zap,zaq,↓zar,↓zas,zat,zau,zav,zaw,zax,zay,zaz,zba,zbb,zbc,zbd,zbe,zbf,zbg,zbh,zbi,zbj,zbk,zbl,zbm,zbn,zbo,zbp,zbq,zbr,zbs,zbt,zbu,zbv,zbw,zbx,zby,zbz,zca,zcb,zcc,zcd,zce,zcf,zcg,zch,zci,zcj,zck,zcl,zcm,zcn,zco,zcp,zcq,zcr,zcs,zct,zcu,zcv,zcw,zcx,zcy,zcz,zda,zdb,zdc,zdd,zde,zdf,zdg,zdh,zdi,zdj,zdk,zdl,zdm,ev5,tbNd0,glob,List.size_toArray,Array.size_empty,List.length_nil,List.length_cons,Int.reduceBEq,Int.reduceBNe,beq_self_eq_true,Bool.not_true,Bool.not_false,Bool.true_or,Bool.or_true,s4,s1,b1,u]
          refine num_end (l:=[h,v]) ?_ ?_
          · simp [numL, *]
          · exact (by simp [numM, *])
      by_cases k2 : k = 2
      · subst k2
        by_cases t1 : t = 0
        · have j2 : (t != 0) = false := by rw [t1]; rfl
          by_cases n1 : n = 0
          · have j3 : (n != 0) = false := by rw [n1]; rfl
            by_cases hv : [h,v] = [(0 : Int),0]
            · obtain ⟨rfl,rfl⟩ : h = 0 ∧ v = 0 := by simpa using hv
              have q : ([(0 : Int),0] == [0,0]) = true:=rfl
              simp (maxSteps:=1000000) (disch:=first | omega | (simp only [nums_len,lnB] <;> omega) | fail) only [ev0,ev1,ev2,ev3,↓reduceIte,reduceCtorEq,zaa,zab,zac,zad,zae,zaf,zag,zah,zai,zaj,zak,zal,zam,zan,zao,zap,zaq,↓zar,↓zas,zat,zau,zav,zaw,zax,zay,zaz,zba,zbb,zbc,zbd,zbe,zbf,zbg,zbh,zbi,zbj,zbk,zbl,zbm,zbn,zbo,zbp,zbq,zbr,zbs,zbt,zbu,zbv,zbw,zbx,zby,zbz,zca,zcb,zcc,zcd,zce,zcf,zcg,zch,zci,zcj,zck,zcl,zcm,zcn,zco,zcp,zcq,zcr,zcs,zct,zcu,zcv,zcw,zcx,zcy,zcz,zda,zdb,zdc,zdd,zde,zdf,zdg,zdh,zdi,zdj,zdk,zdl,zdm,ev5,tbNd0,glob,List.size_toArray,Array.size_empty,List.length_nil,List.length_cons,Int.reduceBEq,Int.reduceBNe,beq_self_eq_true,Bool.not_true,Bool.not_false,Bool.true_or,Bool.or_true,s4,s1,b1,u,j2,j3,q]
              refine num_end (l:=[i]) ?_ ?_
              · simp [numL, *]
              · exact (by simp [numM, *])
            · have q : ([h,v] == [(0 : Int),0]) = false := beq_eq_false_iff_ne.2 hv
              have hv' : h = 0→¬ v = 0:=fun a b=>hv (by rw [a,b])
              simp (maxSteps:=1000000) (disch:=first | omega | (simp only [nums_len,lnB] <;> omega) | fail) only [ev0,ev1,ev2,ev3,↓reduceIte,reduceCtorEq,zaa,zab,zac,zad,zae,zaf,zag,zah,zai,zaj,zak,zal,zam,zan,zao,zap,zaq,↓zar,↓zas,zat,zau,zav,zaw,zax,zay,zaz,zba,zbb,zbc,zbd,zbe,zbf,zbg,zbh,zbi,zbj,zbk,zbl,zbm,zbn,zbo,zbp,zbq,zbr,zbs,zbt,zbu,zbv,zbw,zbx,zby,zbz,zca,zcb,zcc,zcd,zce,zcf,zcg,zch,zci,zcj,zck,zcl,zcm,zcn,zco,zcp,zcq,zcr,zcs,zct,zcu,zcv,zcw,zcx,zcy,zcz,zda,zdb,zdc,zdd,zde,zdf,zdg,zdh,zdi,zdj,zdk,zdl,zdm,ev5,tbNd0,glob,List.size_toArray,Array.size_empty,List.length_nil,List.length_cons,Int.reduceBEq,Int.reduceBNe,beq_self_eq_true,Bool.not_true,Bool.not_false,Bool.true_or,Bool.or_true,s4,s1,b1,u,j2,j3,q]
              refine num_end (l:=[i]) ?_ ?_
              · simp [numL, *]
              · exact (by by_cases a : h = 0 <;> simp [numM,a,hv', *])
          · have j3 : (n != 0) = true := by rw [bne_iff_ne]; exact n1
            simp (maxSteps:=1000000) (disch:=first | omega | (simp only [nums_len,lnB] <;> omega) | fail) only [ev0,ev1,ev2,ev3,↓reduceIte,reduceCtorEq,zaa,zab,zac,zad,zae,zaf,zag,zah,zai,zaj,zak,zal,zam,zan,zao,zap,zaq,↓zar,↓zas,zat,zau,zav,zaw,zax,zay,zaz,zba,zbb,zbc,zbd,zbe,zbf,zbg,zbh,zbi,zbj,zbk,zbl,zbm,zbn,zbo,zbp,zbq,zbr,zbs,zbt,zbu,zbv,zbw,zbx,zby,zbz,zca,zcb,zcc,zcd,zce,zcf,zcg,zch,zci,zcj,zck,zcl,zcm,zcn,zco,zcp,zcq,zcr,zcs,zct,zcu,zcv,zcw,zcx,zcy,zcz,zda,zdb,zdc,zdd,zde,zdf,zdg,zdh,zdi,zdj,zdk,zdl,zdm,ev5,tbNd0,glob,List.size_toArray,Array.size_empty,List.length_nil,List.length_cons,Int.reduceBEq,Int.reduceBNe,beq_self_eq_true,Bool.not_true,Bool.not_false,Bool.true_or,Bool.or_true,s4,s1,b1,u,j2,j3]
            refine num_end (l:=[i]) ?_ ?_
            · simp [numL, *]
            · exact (by simp [numM, *])
        · have j2 : (t != 0) = true := by rw [bne_iff_ne]; exact t1
          simp (maxSteps:=1000000) (disch:=first | omega | (simp only [nums_len,lnB] <;> omega) | fail) only [ev0,ev1,ev2,ev3,↓reduceIte,reduceCtorEq,zaa,zab,zac,zad,zae,zaf,zag,zah,zai,zaj,zak,zal,zam,zan,zao,zap,zaq,↓zar,↓zas,zat,zau,zav,zaw,zax,zay,zaz,zba,zbb,zbc,zbd,zbe,zbf,zbg,zbh,zbi,zbj,zbk,zbl,zbm,zbn,zbo,zbp,zbq,zbr,zbs,zbt,zbu,zbv,zbw,zbx,zby,zbz,zca,zcb,zcc,zcd,zce,zcf,zcg,zch,zci,zcj,zck,zcl,zcm,zcn,zco,zcp,zcq,zcr,zcs,zct,zcu,zcv,zcw,zcx,zcy,zcz,zda,zdb,zdc,zdd,zde,zdf,zdg,zdh,zdi,zdj,zdk,zdl,zdm,ev5,tbNd0,glob,List.size_toArray,Array.size_empty,List.length_nil,List.length_cons,Int.reduceBEq,Int.reduceBNe,beq_self_eq_true,Bool.not_true,Bool.not_false,Bool.true_or,Bool.or_true,s4,s1,b1,u,j2]
          refine num_end (l:=[i]) ?_ ?_
          · simp [numL, *]
          · exact (by simp [numM, *])
      by_cases k3 : k = 3
      · subst k3
        by_cases en : entNo ⟨et,ek,ed,em⟩
        · rw [decide_eq_true en] at s4
          by_cases hv : [h,v] = [(0 : Int),0]
          · obtain ⟨rfl,rfl⟩ : h = 0 ∧ v = 0 := by simpa using hv
            have q : ([(0 : Int),0] == [0,0]) = true:=rfl
            simp (maxSteps:=1000000) (disch:=first | omega | (simp only [nums_len,lnB] <;> omega) | fail) only [ev0,ev1,ev2,ev3,↓reduceIte,reduceCtorEq,zaa,zab,zac,zad,zae,zaf,zag,zah,zai,zaj,zak,zal,zam,zan,zao,zap,zaq,↓zar,↓zas,zat,zau,zav,zaw,zax,zay,zaz,zba,zbb,zbc,zbd,zbe,zbf,zbg,zbh,zbi,zbj,zbk,zbl,zbm,zbn,zbo,zbp,zbq,zbr,zbs,zbt,zbu,zbv,zbw,zbx,zby,zbz,zca,zcb,zcc,zcd,zce,zcf,zcg,zch,zci,zcj,zck,zcl,zcm,zcn,zco,zcp,zcq,zcr,zcs,zct,zcu,zcv,zcw,zcx,zcy,zcz,zda,zdb,zdc,zdd,zde,zdf,zdg,zdh,zdi,zdj,zdk,zdl,zdm,ev5,tbNd0,glob,List.size_toArray,Array.size_empty,List.length_nil,List.length_cons,Int.reduceBEq,Int.reduceBNe,beq_self_eq_true,Bool.not_true,Bool.not_false,Bool.true_or,Bool.or_true,s4,s1,b1,u,q]
            refine num_end (l:=[i,t,n]) ?_ ?_
            · simp [numL, *]
            · exact (by simp [numM, *])
          · have q : ([h,v] == [(0 : Int),0]) = false := beq_eq_false_iff_ne.2 hv
            have hv' : h = 0→¬ v = 0:=fun a b=>hv (by rw [a,b])
            simp (maxSteps:=1000000) (disch:=first | omega | (simp only [nums_len,lnB] <;> omega) | fail) only [ev0,ev1,ev2,ev3,↓reduceIte,reduceCtorEq,zaa,zab,zac,zad,zae,zaf,zag,zah,zai,zaj,zak,zal,zam,zan,zao,zap,zaq,↓zar,↓zas,zat,zau,zav,zaw,zax,zay,zaz,zba,zbb,zbc,zbd,zbe,zbf,zbg,zbh,zbi,zbj,zbk,zbl,zbm,zbn,zbo,zbp,zbq,zbr,zbs,zbt,zbu,zbv,zbw,zbx,zby,zbz,zca,zcb,zcc,zcd,zce,zcf,zcg,zch,zci,zcj,zck,zcl,zcm,zcn,zco,zcp,zcq,zcr,zcs,zct,zcu,zcv,zcw,zcx,zcy,zcz,zda,zdb,zdc,zdd,zde,zdf,zdg,zdh,zdi,zdj,zdk,zdl,zdm,ev5,tbNd0,glob,List.size_toArray,Array.size_empty,List.length_nil,List.length_cons,Int.reduceBEq,Int.reduceBNe,beq_self_eq_true,Bool.not_true,Bool.not_false,Bool.true_or,Bool.or_true,s4,s1,b1,u,q]
            refine num_end (l:=[i,t,n]) ?_ ?_
            · simp [numL, *]
            · exact (by by_cases a : h = 0 <;> simp [numM,a,hv', *])
        · rw [decide_eq_false en] at s4
          simp (maxSteps:=1000000) (disch:=first | omega | (simp only [nums_len,lnB] <;> omega) | fail) only [ev0,ev1,ev2,ev3,↓reduceIte,reduceCtorEq,zaa,zab,zac,zad,zae,zaf,zag,zah,zai,zaj,zak,zal,zam,zan,zao,zap,zaq,↓zar,↓zas,zat,zau,zav,zaw,zax,zay,zaz,zba,zbb,zbc,zbd,zbe,zbf,zbg,zbh,zbi,zbj,zbk,zbl,zbm,zbn,zbo,zbp,zbq,zbr,zbs,zbt,zbu,zbv,zbw,zbx,zby,zbz,zca,zcb,zcc,zcd,zce,zcf,zcg,zch,zci,zcj,zck,zcl,zcm,zcn,zco,zcp,zcq,zcr,zcs,zct,zcu,zcv,zcw,zcx,zcy,zcz,zda,zdb,zdc,zdd,zde,zdf,zdg,zdh,zdi,zdj,zdk,zdl,zdm,ev5,tbNd0,glob,List.size_toArray,Array.size_empty,List.length_nil,List.length_cons,Int.reduceBEq,Int.reduceBNe,beq_self_eq_true,Bool.not_true,Bool.not_false,Bool.true_or,Bool.or_true,s4,s1,b1,u]
          refine num_end (l:=[i,t,n]) ?_ ?_
          · simp [numL, *]
          · exact (by simp [numM, *])
      have b1' : (k == 1) = false:=beq_eq_false_iff_ne.2 k1
      have b2 : (k == 2) = false:=beq_eq_false_iff_ne.2 k2
      have b3 : (k == 3) = false:=beq_eq_false_iff_ne.2 k3
      simp (maxSteps:=1000000) (disch:=first | omega | (simp only [nums_len,lnB] <;> omega) | fail) only [ev0,ev1,ev2,ev3,↓reduceIte,reduceCtorEq,zaa,zab,zac,zad,zae,zaf,zag,zah,zai,zaj,zak,zal,zam,zan,zao,zap,zaq,↓zar,↓zas,zat,zau,zav,zaw,zax,zay,zaz,zba,zbb,zbc,zbd,zbe,zbf,zbg,zbh,zbi,zbj,zbk,zbl,zbm,zbn,zbo,zbp,zbq,zbr,zbs,zbt,zbu,zbv,zbw,zbx,zby,zbz,zca,zcb,zcc,zcd,zce,zcf,zcg,zch,zci,zcj,zck,zcl,zcm,zcn,zco,zcp,zcq,zcr,zcs,zct,zcu,zcv,zcw,zcx,zcy,zcz,zda,zdb,zdc,zdd,zde,zdf,zdg,zdh,zdi,zdj,zdk,zdl,zdm,ev5,tbNd0,glob,List.size_toArray,Array.size_empty,List.length_nil,List.length_cons,Int.reduceBEq,Int.reduceBNe,beq_self_eq_true,Bool.not_true,Bool.not_false,Bool.true_or,Bool.or_true,s4,s1,b1,u,b1',b2,b3]
      refine num_nil ?_ ?_
      · simp [numL, *]
      · simp [numM, *]
    · cases hr
  · cases hr
end Go.Proofs.YtddeffdgldjdjaaDoor.W
