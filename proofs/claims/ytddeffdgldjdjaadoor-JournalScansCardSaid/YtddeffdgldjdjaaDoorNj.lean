/- A base is taken: what the walk comes to. -/
import Derived.Test.YtddeffdgldjdjaaDoorNi
namespace Go.Proofs.YtddeffdgldjdjaaDoor.W
set_option linter.unusedSimpArgs false
set_option linter.unusedVariables false
set_option linter.defProp false
open Go Go.Abs
open Nat renaming reduceAdd→zaa,reduceSub→zab,reduceMul→zac,reduceLT→zad,reduceLeDiff→zae,reduceEqDiff→zaf,reduceBEq→zag
open BitVec renaming reduceOfInt→zah
open Int renaming reduceLE→zai,reduceLT→zaj,reduceGT→zak,reduceGE→zal,reduceNeg→zam,reduceAdd→zan,reduceSub→zao,reduceMul→zap,reduceToNat→zaq
open Go.Abs renaming bind_go→zar,map_go→zas,wantedV→zat,isWrite→zau,grow→zav,write→zaw,ofV→zax,start→zaz,strip→zba,endQ→zbb,resV→zbc,rawsRes→zbd,rawRes→zbe,exports→zbf,export1→zbg,isSelf→zbl,convSelf→zbm,convV→zbn,loadV→zbo,storeV→zbp,fieldAddrV→zbq,fieldV→zbr,indexAddrV→zbs,indexV→zbt,partV→zbu,isAggK→zbv,isStr→zbw,place→zbx,ipS→zby,lenV→zbz,min2V→zca,makeV→zcb,freshSl→zcc,sliceV→zcd,boundOr→zce,bound→zcf,bounds→zcg,cutFl→zch,copyV→zci,slCells→zcj,srcV→zck,appendV→zcl,room→zcm,zerosOf→zcn,eqNeg→zco,kd→zcp,takeR→zcq,hasViewL→zcr,hasView→zcs,freshR→zct,freshC→zcu,snapAll→zcv,snap→zcw,snapL→zcx,flatL→zcy,pureL→zcz,pureA→zda,fillC→zdb,arrOK→zdc,oneA→zdd,partB→zde,ren1→zdg,applyW→zdi,useL→zdj,isGen→zdl,startG→zdm
open Go.Abs.AV renaming cells→zay,laid→zdf
open Go.Abs.AS renaming grown→zbh,put→zbi,mute→zdk
open Go.Abs.Env renaming know→zbj,boxed→zbk
open Go.Abs.CR renaming gr→zdh
set_option maxHeartbeats 16000000
def foldB (s : St) (r : Rec) : St :=
  if r.i < s.i then s
  else { h:=s.h,v:=s.v,i:=r.i,t:=r.t,f:=r.n,es :=
    if r.i = s.i ∧ r.t = s.t then s.es
    else if s.i < r.i ∧ r.i ≤ s.i + ((esL s.es).length : Int) ∧ ((esL s.es).getD (r.i - s.i - 1).toNat noE).t = r.t then some ((esL s.es).drop (r.i - s.i).toNat)
    else none }
noncomputable def sty? (cs : List AV) : Option St:=open Classical in if h : ∃ s fl,cs = stA s fl then some h.choose else none
theorem stA_inj' {a b : St} {fl gl : Fl} (h : stA a fl = stA b gl) : a = b:=by
  obtain ⟨h1,v1,i1,t1,f1,e1⟩:=a
  obtain ⟨h2,v2,i2,t2,f2,e2⟩:=b
  simp only [stA,List.cons.injEq,AV.raw.injEq,Value.int.injEq,true_and,and_true] at h
  obtain ⟨rfl,rfl,rfl,rfl,rfl,he⟩:=h
  cases e1 <;> cases e2 <;> simp only [esA,AV.sl.injEq,reduceCtorEq] at he
  · rfl
  · rw [entsA_inj he.2.1]
theorem sty?_of {cs : List AV} {s : St} (h : sty? cs = some s) : ∃ fl,cs = stA s fl:=by
  unfold sty? at h
  split at h
  · rename_i h0; cases h; exact h0.choose_spec
  · cases h
theorem sty?_at (s : St) (fl : Fl) : sty? (stA s fl) = some s:=by
  have h0 : ∃ (e : St) (gl : Fl),stA s fl = stA e gl:=⟨s,fl,rfl⟩
  unfold sty?
  rw [dif_pos h0]
  obtain ⟨gl,hs⟩:=h0.choose_spec
  exact congrArg some (stA_inj' hs).symm
def smallI (n : Int) : Prop:=-1099511627776 ≤ n ∧ n ≤ 1099511627776
noncomputable def gx88 (args : List AV) (bx : Boxes) (us : Abs.Id → Bool) : Option CR := match args with
  | [.ptr r 0,.agg cs]=>(rec? (cs.map strip)).bind fun q=>(bx r).bind fun ys=>(sty? ys).bind fun s=>open Classical in if smallI q.i ∧ smallI s.i ∧ (esL s.es).length ≤ 1000000000 then some { v:=.ret (.tup []),wr:=[(r,stA (foldB s q) .bor)] } else none
  | _=>none
noncomputable def EBA : Env:=((ES0.know 86 pf86).know 87 (fun xs=>pf87 (xs.map norm))).boxed (fun d=>d == 262147 || (d == 131139 || (d == 131141 || d == 131143)))
theorem okBA : EnvOK Tryd.prog EBA:=((okS0.know sound86).know sound87.norm).boxed _
theorem EBA_te : EBA.te = te:=rfl
theorem EBA_glob : EBA.glob = globS:=rfl
theorem EBA_gs : EBA.gs = []:=rfl
theorem EBA_dyn : EBA.dyn = false:=rfl
theorem EBA_mu (d : Nat) : EBA.mu d = (d == 262147 || (d == 131139 || (d == 131141 || d == 131143))):=rfl
theorem EBA_l : EBA.tbl 86 = some (.val pf86):=rfl
theorem EBA_c : EBA.tbl 87 = some (.val (fun xs=>pf87 (xs.map norm))):=rfl
theorem esA_strip (es : Option (List Eny)) (fl : Fl) : strip (esA es fl) = esA es .bor:=by cases es <;> rfl
theorem esA_one (es : Option (List Eny)) (fl : Fl) : oneA (esA es fl) = true:=by cases es <;> rfl
theorem esA_pure (es : Option (List Eny)) (fl : Fl) : pureA (esA es fl) = true:=by cases es <;> simp only [esA,pureA,entsA_pure]
theorem last_at {h v i t f : Int} {es : Option (List Eny)} (h1 : -2000000000000 ≤ i) (h2 : i ≤ 2000000000000) (h3 : (esL es).length ≤ 1000000000) : pf86 [.iptr [.raw (.int .i64 h),.raw (.int .i64 v),.raw (.int .i64 i),.raw (.int .i64 t),.raw (.int .i64 f),esA es .bor]] = some (.raw (.int .i64 (i + ((esL es).length : Int)))) :=
  pf86_at (s:=⟨h,v,i,t,f,es⟩) h1 h2 h3
theorem ecl_nil {fl : Fl} : pf87 [.sl 0 [] fl] = some (.sl 0 [] (.own ⟨0,0,0,0⟩ 4)):=pf87_at (l:=[]) rfl (by simp)
theorem hasViewL_app (a b : List AV) : hasViewL (a ++ b) = (hasViewL a || hasViewL b):=by
  induction a with
  | nil=>simp [hasViewL]
  | cons x xs ih=>simp only [List.cons_append,hasViewL,ih,Bool.or_assoc]
theorem snapL_app {bx : Boxes} {a b x y : List AV} (h : snapL bx a = some x) (k : snapL bx b = some y) : snapL bx (a ++ b) = some (x ++ y):=by
  induction a generalizing x with
  | nil=>simp only [snapL,Option.some.injEq] at h; subst h; simpa using k
  | cons z zs ih =>
    simp only [snapL,Option.bind_eq_some_iff,Option.map_eq_some_iff] at h
    obtain ⟨u,h1,v,h2,rfl⟩:=h
    simp only [List.cons_append,snapL,h1,Option.bind_some,ih h2,Option.map_some]
theorem entsA_snap {bx : Boxes} (l : List Eny) : snapL bx (entsA l) = some (entsA l):=by
  induction l with
  | nil=>rfl
  | cons e l ih=>rw [entsA_cons]; exact snapL_app (entA_snap e) ih
theorem entsA_noview (l : List Eny) : hasViewL (entsA l) = false:=by
  induction l with
  | nil=>rfl
  | cons e l ih=>rw [entsA_cons,hasViewL_app,entA_noview,ih]; rfl
theorem ents_t (l : List Eny) (j : Nat) (h : j < l.length) : ((entsA l).drop (j * 4))[0]? = some (.raw (.int .i64 (l.getD j noE).t)):=by
  rw [entsA_drop]
  cases hd : l.drop j with
  | nil=>have:=congrArg List.length hd; rw [List.length_drop] at this; simp at this; omega
  | cons e m =>
    have : l.getD j noE = e:=by
      rw [List.getD_eq_getElem?_getD,← List.head?_drop,hd]; rfl
    rw [this]; rfl
theorem foldB_neg {s : St} {q : Rec} (h : q.i < s.i) : foldB s q = s:=if_pos h
theorem foldB_is {s : St} {q : Rec} (h : ¬ q.i < s.i) {es : Option (List Eny)} (he : (if q.i = s.i ∧ q.t = s.t then s.es
    else if s.i < q.i ∧ q.i ≤ s.i + ((esL s.es).length : Int) ∧ ((esL s.es).getD (q.i - s.i - 1).toNat noE).t = q.t then some ((esL s.es).drop (q.i - s.i).toNat)
    else none) = es) : foldB s q = { h:=s.h,v:=s.v,i:=q.i,t:=q.t,f:=q.n,es:=es }:=by
  rw [foldB,if_neg h,he]
theorem ExpL.state {σ : AS} {L : Nat} (s : St) {gl : Fl} : ExpL σ L [] none (stA s gl) (stA s .bor):=by
  obtain ⟨h,v,i,t,f,es⟩:=s
  have raw : ∀ v : Value,ExpV σ L [] none (.raw v) (.raw v):=fun v=>.low _ (lowA_pure _ rfl) (by simp) (by simp) (by simp)
  refine .cons (raw _) (.cons (raw _) (.cons (raw _) (.cons (raw _) (.cons (raw _) (.cons ?_ .nil)))))
  cases es with
  | none=>exact raw _
  | some l=>exact .bor _ _ _ (lowL_pure _ (entsA_pure _))
def tbNj0:=(And.intro (And.intro (And.intro (And.intro @teE (And.intro @EBA_te @EBA_glob)) (And.intro (And.intro @EBA_gs @EBA_dyn) (And.intro @EBA_mu @EBA_l))) (And.intro (And.intro (And.intro @EBA_c @ev4) (And.intro @stA_is @ecl_nil)) (And.intro (And.intro @esA_strip @esA_one) (And.intro @esA_pure @esA_none)))) (And.intro (And.intro (And.intro @esA_some (And.intro @btA_strip @itA_strip)) (And.intro (And.intro @btA_one @itA_one) (And.intro @btA_snap @itA_snap))) (And.intro (And.intro (And.intro @btA_noview @itA_noview) (And.intro @entsA_len @entsA_pure)) (And.intro (And.intro @entsA_snap @entsA_noview) (And.intro @own_ne @own_ne')))))
theorem sound88 : SoundG Tryd.prog globS 88 gx88:=by
  refine SoundG.walk EBA okBA mixed Tryd.func88 rfl Tryd.call88 (by kernel_rfl) ?_
  intro args bx us cr hr
  unfold gx88 at hr
  split at hr
  · rename_i r cs
    simp only [Option.bind_eq_some_iff] at hr
    obtain ⟨q,hq,ys,hb,s,hs,hr⟩:=hr
    split at hr
    · rename_i hc
      cases hr
      have hcs:=rec?_of hq
      obtain ⟨fl,rfl⟩:=sty?_of hs
      have hbs : (bx r).isSome:=by rw [hb]; rfl
      rw [Tryd.ntmps88,Tryd.results88]
      refine ⟨by simp,fun L hlow hus hbf=>?_⟩
      have hbL:=(hlow r hbs).1
      obtain ⟨k,i,t,n,h,v,⟨a,b,c,d⟩⟩:=q
      obtain ⟨sh,sv,si,st,sf,es⟩:=s
      obtain ⟨⟨b1,b2⟩,⟨b3,b4⟩,b5⟩:=hc
      dsimp only at b1 b2 b3 b4 b5
      simp only [recA,entA] at hcs
      rw [stA_is] at hb
      dsimp only at hb
      by_cases c1 : i < si
      · have d1 : decide (i - si < 0) = true := decide_eq_true (by omega)
        rw [foldB_neg c1]
        simp (maxSteps:=1000000) (disch:=first | omega | assumption | (simp only [updB,updI,dsB,reduceCtorEq,Nat.reduceEqDiff,Abs.Id.mk.injEq,and_false,false_and,and_true,true_and,if_false,↓reduceIte,Option.isSome_some, *]; done) | (simp only [nums_len,lnB] <;> omega) | fail) only [ev0,ev1,ev2,ev3,↓reduceIte,reduceCtorEq,zaa,zab,zac,zad,zae,zaf,zag,zah,zai,zaj,zak,zal,zam,zan,zao,zap,zaq,↓zar,↓zas,zat,zau,zav,zaw,zax,zay,zaz,zba,zbb,zbc,zbd,zbe,zbf,zbg,zbh,zbi,zbj,zbk,zbl,zbm,zbn,zbo,zbp,zbq,zbr,zbs,zbt,zbu,zbv,zbw,zbx,zby,zbz,zca,zcb,zcc,zcd,zce,zcf,zcg,zch,zci,zcj,zck,zcl,zcm,zcn,zco,zcp,zcq,zcr,zcs,zct,zcu,zcv,zcw,zcx,zcy,zcz,zda,zdb,zdc,zdd,zde,zdf,zdg,zdh,zdi,zdj,zdk,zdl,zdm,ev5,tbNj0,Bool.or_true,Bool.true_or,Bool.or_false,Bool.false_or,globS,Bx.own.injEq,and_false,false_and,and_true,true_and,List.size_toArray,Array.size_empty,List.length_nil,List.map_nil,List.all_nil,Int.reduceBEq,Int.reduceBNe,beq_self_eq_true,hb,hcs,d1]
        change EndG _ _ _ _ _ _ _
        exact EndG.w1 (xs:=stA ⟨sh,sv,si,st,sf,es⟩ fl) [] [] rfl .nil rfl hbL hbs (fun _ _ _=>rfl) hb (ExpL.state ⟨sh,sv,si,st,sf,es⟩) (fun _ _=>rfl)
      have d1 : decide (i - si < 0) = false:=decide_eq_false (by omega)
      have E:=fun (es' : Option (List Eny)) (he : (if i = si ∧ t = st then es else if si < i ∧ i ≤ si + ((esL es).length : Int) ∧ ((esL es).getD (i - si - 1).toNat noE).t = t then some ((esL es).drop (i - si).toNat) else none) = es')=>foldB_is (s:=⟨sh,sv,si,st,sf,es⟩) (q:=⟨k,i,t,n,h,v,⟨a,b,c,d⟩⟩) c1 he
      by_cases c2 : i = si
      · have d2 : (i - si == 0) = true := by rw [beq_iff_eq]; omega
        by_cases c3 : t = st
        · have d3 : (t == st) = true := by rw [beq_iff_eq]; exact c3
          rw [E es (if_pos ⟨c2,c3⟩)]
          simp (maxSteps:=1000000) (disch:=first | omega | assumption | (simp only [updB,updI,dsB,reduceCtorEq,Nat.reduceEqDiff,Abs.Id.mk.injEq,and_false,false_and,and_true,true_and,if_false,↓reduceIte,Option.isSome_some, *]; done) | (simp only [nums_len,lnB] <;> omega) | fail) only [ev0,ev1,ev2,ev3,↓reduceIte,reduceCtorEq,zaa,zab,zac,zad,zae,zaf,zag,zah,zai,zaj,zak,zal,zam,zan,zao,zap,zaq,↓zar,↓zas,zat,zau,zav,zaw,zax,zay,zaz,zba,zbb,zbc,zbd,zbe,zbf,zbg,zbh,zbi,zbj,zbk,zbl,zbm,zbn,zbo,zbp,zbq,zbr,zbs,zbt,zbu,zbv,zbw,zbx,zby,zbz,zca,zcb,zcc,zcd,zce,zcf,zcg,zch,zci,zcj,zck,zcl,zcm,zcn,zco,zcp,zcq,zcr,zcs,zct,zcu,zcv,zcw,zcx,zcy,zcz,zda,zdb,zdc,zdd,zde,zdf,zdg,zdh,zdi,zdj,zdk,zdl,zdm,ev5,tbNj0,Bool.or_true,Bool.true_or,Bool.or_false,Bool.false_or,globS,Bx.own.injEq,and_false,false_and,and_true,true_and,List.size_toArray,Array.size_empty,List.length_nil,List.map_nil,List.all_nil,Int.reduceBEq,Int.reduceBNe,beq_self_eq_true,hb,hcs,d1,d2,d3]
          change EndG _ _ _ _ _ _ _
          exact EndG.w1 (xs:=stA ⟨sh,sv,i,t,n,es⟩ fl) [] [] rfl .nil rfl hbL hbs (fun b' h1 h2=>by simp only [updB,if_neg h2]) updB_self (ExpL.state ⟨sh,sv,i,t,n,es⟩) (fun _ _=>rfl)
        · have d3 : (t == st) = false := beq_eq_false_iff_ne.2 c3
          have d4 : decide (i - si > 0) = false:=decide_eq_false (by omega)
          rw [E none (by rw [if_neg (fun h=>c3 h.2),if_neg (fun h=>by omega)])]
          simp (maxSteps:=1000000) (disch:=first | omega | assumption | (simp only [updB,updI,dsB,reduceCtorEq,Nat.reduceEqDiff,Abs.Id.mk.injEq,and_false,false_and,and_true,true_and,if_false,↓reduceIte,Option.isSome_some, *]; done) | (simp only [nums_len,lnB] <;> omega) | fail) only [ev0,ev1,ev2,ev3,↓reduceIte,reduceCtorEq,zaa,zab,zac,zad,zae,zaf,zag,zah,zai,zaj,zak,zal,zam,zan,zao,zap,zaq,↓zar,↓zas,zat,zau,zav,zaw,zax,zay,zaz,zba,zbb,zbc,zbd,zbe,zbf,zbg,zbh,zbi,zbj,zbk,zbl,zbm,zbn,zbo,zbp,zbq,zbr,zbs,zbt,zbu,zbv,zbw,zbx,zby,zbz,zca,zcb,zcc,zcd,zce,zcf,zcg,zch,zci,zcj,zck,zcl,zcm,zcn,zco,zcp,zcq,zcr,zcs,zct,zcu,zcv,zcw,zcx,zcy,zcz,zda,zdb,zdc,zdd,zde,zdf,zdg,zdh,zdi,zdj,zdk,zdl,zdm,ev5,tbNj0,Bool.or_true,Bool.true_or,Bool.or_false,Bool.false_or,globS,Bx.own.injEq,and_false,false_and,and_true,true_and,List.size_toArray,Array.size_empty,List.length_nil,List.map_nil,List.all_nil,Int.reduceBEq,Int.reduceBNe,beq_self_eq_true,hb,hcs,d1,d2,d3,d4]
          change EndG _ _ _ _ _ _ _
          exact EndG.w1 (xs:=stA ⟨sh,sv,i,t,n,none⟩ fl) [] [] rfl .nil rfl hbL hbs (fun b' h1 h2=>by simp only [updB,if_neg h2]) updB_self (ExpL.state ⟨sh,sv,i,t,n,none⟩) (fun _ _=>rfl)
      have d2 : (i - si == 0) = false:=beq_eq_false_iff_ne.2 (by omega)
      have d4 : decide (i - si > 0) = true:=decide_eq_true (by omega)
      cases es with
      | none =>
        have la : pf86 [.iptr [.raw (.int .i64 sh),.raw (.int .i64 sv),.raw (.int .i64 si),.raw (.int .i64 st),.raw (.int .i64 sf),.raw (.slice none 0 0)]] = some (.raw (.int .i64 si)):=by
          have:=last_at (h:=sh) (v:=sv) (i:=si) (t:=st) (f:=sf) (es:=none) (by omega) (by omega) (by simp [esL])
          simpa [esA,esL] using this
        have d5 : decide (i ≤ si) = false:=decide_eq_false (by omega)
        rw [E none (by rw [if_neg (fun h=>c2 h.1)]; exact if_neg (fun h=>by have:=h.2.1; simp [esL] at this; omega))]
        simp (maxSteps:=1000000) (disch:=first | omega | assumption | (simp only [updB,updI,dsB,reduceCtorEq,Nat.reduceEqDiff,Abs.Id.mk.injEq,and_false,false_and,and_true,true_and,if_false,↓reduceIte,Option.isSome_some, *]; done) | (simp only [nums_len,lnB] <;> omega) | fail) only [ev0,ev1,ev2,ev3,↓reduceIte,reduceCtorEq,zaa,zab,zac,zad,zae,zaf,zag,zah,zai,zaj,zak,zal,zam,zan,zao,zap,zaq,↓zar,↓zas,zat,zau,zav,zaw,zax,zay,zaz,zba,zbb,zbc,zbd,zbe,zbf,zbg,zbh,zbi,zbj,zbk,zbl,zbm,zbn,zbo,zbp,zbq,zbr,zbs,zbt,zbu,zbv,zbw,zbx,zby,zbz,zca,zcb,zcc,zcd,zce,zcf,zcg,zch,zci,zcj,zck,zcl,zcm,zcn,zco,zcp,zcq,zcr,zcs,zct,zcu,zcv,zcw,zcx,zcy,zcz,zda,zdb,zdc,zdd,zde,zdf,zdg,zdh,zdi,zdj,zdk,zdl,zdm,ev5,tbNj0,Bool.or_true,Bool.true_or,Bool.or_false,Bool.false_or,globS,Bx.own.injEq,and_false,false_and,and_true,true_and,List.size_toArray,Array.size_empty,List.length_nil,List.map_nil,List.all_nil,Int.reduceBEq,Int.reduceBNe,beq_self_eq_true,hb,hcs,d1,d2,d4,d5,la]
        change EndG _ _ _ _ _ _ _
        exact EndG.w1 (xs:=stA ⟨sh,sv,i,t,n,none⟩ fl) [] [] rfl .nil rfl hbL hbs (fun b' h1 h2=>by simp only [updB,if_neg h2]) updB_self (ExpL.state ⟨sh,sv,i,t,n,none⟩) (fun _ _=>rfl)
      | some l =>
        have b5 : l.length ≤ 1000000000:=b5
        have la : pf86 [.iptr [.raw (.int .i64 sh),.raw (.int .i64 sv),.raw (.int .i64 si),.raw (.int .i64 st),.raw (.int .i64 sf),.sl l.length (entsA l) .bor]] = some (.raw (.int .i64 (si + (l.length : Int)))):=last_at (h:=sh) (v:=sv) (i:=si) (t:=st) (f:=sf) (es:=some l) (by omega) (by omega) b5
        by_cases c5 : i ≤ si + (l.length : Int)
        rotate_left
        · have d5 : decide (i ≤ si + (l.length : Int)) = false := decide_eq_false c5
          rw [E none (by rw [if_neg (fun h=>c2 h.1)]; exact if_neg (fun h=>c5 h.2.1))]
          simp (maxSteps:=1000000) (disch:=first | omega | assumption | (simp only [updB,updI,dsB,reduceCtorEq,Nat.reduceEqDiff,Abs.Id.mk.injEq,and_false,false_and,and_true,true_and,if_false,↓reduceIte,Option.isSome_some, *]; done) | (simp only [nums_len,lnB] <;> omega) | fail) only [ev0,ev1,ev2,ev3,↓reduceIte,reduceCtorEq,zaa,zab,zac,zad,zae,zaf,zag,zah,zai,zaj,zak,zal,zam,zan,zao,zap,zaq,↓zar,↓zas,zat,zau,zav,zaw,zax,zay,zaz,zba,zbb,zbc,zbd,zbe,zbf,zbg,zbh,zbi,zbj,zbk,zbl,zbm,zbn,zbo,zbp,zbq,zbr,zbs,zbt,zbu,zbv,zbw,zbx,zby,zbz,zca,zcb,zcc,zcd,zce,zcf,zcg,zch,zci,zcj,zck,zcl,zcm,zcn,zco,zcp,zcq,zcr,zcs,zct,zcu,zcv,zcw,zcx,zcy,zcz,zda,zdb,zdc,zdd,zde,zdf,zdg,zdh,zdi,zdj,zdk,zdl,zdm,ev5,tbNj0,Bool.or_true,Bool.true_or,Bool.or_false,Bool.false_or,globS,Bx.own.injEq,and_false,false_and,and_true,true_and,List.size_toArray,Array.size_empty,List.length_nil,List.map_nil,List.all_nil,Int.reduceBEq,Int.reduceBNe,beq_self_eq_true,hb,hcs,d1,d2,d4,d5,la]
          change EndG _ _ _ _ _ _ _
          exact EndG.w1 (xs:=stA ⟨sh,sv,i,t,n,none⟩ fl) [] [] rfl .nil rfl hbL hbs (fun b' h1 h2=>by simp only [updB,if_neg h2]) updB_self (ExpL.state ⟨sh,sv,i,t,n,none⟩) (fun _ _=>rfl)
        have d5 : decide (i ≤ si + (l.length : Int)) = true:=decide_eq_true c5
        have hj : (i - si - 1).toNat < l.length:=by omega
        have e1:=ents_t l (i - si - 1).toNat hj
        rw [show (i - si - 1).toNat * 4 = ((i - si).toNat - 1) * 4 by omega] at e1
        obtain ⟨T,hT⟩ : ∃ T,T = (l.getD (i - si - 1).toNat noE).t:=⟨_,rfl⟩
        rw [← hT] at e1
        by_cases c6 : (l.getD (i - si - 1).toNat noE).t = t
        rotate_left
        · have d6 : (T == t) = false := beq_eq_false_iff_ne.2 (by rw [hT]; exact c6)
          rw [E none (by rw [if_neg (fun h=>c2 h.1)]; exact if_neg (fun h=>c6 h.2.2))]
          simp (maxSteps:=1000000) (disch:=first | omega | assumption | (simp only [updB,updI,dsB,reduceCtorEq,Nat.reduceEqDiff,Abs.Id.mk.injEq,and_false,false_and,and_true,true_and,if_false,↓reduceIte,Option.isSome_some, *]; done) | (simp only [nums_len,lnB] <;> omega) | fail) only [ev0,ev1,ev2,ev3,↓reduceIte,reduceCtorEq,zaa,zab,zac,zad,zae,zaf,zag,zah,zai,zaj,zak,zal,zam,zan,zao,zap,zaq,↓zar,↓zas,zat,zau,zav,zaw,zax,zay,zaz,zba,zbb,zbc,zbd,zbe,zbf,zbg,zbh,zbi,zbj,zbk,zbl,zbm,zbn,zbo,zbp,zbq,zbr,zbs,zbt,zbu,zbv,zbw,zbx,zby,zbz,zca,zcb,zcc,zcd,zce,zcf,zcg,zch,zci,zcj,zck,zcl,zcm,zcn,zco,zcp,zcq,zcr,zcs,zct,zcu,zcv,zcw,zcx,zcy,zcz,zda,zdb,zdc,zdd,zde,zdf,zdg,zdh,zdi,zdj,zdk,zdl,zdm,ev5,tbNj0,Bool.or_true,Bool.true_or,Bool.or_false,Bool.false_or,globS,Bx.own.injEq,and_false,false_and,and_true,true_and,List.size_toArray,Array.size_empty,List.length_nil,List.map_nil,List.all_nil,Int.reduceBEq,Int.reduceBNe,beq_self_eq_true,hb,hcs,d1,d2,d4,d5,e1,d6,la]
          change EndG _ _ _ _ _ _ _
          exact EndG.w1 (xs:=stA ⟨sh,sv,i,t,n,none⟩ fl) [] [] rfl .nil rfl hbL hbs (fun b' h1 h2=>by simp only [updB,if_neg h2]) updB_self (ExpL.state ⟨sh,sv,i,t,n,none⟩) (fun _ _=>rfl)
        · have d6 : (T == t) = true := by rw [beq_iff_eq,hT]; exact c6
          have hdr:=entsA_drop l (i - si).toNat
          have htk : (entsA (l.drop (i - si).toNat)).take ((l.length - (i - si).toNat) * 4) = entsA (l.drop (i - si).toNat):=List.take_of_length_le (by rw [entsA_len,List.length_drop]; omega)
          have hec:=fun fl=>pf87_at (n:=l.length - (i - si).toNat) (l:=l.drop (i - si).toNat) (fl:=fl) (by rw [List.length_drop]) (by rw [List.length_drop]; omega)
          rw [E (some (l.drop (i - si).toNat)) (by rw [if_neg (fun h=>c2 h.1)]; exact if_pos ⟨by omega,c5,c6⟩)]
          simp (maxSteps:=1000000) (disch:=first | omega | assumption | (simp only [updB,updI,dsB,reduceCtorEq,Nat.reduceEqDiff,Abs.Id.mk.injEq,and_false,false_and,and_true,true_and,if_false,↓reduceIte,Option.isSome_some, *]; done) | (simp only [nums_len,lnB] <;> omega) | fail) only [ev0,ev1,ev2,ev3,↓reduceIte,reduceCtorEq,zaa,zab,zac,zad,zae,zaf,zag,zah,zai,zaj,zak,zal,zam,zan,zao,zap,zaq,↓zar,↓zas,zat,zau,zav,zaw,zax,zay,zaz,zba,zbb,zbc,zbd,zbe,zbf,zbg,zbh,zbi,zbj,zbk,zbl,zbm,zbn,zbo,zbp,zbq,zbr,zbs,zbt,zbu,zbv,zbw,zbx,zby,zbz,zca,zcb,zcc,zcd,zce,zcf,zcg,zch,zci,zcj,zck,zcl,zcm,zcn,zco,zcp,zcq,zcr,zcs,zct,zcu,zcv,zcw,zcx,zcy,zcz,zda,zdb,zdc,zdd,zde,zdf,zdg,zdh,zdi,zdj,zdk,zdl,zdm,ev5,tbNj0,Bool.or_true,Bool.true_or,Bool.or_false,Bool.false_or,globS,Bx.own.injEq,and_false,false_and,and_true,true_and,List.size_toArray,Array.size_empty,List.length_nil,List.map_nil,List.all_nil,Int.reduceBEq,Int.reduceBNe,beq_self_eq_true,hb,hcs,d1,d2,d4,d5,e1,d6,la,hdr,htk,hec]
          change EndG _ _ _ _ _ _ _
          rw [← List.length_drop]
          exact EndG.w1 (xs:=stA ⟨sh,sv,i,t,n,some (l.drop (i - si).toNat)⟩ (.own ⟨L,61,0,1⟩ 4)) [] [] rfl .nil rfl hbL hbs (fun b' h1 h2=>by simp only [updB,if_neg h2]) updB_self (ExpL.state ⟨sh,sv,i,t,n,some (l.drop (i - si).toNat)⟩) (fun _ _=>rfl)
    · cases hr
  · cases hr
end Go.Proofs.YtddeffdgldjdjaaDoor.W
