/- What records come to: what the walk comes to. -/
import Derived.Test.YtddeffdgldjdjaaDoorNj
namespace Go.Proofs.YtddeffdgldjdjaaDoor.W
set_option linter.unusedSimpArgs false
set_option linter.unusedVariables false
set_option linter.defProp false
open Go Go.Abs
open Nat renaming reduceAdd→zaa,reduceSub→zab,reduceMul→zac,reduceLT→zad,reduceLeDiff→zae,reduceEqDiff→zaf,reduceBEq→zag
open BitVec renaming reduceOfInt→zah
open Int renaming reduceLE→zai,reduceLT→zaj,reduceGT→zak,reduceGE→zal,reduceNeg→zam,reduceAdd→zan,reduceSub→zao,reduceMul→zap,reduceToNat→zaq
open Go.Abs renaming bind_go→zar,map_go→zas,wantedV→zat,isWrite→zau,grow→zav,write→zaw,ofV→zax,start→zaz,strip→zba,endQ→zbb,resV→zbc,rawsRes→zbd,rawRes→zbe,exports→zbf,export1→zbg,isSelf→zbl,convSelf→zbm,convV→zbn,loadV→zbo,storeV→zbp,fieldAddrV→zbq,fieldV→zbr,indexAddrV→zbs,indexV→zbt,partV→zbu,isAggK→zbv,isStr→zbw,place→zbx,ipS→zby,lenV→zbz,min2V→zca,makeV→zcb,freshSl→zcc,sliceV→zcd,boundOr→zce,bound→zcf,bounds→zcg,cutFl→zch,copyV→zci,slCells→zcj,srcV→zck,appendV→zcl,room→zcm,zerosOf→zcn,eqNeg→zco,kd→zcp,takeR→zcq,hasViewL→zcr,hasView→zcs,freshR→zct,freshC→zcu,snapAll→zcv,snap→zcw,snapL→zcx,flatL→zcy,pureL→zcz,pureA→zda,fillC→zdb,arrOK→zdc,oneA→zdd,partB→zde,ren1→zdg,applyW→zdi,useL→zdj,isGen→zdl,startG→zdm
open Go.Abs.AV renaming cells→zay,laid→zdf
open Go.Abs.AS renaming grown→zbh,put→zbi,mute→zdk
open Go.Abs.Env renaming know→zbj,boxed→zbk
open Go.Abs.CR renaming gr→zdh
set_option maxHeartbeats 16000000
def st0 : St:=⟨0,0,0,0,0,none⟩
def foldS (s : St) (r : Rec) : Option St :=
  if r.k = 1 then some { s with h:=r.h,v:=r.v }
  else if r.k = 2 then (if r.i ≤ s.i then some s else if r.i > s.i + ((esL s.es).length : Int) + 1 then none else some { s with es:=some ((esL s.es).take (r.i - s.i - 1).toNat ++ [r.e]) })
  else if r.k = 3 then some (foldB s r)
  else some s
def foldK (l : List Rec) : Nat → Option St
  | 0=>some st0
  | j + 1=>(foldK l j).bind fun s=>foldS s (l.getD j noRec)
def foldL (l : List Rec) : Option St:=foldK l l.length
theorem foldK_none {l : List Rec} {j : Nat} (h : foldK l j = none) : ∀ m,foldK l (j + m) = none
  | 0=>h
  | m + 1=>by rw [← Nat.add_assoc,foldK,foldK_none h m]; rfl
theorem foldK_ok {l : List Rec} (hl : ∀ r ∈ l,smallI r.i) : ∀ (j : Nat) (s : St),j ≤ l.length → foldK l j = some s → smallI s.i ∧ (esL s.es).length ≤ j
  | 0,s,_,h=>by
    simp only [foldK,Option.some.injEq] at h
    subst h
    simp [st0,smallI,esL]
  | j + 1,s,hj,h=>by
    simp only [foldK,Option.bind_eq_some_iff] at h
    obtain ⟨s',h1,h2⟩:=h
    obtain ⟨g1,g2⟩:=foldK_ok hl j s' (by omega) h1
    have hr : smallI (l.getD j noRec).i:=hl _ (by rw [List.getD_eq_getElem?_getD,List.getElem?_eq_getElem (show j < l.length by omega)]; exact List.getElem_mem _)
    generalize l.getD j noRec = r at h2 hr
    unfold foldS at h2
    split at h2
    · cases h2; exact ⟨g1,by show (esL s'.es).length ≤ j + 1; omega⟩
    · split at h2
      · split at h2
        · cases h2; exact ⟨g1,by omega⟩
        · split at h2
          · cases h2
          · cases h2
            refine ⟨g1,?_⟩
            show ((esL s'.es).take _ ++ [r.e]).length ≤ j + 1
            rw [List.length_append,List.length_take,List.length_singleton]; omega
      · split at h2
        · cases h2
          unfold foldB
          split
          · exact ⟨g1,by omega⟩
          · refine ⟨hr,?_⟩
            dsimp only
            split
            · omega
            · split
              · simp only [esL,List.length_drop]; simp only [esL] at g2; omega
              · simp [esL]
        · cases h2; exact ⟨g1,by omega⟩
theorem recsA_cons (r : Rec) (l : List Rec) : recsA (r :: l) = recA r ++ recsA l:=rfl
theorem recsA_drop (l : List Rec) (k : Nat) : (recsA l).drop (k * 10) = recsA (l.drop k):=by
  induction k generalizing l with
  | zero=>simp
  | succ k ih =>
    cases l with
    | nil=>simp [recsA]
    | cons e l =>
      rw [recsA_cons,List.drop_succ_cons,← ih l,show (k + 1) * 10 = (recA e).length + k * 10 by rw [recA_len]; omega,List.drop_append]
      simp [recA_len]
theorem recsA_at (l : List Rec) (j : Nat) (h : j < l.length) : ((recsA l).drop (j * 10)).take 10 = recA (l.getD j noRec):=by
  rw [recsA_drop]
  cases hd : l.drop j with
  | nil=>have:=congrArg List.length hd; rw [List.length_drop] at this; simp at this; omega
  | cons e m =>
    have : l.getD j noRec = e:=by rw [List.getD_eq_getElem?_getD,← List.head?_drop,hd]; rfl
    rw [this,recsA_cons,List.take_append_of_le_length (by rw [recA_len]; omega),recA_take]
theorem recsA_inj : ∀ {l m : List Rec},recsA l = recsA m → l = m
  | [],[],_=>rfl
  | [],e :: m,h=>by have:=congrArg List.length h; rw [recsA_len,recsA_len,List.length_cons] at this; simp at this
  | e :: l,[],h=>by have:=congrArg List.length h; rw [recsA_len,recsA_len,List.length_cons] at this; simp at this
  | a :: l,b :: m,h=>by
    rw [recsA_cons,recsA_cons] at h
    obtain ⟨h1,h2⟩:=List.append_inj h rfl
    rw [recA_inj h1,recsA_inj h2]
noncomputable def recs? (v : AV) : Option (List Rec):=open Classical in if h : ∃ l fl,v = .sl (l : List Rec).length (recsA l) fl then some h.choose else none
theorem recs?_of {v : AV} {l : List Rec} (h : recs? v = some l) : ∃ fl,v = .sl l.length (recsA l) fl:=by
  unfold recs? at h
  split at h
  · rename_i h0; cases h; exact h0.choose_spec
  · cases h
theorem recs?_at {n : Nat} {l : List Rec} {fl : Fl} (h : n = l.length) : recs? (.sl n (recsA l) fl) = some l:=by
  subst h
  have h0 : ∃ (m : List Rec) (gl : Fl),AV.sl l.length (recsA l) fl = .sl m.length (recsA m) gl:=⟨l,fl,rfl⟩
  unfold recs?
  rw [dif_pos h0]
  obtain ⟨gl,hs⟩:=h0.choose_spec
  injection hs with _ hs2 _
  exact congrArg some (recsA_inj hs2).symm
noncomputable def pf54 : List AV → Option AV
  | [v] => (recs? v).bind fun l => open Classical in if l.length ≤ 1000000 ∧ (∀ r ∈ l,smallI r.i) then (match foldL l with
      | some s=>some (.tup [.agg (stA s .bor),.raw (.int .i64 0)])
      | none=>some (.tup [.agg (stA st0 .bor),.raw (.int .i64 110)])) else none
  | _=>none
theorem pf54_at {n : Nat} {l : List Rec} {fl : Fl} (h : n = l.length) (h1 : l.length ≤ 1000000) (h2 : ∀ r ∈ l,smallI r.i) : pf54 [.sl n (recsA l) fl] = (match foldL l with
      | some s=>some (.tup [.agg (stA s .bor),.raw (.int .i64 0)])
      | none=>some (.tup [.agg (stA st0 .bor),.raw (.int .i64 110)])):=by
  simp only [pf54,recs?_at h,Option.bind_some]
  exact if_pos ⟨h1,h2⟩
noncomputable def EFO : Env:=((ES0.know 86 pf86).know 87 (fun xs=>pf87 (xs.map norm))).knowG 88 gx88
theorem okFO : EnvOK Tryd.prog EFO:=((okS0.know sound86).know sound87.norm).knowG sound88
theorem EFO_te : EFO.te = te:=rfl
theorem EFO_glob : EFO.glob = globS:=rfl
theorem EFO_gs : EFO.gs = [88]:=rfl
theorem EFO_dyn : EFO.dyn = false:=rfl
theorem EFO_mu (d : Nat) : EFO.mu d = false:=rfl
theorem EFO_l : EFO.tbl 86 = some (.val pf86):=rfl
theorem EFO_c : EFO.tbl 87 = some (.val (fun xs=>pf87 (xs.map norm))):=rfl
theorem EFO_b : EFO.tbl 88 = some (.gen gx88):=rfl
theorem foldBase_is {q : Rec} {bx : Boxes} {us : Abs.Id → Bool} {r : Bx} :
    gx88 [.ptr r 0,.agg (recA q)] bx us = (bx r).bind fun ys=>(sty? ys).bind fun s=>open Classical in if smallI q.i ∧ smallI s.i ∧ (esL s.es).length ≤ 1000000000 then some { v:=.ret (.tup []),wr:=[(r,stA (foldB s q) .bor)] } else none:=by
  simp only [gx88,recA_strip,rec?_at,Option.bind_some]
theorem stA_ren (s : St) (l d g : Nat) : (stA s .bor).map (ren1 l d g) = stA s .bor:=by
  obtain ⟨h,v,i,t,f,es⟩:=s
  cases es <;> rfl
theorem zeroSt : List.map AV.raw (List.replicate 5 (Value.int .i64 0) ++ [Value.slice none 0 0]) = [.raw (.int .i64 0),.raw (.int .i64 0),.raw (.int .i64 0),.raw (.int .i64 0),.raw (.int .i64 0),.raw (.slice none 0 0)]:=rfl
def Clr (us : Abs.Id→Bool) (d a : Nat) : Prop:=∀ g,a < g→us ⟨0,d,0,g⟩ = false
theorem Clr.go {us : Abs.Id→Bool} {d a : Nat} (h : Clr us d a) : Clr (updI us ⟨0,d,0,a + 1⟩) d (a + 1):=fun g hg=>by
  unfold updI; rw [if_neg (fun e=>by injection e; omega)]; exact h g (by omega)
theorem rA0 (r : Rec) : (recA r)[0]? = some (.raw (.int .i64 r.k)):=rfl
theorem rA1 (r : Rec) : (recA r)[1]? = some (.raw (.int .i64 r.i)):=rfl
theorem rAh (r : Rec) : ((recA r).drop 4).take 2 = [.raw (.int .i64 r.h),.raw (.int .i64 r.v)]:=rfl
theorem rAe (r : Rec) : ((recA r).drop 6).take 4 = entA r.e:=rfl
theorem sty?_is (h v i t f : Int) (es : Option (List Eny)) (gl : Fl) : sty? [.raw (.int .i64 h),.raw (.int .i64 v),.raw (.int .i64 i),.raw (.int .i64 t),.raw (.int .i64 f),esA es gl] = some ⟨h,v,i,t,f,es⟩:=sty?_at ⟨h,v,i,t,f,es⟩ gl
def tbNk0:=(And.intro (And.intro (And.intro (And.intro (And.intro @teE (And.intro @EFO_te @EFO_glob)) (And.intro @EFO_gs (And.intro @EFO_dyn @EFO_mu))) (And.intro (And.intro @EFO_l (And.intro @EFO_c @EFO_b)) (And.intro @ev4 (And.intro @zeroRec @zeroSt)))) (And.intro (And.intro (And.intro @rep_one (And.intro @ecl_nil @recsA_len)) (And.intro @recA_strip (And.intro @recA_oneA @recA_len))) (And.intro (And.intro @recA_take (And.intro @recA_drop @recA_snap)) (And.intro (And.intro @recA_noview @splice_rec) (And.intro @splice_rec' @rA0))))) (And.intro (And.intro (And.intro (And.intro @rA1 (And.intro @rAh @rAe)) (And.intro @zeroE (And.intro @entA_strip @entA_len))) (And.intro (And.intro @entA_one (And.intro @entA_take @dropE)) (And.intro (And.intro @splice_ent @splice_ent') (And.intro @esA_none @esA_some)))) (And.intro (And.intro (And.intro @btA_strip (And.intro @itA_strip @btA_one)) (And.intro @itA_one (And.intro @btA_snap @itA_snap))) (And.intro (And.intro @btA_noview (And.intro @itA_noview @entsA_len)) (And.intro (And.intro @entsA_pure @entsA_snap) (And.intro @entsA_noview @entsA_oneA))))))
theorem sound54 : SoundV Tryd.prog globS 54 pf54:=by
  refine SoundV.walk EFO okFO mixed Tryd.func54 rfl Tryd.call54 (by kernel_rfl) ?_
  intro args r hr
  unfold pf54 at hr
  split at hr
  · simp only [Option.bind_eq_some_iff] at hr
    obtain ⟨l,h1,hr⟩:=hr
    split at hr
    · rename_i hc
      obtain ⟨hlen,hsm⟩:=hc
      obtain ⟨fl,rfl⟩:=recs?_of h1
      rw [Tryd.ntmps54,Tryd.results54]
      refine ⟨by simp,?_⟩
      simp (maxSteps:=1000000) (disch:=first | omega | (simp only [nums_len,lnB] <;> omega) | fail) only [ev0,ev1,ev2,ev3,↓reduceIte,reduceCtorEq,zaa,zab,zac,zad,zae,zaf,zag,zah,zai,zaj,zak,zal,zam,zan,zao,zap,zaq,↓zar,↓zas,zat,zau,zav,zaw,zax,zay,zaz,zba,zbb,zbc,zbd,zbe,zbf,zbg,zbh,zbi,zbj,zbk,zbl,zbm,zbn,zbo,zbp,zbq,zbr,zbs,zbt,zbu,zbv,zbw,zbx,zby,zbz,zca,zcb,zcc,zcd,zce,zcf,zcg,zch,zci,zcj,zck,zcl,zcm,zcn,zco,zcp,zcq,zcr,zcs,zct,zcu,zcv,zcw,zcx,zcy,zcz,zda,zdb,zdc,zdd,zde,zdf,zdg,zdh,zdi,zdj,zdk,zdl,zdm,ev5,tbNk0,globS,List.drop_zero,List.size_toArray,Array.size_empty,List.length_nil,List.map_nil,List.all_nil,Int.reduceBEq,Int.reduceBNe,beq_self_eq_true]
      refine loopQ_of (fun m σ => ∃ j s gl,j ≤ l.length ∧ m = l.length - j ∧ foldK l j = some s ∧ σ.slots 9 = .raw (.int .i64 (j : Int)) ∧ σ.slots 8 = .raw (.int .i64 (l.length : Int)) ∧ σ.slots 7 = .sl l.length (recsA l) .bor ∧ σ.slots 4 = .ptr (.own 0 4 1) 0 ∧ σ.slots 2 = .ptr (.own 0 2 1) 0 ∧
        σ.box (.own 0 4 1) = some (stA s gl) ∧ σ.box (.own 0 2 1) = some (stA st0 .bor) ∧ Clr σ.used 31 (σ.gen 31)) l.length ?_ ?_
      · refine ⟨0,st0,.bor,by omega,by omega,rfl,?_⟩
        simp (maxSteps:=1000000) (disch:=first | omega | (simp only [nums_len,lnB] <;> omega) | fail) only [ev0,ev1,ev2,ev3,↓reduceIte,reduceCtorEq,zaa,zab,zac,zad,zae,zaf,zag,zah,zai,zaj,zak,zal,zam,zan,zao,zap,zaq,↓zar,↓zas,zat,zau,zav,zaw,zax,zay,zaz,zba,zbb,zbc,zbd,zbe,zbf,zbg,zbh,zbi,zbj,zbk,zbl,zbm,zbn,zbo,zbp,zbq,zbr,zbs,zbt,zbu,zbv,zbw,zbx,zby,zbz,zca,zcb,zcc,zcd,zce,zcf,zcg,zch,zci,zcj,zck,zcl,zcm,zcn,zco,zcp,zcq,zcr,zcs,zct,zcu,zcv,zcw,zcx,zcy,zcz,zda,zdb,zdc,zdd,zde,zdf,zdg,zdh,zdi,zdj,zdk,zdl,zdm,ev5,tbNk0,globS,List.drop_zero,List.size_toArray,Array.size_empty,List.length_nil,List.map_nil,List.all_nil,Int.reduceBEq,Int.reduceBNe,beq_self_eq_true]
        exact ⟨rfl,rfl,rfl,fun _ _=>rfl⟩
      · rintro m ⟨sl,gn,bx,us⟩ ⟨j,s,gl,hj,rfl,hk,s9,s8,s7,s4,s2,b4,b2,hu⟩
        dsimp only at s9 s8 s7 s4 s2 b4 b2 hu
        have hu0:=hu (gn 31 + 1) (Nat.lt_succ_self _)
        obtain ⟨hsi,hsl⟩:=foldK_ok hsm j s hj hk
        obtain ⟨sh,sv,si,st,sf,es⟩:=s
        rw [stA_is] at b4 b2
        dsimp only at b4 hsi hsl
        obtain ⟨hs1,hs2⟩:=hsi
        simp (maxSteps:=1000000) (disch:=first | omega | (simp only [nums_len,lnB] <;> omega) | fail) only [ev0,ev1,ev2,ev3,↓reduceIte,reduceCtorEq,zaa,zab,zac,zad,zae,zaf,zag,zah,zai,zaj,zak,zal,zam,zan,zao,zap,zaq,↓zar,↓zas,zat,zau,zav,zaw,zax,zay,zaz,zba,zbb,zbc,zbd,zbe,zbf,zbg,zbh,zbi,zbj,zbk,zbl,zbm,zbn,zbo,zbp,zbq,zbr,zbs,zbt,zbu,zbv,zbw,zbx,zby,zbz,zca,zcb,zcc,zcd,zce,zcf,zcg,zch,zci,zcj,zck,zcl,zcm,zcn,zco,zcp,zcq,zcr,zcs,zct,zcu,zcv,zcw,zcx,zcy,zcz,zda,zdb,zdc,zdd,zde,zdf,zdg,zdh,zdi,zdj,zdk,zdl,zdm,ev5,tbNk0,globS,List.drop_zero,List.size_toArray,Array.size_empty,List.length_nil,List.map_nil,List.all_nil,Int.reduceBEq,Int.reduceBNe,beq_self_eq_true,s9,s8,s7,s4,s2,b4,b2]
        refine condQ_dec (fun hlt=>?_) (fun hge=>?_)
        · have hlt : j < l.length := by omega
          have hat:=recsA_at l j hlt
          have hfs : foldK l (j + 1) = foldS ⟨sh,sv,si,st,sf,es⟩ (l.getD j noRec):=by rw [foldK,hk]; rfl
          have hri : smallI (l.getD j noRec).i:=hsm _ (by rw [List.getD_eq_getElem?_getD,List.getElem?_eq_getElem hlt]; exact List.getElem_mem _)
          generalize l.getD j noRec = r at hat hfs hri
          obtain ⟨hr1,hr2⟩:=hri
          by_cases k1 : r.k = 1
          · have d1 : (r.k == 1) = true := by rw [k1]; rfl
            simp (maxSteps:=1000000) (disch:=first | omega | (simp only [nums_len,lnB] <;> omega) | fail) only [ev0,ev1,ev2,ev3,↓reduceIte,reduceCtorEq,zaa,zab,zac,zad,zae,zaf,zag,zah,zai,zaj,zak,zal,zam,zan,zao,zap,zaq,↓zar,↓zas,zat,zau,zav,zaw,zax,zay,zaz,zba,zbb,zbc,zbd,zbe,zbf,zbg,zbh,zbi,zbj,zbk,zbl,zbm,zbn,zbo,zbp,zbq,zbr,zbs,zbt,zbu,zbv,zbw,zbx,zby,zbz,zca,zcb,zcc,zcd,zce,zcf,zcg,zch,zci,zcj,zck,zcl,zcm,zcn,zco,zcp,zcq,zcr,zcs,zct,zcu,zcv,zcw,zcx,zcy,zcz,zda,zdb,zdc,zdd,zde,zdf,zdg,zdh,zdi,zdj,zdk,zdl,zdm,ev5,tbNk0,globS,List.drop_zero,List.size_toArray,Array.size_empty,List.length_nil,List.map_nil,List.all_nil,Int.reduceBEq,Int.reduceBNe,beq_self_eq_true,s9,s8,s7,s4,s2,b4,b2,hat,d1]
            exact ⟨l.length - (j + 1),by omega,j + 1,⟨r.h,r.v,si,st,sf,es⟩,gl,by omega,rfl,by rw [hfs,foldS,if_pos k1],rfl,by simp [splice,stA],rfl,hu⟩
          have d1 : (r.k == 1) = false:=beq_eq_false_iff_ne.2 k1
          by_cases k2 : r.k = 2
          · have d2 : (r.k == 2) = true := by rw [k2]; rfl
            by_cases c1 : r.i ≤ si
            · have d4 := decide_eq_true c1
              simp (maxSteps:=1000000) (disch:=first | omega | (simp only [nums_len,lnB] <;> omega) | fail) only [ev0,ev1,ev2,ev3,↓reduceIte,reduceCtorEq,zaa,zab,zac,zad,zae,zaf,zag,zah,zai,zaj,zak,zal,zam,zan,zao,zap,zaq,↓zar,↓zas,zat,zau,zav,zaw,zax,zay,zaz,zba,zbb,zbc,zbd,zbe,zbf,zbg,zbh,zbi,zbj,zbk,zbl,zbm,zbn,zbo,zbp,zbq,zbr,zbs,zbt,zbu,zbv,zbw,zbx,zby,zbz,zca,zcb,zcc,zcd,zce,zcf,zcg,zch,zci,zcj,zck,zcl,zcm,zcn,zco,zcp,zcq,zcr,zcs,zct,zcu,zcv,zcw,zcx,zcy,zcz,zda,zdb,zdc,zdd,zde,zdf,zdg,zdh,zdi,zdj,zdk,zdl,zdm,ev5,tbNk0,globS,List.drop_zero,List.size_toArray,Array.size_empty,List.length_nil,List.map_nil,List.all_nil,Int.reduceBEq,Int.reduceBNe,beq_self_eq_true,s9,s8,s7,s4,s2,b4,b2,hat,d1,d2,d4]
              exact ⟨l.length - (j + 1),by omega,j + 1,⟨sh,sv,si,st,sf,es⟩,gl,by omega,rfl,by rw [hfs,foldS,if_neg k1,if_pos k2]; exact if_pos c1,rfl,rfl,rfl,hu⟩
            have d4:=decide_eq_false c1
            cases es with
            | none =>
              have la : pf86 [.iptr [.raw (.int .i64 sh),.raw (.int .i64 sv),.raw (.int .i64 si),.raw (.int .i64 st),.raw (.int .i64 sf),.raw (.slice none 0 0)]] = some (.raw (.int .i64 si)):=by
                have:=last_at (h:=sh) (v:=sv) (i:=si) (t:=st) (f:=sf) (es:=none) (by omega) (by omega) (by simp [esL])
                simpa [esA,esL] using this
              by_cases c2 : r.i > si + 1
              · have d5 := decide_eq_true c2
                have hno : foldK l (j + 1) = none:=by
                  rw [hfs,foldS,if_neg k1,if_pos k2]
                  exact (if_neg c1).trans (if_pos (by simp [esL]; omega))
                have hL : foldL l = none:=by
                  have:=foldK_none hno (l.length - (j + 1))
                  rwa [show j + 1 + (l.length - (j + 1)) = l.length by omega] at this
                rw [hL] at hr
                cases hr
                simp (maxSteps:=1000000) (disch:=first | omega | (simp only [nums_len,lnB] <;> omega) | fail) only [ev0,ev1,ev2,ev3,↓reduceIte,reduceCtorEq,zaa,zab,zac,zad,zae,zaf,zag,zah,zai,zaj,zak,zal,zam,zan,zao,zap,zaq,↓zar,↓zas,zat,zau,zav,zaw,zax,zay,zaz,zba,zbb,zbc,zbd,zbe,zbf,zbg,zbh,zbi,zbj,zbk,zbl,zbm,zbn,zbo,zbp,zbq,zbr,zbs,zbt,zbu,zbv,zbw,zbx,zby,zbz,zca,zcb,zcc,zcd,zce,zcf,zcg,zch,zci,zcj,zck,zcl,zcm,zcn,zco,zcp,zcq,zcr,zcs,zct,zcu,zcv,zcw,zcx,zcy,zcz,zda,zdb,zdc,zdd,zde,zdf,zdg,zdh,zdi,zdj,zdk,zdl,zdm,ev5,tbNk0,globS,List.drop_zero,List.size_toArray,Array.size_empty,List.length_nil,List.map_nil,List.all_nil,Int.reduceBEq,Int.reduceBNe,beq_self_eq_true,s9,s8,s7,s4,s2,b4,b2,hat,d1,d2,d4,d5,la]
                exact ResQ.same rfl
              · have d5 := decide_eq_false c2
                simp (maxSteps:=1000000) (disch:=first | omega | (simp only [nums_len,lnB] <;> omega) | fail) only [ev0,ev1,ev2,ev3,↓reduceIte,reduceCtorEq,zaa,zab,zac,zad,zae,zaf,zag,zah,zai,zaj,zak,zal,zam,zan,zao,zap,zaq,↓zar,↓zas,zat,zau,zav,zaw,zax,zay,zaz,zba,zbb,zbc,zbd,zbe,zbf,zbg,zbh,zbi,zbj,zbk,zbl,zbm,zbn,zbo,zbp,zbq,zbr,zbs,zbt,zbu,zbv,zbw,zbx,zby,zbz,zca,zcb,zcc,zcd,zce,zcf,zcg,zch,zci,zcj,zck,zcl,zcm,zcn,zco,zcp,zcq,zcr,zcs,zct,zcu,zcv,zcw,zcx,zcy,zcz,zda,zdb,zdc,zdd,zde,zdf,zdg,zdh,zdi,zdj,zdk,zdl,zdm,ev5,tbNk0,globS,List.drop_zero,List.size_toArray,Array.size_empty,List.length_nil,List.map_nil,List.all_nil,Int.reduceBEq,Int.reduceBNe,beq_self_eq_true,s9,s8,s7,s4,s2,b4,b2,hat,d1,d2,d4,d5,la,hu0]
                exact ⟨l.length - (j + 1),by omega,j + 1,⟨sh,sv,si,st,sf,some [r.e]⟩,.own ⟨0,35,0,gn 35 + 1⟩ 4,by omega,rfl,by
                  rw [hfs,foldS,if_neg k1,if_pos k2]
                  exact (if_neg c1).trans ((if_neg (by simp [esL]; omega)).trans (by simp [esL])),rfl,rfl,rfl,hu.go⟩
            | some e =>
              simp only [esL_some] at hsl
              have la : pf86 [.iptr [.raw (.int .i64 sh),.raw (.int .i64 sv),.raw (.int .i64 si),.raw (.int .i64 st),.raw (.int .i64 sf),.sl e.length (entsA e) .bor]] = some (.raw (.int .i64 (si + (e.length : Int)))):=last_at (h:=sh) (v:=sv) (i:=si) (t:=st) (f:=sf) (es:=some e) (by omega) (by omega) (show e.length ≤ 1000000000 by omega)
              by_cases c2 : r.i > si + (e.length : Int) + 1
              · have d5 := decide_eq_true c2
                have hno : foldK l (j + 1) = none:=by
                  rw [hfs,foldS,if_neg k1,if_pos k2]
                  exact (if_neg c1).trans (if_pos c2)
                have hL : foldL l = none:=by
                  have:=foldK_none hno (l.length - (j + 1))
                  rwa [show j + 1 + (l.length - (j + 1)) = l.length by omega] at this
                rw [hL] at hr
                cases hr
                simp (maxSteps:=1000000) (disch:=first | omega | (simp only [nums_len,lnB] <;> omega) | fail) only [ev0,ev1,ev2,ev3,↓reduceIte,reduceCtorEq,zaa,zab,zac,zad,zae,zaf,zag,zah,zai,zaj,zak,zal,zam,zan,zao,zap,zaq,↓zar,↓zas,zat,zau,zav,zaw,zax,zay,zaz,zba,zbb,zbc,zbd,zbe,zbf,zbg,zbh,zbi,zbj,zbk,zbl,zbm,zbn,zbo,zbp,zbq,zbr,zbs,zbt,zbu,zbv,zbw,zbx,zby,zbz,zca,zcb,zcc,zcd,zce,zcf,zcg,zch,zci,zcj,zck,zcl,zcm,zcn,zco,zcp,zcq,zcr,zcs,zct,zcu,zcv,zcw,zcx,zcy,zcz,zda,zdb,zdc,zdd,zde,zdf,zdg,zdh,zdi,zdj,zdk,zdl,zdm,ev5,tbNk0,globS,List.drop_zero,List.size_toArray,Array.size_empty,List.length_nil,List.map_nil,List.all_nil,Int.reduceBEq,Int.reduceBNe,beq_self_eq_true,s9,s8,s7,s4,s2,b4,b2,hat,d1,d2,d4,d5,la]
                exact ResQ.same rfl
              · have d5 := decide_eq_false c2
                have htk:=entsA_take e ((r.i - si).toNat - 1)
                have hec:=fun fl=>pf87_at (n:=(r.i - si).toNat - 1) (l:=e.take ((r.i - si).toNat - 1)) (fl:=fl) (by rw [List.length_take]; omega) (by rw [List.length_take]; omega)
                simp (maxSteps:=1000000) (disch:=first | omega | (simp only [nums_len,lnB] <;> omega) | fail) only [ev0,ev1,ev2,ev3,↓reduceIte,reduceCtorEq,zaa,zab,zac,zad,zae,zaf,zag,zah,zai,zaj,zak,zal,zam,zan,zao,zap,zaq,↓zar,↓zas,zat,zau,zav,zaw,zax,zay,zaz,zba,zbb,zbc,zbd,zbe,zbf,zbg,zbh,zbi,zbj,zbk,zbl,zbm,zbn,zbo,zbp,zbq,zbr,zbs,zbt,zbu,zbv,zbw,zbx,zby,zbz,zca,zcb,zcc,zcd,zce,zcf,zcg,zch,zci,zcj,zck,zcl,zcm,zcn,zco,zcp,zcq,zcr,zcs,zct,zcu,zcv,zcw,zcx,zcy,zcz,zda,zdb,zdc,zdd,zde,zdf,zdg,zdh,zdi,zdj,zdk,zdl,zdm,ev5,tbNk0,globS,List.drop_zero,List.size_toArray,Array.size_empty,List.length_nil,List.map_nil,List.all_nil,Int.reduceBEq,Int.reduceBNe,beq_self_eq_true,s9,s8,s7,s4,s2,b4,b2,hat,d1,d2,d4,d5,la,hu0,htk,hec]
                refine ⟨l.length - (j + 1),by omega,j + 1,⟨sh,sv,si,st,sf,some (e.take (r.i - si - 1).toNat ++ [r.e])⟩,.own ⟨0,35,0,gn 35 + 1⟩ 4,by omega,rfl,?_,rfl,?_,rfl,hu.go⟩
                · rw [hfs,foldS,if_neg k1,if_pos k2]
                  exact (if_neg c1).trans (if_neg c2)
                · rw [stA_is,esA_some,entsA_snoc,show (r.i - si - 1).toNat = (r.i - si).toNat - 1 by omega,List.length_append,List.length_take,List.length_singleton]
          have d2 : (r.k == 2) = false:=beq_eq_false_iff_ne.2 k2
          by_cases k3 : r.k = 3
          · have d3 : (r.k == 3) = true := by rw [k3]; rfl
            have hp:=eq_true (show smallI r.i ∧ smallI si ∧ (esL es).length ≤ 1000000000 from ⟨⟨hr1,hr2⟩,⟨hs1,hs2⟩,by omega⟩)
            simp (maxSteps:=1000000) (disch:=first | omega | (simp only [nums_len,lnB] <;> omega) | fail) only [ev0,ev1,ev2,ev3,↓reduceIte,reduceCtorEq,zaa,zab,zac,zad,zae,zaf,zag,zah,zai,zaj,zak,zal,zam,zan,zao,zap,zaq,↓zar,↓zas,zat,zau,zav,zaw,zax,zay,zaz,zba,zbb,zbc,zbd,zbe,zbf,zbg,zbh,zbi,zbj,zbk,zbl,zbm,zbn,zbo,zbp,zbq,zbr,zbs,zbt,zbu,zbv,zbw,zbx,zby,zbz,zca,zcb,zcc,zcd,zce,zcf,zcg,zch,zci,zcj,zck,zcl,zcm,zcn,zco,zcp,zcq,zcr,zcs,zct,zcu,zcv,zcw,zcx,zcy,zcz,zda,zdb,zdc,zdd,zde,zdf,zdg,zdh,zdi,zdj,zdk,zdl,zdm,ev5,tbNk0,globS,List.drop_zero,List.size_toArray,Array.size_empty,List.length_nil,List.map_nil,List.all_nil,Int.reduceBEq,Int.reduceBNe,beq_self_eq_true,s9,s8,s7,s4,s2,b4,b2,hat,d1,d2,d3,foldBase_is,sty?_is,hp]
            exact ⟨l.length - (j + 1),by omega,j + 1,foldB ⟨sh,sv,si,st,sf,es⟩ r,.bor,by omega,rfl,by rw [hfs,foldS,if_neg k1,if_neg k2,if_pos k3],rfl,stA_ren _ _ _ _,rfl,hu⟩
          have d3 : (r.k == 3) = false:=beq_eq_false_iff_ne.2 k3
          simp (maxSteps:=1000000) (disch:=first | omega | (simp only [nums_len,lnB] <;> omega) | fail) only [ev0,ev1,ev2,ev3,↓reduceIte,reduceCtorEq,zaa,zab,zac,zad,zae,zaf,zag,zah,zai,zaj,zak,zal,zam,zan,zao,zap,zaq,↓zar,↓zas,zat,zau,zav,zaw,zax,zay,zaz,zba,zbb,zbc,zbd,zbe,zbf,zbg,zbh,zbi,zbj,zbk,zbl,zbm,zbn,zbo,zbp,zbq,zbr,zbs,zbt,zbu,zbv,zbw,zbx,zby,zbz,zca,zcb,zcc,zcd,zce,zcf,zcg,zch,zci,zcj,zck,zcl,zcm,zcn,zco,zcp,zcq,zcr,zcs,zct,zcu,zcv,zcw,zcx,zcy,zcz,zda,zdb,zdc,zdd,zde,zdf,zdg,zdh,zdi,zdj,zdk,zdl,zdm,ev5,tbNk0,globS,List.drop_zero,List.size_toArray,Array.size_empty,List.length_nil,List.map_nil,List.all_nil,Int.reduceBEq,Int.reduceBNe,beq_self_eq_true,s9,s8,s7,s4,s2,b4,b2,hat,d1,d2,d3]
          exact ⟨l.length - (j + 1),by omega,j + 1,⟨sh,sv,si,st,sf,es⟩,gl,by omega,rfl,by rw [hfs,foldS,if_neg k1,if_neg k2,if_neg k3],rfl,rfl,rfl,hu⟩
        · have hj : j = l.length := by omega
          subst hj
          rw [foldL,hk] at hr
          cases hr
          cases es with
          | none =>
            simp (maxSteps:=1000000) (disch:=first | omega | (simp only [nums_len,lnB] <;> omega) | fail) only [ev0,ev1,ev2,ev3,↓reduceIte,reduceCtorEq,zaa,zab,zac,zad,zae,zaf,zag,zah,zai,zaj,zak,zal,zam,zan,zao,zap,zaq,↓zar,↓zas,zat,zau,zav,zaw,zax,zay,zaz,zba,zbb,zbc,zbd,zbe,zbf,zbg,zbh,zbi,zbj,zbk,zbl,zbm,zbn,zbo,zbp,zbq,zbr,zbs,zbt,zbu,zbv,zbw,zbx,zby,zbz,zca,zcb,zcc,zcd,zce,zcf,zcg,zch,zci,zcj,zck,zcl,zcm,zcn,zco,zcp,zcq,zcr,zcs,zct,zcu,zcv,zcw,zcx,zcy,zcz,zda,zdb,zdc,zdd,zde,zdf,zdg,zdh,zdi,zdj,zdk,zdl,zdm,ev5,tbNk0,globS,List.drop_zero,List.size_toArray,Array.size_empty,List.length_nil,List.map_nil,List.all_nil,Int.reduceBEq,Int.reduceBNe,beq_self_eq_true,s9,s8,s7,s4,s2,b4,b2]
            exact ResQ.same rfl
          | some e =>
            simp (maxSteps:=1000000) (disch:=first | omega | (simp only [nums_len,lnB] <;> omega) | fail) only [ev0,ev1,ev2,ev3,↓reduceIte,reduceCtorEq,zaa,zab,zac,zad,zae,zaf,zag,zah,zai,zaj,zak,zal,zam,zan,zao,zap,zaq,↓zar,↓zas,zat,zau,zav,zaw,zax,zay,zaz,zba,zbb,zbc,zbd,zbe,zbf,zbg,zbh,zbi,zbj,zbk,zbl,zbm,zbn,zbo,zbp,zbq,zbr,zbs,zbt,zbu,zbv,zbw,zbx,zby,zbz,zca,zcb,zcc,zcd,zce,zcf,zcg,zch,zci,zcj,zck,zcl,zcm,zcn,zco,zcp,zcq,zcr,zcs,zct,zcu,zcv,zcw,zcx,zcy,zcz,zda,zdb,zdc,zdd,zde,zdf,zdg,zdh,zdi,zdj,zdk,zdl,zdm,ev5,tbNk0,globS,List.drop_zero,List.size_toArray,Array.size_empty,List.length_nil,List.map_nil,List.all_nil,Int.reduceBEq,Int.reduceBNe,beq_self_eq_true,s9,s8,s7,s4,s2,b4,b2]
            exact ResQ.same rfl
    · cases hr
  · cases hr
end Go.Proofs.YtddeffdgldjdjaaDoor.W
