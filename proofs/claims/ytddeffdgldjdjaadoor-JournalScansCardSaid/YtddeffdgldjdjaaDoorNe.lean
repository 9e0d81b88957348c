/- A record is framed,and put: what the walks come to. -/
import Derived.Test.YtddeffdgldjdjaaDoorNd
import Derived.Test.YtddeffdgldjdjaaDoorHd
namespace Go.Proofs.YtddeffdgldjdjaaDoor.W
set_option linter.unusedSimpArgs false
set_option linter.unusedVariables false
set_option linter.defProp false
open Go Go.Abs
open Nat renaming reduceAdd→zaa,reduceSub→zab,reduceMul→zac,reduceLT→zad,reduceLeDiff→zae,reduceEqDiff→zaf,reduceBEq→zag
open BitVec renaming reduceOfInt→zah
open Int renaming reduceLE→zai,reduceLT→zaj,reduceGT→zak,reduceGE→zal,reduceNeg→zam,reduceAdd→zan,reduceSub→zao,reduceMul→zap,reduceToNat→zaq
open Go.Abs renaming bind_go→zar,map_go→zas,wantedV→zat,isWrite→zau,grow→zav,write→zaw,ofV→zax,start→zaz,strip→zba,endQ→zbb,resV→zbc,rawsRes→zbd,rawRes→zbe,exports→zbf,export1→zbg,isSelf→zbl,convSelf→zbm,convV→zbn,loadV→zbo,storeV→zbp,fieldAddrV→zbq,fieldV→zbr,indexAddrV→zbs,indexV→zbt,partV→zbu,isAggK→zbv,isStr→zbw,place→zbx,ipS→zby,lenV→zbz,min2V→zca,makeV→zcb,freshSl→zcc,sliceV→zcd,boundOr→zce,bound→zcf,bounds→zcg,cutFl→zch,copyV→zci,slCells→zcj,srcV→zck,appendV→zcl,room→zcm,zerosOf→zcn,eqNeg→zco,kd→zcp,takeR→zcq,hasViewL→zcr,hasView→zcs,freshR→zct,freshC→zcu,snapAll→zcv,snap→zcw,snapL→zcx,flatL→zcy,pureL→zcz,pureA→zda,fillC→zdb,arrOK→zdc,oneA→zdd,partB→zde,ren1→zdg,applyW→zdi,useL→zdj,isGen→zdl,startG→zdm
open Go.Abs.AV renaming cells→zay,laid→zdf
open Go.Abs.AS renaming grown→zbh,put→zbi,mute→zdk
open Go.Abs.Env renaming know→zbj,boxed→zbk
open Go.Abs.CR renaming gr→zdh
set_option maxHeartbeats 16000000
theorem liftS {f : FuncId} {pf : List AV→Option AV} (h : SoundV Tryd.prog glob f pf) : SoundV Tryd.prog globS f pf :=
  ⟨h.1,fun args r hr G w vals hp=>h.2 args r hr G w vals ⟨hp.cell,(fun gi xs hx=>by cases hx),hp.args⟩⟩
theorem shaB_lenW (b : List (BitVec 8)) : (shaB b).length = 32:=by rw [shaB,outB_len]
def frB (b : List (BitVec 8)) : List (BitVec 8):=txB [] b ++ (shaB b).take 4
theorem frB_len (b : List (BitVec 8)) : (frB b).length = (txB [] b).length + 4:=by
  have:=shaB_lenW b
  rw [frB,List.length_append,List.length_take]; omega
def frF (b : List (BitVec 8)) : List (BitVec 8) × Int:=if b.length ≤ 4096 then (frB b,0) else ([],2)
def pf45 : List AV → Option AV
  | [v]=>(row? .u8 8 v).bind fun b=>if b.length ≤ 9223372036854775807 then some (.tup [.sl (frF b).1.length (nums .u8 (frF b).1) .bor,.raw (.int .i64 (frF b).2)]) else none
  | _=>none
theorem pf45_at {n : Nat} {b : List (BitVec 8)} {fl : Fl} (h : n = b.length) (h2 : b.length ≤ 9223372036854775807) : pf45 [.sl n (nums .u8 b) fl] = some (.tup [.sl (frF b).1.length (nums .u8 (frF b).1) .bor,.raw (.int .i64 (frF b).2)]):=by
  simp only [pf45,row?_at h,Option.bind_some,if_pos h2]
noncomputable def EF : Env:=(ES0.know 72 (fun xs=>pf72 (xs.map norm))).know 60 (fun xs=>pf60 (xs.map norm))
theorem okF : EnvOK Tryd.prog EF:=(okS0.know (liftS sound72.norm)).know sound60.norm
theorem EF_te : EF.te = te:=rfl
theorem EF_glob : EF.glob = globS:=rfl
theorem EF_gs : EF.gs = []:=rfl
theorem EF_dyn : EF.dyn = false:=rfl
theorem EF_mu (d : Nat) : EF.mu d = false:=rfl
theorem EF_p : EF.tbl 72 = some (.val (fun xs=>pf72 (xs.map norm))):=rfl
theorem EF_h : EF.tbl 60 = some (.val (fun xs=>pf60 (xs.map norm))):=rfl
theorem hashW_at {n : Nat} {m : List (BitVec 8)} {fl : Fl} (h : n = m.length) (h2 : m.length ≤ 1099511627776) : pf60 [.sl n (nums .u8 m) fl] = some (.agg (nums .u8 (shaB m))):=by
  simp only [pf60,row?_at h,Option.bind_some,if_pos h2]
theorem nums_stripW {k : IntKind} {w : Nat} (l : List (BitVec w)) : (nums k l).map strip = nums k l:=by simp [nums,strip]
theorem two0 : ((2 : Int) != 0) = true:=rfl
def tbNe0:=(And.intro (And.intro (And.intro @teE (And.intro @EF_te @EF_glob)) (And.intro @EF_gs (And.intro @EF_dyn @EF_mu))) (And.intro (And.intro @EF_p (And.intro @EF_h @hashW_at)) (And.intro (And.intro @nums_stripW @zz0) (And.intro @two0 @shaB_lenW))))
theorem sound45 : SoundV Tryd.prog globS 45 pf45:=by
  refine SoundV.walk EF okF mixed Tryd.func45 rfl Tryd.call45 (by kernel_rfl) ?_
  intro args r hr
  unfold pf45 at hr
  split at hr
  · simp only [Option.bind_eq_some_iff] at hr
    obtain ⟨b,h1,hr⟩:=hr
    split at hr
    · rename_i hc
      cases hr
      obtain ⟨fl,rfl⟩:=row?_of h1
      rw [Tryd.ntmps45,Tryd.results45]
      refine ⟨by simp,?_⟩
      by_cases hb : b.length ≤ 4096
      · rw [frF,if_pos hb]
        have t:=fun fl fl'=>text_at (b:=[]) (t:=b) (l:=0) (fl:=fl) (fl':=fl') rfl rfl (by simp) hb
        have tl : (txB [] b).length ≤ 5000:=by have:=txB_len [] b hb; simp at this; omega
        rw [nums_nil] at t
        simp (maxSteps:=1000000) (disch:=first | omega | (simp only [digF_len,putK_len,putB_len,shaB_lenW,lnB] <;> omega) | fail) only [ev0,ev1,ev2,ev3,↓reduceIte,reduceCtorEq,zaa,zab,zac,zad,zae,zaf,zag,zah,zai,zaj,zak,zal,zam,zan,zao,zap,zaq,↓zar,↓zas,zat,zau,zav,zaw,zax,zay,zaz,zba,zbb,zbc,zbd,zbe,zbf,zbg,zbh,zbi,zbj,zbk,zbl,zbm,zbn,zbo,zbp,zbq,zbr,zbs,zbt,zbu,zbv,zbw,zbx,zby,zbz,zca,zcb,zcc,zcd,zce,zcf,zcg,zch,zci,zcj,zck,zcl,zcm,zcn,zco,zcp,zcq,zcr,zcs,zct,zcu,zcv,zcw,zcx,zcy,zcz,zda,zdb,zdc,zdd,zde,zdf,zdg,zdh,zdi,zdj,zdk,zdl,zdm,ev5,tbNe0,globS,t]
        rw [frB_len]
        exact resQ_2
      · rw [frF,if_neg hb]
        have t:=fun fl fl'=>text_long (b:=[]) (t:=b) (l:=0) (fl:=fl) (fl':=fl') rfl rfl (by simp) (by omega)
        rw [nums_nil] at t
        simp (maxSteps:=1000000) (disch:=first | omega | (simp only [digF_len,putK_len,putB_len,shaB_lenW,lnB] <;> omega) | fail) only [ev0,ev1,ev2,ev3,↓reduceIte,reduceCtorEq,zaa,zab,zac,zad,zae,zaf,zag,zah,zai,zaj,zak,zal,zam,zan,zao,zap,zaq,↓zar,↓zas,zat,zau,zav,zaw,zax,zay,zaz,zba,zbb,zbc,zbd,zbe,zbf,zbg,zbh,zbi,zbj,zbk,zbl,zbm,zbn,zbo,zbp,zbq,zbr,zbs,zbt,zbu,zbv,zbw,zbx,zby,zbz,zca,zcb,zcc,zcd,zce,zcf,zcg,zch,zci,zcj,zck,zcl,zcm,zcn,zco,zcp,zcq,zcr,zcs,zct,zcu,zcv,zcw,zcx,zcy,zcz,zda,zdb,zdc,zdd,zde,zdf,zdg,zdh,zdi,zdj,zdk,zdl,zdm,ev5,tbNe0,globS,t]
        exact resQ_2nil
    · cases hr
  · cases hr
def recOK (r : Rec) : Prop:=okN r.e ∧ i64ok r.k ∧ i64ok r.i ∧ i64ok r.t ∧ i64ok r.n ∧ i64ok r.h ∧ i64ok r.v
def putF (r : Rec) : List (BitVec 8) × Int :=
  if numM r = true then ([],1)
  else if (numL r).any (fun n=>decide (oob n)) = true then ([],1)
  else if r.k = 2 then (if (entR r.e).2 ≠ 0 then ([],(entR r.e).2) else if 4096 < (entR r.e).1.length then ([],2) else frF (txB (nmF (r.k :: numL r)) (entR r.e).1))
  else frF (nmF (r.k :: numL r))
noncomputable def pf48 : List AV → Option AV
  | [.agg cs]=>(rec? (cs.map strip)).bind fun r=>open Classical in if recOK r then some (.tup [.sl (putF r).1.length (nums .u8 (putF r).1) .bor,.raw (.int .i64 (putF r).2)]) else none
  | _=>none
noncomputable def EPU : Env:=(((((ES0.know 77 pf77).know 78 (fun xs=>pfo78 (xs.map norm))).know 80 (fun xs=>pf80 (xs.map norm))).know 81 pf81).know 72 (fun xs=>pf72 (xs.map norm))).know 45 pf45
theorem okPU : EnvOK Tryd.prog EPU:=(((((okS0.know (liftS sound77)).know (liftS soundo78.norm)).know (liftS sound80.norm)).know (liftS sound81)).know (liftS sound72.norm)).know sound45
theorem EPU_te : EPU.te = te:=rfl
theorem EPU_glob : EPU.glob = globS:=rfl
theorem EPU_gs : EPU.gs = []:=rfl
theorem EPU_dyn : EPU.dyn = false:=rfl
theorem EPU_mu (d : Nat) : EPU.mu d = false:=rfl
theorem EPU_n : EPU.tbl 77 = some (.val pf77):=rfl
theorem EPU_c : EPU.tbl 78 = some (.val (fun xs=>pfo78 (xs.map norm))):=rfl
theorem EPU_p : EPU.tbl 80 = some (.val (fun xs=>pf80 (xs.map norm))):=rfl
theorem EPU_e : EPU.tbl 81 = some (.val pf81):=rfl
theorem EPU_t : EPU.tbl 72 = some (.val (fun xs=>pf72 (xs.map norm))):=rfl
theorem EPU_f : EPU.tbl 45 = some (.val pf45):=rfl
theorem numbers_at {k i t n h v a b : Int} {c : Option (List (BitVec 8))} {d : Option (List Int)} (hk : okN ⟨a,b,c,d⟩) : pf77 [.agg [.raw (.int .i64 k),.raw (.int .i64 i),.raw (.int .i64 t),.raw (.int .i64 n),.raw (.int .i64 h),.raw (.int .i64 v),.raw (.int .i64 a),.raw (.int .i64 b),btA c,itA d]] =
    some (.tup [.sl (numL ⟨k,i,t,n,h,v,⟨a,b,c,d⟩⟩).length (ints .i64 (numL ⟨k,i,t,n,h,v,⟨a,b,c,d⟩⟩)) .bor,.raw (.bool (numM ⟨k,i,t,n,h,v,⟨a,b,c,d⟩⟩))]):=by
  have e:=rec?_at ⟨k,i,t,n,h,v,⟨a,b,c,d⟩⟩
  have e2:=recA_strip ⟨k,i,t,n,h,v,⟨a,b,c,d⟩⟩
  simp only [recA,entA] at e e2
  simp only [pf77,e2,e,Option.bind_some]
  exact if_pos ⟨hk.1,hk.2.1⟩
theorem pentry_at {a b : Int} {c : Option (List (BitVec 8))} {d : Option (List Int)} (hk : okN ⟨a,b,c,d⟩) : pf81 [.agg [.raw (.int .i64 a),.raw (.int .i64 b),btA c,itA d]] = some (.tup [.sl (entR ⟨a,b,c,d⟩).1.length (nums .u8 (entR ⟨a,b,c,d⟩).1) .bor,.raw (.int .i64 (entR ⟨a,b,c,d⟩).2)]):=by
  have e:=ent?_at ⟨a,b,c,d⟩
  have e2:=entA_strip ⟨a,b,c,d⟩
  simp only [entA] at e e2
  simp only [pf81,e2,e,Option.bind_some]
  exact if_pos hk
theorem pfo_at {n : Nat} {l : List Int} {fl : Fl} (h : n = l.length) (h2 : ∀ n ∈ l,i64ok n) (h3 : l.length ≤ 9223372036854775807) : pfo78 [.sl n (ints .i64 l) fl,.fn 79 []] = some (.raw (.bool (l.any fun n=>decide (oob n)))):=by
  simp only [pfo78,if_true,irow?_at h h2,Option.bind_some,if_pos h3]
theorem numL_len (r : Rec) : (numL r).length ≤ 3:=by
  unfold numL; split
  · simp
  · split
    · simp
    · split <;> simp
theorem numL_ok {r : Rec} (h : recOK r) : ∀ n ∈ numL r,i64ok n:=by
  obtain ⟨h0,h1,h2,h3,h4,h5,h6⟩:=h
  unfold numL; split
  · simp [*]
  · split
    · simp [*]
    · split <;> simp [*]
def tbNe1:=(And.intro (And.intro (And.intro (And.intro @teE (And.intro @EPU_te @EPU_glob)) (And.intro (And.intro @EPU_gs @EPU_dyn) (And.intro @EPU_mu @EPU_n))) (And.intro (And.intro @EPU_c (And.intro @EPU_p @EPU_e)) (And.intro (And.intro @EPU_t @EPU_f) (And.intro @ev4 @zz0)))) (And.intro (And.intro (And.intro @zz1 (And.intro @two0 @btA_strip)) (And.intro (And.intro @itA_strip @btA_one) (And.intro @itA_one @btA_snap))) (And.intro (And.intro (And.intro @itA_snap @btA_noview) (And.intro @itA_noview @numbers_at)) (And.intro (And.intro @pentry_at @norm_fn) (And.intro @pf80_at @pf45_at)))))
theorem sound48 : SoundV Tryd.prog globS 48 pf48:=by
  refine SoundV.walk EPU okPU mixed Tryd.func48 rfl Tryd.call48 (by kernel_rfl) ?_
  intro args r hr
  unfold pf48 at hr
  split at hr
  · rename_i cs
    simp only [Option.bind_eq_some_iff] at hr
    obtain ⟨r,hc,hr⟩:=hr
    split at hr
    · rename_i hn
      cases hr
      have hcs:=rec?_of hc
      have hl3:=numL_len r
      have hlo:=numL_ok hn
      rw [Tryd.ntmps48,Tryd.results48]
      refine ⟨by simp,?_⟩
      obtain ⟨R,hR⟩ : ∃ R,R = r:=⟨_,rfl⟩
      obtain ⟨k,i,t,n,h,v,⟨a,b,c,d⟩⟩:=r
      simp only [recA,entA] at hcs
      have hok : okN ⟨a,b,c,d⟩:=hn.1
      have hN:=numbers_at (k:=k) (i:=i) (t:=t) (n:=n) (h:=h) (v:=v) hok
      have hE:=pentry_at hok
      rw [← hR] at hN hl3 hlo ⊢
      generalize hL : numL R = L at hN hl3 hlo
      cases hM : numM R
      rotate_left
      · rw [hM] at hN
        rw [putF,if_pos hM]
        simp (maxSteps:=1000000) (disch:=first | omega | (simp only [digF_len,putK_len,putB_len,shaB_lenW,lnB] <;> omega) | fail) only [ev0,ev1,ev2,ev3,↓reduceIte,reduceCtorEq,zaa,zab,zac,zad,zae,zaf,zag,zah,zai,zaj,zak,zal,zam,zan,zao,zap,zaq,↓zar,↓zas,zat,zau,zav,zaw,zax,zay,zaz,zba,zbb,zbc,zbd,zbe,zbf,zbg,zbh,zbi,zbj,zbk,zbl,zbm,zbn,zbo,zbp,zbq,zbr,zbs,zbt,zbu,zbv,zbw,zbx,zby,zbz,zca,zcb,zcc,zcd,zce,zcf,zcg,zch,zci,zcj,zck,zcl,zcm,zcn,zco,zcp,zcq,zcr,zcs,zct,zcu,zcv,zcw,zcx,zcy,zcz,zda,zdb,zdc,zdd,zde,zdf,zdg,zdh,zdi,zdj,zdk,zdl,zdm,ev5,tbNe1,globS,List.isEmpty_nil,List.map_nil,List.all_nil,List.size_toArray,Array.size_empty,List.length_nil,List.length_cons,Int.reduceBEq,Int.reduceBNe,beq_self_eq_true,hcs,hN]
        exact resQ_2nil
      rw [hM] at hN
      have hA:=fun fl=>pfo_at (n:=L.length) (fl:=fl) rfl hlo (by omega)
      cases hany : L.any (fun n=>decide (oob n))
      rotate_left
      · rw [hany] at hA
        rw [putF,if_neg (by rw [hM]; decide),hL,if_pos hany]
        simp (maxSteps:=1000000) (disch:=first | omega | (simp only [digF_len,putK_len,putB_len,shaB_lenW,lnB] <;> omega) | fail) only [ev0,ev1,ev2,ev3,↓reduceIte,reduceCtorEq,zaa,zab,zac,zad,zae,zaf,zag,zah,zai,zaj,zak,zal,zam,zan,zao,zap,zaq,↓zar,↓zas,zat,zau,zav,zaw,zax,zay,zaz,zba,zbb,zbc,zbd,zbe,zbf,zbg,zbh,zbi,zbj,zbk,zbl,zbm,zbn,zbo,zbp,zbq,zbr,zbs,zbt,zbu,zbv,zbw,zbx,zby,zbz,zca,zcb,zcc,zcd,zce,zcf,zcg,zch,zci,zcj,zck,zcl,zcm,zcn,zco,zcp,zcq,zcr,zcs,zct,zcu,zcv,zcw,zcx,zcy,zcz,zda,zdb,zdc,zdd,zde,zdf,zdg,zdh,zdi,zdj,zdk,zdl,zdm,ev5,tbNe1,globS,List.isEmpty_nil,List.map_nil,List.all_nil,List.size_toArray,Array.size_empty,List.length_nil,List.length_cons,Int.reduceBEq,Int.reduceBNe,beq_self_eq_true,hcs,hN,hA]
        exact resQ_2nil
      rw [hany] at hA
      have hk : k = 1 ∨ k = 2 ∨ k = 3:=by
        rw [hR] at hM; unfold numM at hM
        by_cases k1 : k = 1
        · exact .inl k1
        · by_cases k2 : k = 2
          · exact .inr (.inl k2)
          · by_cases k3 : k = 3
            · exact .inr (.inr k3)
            · simp [k1,k2,k3] at hM
      have hb : ∀ j,j < L.length→0 ≤ L.getD j 0 ∧ L.getD j 0 ≤ 1099511627776:=fun j hj=>by
        have h1:=List.any_eq_false.1 hany _ (getD_mem hj)
        have h2 : ¬ oob (L.getD j 0):=fun h=>h1 (decide_eq_true h)
        unfold oob at h2; omega
      have p0 : ∀ fl,pf80 [.sl 0 [] fl,.raw (.int .i64 k)] = some (.tup [.sl (putB [] k.toNat).length (nums .u8 (putB [] k.toNat)) (.own ⟨0,0,0,0⟩ 1),.raw (.int .i64 0)]):=fun fl=>pf80_at (b:=[]) (fl:=fl) rfl (by simp) (by omega) (by omega)
      have hput : putF R = if R.k = 2 then (if (entR R.e).2 ≠ 0 then ([],(entR R.e).2) else if 4096 < (entR R.e).1.length then ([],2) else frF (txB (nmF (R.k :: L)) (entR R.e).1)) else frF (nmF (R.k :: L)):=by
        rw [putF,if_neg (by rw [hM]; decide),hL,if_neg (by rw [hany]; decide)]
      rw [hput]
      have hRk : R.k = k:=by rw [hR]
      have hRe : R.e = ⟨a,b,c,d⟩:=by rw [hR]
      rw [hRk,hRe]
      have hall : ∀ x ∈ k :: L,i64ok x:=fun x hx=>by
        rcases List.mem_cons.1 hx with rfl | hx
        · exact hn.2.1
        · exact hlo x hx
      clear hc hM hput
      simp (maxSteps:=1000000) (disch:=first | omega | (simp only [digF_len,putK_len,putB_len,shaB_lenW,lnB] <;> omega) | fail) only [ev0,ev1,ev2,ev3,↓reduceIte,reduceCtorEq,zaa,zab,zac,zad,zae,zaf,zag,zah,zai,zaj,zak,zal,zam,zan,zao,zap,zaq,↓zar,↓zas,zat,zau,zav,zaw,zax,zay,zaz,zba,zbb,zbc,zbd,zbe,zbf,zbg,zbh,zbi,zbj,zbk,zbl,zbm,zbn,zbo,zbp,zbq,zbr,zbs,zbt,zbu,zbv,zbw,zbx,zby,zbz,zca,zcb,zcc,zcd,zce,zcf,zcg,zch,zci,zcj,zck,zcl,zcm,zcn,zco,zcp,zcq,zcr,zcs,zct,zcu,zcv,zcw,zcx,zcy,zcz,zda,zdb,zdc,zdd,zde,zdf,zdg,zdh,zdi,zdj,zdk,zdl,zdm,ev5,tbNe1,globS,List.isEmpty_nil,List.map_nil,List.all_nil,List.size_toArray,Array.size_empty,List.length_nil,List.length_cons,Int.reduceBEq,Int.reduceBNe,beq_self_eq_true,hcs,hN,hA,p0]
      refine loopQ_of (fun m σ => ∃ j i',j ≤ L.length ∧ m = L.length - j ∧ σ.slots 30 = .raw (.int .i64 (j : Int)) ∧ σ.slots 29 = .raw (.int .i64 (L.length : Int)) ∧ σ.slots 28 = .sl L.length (ints .i64 L) .bor ∧ σ.slots 6 = .sl (nmK (k :: L) (j + 1)).length (nums .u8 (nmK (k :: L) (j + 1))) (.own i' 1) ∧ σ.slots 1 = .ptr (.own 0 1 1) 0 ∧
        σ.box (.own 0 1 1) = some [.raw (.int .i64 k),.raw (.int .i64 i),.raw (.int .i64 t),.raw (.int .i64 n),.raw (.int .i64 h),.raw (.int .i64 v),.raw (.int .i64 a),.raw (.int .i64 b),btA c,itA d]) L.length ?_ ?_
      · refine ⟨0,⟨0,25,0,1⟩,by omega,by omega,?_⟩
        simp (maxSteps:=1000000) (disch:=first | omega | (simp only [digF_len,putK_len,putB_len,shaB_lenW,lnB] <;> omega) | fail) only [ev0,ev1,ev2,ev3,↓reduceIte,reduceCtorEq,zaa,zab,zac,zad,zae,zaf,zag,zah,zai,zaj,zak,zal,zam,zan,zao,zap,zaq,↓zar,↓zas,zat,zau,zav,zaw,zax,zay,zaz,zba,zbb,zbc,zbd,zbe,zbf,zbg,zbh,zbi,zbj,zbk,zbl,zbm,zbn,zbo,zbp,zbq,zbr,zbs,zbt,zbu,zbv,zbw,zbx,zby,zbz,zca,zcb,zcc,zcd,zce,zcf,zcg,zch,zci,zcj,zck,zcl,zcm,zcn,zco,zcp,zcq,zcr,zcs,zct,zcu,zcv,zcw,zcx,zcy,zcz,zda,zdb,zdc,zdd,zde,zdf,zdg,zdh,zdi,zdj,zdk,zdl,zdm,ev5,tbNe1,globS,List.isEmpty_nil,List.map_nil,List.all_nil,List.size_toArray,Array.size_empty,List.length_nil,List.length_cons,Int.reduceBEq,Int.reduceBNe,beq_self_eq_true,hcs,hN,hA,p0]
        exact ⟨rfl,rfl⟩
      · rintro m ⟨sl,gn,bx,us⟩ ⟨j,i',hj,rfl,s30,s29,s28,s6,s1,b1⟩
        dsimp only at s30 s29 s28 s6 s1 b1
        have lM:=nmK_len (k :: L) hall (j + 1) (by simp only [List.length_cons]; omega)
        generalize hMM : nmK (k :: L) (j + 1) = M at s6 lM
        simp (maxSteps:=1000000) (disch:=first | omega | (simp only [digF_len,putK_len,putB_len,shaB_lenW,lnB] <;> omega) | fail) only [ev0,ev1,ev2,ev3,↓reduceIte,reduceCtorEq,zaa,zab,zac,zad,zae,zaf,zag,zah,zai,zaj,zak,zal,zam,zan,zao,zap,zaq,↓zar,↓zas,zat,zau,zav,zaw,zax,zay,zaz,zba,zbb,zbc,zbd,zbe,zbf,zbg,zbh,zbi,zbj,zbk,zbl,zbm,zbn,zbo,zbp,zbq,zbr,zbs,zbt,zbu,zbv,zbw,zbx,zby,zbz,zca,zcb,zcc,zcd,zce,zcf,zcg,zch,zci,zcj,zck,zcl,zcm,zcn,zco,zcp,zcq,zcr,zcs,zct,zcu,zcv,zcw,zcx,zcy,zcz,zda,zdb,zdc,zdd,zde,zdf,zdg,zdh,zdi,zdj,zdk,zdl,zdm,ev5,tbNe1,globS,List.isEmpty_nil,List.map_nil,List.all_nil,List.size_toArray,Array.size_empty,List.length_nil,List.length_cons,Int.reduceBEq,Int.reduceBNe,beq_self_eq_true,s30,s29,s28,s6,s1,b1]
        refine condQ_dec (fun hlt=>?_) (fun hge=>?_)
        · have hlt : j < L.length := by omega
          have h0:=hb j hlt
          have hn8:=need_le (L.getD j 0).toNat (by omega)
          simp (maxSteps:=1000000) (disch:=first | omega | (simp only [digF_len,putK_len,putB_len,shaB_lenW,lnB] <;> omega) | fail) only [ev0,ev1,ev2,ev3,↓reduceIte,reduceCtorEq,zaa,zab,zac,zad,zae,zaf,zag,zah,zai,zaj,zak,zal,zam,zan,zao,zap,zaq,↓zar,↓zas,zat,zau,zav,zaw,zax,zay,zaz,zba,zbb,zbc,zbd,zbe,zbf,zbg,zbh,zbi,zbj,zbk,zbl,zbm,zbn,zbo,zbp,zbq,zbr,zbs,zbt,zbu,zbv,zbw,zbx,zby,zbz,zca,zcb,zcc,zcd,zce,zcf,zcg,zch,zci,zcj,zck,zcl,zcm,zcn,zco,zcp,zcq,zcr,zcs,zct,zcu,zcv,zcw,zcx,zcy,zcz,zda,zdb,zdc,zdd,zde,zdf,zdg,zdh,zdi,zdj,zdk,zdl,zdm,ev5,tbNe1,globS,List.isEmpty_nil,List.map_nil,List.all_nil,List.size_toArray,Array.size_empty,List.length_nil,List.length_cons,Int.reduceBEq,Int.reduceBNe,beq_self_eq_true,s30,s29,s28,s6,s1,b1]
          refine ⟨L.length - (j + 1),by omega,j + 1,⟨0,37,0,gn 37 + 1⟩,by omega,rfl,?_⟩
          have hNN : nmK (k :: L) (j + 1 + 1) = putB M (L.getD j 0).toNat:=by rw [nmK,hMM]; rfl
          rw [hNN]
          exact ⟨rfl,rfl⟩
        · have hj : j = L.length := by omega
          subst hj
          have hnm : nmF (k :: L) = M:=hMM
          rw [hnm]
          have lM2 : M.length ≤ 36:=by omega
          by_cases k2 : k = 2
          rotate_left
          · have d2 : (k == 2) = false := beq_eq_false_iff_ne.2 k2
            rw [if_neg k2]
            simp (maxSteps:=1000000) (disch:=first | omega | (simp only [digF_len,putK_len,putB_len,shaB_lenW,lnB] <;> omega) | fail) only [ev0,ev1,ev2,ev3,↓reduceIte,reduceCtorEq,zaa,zab,zac,zad,zae,zaf,zag,zah,zai,zaj,zak,zal,zam,zan,zao,zap,zaq,↓zar,↓zas,zat,zau,zav,zaw,zax,zay,zaz,zba,zbb,zbc,zbd,zbe,zbf,zbg,zbh,zbi,zbj,zbk,zbl,zbm,zbn,zbo,zbp,zbq,zbr,zbs,zbt,zbu,zbv,zbw,zbx,zby,zbz,zca,zcb,zcc,zcd,zce,zcf,zcg,zch,zci,zcj,zck,zcl,zcm,zcn,zco,zcp,zcq,zcr,zcs,zct,zcu,zcv,zcw,zcx,zcy,zcz,zda,zdb,zdc,zdd,zde,zdf,zdg,zdh,zdi,zdj,zdk,zdl,zdm,ev5,tbNe1,globS,List.isEmpty_nil,List.map_nil,List.all_nil,List.size_toArray,Array.size_empty,List.length_nil,List.length_cons,Int.reduceBEq,Int.reduceBNe,beq_self_eq_true,s30,s29,s28,s6,s1,b1,d2]
            exact resQ_2
          · have d2 : (k == 2) = true := by rw [k2]; rfl
            rw [if_pos k2]
            generalize entR ⟨a,b,c,d⟩ = X at hE ⊢
            obtain ⟨X,e⟩:=X
            dsimp only at hE ⊢
            by_cases e0 : e = 0
            rotate_left
            · have d3 : (e != 0) = true := by rw [bne_iff_ne]; exact e0
              rw [if_pos e0]
              simp (maxSteps:=1000000) (disch:=first | omega | (simp only [digF_len,putK_len,putB_len,shaB_lenW,lnB] <;> omega) | fail) only [ev0,ev1,ev2,ev3,↓reduceIte,reduceCtorEq,zaa,zab,zac,zad,zae,zaf,zag,zah,zai,zaj,zak,zal,zam,zan,zao,zap,zaq,↓zar,↓zas,zat,zau,zav,zaw,zax,zay,zaz,zba,zbb,zbc,zbd,zbe,zbf,zbg,zbh,zbi,zbj,zbk,zbl,zbm,zbn,zbo,zbp,zbq,zbr,zbs,zbt,zbu,zbv,zbw,zbx,zby,zbz,zca,zcb,zcc,zcd,zce,zcf,zcg,zch,zci,zcj,zck,zcl,zcm,zcn,zco,zcp,zcq,zcr,zcs,zct,zcu,zcv,zcw,zcx,zcy,zcz,zda,zdb,zdc,zdd,zde,zdf,zdg,zdh,zdi,zdj,zdk,zdl,zdm,ev5,tbNe1,globS,List.isEmpty_nil,List.map_nil,List.all_nil,List.size_toArray,Array.size_empty,List.length_nil,List.length_cons,Int.reduceBEq,Int.reduceBNe,beq_self_eq_true,s30,s29,s28,s6,s1,b1,d2,hE,d3]
              exact resQ_2nil
            · have d3 : (e != 0) = false := by rw [e0]; rfl
              rw [if_neg (not_not_intro e0)]
              by_cases hX : 4096 < X.length
              · have tt := fun fl fl' => text_long (b := M) (t := X) (l := M.length) (l' := X.length) (fl := fl) (fl' := fl') rfl rfl (by omega) hX
                rw [if_pos hX]
                simp (maxSteps:=1000000) (disch:=first | omega | (simp only [digF_len,putK_len,putB_len,shaB_lenW,lnB] <;> omega) | fail) only [ev0,ev1,ev2,ev3,↓reduceIte,reduceCtorEq,zaa,zab,zac,zad,zae,zaf,zag,zah,zai,zaj,zak,zal,zam,zan,zao,zap,zaq,↓zar,↓zas,zat,zau,zav,zaw,zax,zay,zaz,zba,zbb,zbc,zbd,zbe,zbf,zbg,zbh,zbi,zbj,zbk,zbl,zbm,zbn,zbo,zbp,zbq,zbr,zbs,zbt,zbu,zbv,zbw,zbx,zby,zbz,zca,zcb,zcc,zcd,zce,zcf,zcg,zch,zci,zcj,zck,zcl,zcm,zcn,zco,zcp,zcq,zcr,zcs,zct,zcu,zcv,zcw,zcx,zcy,zcz,zda,zdb,zdc,zdd,zde,zdf,zdg,zdh,zdi,zdj,zdk,zdl,zdm,ev5,tbNe1,globS,List.isEmpty_nil,List.map_nil,List.all_nil,List.size_toArray,Array.size_empty,List.length_nil,List.length_cons,Int.reduceBEq,Int.reduceBNe,beq_self_eq_true,s30,s29,s28,s6,s1,b1,d2,hE,d3,tt]
                exact resQ_2nil
              · have tt := fun fl fl' => text_at (b := M) (t := X) (l := M.length) (l' := X.length) (fl := fl) (fl' := fl') rfl rfl (by omega) (by omega)
                have tl:=txB_len M X (by omega)
                rw [if_neg hX]
                simp (maxSteps:=1000000) (disch:=first | omega | (simp only [digF_len,putK_len,putB_len,shaB_lenW,lnB] <;> omega) | fail) only [ev0,ev1,ev2,ev3,↓reduceIte,reduceCtorEq,zaa,zab,zac,zad,zae,zaf,zag,zah,zai,zaj,zak,zal,zam,zan,zao,zap,zaq,↓zar,↓zas,zat,zau,zav,zaw,zax,zay,zaz,zba,zbb,zbc,zbd,zbe,zbf,zbg,zbh,zbi,zbj,zbk,zbl,zbm,zbn,zbo,zbp,zbq,zbr,zbs,zbt,zbu,zbv,zbw,zbx,zby,zbz,zca,zcb,zcc,zcd,zce,zcf,zcg,zch,zci,zcj,zck,zcl,zcm,zcn,zco,zcp,zcq,zcr,zcs,zct,zcu,zcv,zcw,zcx,zcy,zcz,zda,zdb,zdc,zdd,zde,zdf,zdg,zdh,zdi,zdj,zdk,zdl,zdm,ev5,tbNe1,globS,List.isEmpty_nil,List.map_nil,List.all_nil,List.size_toArray,Array.size_empty,List.length_nil,List.length_cons,Int.reduceBEq,Int.reduceBNe,beq_self_eq_true,s30,s29,s28,s6,s1,b1,d2,hE,d3,tt]
                exact resQ_2
    · cases hr
  · cases hr
end Go.Proofs.YtddeffdgldjdjaaDoor.W
