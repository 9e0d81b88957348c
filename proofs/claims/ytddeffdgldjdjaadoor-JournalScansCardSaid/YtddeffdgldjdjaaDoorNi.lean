/- Records are read,one behind the other: what the walk comes to. -/
import Derived.Test.YtddeffdgldjdjaaDoorNg
namespace Go.Proofs.YtddeffdgldjdjaaDoor.W
set_option linter.unusedSimpArgs false
set_option linter.unusedVariables false
set_option linter.defProp false
open Go Go.Abs
open Nat renaming reduceAdd→zaa,reduceSub→zab,reduceMul→zac,reduceLT→zad,reduceLeDiff→zae,reduceEqDiff→zaf,reduceBEq→zag
open BitVec renaming reduceOfInt→zah
open Int renaming reduceLE→zai,reduceLT→zaj,reduceGT→zak,reduceGE→zal,reduceNeg→zam,reduceAdd→zan,reduceSub→zao,reduceMul→zap,reduceToNat→zaq
open Go.Abs renaming bind_go→zar,map_go→zas,wantedV→zat,isWrite→zau,grow→zav,write→zaw,ofV→zax,start→zaz,strip→zba,endQ→zbb,resV→zbc,rawsRes→zbd,rawRes→zbe,exports→zbf,export1→zbg,isSelf→zbl,convSelf→zbm,convV→zbn,loadV→zbo,storeV→zbp,fieldAddrV→zbq,fieldV→zbr,indexAddrV→zbs,indexV→zbt,partV→zbu,isAggK→zbv,isStr→zbw,place→zbx,ipS→zby,lenV→zbz,min2V→zca,makeV→zcb,freshSl→zcc,sliceV→zcd,boundOr→zce,bound→zcf,bounds→zcg,cutFl→zch,copyV→zci,slCells→zcj,srcV→zck,appendV→zcl,room→zcm,zerosOf→zcn,eqNeg→zco,kd→zcp,takeR→zcq,hasViewL→zcr,hasView→zcs,freshR→zct,freshC→zcu,snapAll→zcv,snap→zcw,snapL→zcx,flatL→zcy,pureL→zcz,pureA→zda,fillC→zdb,arrOK→zdc,oneA→zdd,partB→zde,ren1→zdg,applyW→zdi,useL→zdj,isGen→zdl,startG→zdm
open Go.Abs.AV renaming cells→zay,laid→zdf
open Go.Abs.AS renaming grown→zbh,put→zbi,mute→zdk
open Go.Abs.Env renaming know→zbj,boxed→zbk
open Go.Abs.CR renaming gr→zdh
set_option maxHeartbeats 16000000
def recsA (l : List Rec) : List AV:=l.flatMap recA
theorem recsA_len (l : List Rec) : (recsA l).length = l.length * 10:=by
  induction l with
  | nil=>rfl
  | cons r l ih=>rw [recsA,List.flatMap_cons,List.length_append,← recsA,ih,recA_len,List.length_cons]; omega
theorem recsA_snoc (l : List Rec) (r : Rec) : recsA l ++ recA r = recsA (l ++ [r]):=by simp [recsA]
theorem recsA_oneA (l : List Rec) : (recsA l).all oneA = true:=by
  rw [List.all_eq_true]
  intro x hx
  obtain ⟨r,_,hx⟩:=List.mem_flatMap.1 hx
  exact List.all_eq_true.1 (recA_oneA r) x hx
def scanR (st : List (BitVec 8) → Rec × Nat) : Nat → List (BitVec 8) → List Rec × Nat
  | 0,_=>([],0)
  | f + 1,b=>if (st b).2 = 0 then ([],0) else ((st b).1 :: (scanR st f (b.drop (st b).2)).1,(st b).2 + (scanR st f (b.drop (st b).2)).2)
theorem scanR_more (st : List (BitVec 8) → Rec × Nat) (hst : ∀ b,(st b).2 ≤ b.length) : ∀ (f g : Nat) (b : List (BitVec 8)),b.length < f → f ≤ g → scanR st g b = scanR st f b
  | 0,_,b,h,_=>by omega
  | f + 1,0,b,_,h=>by omega
  | f + 1,g + 1,b,h1,h2=>by
    unfold scanR
    split
    · rfl
    · rename_i h0
      have:=hst b
      rw [scanR_more st hst f g (b.drop (st b).2) (by rw [List.length_drop]; omega) (by omega)]
def scanF (st : List (BitVec 8)→Rec × Nat) (b : List (BitVec 8)) : List Rec × Nat:=scanR st (b.length + 1) b
theorem scanR_F {st : List (BitVec 8)→Rec × Nat} (hst : ∀ b,(st b).2 ≤ b.length) {f : Nat} {b : List (BitVec 8)} (h : b.length < f) : scanR st f b = scanF st b :=
  scanR_more st hst (b.length + 1) f b (by omega) (by omega)
theorem scanF_no {st : List (BitVec 8)→Rec × Nat} {b : List (BitVec 8)} (h : (st b).2 = 0) : scanF st b = ([],0):=by rw [scanF,scanR,if_pos h]
theorem scanF_go {st : List (BitVec 8)→Rec × Nat} (hst : ∀ b,(st b).2 ≤ b.length) {b : List (BitVec 8)} (h : (st b).2 ≠ 0) : scanF st b = ((st b).1 :: (scanF st (b.drop (st b).2)).1,(st b).2 + (scanF st (b.drop (st b).2)).2):=by
  have:=hst b
  rw [scanF,scanR,if_neg h,scanR_F hst (by rw [List.length_drop]; omega)]
theorem scanF_le {st : List (BitVec 8) → Rec × Nat} (hst : ∀ b,(st b).2 ≤ b.length) : ∀ (n : Nat) (b : List (BitVec 8)),b.length ≤ n → (scanF st b).2 ≤ b.length ∧ (scanF st b).1.length ≤ (scanF st b).2
  | n,b,hn=>by
    by_cases h : (st b).2 = 0
    · rw [scanF_no h]; simp
    · have h1 := hst b
      rw [scanF_go hst h]
      match n with
      | 0=>omega
      | n + 1 =>
        have:=scanF_le hst n (b.drop (st b).2) (by rw [List.length_drop]; omega)
        rw [List.length_drop] at this
        simp only [List.length_cons]; omega
def oneS (b : List (BitVec 8)) : Rec × Nat:=oneR (oneX b)
theorem oneS_le (b : List (BitVec 8)) : (oneS b).2 ≤ b.length:=by
  unfold oneS oneX
  split
  · simp [oneR]
  · split
    · simp [oneR]
    · split
      · rename_i h
        have:=h.2
        unfold preB at this
        simp only [Bool.and_eq_true,decide_eq_true_eq] at this
        exact this.1
      · simp [oneR]
noncomputable def pf50 : List AV → Option AV
  | [v]=>(row? .u8 8 v).bind fun b=>if b.length ≤ 1000000000000 then some (.tup [.sl (scanF oneS b).1.length (recsA (scanF oneS b).1) .bor,.raw (.int .i64 (scanF oneS b).2)]) else none
  | _=>none
noncomputable def ESC : Env:=ES0.knowG 83 gx83
theorem okSC : EnvOK Tryd.prog ESC:=okS0.knowG sound83.toG
theorem ESC_te : ESC.te = te:=rfl
theorem ESC_glob : ESC.glob = globS:=rfl
theorem ESC_gs : ESC.gs = [83]:=rfl
theorem ESC_dyn : ESC.dyn = false:=rfl
theorem ESC_mu (d : Nat) : ESC.mu d = false:=rfl
theorem ESC_o : ESC.tbl 83 = some (.gen gx83):=rfl
theorem one_at {n : Nat} {b : List (BitVec 8)} {fl : Fl} {bx : Boxes} {us : Abs.Id→Bool} (h : n = b.length) (hl : b.length ≤ 150000000000000) : gx83 [.sl n (nums .u8 b) fl] bx us = some { v:=.ret (.tup [.agg (recA (oneS b).1),.raw (.int .i64 (oneS b).2)]) }:=by
  simp only [gx83,row?_at h,Option.bind_some,if_pos hl]; rfl
theorem pureL_append (a b : List AV) : pureL (a ++ b) = (pureL a && pureL b):=by
  induction a with
  | nil=>simp [pureL]
  | cons x xs ih=>simp only [List.cons_append,pureL,ih,Bool.and_assoc]
theorem rep_one (xs : List AV) : rep 1 xs = xs:=by simp [rep]
theorem recsA_pure (l : List Rec) : pureL (recsA l) = true:=by
  induction l with
  | nil=>rfl
  | cons r l ih =>
    have h:=recA_pure r
    simp only [pureA] at h
    rw [recsA,List.flatMap_cons,← recsA,pureL_append,h,ih]; rfl
theorem resQ_2r {v : Value} {n : Nat} {xs : List AV} {fl : Fl} : ResQ (some (.tup [.sl n xs fl,.raw v])) (.tup [.sl n xs .bor,.raw v]):=resQ_2
theorem dec0 (n : Nat) : (((n : Nat) : Int) == 0) = decide (n = 0):=by
  by_cases h : n = 0
  · rw [h]; rfl
  · rw [beq_eq_false_iff_ne.2 (by omega),decide_eq_false h]
def tbNh0:=(And.intro (And.intro (And.intro (And.intro @teE (And.intro @rep_one @recsA_pure)) (And.intro @recsA_oneA (And.intro @recsA_len @recsA_snoc))) (And.intro (And.intro @ESC_te (And.intro @ESC_glob @ESC_gs)) (And.intro @ESC_dyn (And.intro @ESC_mu @ESC_o)))) (And.intro (And.intro (And.intro @ev4 (And.intro @one_at @zeroRec)) (And.intro @recA_len (And.intro @recA_take @recA_drop))) (And.intro (And.intro @recA_snap (And.intro @recA_noview @recA_strip)) (And.intro @recA_oneA (And.intro @splice_rec @splice_rec')))))
theorem sound50 : SoundV Tryd.prog globS 50 pf50:=by
  refine SoundV.walk ESC okSC mixed Tryd.func50 rfl Tryd.call50 (by kernel_rfl) ?_
  intro args r hr
  unfold pf50 at hr
  split at hr
  · simp only [Option.bind_eq_some_iff] at hr
    obtain ⟨b,h1,hr⟩:=hr
    split at hr
    · rename_i hc
      cases hr
      obtain ⟨fl,rfl⟩:=row?_of h1
      rw [Tryd.ntmps50,Tryd.results50]
      refine ⟨by simp,?_⟩
      simp (maxSteps:=1000000) (disch:=first | omega | (simp only [nums_len,lnB] <;> omega) | fail) only [ev0,ev1,ev2,ev3,↓reduceIte,reduceCtorEq,zaa,zab,zac,zad,zae,zaf,zag,zah,zai,zaj,zak,zal,zam,zan,zao,zap,zaq,↓zar,↓zas,zat,zau,zav,zaw,zax,zay,zaz,zba,zbb,zbc,zbd,zbe,zbf,zbg,zbh,zbi,zbj,zbk,zbl,zbm,zbn,zbo,zbp,zbq,zbr,zbs,zbt,zbu,zbv,zbw,zbx,zby,zbz,zca,zcb,zcc,zcd,zce,zcf,zcg,zch,zci,zcj,zck,zcl,zcm,zcn,zco,zcp,zcq,zcr,zcs,zct,zcu,zcv,zcw,zcx,zcy,zcz,zda,zdb,zdc,zdd,zde,zdf,zdg,zdh,zdi,zdj,zdk,zdl,zdm,ev5,tbNh0,List.length_cons,globS,List.size_toArray,Array.size_empty,List.length_nil,List.map_nil,List.all_nil,List.drop_zero]
      refine loopQ_wk _ (Wk.at (d := 2) (v := .sl 0 [] (.own ⟨0,2,0,0⟩ 10)) (by simp (maxSteps := 1000000) (disch := first | omega | (simp only [nums_len,lnB] <;> omega) | fail) only [ev0,ev1,ev2,ev3,↓reduceIte,reduceCtorEq,zaa,zab,zac,zad,zae,zaf,zag,zah,zai,zaj,zak,zal,zam,zan,zao,zap,zaq,↓zar,↓zas,zat,zau,zav,zaw,zax,zay,zaz,zba,zbb,zbc,zbd,zbe,zbf,zbg,zbh,zbi,zbj,zbk,zbl,zbm,zbn,zbo,zbp,zbq,zbr,zbs,zbt,zbu,zbv,zbw,zbx,zby,zbz,zca,zcb,zcc,zcd,zce,zcf,zcg,zch,zci,zcj,zck,zcl,zcm,zcn,zco,zcp,zcq,zcr,zcs,zct,zcu,zcv,zcw,zcx,zcy,zcz,zda,zdb,zdc,zdd,zde,zdf,zdg,zdh,zdi,zdj,zdk,zdl,zdm,ev5,tbNh0,List.length_cons,globS,List.size_toArray,Array.size_empty,List.length_nil,List.map_nil,List.all_nil,List.drop_zero]; exact .nil 2 10)) (fun m σ => ∃ n l i,n ≤ b.length ∧ m = b.length - n ∧ l.length ≤ n ∧ (scanF oneS b).1 = l ++ (scanF oneS (b.drop n)).1 ∧ (scanF oneS b).2 = n + (scanF oneS (b.drop n)).2 ∧ σ.slots 3 = .raw (.int .i64 (n : Int)) ∧ σ.slots 0 = .sl b.length (nums .u8 b) .bor ∧
        σ.slots 2 = .sl l.length (recsA l) (.own i 10) ∧ Free σ.used (σ.gen 20) 20 i) b.length ?_ ?_
      · refine ⟨0,[],⟨0,2,0,0⟩,by omega,by omega,by simp,by simp,by simp,?_⟩
        simp (maxSteps:=1000000) (disch:=first | omega | (simp only [nums_len,lnB] <;> omega) | fail) only [ev0,ev1,ev2,ev3,↓reduceIte,reduceCtorEq,zaa,zab,zac,zad,zae,zaf,zag,zah,zai,zaj,zak,zal,zam,zan,zao,zap,zaq,↓zar,↓zas,zat,zau,zav,zaw,zax,zay,zaz,zba,zbb,zbc,zbd,zbe,zbf,zbg,zbh,zbi,zbj,zbk,zbl,zbm,zbn,zbo,zbp,zbq,zbr,zbs,zbt,zbu,zbv,zbw,zbx,zby,zbz,zca,zcb,zcc,zcd,zce,zcf,zcg,zch,zci,zcj,zck,zcl,zcm,zcn,zco,zcp,zcq,zcr,zcs,zct,zcu,zcv,zcw,zcx,zcy,zcz,zda,zdb,zdc,zdd,zde,zdf,zdg,zdh,zdi,zdj,zdk,zdl,zdm,ev5,tbNh0,List.length_cons,globS,List.size_toArray,Array.size_empty,List.length_nil,List.map_nil,List.all_nil,List.drop_zero]
        exact ⟨rfl,rfl,⟨rfl,fun _ _=>rfl,by simp⟩⟩
      · rintro m ⟨sl,gn,bx,us⟩ ⟨n,l,i,hn,rfl,hl,hs1,hs2,s3,s0,s2,hf⟩
        dsimp only at s3 s0 s2 hf
        have hf0:=hf.now
        have hq:=oneS_le (b.drop n)
        rw [List.length_drop] at hq
        by_cases h0 : (oneS (b.drop n)).2 = 0
        · have d0 := decide_eq_true h0
          simp (maxSteps:=1000000) (disch:=first | omega | (simp only [nums_len,lnB] <;> omega) | fail) only [ev0,ev1,ev2,ev3,↓reduceIte,reduceCtorEq,zaa,zab,zac,zad,zae,zaf,zag,zah,zai,zaj,zak,zal,zam,zan,zao,zap,zaq,↓zar,↓zas,zat,zau,zav,zaw,zax,zay,zaz,zba,zbb,zbc,zbd,zbe,zbf,zbg,zbh,zbi,zbj,zbk,zbl,zbm,zbn,zbo,zbp,zbq,zbr,zbs,zbt,zbu,zbv,zbw,zbx,zby,zbz,zca,zcb,zcc,zcd,zce,zcf,zcg,zch,zci,zcj,zck,zcl,zcm,zcn,zco,zcp,zcq,zcr,zcs,zct,zcu,zcv,zcw,zcx,zcy,zcz,zda,zdb,zdc,zdd,zde,zdf,zdg,zdh,zdi,zdj,zdk,zdl,zdm,ev5,tbNh0,List.length_cons,globS,List.size_toArray,Array.size_empty,List.length_nil,List.map_nil,List.all_nil,List.drop_zero,s3,s0,s2,hf0,dec0,d0]
          rw [scanF_no h0] at hs1 hs2
          rw [hs1,hs2,List.append_nil]
          exact resQ_2r
        · have d0 := decide_eq_false h0
          simp (maxSteps:=1000000) (disch:=first | omega | (simp only [nums_len,lnB] <;> omega) | fail) only [ev0,ev1,ev2,ev3,↓reduceIte,reduceCtorEq,zaa,zab,zac,zad,zae,zaf,zag,zah,zai,zaj,zak,zal,zam,zan,zao,zap,zaq,↓zar,↓zas,zat,zau,zav,zaw,zax,zay,zaz,zba,zbb,zbc,zbd,zbe,zbf,zbg,zbh,zbi,zbj,zbk,zbl,zbm,zbn,zbo,zbp,zbq,zbr,zbs,zbt,zbu,zbv,zbw,zbx,zby,zbz,zca,zcb,zcc,zcd,zce,zcf,zcg,zch,zci,zcj,zck,zcl,zcm,zcn,zco,zcp,zcq,zcr,zcs,zct,zcu,zcv,zcw,zcx,zcy,zcz,zda,zdb,zdc,zdd,zde,zdf,zdg,zdh,zdi,zdj,zdk,zdl,zdm,ev5,tbNh0,List.length_cons,globS,List.size_toArray,Array.size_empty,List.length_nil,List.map_nil,List.all_nil,List.drop_zero,s3,s0,s2,hf0,dec0,d0]
          have hg:=scanF_go oneS_le h0
          rw [List.drop_drop] at hg
          refine ⟨b.length - (n + (oneS (b.drop n)).2),by omega,n + (oneS (b.drop n)).2,l ++ [(oneS (b.drop n)).1],⟨0,20,0,gn 20 + 1⟩,by omega,rfl,by rw [List.length_append,List.length_singleton]; omega,?_,?_,i64_eq (by omega),?_,hf.go⟩
          · rw [hs1,hg]; simp
          · rw [hs2,hg]; dsimp only; omega
          · rw [List.length_append,List.length_singleton]
    · cases hr
  · cases hr
end Go.Proofs.YtddeffdgldjdjaaDoor.W
/- Rows of entries; a clone of one; the last entry's index: what the walks come to. -/
namespace Go.Proofs.YtddeffdgldjdjaaDoor.W
set_option linter.unusedSimpArgs false
set_option linter.unusedVariables false
set_option linter.defProp false
open Go Go.Abs
set_option maxHeartbeats 16000000
def entsA (l : List Eny) : List AV:=l.flatMap entA
theorem entsA_len (l : List Eny) : (entsA l).length = l.length * 4:=by
  induction l with
  | nil=>rfl
  | cons r l ih=>rw [entsA,List.flatMap_cons,List.length_append,← entsA,ih,entA_len,List.length_cons]; omega
theorem entsA_snoc (l : List Eny) (r : Eny) : entsA l ++ entA r = entsA (l ++ [r]):=by simp [entsA]
theorem entsA_nil : entsA [] = []:=rfl
theorem entsA_cons (e : Eny) (l : List Eny) : entsA (e :: l) = entA e ++ entsA l:=rfl
theorem entsA_oneA (l : List Eny) : (entsA l).all oneA = true:=by
  rw [List.all_eq_true]
  intro x hx
  obtain ⟨r,_,hx⟩:=List.mem_flatMap.1 hx
  exact List.all_eq_true.1 (entA_one r) x hx
theorem entA_pure (e : Eny) : pureL (entA e) = true:=by
  obtain ⟨a,b,c,d⟩:=e
  cases c <;> cases d <;> simp only [entA,btA,itA,pureA,pureL,nums_pure,ints_pure] <;> rfl
theorem entsA_pure (l : List Eny) : pureL (entsA l) = true:=by
  induction l with
  | nil=>rfl
  | cons r l ih=>rw [entsA_cons,pureL_append,entA_pure,ih]; rfl
theorem entsA_drop (l : List Eny) (k : Nat) : (entsA l).drop (k * 4) = entsA (l.drop k):=by
  induction k generalizing l with
  | zero=>simp
  | succ k ih =>
    cases l with
    | nil=>simp [entsA]
    | cons e l =>
      rw [entsA_cons,List.drop_succ_cons,← ih l,show (k + 1) * 4 = (entA e).length + k * 4 by rw [entA_len]; omega,List.drop_append]
      simp [entA_len]
theorem entsA_take (l : List Eny) (k : Nat) : (entsA l).take (k * 4) = entsA (l.take k):=by
  induction k generalizing l with
  | zero=>simp [entsA]
  | succ k ih =>
    cases l with
    | nil=>simp [entsA]
    | cons e l =>
      rw [entsA_cons,List.take_succ_cons,entsA_cons,← ih l,show (k + 1) * 4 = (entA e).length + k * 4 by rw [entA_len]; omega,List.take_append]
      simp [entA_len]
      exact List.take_of_length_le (by rw [entA_len]; omega)
theorem entsA_inj : ∀ {l m : List Eny},entsA l = entsA m → l = m
  | [],[],_=>rfl
  | [],e :: m,h=>by have:=congrArg List.length h; rw [entsA_len,entsA_len,List.length_cons] at this; simp at this
  | e :: l,[],h=>by have:=congrArg List.length h; rw [entsA_len,entsA_len,List.length_cons] at this; simp at this
  | a :: l,b :: m,h=>by
    rw [entsA_cons,entsA_cons] at h
    obtain ⟨h1,h2⟩:=List.append_inj h rfl
    rw [entA_inj h1,entsA_inj h2]
noncomputable def ents? (v : AV) : Option (List Eny):=open Classical in if h : ∃ l fl,v = .sl (l : List Eny).length (entsA l) fl then some h.choose else none
theorem ents?_of {v : AV} {l : List Eny} (h : ents? v = some l) : ∃ fl,v = .sl l.length (entsA l) fl:=by
  unfold ents? at h
  split at h
  · rename_i h0; cases h; exact h0.choose_spec
  · cases h
theorem ents?_at {n : Nat} {l : List Eny} {fl : Fl} (h : n = l.length) : ents? (.sl n (entsA l) fl) = some l:=by
  subst h
  have h0 : ∃ (m : List Eny) (gl : Fl),AV.sl l.length (entsA l) fl = .sl m.length (entsA m) gl:=⟨l,fl,rfl⟩
  unfold ents?
  rw [dif_pos h0]
  obtain ⟨gl,hs⟩:=h0.choose_spec
  injection hs with _ hs2 _
  exact congrArg some (entsA_inj hs2).symm
noncomputable def pf87 : List AV → Option AV
  | [v]=>(ents? v).bind fun l=>if l.length ≤ 1000000000 then some (.sl l.length (entsA l) (.own ⟨0,0,0,0⟩ 4)) else none
  | _=>none
theorem pf87_at {n : Nat} {l : List Eny} {fl : Fl} (h : n = l.length) (h2 : l.length ≤ 1000000000) : pf87 [.sl n (entsA l) fl] = some (.sl l.length (entsA l) (.own ⟨0,0,0,0⟩ 4)):=by
  simp only [pf87,ents?_at h,Option.bind_some,if_pos h2]
theorem rep_zero (xs : List AV) : rep 0 xs = []:=rfl
def tbNi0:=(And.intro (And.intro (And.intro @teE (And.intro @ES0_te @ES0_glob)) (And.intro @ES0_gs (And.intro @ES0_dyn @ES0_mu))) (And.intro (And.intro @ev4 (And.intro @rep_zero @entsA_len)) (And.intro @entsA_oneA (And.intro @entsA_pure @entsA_nil))))
theorem sound87 : SoundV Tryd.prog globS 87 pf87:=by
  refine SoundV.walk ES0 okS0 mixed Tryd.func87 rfl Tryd.call87 (by kernel_rfl) ?_
  intro args r h
  unfold pf87 at h
  split at h
  · simp only [Option.bind_eq_some_iff] at h
    obtain ⟨m,h1,h2⟩:=h
    split at h2
    · rename_i hm
      cases h2
      obtain ⟨fl,rfl⟩:=ents?_of h1
      rw [Tryd.ntmps87,Tryd.results87]
      refine ⟨by simp,?_⟩
      by_cases h0 : m.length = 0
      · have : m = [] := List.eq_nil_of_length_eq_zero h0
        subst this
        simp (maxSteps:=1000000) (disch:=first | omega | (simp only [nums_len,lnB] <;> omega) | fail) only [ev0,ev1,ev2,ev3,↓reduceIte,reduceCtorEq,Nat.reduceAdd,Nat.reduceSub,Nat.reduceMul,Nat.reduceLT,Nat.reduceLeDiff,Nat.reduceEqDiff,Nat.reduceBEq,BitVec.reduceOfInt,Int.reduceLE,Int.reduceLT,Int.reduceGT,Int.reduceGE,Int.reduceNeg,Int.reduceAdd,Int.reduceSub,Int.reduceMul,Int.reduceToNat,↓bind_go,↓map_go,wantedV,isWrite,grow,write,ofV,AV.cells,Abs.start,Abs.strip,endQ,resV,rawsRes,rawRes,exports,export1,AS.grown,AS.put,Env.know,Env.boxed,isSelf,convSelf,convV,loadV,storeV,fieldAddrV,fieldV,indexAddrV,indexV,partV,isAggK,isStr,place,ipS,lenV,min2V,makeV,freshSl,sliceV,boundOr,bound,bounds,cutFl,copyV,slCells,srcV,appendV,room,zerosOf,eqNeg,kd,takeR,hasViewL,hasView,freshR,freshC,snapAll,snap,snapL,flatL,pureL,pureA,fillC,arrOK,oneA,partB,AV.laid,ren1,CR.gr,applyW,useL,AS.mute,isGen,startG,ev5,tbNi0,globS,List.size_toArray,Array.size_empty,List.length_nil,List.nil_append,Nat.zero_mul,Nat.zero_add]
        exact ⟨ResQ.nil 4,ResQ.same rfl⟩
      · simp (maxSteps := 1000000) (disch := first | omega | (simp only [nums_len,lnB] <;> omega) | fail) only [ev0,ev1,ev2,ev3,↓reduceIte,reduceCtorEq,Nat.reduceAdd,Nat.reduceSub,Nat.reduceMul,Nat.reduceLT,Nat.reduceLeDiff,Nat.reduceEqDiff,Nat.reduceBEq,BitVec.reduceOfInt,Int.reduceLE,Int.reduceLT,Int.reduceGT,Int.reduceGE,Int.reduceNeg,Int.reduceAdd,Int.reduceSub,Int.reduceMul,Int.reduceToNat,↓bind_go,↓map_go,wantedV,isWrite,grow,write,ofV,AV.cells,Abs.start,Abs.strip,endQ,resV,rawsRes,rawRes,exports,export1,AS.grown,AS.put,Env.know,Env.boxed,isSelf,convSelf,convV,loadV,storeV,fieldAddrV,fieldV,indexAddrV,indexV,partV,isAggK,isStr,place,ipS,lenV,min2V,makeV,freshSl,sliceV,boundOr,bound,bounds,cutFl,copyV,slCells,srcV,appendV,room,zerosOf,eqNeg,kd,takeR,hasViewL,hasView,freshR,freshC,snapAll,snap,snapL,flatL,pureL,pureA,fillC,arrOK,oneA,partB,AV.laid,ren1,CR.gr,applyW,useL,AS.mute,isGen,startG,ev5,tbNi0,globS,List.size_toArray,Array.size_empty,List.length_nil,List.nil_append,Nat.zero_mul,Nat.zero_add,h0]
        exact ResQ.same rfl
    · cases h2
  · cases h
structure St where
  h : Int
  v : Int
  i : Int
  t : Int
  f : Int
  es : Option (List Eny)
def esA (es : Option (List Eny)) (fl : Fl) : AV := match es with
  | none=>.raw (.slice none 0 0)
  | some l=>.sl l.length (entsA l) fl
def esL (es : Option (List Eny)) : List Eny := match es with
  | none=>[]
  | some l=>l
def stA (s : St) (fl : Fl) : List AV:=[.raw (.int .i64 s.h),.raw (.int .i64 s.v),.raw (.int .i64 s.i),.raw (.int .i64 s.t),.raw (.int .i64 s.f),esA s.es fl]
theorem esA_none (fl : Fl) : esA none fl = .raw (.slice none 0 0):=rfl
theorem esA_some (l : List Eny) (fl : Fl) : esA (some l) fl = .sl l.length (entsA l) fl:=rfl
theorem esL_none : esL none = []:=rfl
theorem esL_some (l : List Eny) : esL (some l) = l:=rfl
theorem stA_is (s : St) (fl : Fl) : stA s fl = [.raw (.int .i64 s.h),.raw (.int .i64 s.v),.raw (.int .i64 s.i),.raw (.int .i64 s.t),.raw (.int .i64 s.f),esA s.es fl]:=rfl
noncomputable def st? (cs : List AV) : Option St:=open Classical in if h : ∃ s,cs = stA s .bor then some h.choose else none
theorem stA_inj {a b : St} (h : stA a .bor = stA b .bor) : a = b:=by
  obtain ⟨h1,v1,i1,t1,f1,e1⟩:=a
  obtain ⟨h2,v2,i2,t2,f2,e2⟩:=b
  simp only [stA,List.cons.injEq,AV.raw.injEq,Value.int.injEq,true_and,and_true] at h
  obtain ⟨rfl,rfl,rfl,rfl,rfl,he⟩:=h
  cases e1 <;> cases e2 <;> simp only [esA,AV.sl.injEq,reduceCtorEq] at he
  · rfl
  · rw [entsA_inj he.2.1]
theorem st?_of {cs : List AV} {s : St} (h : st? cs = some s) : cs = stA s .bor:=by
  unfold st? at h
  split at h
  · rename_i h0; cases h; exact h0.choose_spec
  · cases h
theorem st?_at (s : St) : st? (stA s .bor) = some s:=by
  have h0 : ∃ e,stA s .bor = stA e .bor:=⟨s,rfl⟩
  unfold st?
  rw [dif_pos h0,stA_inj h0.choose_spec.symm]
noncomputable def pf86 : List AV → Option AV
  | [.iptr cs]=>(st? cs).bind fun s=>if -2000000000000 ≤ s.i ∧ s.i ≤ 2000000000000 ∧ (esL s.es).length ≤ 1000000000 then some (.raw (.int .i64 (s.i + ((esL s.es).length : Int)))) else none
  | _=>none
theorem pf86_at {s : St} (h1 : -2000000000000 ≤ s.i) (h2 : s.i ≤ 2000000000000) (h3 : (esL s.es).length ≤ 1000000000) : pf86 [.iptr (stA s .bor)] = some (.raw (.int .i64 (s.i + ((esL s.es).length : Int)))):=by
  simp only [pf86,st?_at,Option.bind_some]
  exact if_pos ⟨h1,h2,h3⟩
def tbNi1:=(And.intro (And.intro (And.intro @teE (And.intro @ES0_te @ES0_glob)) (And.intro @ES0_gs (And.intro @ES0_dyn @ES0_mu))) (And.intro (And.intro @ev4 (And.intro @stA_is @esA_none)) (And.intro @esA_some (And.intro @esL_none @esL_some))))
theorem sound86 : SoundV Tryd.prog globS 86 pf86:=by
  refine SoundV.walk ES0 okS0 mixed Tryd.func86 rfl Tryd.call86 (by kernel_rfl) ?_
  intro args r h
  unfold pf86 at h
  split at h
  · simp only [Option.bind_eq_some_iff] at h
    obtain ⟨s,h1,h2⟩:=h
    split at h2
    · rename_i hm
      cases h2
      rw [st?_of h1,Tryd.ntmps86,Tryd.results86]
      refine ⟨by simp,?_⟩
      obtain ⟨h,v,i,t,f,e⟩:=s
      obtain ⟨m1,m2,m3⟩:=hm
      dsimp only at m1 m2 m3 ⊢
      cases e with
      | none =>
        simp (maxSteps:=1000000) (disch:=first | omega | (simp only [nums_len,lnB] <;> omega) | fail) only [ev0,ev1,ev2,ev3,↓reduceIte,reduceCtorEq,Nat.reduceAdd,Nat.reduceSub,Nat.reduceMul,Nat.reduceLT,Nat.reduceLeDiff,Nat.reduceEqDiff,Nat.reduceBEq,BitVec.reduceOfInt,Int.reduceLE,Int.reduceLT,Int.reduceGT,Int.reduceGE,Int.reduceNeg,Int.reduceAdd,Int.reduceSub,Int.reduceMul,Int.reduceToNat,↓bind_go,↓map_go,wantedV,isWrite,grow,write,ofV,AV.cells,Abs.start,Abs.strip,endQ,resV,rawsRes,rawRes,exports,export1,AS.grown,AS.put,Env.know,Env.boxed,isSelf,convSelf,convV,loadV,storeV,fieldAddrV,fieldV,indexAddrV,indexV,partV,isAggK,isStr,place,ipS,lenV,min2V,makeV,freshSl,sliceV,boundOr,bound,bounds,cutFl,copyV,slCells,srcV,appendV,room,zerosOf,eqNeg,kd,takeR,hasViewL,hasView,freshR,freshC,snapAll,snap,snapL,flatL,pureL,pureA,fillC,arrOK,oneA,partB,AV.laid,ren1,CR.gr,applyW,useL,AS.mute,isGen,startG,ev5,tbNi1,globS,List.length_nil]
        exact ResQ.same (i64_eq (by simp))
      | some l =>
        simp only [esL] at m3 ⊢
        simp (maxSteps:=1000000) (disch:=first | omega | (simp only [nums_len,lnB] <;> omega) | fail) only [ev0,ev1,ev2,ev3,↓reduceIte,reduceCtorEq,Nat.reduceAdd,Nat.reduceSub,Nat.reduceMul,Nat.reduceLT,Nat.reduceLeDiff,Nat.reduceEqDiff,Nat.reduceBEq,BitVec.reduceOfInt,Int.reduceLE,Int.reduceLT,Int.reduceGT,Int.reduceGE,Int.reduceNeg,Int.reduceAdd,Int.reduceSub,Int.reduceMul,Int.reduceToNat,↓bind_go,↓map_go,wantedV,isWrite,grow,write,ofV,AV.cells,Abs.start,Abs.strip,endQ,resV,rawsRes,rawRes,exports,export1,AS.grown,AS.put,Env.know,Env.boxed,isSelf,convSelf,convV,loadV,storeV,fieldAddrV,fieldV,indexAddrV,indexV,partV,isAggK,isStr,place,ipS,lenV,min2V,makeV,freshSl,sliceV,boundOr,bound,bounds,cutFl,copyV,slCells,srcV,appendV,room,zerosOf,eqNeg,kd,takeR,hasViewL,hasView,freshR,freshC,snapAll,snap,snapL,flatL,pureL,pureA,fillC,arrOK,oneA,partB,AV.laid,ren1,CR.gr,applyW,useL,AS.mute,isGen,startG,ev5,tbNi1,globS,List.length_nil]
        exact ResQ.same rfl
    · cases h2
  · cases h
end Go.Proofs.YtddeffdgldjdjaaDoor.W
