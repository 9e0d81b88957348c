/- A reader of records: numbers and texts are taken,or it panics: what the walks come to. -/
import Derived.Test.YtddeffdgldjdjaaDoorPk
import Derived.Test.YtddeffdgldjdjaaDoorM5
namespace Go.Proofs.YtddeffdgldjdjaaDoor.W
set_option linter.unusedSimpArgs false
set_option linter.unusedVariables false
set_option linter.defProp false
open Go Go.Abs
open Nat renaming reduceAdd→zaa,reduceSub→zab,reduceMul→zac,reduceLT→zad,reduceLeDiff→zae,reduceEqDiff→zaf,reduceBEq→zag
open BitVec renaming reduceOfInt→zah
open Int renaming reduceLE→zai,reduceLT→zaj,reduceGT→zak,reduceGE→zal,reduceNeg→zam,reduceAdd→zan,reduceSub→zao,reduceMul→zap,reduceToNat→zaq
open Go.Abs renaming bind_go→zar,map_go→zas,wantedV→zat,isWrite→zau,grow→zav,write→zaw,ofV→zax,start→zaz,strip→zba,endQ→zbb,resV→zbc,rawsRes→zbd,rawRes→zbe,exports→zbf,export1→zbg,isSelf→zbl,convSelf→zbm,convV→zbn,loadV→zbo,storeV→zbp,fieldAddrV→zbq,fieldV→zbr,indexAddrV→zbs,indexV→zbt,partV→zbu,isAggK→zbv,isStr→zbw,place→zbx,ipS→zby,lenV→zbz,min2V→zca,makeV→zcb,freshSl→zcc,sliceV→zcd,boundOr→zce,bound→zcf,bounds→zcg,cutFl→zch,copyV→zci,slCells→zcj,srcV→zck,appendV→zcl,room→zcm,zerosOf→zcn,eqNeg→zco,kd→zcp,takeR→zcq,hasViewL→zcr,hasView→zcs,freshR→zct,freshC→zcu,snapAll→zcv,snap→zcw,snapL→zcx,flatL→zcy,pureL→zcz,pureA→zda,fillC→zdb,arrOK→zdc,oneA→zdd,partB→zde,ren1→zdg,applyW→zdi,useL→zdj,isGen→zdl,startG→zdm
open Go.Abs.AV renaming cells→zay,laid→zdf
open Go.Abs.AS renaming grown→zbh,put→zbi,mute→zdk
open Go.Abs.Env renaming know→zbj,boxed→zbk
open Go.Abs.CR renaming gr→zdh
set_option maxHeartbeats 16000000
theorem stepV_O : stepV = stepO:=stepO_eq.symm
def brk : Value:=.iface 156 (.agg #[])
def rdB (l : List (BitVec 8)) : List AV:=[.sl l.length (nums .u8 l) .bor]
noncomputable def rdB? : List AV → Option (List (BitVec 8))
  | [v]=>row? .u8 8 (norm v)
  | _=>none
theorem rdB?_of {cs : List AV} {l : List (BitVec 8)} (h : rdB? cs = some l) : (cs = [.raw (.slice none 0 0)] ∧ l = []) ∨ ∃ fl,cs = [.sl l.length (nums .u8 l) fl]:=by
  unfold rdB? at h
  split at h
  · rename_i v
    unfold norm at h
    split at h
    · obtain ⟨fl,h1⟩ := row?_of h
      cases h1' : l with
      | nil=>exact .inl ⟨rfl,rfl⟩
      | cons a m=>rw [h1'] at h1; simp only [AV.sl.injEq,List.length_cons] at h1; omega
    · obtain ⟨fl,h1⟩ := row?_of h
      exact .inr ⟨fl,by rw [h1]⟩
  · cases h
noncomputable def EN : Env:=E4.know 159 (fun xs=>pf165 (xs.map norm))
theorem okNv : EnvOK Tryd.prog EN:=ok4.know sound159.norm
theorem okNP : EnvP Tryd.prog EN {}:=⟨okNv,(fun _ _ _ h=>by simp at h),(fun _ h=>by simp at h)⟩
theorem EN_te : EN.te = te:=rfl
theorem EN_glob : EN.glob = glob:=rfl
theorem EN_gs : EN.gs = []:=rfl
theorem EN_dyn : EN.dyn = false:=rfl
theorem EN_mu (d : Nat) : EN.mu d = false:=rfl
theorem EN_t : EN.tbl 159 = some (.val (fun xs=>pf165 (xs.map norm))):=rfl
theorem p28nil {f : Fl} : pf165 [.sl 0 [] f] = some (.tup [.raw (.int .i64 (tkN [] : Int)),.sl (tkR []).length (nums .u8 (tkR [])) .bor,.raw (.int .i64 (tkE [] : Int))]):=pf165_at (b:=[]) rfl (by decide)
theorem rdB_low {L : Nat} (l : List (BitVec 8)) : lowL L (rdB l) ∧ ∀ x ∈ rdB l,(∀ n ys i z,x = .sl n ys (.own i z)→i.lvl < L ∧ i.gen ≠ 0) ∧ ∀ vs,x ≠ .tup vs:=by
  refine ⟨lowL_pure _ (by simp only [rdB,pureL,pureA,nums_pure]; rfl),fun x hx=>?_⟩
  simp only [rdB,List.mem_cons,List.not_mem_nil,or_false] at hx
  subst hx
  exact ⟨fun _ _ _ _ h=>(by cases h),fun _ h=>(by cases h)⟩
theorem n00 : (((0 : Nat) : Int) != 0) = false:=rfl
theorem tke_nil : tkE [] ≠ 0:=by decide
noncomputable def gx143 (args : List AV) (bx : Boxes) (us : Abs.Id → Bool) : Option CR := match args with
  | [.ptr r 0] => (bx r).bind fun cs => (rdB? cs).bind fun l => if l.length ≤ 150000000000000 then
      (if tkE l = 0 then some { v:=.ret (.raw (.int .i64 (tkN l : Int))),wr:=[(r,rdB (tkR l))] } else some { v:=.pan (.raw brk) }) else none
  | _=>none
def tbNa0:=(And.intro (And.intro (And.intro (And.intro @teE (And.intro @awpP_skip @awpP_label)) (And.intro (And.intro @awpP_exit @awpP_ret) (And.intro @awpP_seq @awpP_draw))) (And.intro (And.intro (And.intro @awpP_region @awpP_cond) (And.intro @awpP_block @awpP_scope)) (And.intro (And.intro @awpP_loop @thenQ_pan) (And.intro @blockQ_pan @regsQO_nil)))) (And.intro (And.intro (And.intro @regsQO_cons (And.intro @stepV_O @EN_te)) (And.intro (And.intro @EN_glob @EN_gs) (And.intro @EN_dyn @EN_mu))) (And.intro (And.intro (And.intro @EN_t @pf165_at) (And.intro @p28nil @n00)) (And.intro (And.intro @norm_nil @norm_sl) (And.intro @own_ne @own_ne')))))
theorem sound143 : SoundX Tryd.prog glob 143 gx143:=by
  refine SoundX.walk EN {} okNP mixed Tryd.func143 rfl Tryd.call143 (by kernel_rfl) ?_
  intro args bx us cr hr
  unfold gx143 at hr
  split at hr
  · rename_i r
    simp only [Option.bind_eq_some_iff] at hr
    obtain ⟨cs,hb,l,hl,hr⟩:=hr
    split at hr
    · rename_i hc
      have hbs : (bx r).isSome:=by rw [hb]; rfl
      rw [Tryd.ntmps143,Tryd.results143]
      refine ⟨by simp,fun L hlow hus hbf=>?_⟩
      have hbL:=(hlow r hbs).1
      rcases rdB?_of hl with ⟨rfl,rfl⟩ | ⟨fl,rfl⟩
      · rw [if_neg tke_nil] at hr
        cases hr
        have d0 : ((tkE [] : Int) != 0) = true:=by rw [bne_iff_ne]; have:=tke_nil; omega
        simp (maxSteps:=1000000) (disch:=first | omega | (simp only [updB,updI,dsB,reduceCtorEq,Nat.reduceEqDiff,Abs.Id.mk.injEq,and_false,false_and,and_true,true_and,if_false,↓reduceIte,Option.isSome_some, *]; done) | (simp only [nums_len,lnB] <;> omega) | fail) only [ev0,ev1,ev2,ev3,↓reduceIte,reduceCtorEq,zaa,zab,zac,zad,zae,zaf,zag,zah,zai,zaj,zak,zal,zam,zan,zao,zap,zaq,↓zar,↓zas,zat,zau,zav,zaw,zax,zay,zaz,zba,zbb,zbc,zbd,zbe,zbf,zbg,zbh,zbi,zbj,zbk,zbl,zbm,zbn,zbo,zbp,zbq,zbr,zbs,zbt,zbu,zbv,zbw,zbx,zby,zbz,zca,zcb,zcc,zcd,zce,zcf,zcg,zch,zci,zcj,zck,zcl,zcm,zcn,zco,zcp,zcq,zcr,zcs,zct,zcu,zcv,zcw,zcx,zcy,zcz,zda,zdb,zdc,zdd,zde,zdf,zdg,zdh,zdi,zdj,zdk,zdl,zdm,ev5,tbNa0,panV,stepP,ifcV,rawOf,rawsOf,endXQ,Option.getD_some,Option.getD_none,glob,Bx.own.injEq,and_false,false_and,and_true,true_and,List.size_toArray,Array.size_empty,List.length_nil,Int.reduceBEq,Int.reduceBNe,beq_self_eq_true,hb,d0]
        exact ⟨rfl,EndG.r0 [] [] rfl .nil rfl (fun _ _=>rfl) (fun _ _=>rfl)⟩
      · by_cases he : tkE l = 0
        · rw [if_pos he] at hr
          cases hr
          simp (maxSteps:=1000000) (disch:=first | omega | (simp only [updB,updI,dsB,reduceCtorEq,Nat.reduceEqDiff,Abs.Id.mk.injEq,and_false,false_and,and_true,true_and,if_false,↓reduceIte,Option.isSome_some, *]; done) | (simp only [nums_len,lnB] <;> omega) | fail) only [ev0,ev1,ev2,ev3,↓reduceIte,reduceCtorEq,zaa,zab,zac,zad,zae,zaf,zag,zah,zai,zaj,zak,zal,zam,zan,zao,zap,zaq,↓zar,↓zas,zat,zau,zav,zaw,zax,zay,zaz,zba,zbb,zbc,zbd,zbe,zbf,zbg,zbh,zbi,zbj,zbk,zbl,zbm,zbn,zbo,zbp,zbq,zbr,zbs,zbt,zbu,zbv,zbw,zbx,zby,zbz,zca,zcb,zcc,zcd,zce,zcf,zcg,zch,zci,zcj,zck,zcl,zcm,zcn,zco,zcp,zcq,zcr,zcs,zct,zcu,zcv,zcw,zcx,zcy,zcz,zda,zdb,zdc,zdd,zde,zdf,zdg,zdh,zdi,zdj,zdk,zdl,zdm,ev5,tbNa0,panV,stepP,ifcV,rawOf,rawsOf,endXQ,Option.getD_some,Option.getD_none,glob,Bx.own.injEq,and_false,false_and,and_true,true_and,List.size_toArray,Array.size_empty,List.length_nil,Int.reduceBEq,Int.reduceBNe,beq_self_eq_true,hb,he]
          refine ⟨_,rfl,?_⟩
          exact EndG.w1 [.raw (.int .i64 (tkN l : Int))] [_] rfl (.one (.raw _)) rfl hbL hbs (fun b' h1 h2=>by simp only [updB,if_neg h2]) updB_self (ExpL.same (rdB_low _)) (fun _ _=>rfl)
        · rw [if_neg he] at hr
          cases hr
          have d0 : ((tkE l : Int) != 0) = true:=by rw [bne_iff_ne]; omega
          simp (maxSteps:=1000000) (disch:=first | omega | (simp only [updB,updI,dsB,reduceCtorEq,Nat.reduceEqDiff,Abs.Id.mk.injEq,and_false,false_and,and_true,true_and,if_false,↓reduceIte,Option.isSome_some, *]; done) | (simp only [nums_len,lnB] <;> omega) | fail) only [ev0,ev1,ev2,ev3,↓reduceIte,reduceCtorEq,zaa,zab,zac,zad,zae,zaf,zag,zah,zai,zaj,zak,zal,zam,zan,zao,zap,zaq,↓zar,↓zas,zat,zau,zav,zaw,zax,zay,zaz,zba,zbb,zbc,zbd,zbe,zbf,zbg,zbh,zbi,zbj,zbk,zbl,zbm,zbn,zbo,zbp,zbq,zbr,zbs,zbt,zbu,zbv,zbw,zbx,zby,zbz,zca,zcb,zcc,zcd,zce,zcf,zcg,zch,zci,zcj,zck,zcl,zcm,zcn,zco,zcp,zcq,zcr,zcs,zct,zcu,zcv,zcw,zcx,zcy,zcz,zda,zdb,zdc,zdd,zde,zdf,zdg,zdh,zdi,zdj,zdk,zdl,zdm,ev5,tbNa0,panV,stepP,ifcV,rawOf,rawsOf,endXQ,Option.getD_some,Option.getD_none,glob,Bx.own.injEq,and_false,false_and,and_true,true_and,List.size_toArray,Array.size_empty,List.length_nil,Int.reduceBEq,Int.reduceBNe,beq_self_eq_true,hb,d0]
          exact ⟨rfl,EndG.r0 [] [] rfl .nil rfl (fun _ _=>rfl) (fun _ _=>rfl)⟩
    · cases hr
  · cases hr
noncomputable def ET : Env:=E4.know 145 (fun xs=>pf145 (xs.map norm))
theorem okT : EnvOK Tryd.prog ET:=ok4.know sound145.norm
theorem okTP : EnvP Tryd.prog ET {}:=⟨okT,(fun _ _ _ h=>by simp at h),(fun _ h=>by simp at h)⟩
theorem ET_te : ET.te = te:=rfl
theorem ET_glob : ET.glob = glob:=rfl
theorem ET_gs : ET.gs = []:=rfl
theorem ET_dyn : ET.dyn = false:=rfl
theorem ET_mu (d : Nat) : ET.mu d = false:=rfl
theorem ET_t : ET.tbl 145 = some (.val (fun xs=>pf145 (xs.map norm))):=rfl
theorem p17_at {n : Nat} {b : List (BitVec 8)} {fl : Fl} (h : n = b.length) (h2 : b.length ≤ 150000000000000) : pf145 [.sl n (nums .u8 b) fl,.raw (.int .i64 4096)] = some (.tup [.sl (ttT b 4096).length (nums .u8 (ttT b 4096)) .bor,.sl (ttR b 4096).length (nums .u8 (ttR b 4096)) .bor,.raw (.int .i64 (ttE b 4096 : Int))]):=by
  simp only [pf145,row?_at h,int?_at,Option.bind_some]
  exact if_pos ⟨h2,by decide⟩
theorem p17nil {f : Fl} : pf145 [.sl 0 [] f,.raw (.int .i64 4096)] = some (.tup [.sl (ttT [] 4096).length (nums .u8 (ttT [] 4096)) .bor,.sl (ttR [] 4096).length (nums .u8 (ttR [] 4096)) .bor,.raw (.int .i64 (ttE [] 4096 : Int))]):=p17_at (b:=[]) rfl (by decide)
theorem tte_nil : ttE [] 4096 ≠ 0:=by decide
noncomputable def gx118 (args : List AV) (bx : Boxes) (us : Abs.Id → Bool) : Option CR := match args with
  | [.ptr r 0] => (bx r).bind fun cs => (rdB? cs).bind fun l => if l.length ≤ 150000000000000 then
      (if ttE l 4096 = 0 then some { v:=.ret (.sl (ttT l 4096).length (nums .u8 (ttT l 4096)) .bor),wr:=[(r,rdB (ttR l 4096))] } else some { v:=.pan (.raw brk) }) else none
  | _=>none
def tbNa1:=(And.intro (And.intro (And.intro (And.intro @teE (And.intro @awpP_skip @awpP_label)) (And.intro (And.intro @awpP_exit @awpP_ret) (And.intro @awpP_seq @awpP_draw))) (And.intro (And.intro (And.intro @awpP_region @awpP_cond) (And.intro @awpP_block @awpP_scope)) (And.intro (And.intro @awpP_loop @thenQ_pan) (And.intro @blockQ_pan @regsQO_nil)))) (And.intro (And.intro (And.intro (And.intro @regsQO_cons @stepV_O) (And.intro @ET_te @ET_glob)) (And.intro (And.intro @ET_gs @ET_dyn) (And.intro @ET_mu @ET_t))) (And.intro (And.intro (And.intro @p17_at @p17nil) (And.intro @n00 @norm_nil)) (And.intro (And.intro @norm_sl @norm_int) (And.intro @own_ne @own_ne')))))
theorem sound118 : SoundX Tryd.prog glob 118 gx118:=by
  refine SoundX.walk ET {} okTP mixed Tryd.func118 rfl Tryd.call118 (by kernel_rfl) ?_
  intro args bx us cr hr
  unfold gx118 at hr
  split at hr
  · rename_i r
    simp only [Option.bind_eq_some_iff] at hr
    obtain ⟨cs,hb,l,hl,hr⟩:=hr
    split at hr
    · rename_i hc
      have hbs : (bx r).isSome:=by rw [hb]; rfl
      rw [Tryd.ntmps118,Tryd.results118]
      refine ⟨by simp,fun L hlow hus hbf=>?_⟩
      have hbL:=(hlow r hbs).1
      rcases rdB?_of hl with ⟨rfl,rfl⟩ | ⟨fl,rfl⟩
      · rw [if_neg tte_nil] at hr
        cases hr
        have d0 : ((ttE [] 4096 : Int) != 0) = true:=by rw [bne_iff_ne]; have:=tte_nil; omega
        simp (maxSteps:=1000000) (disch:=first | omega | (simp only [updB,updI,dsB,reduceCtorEq,Nat.reduceEqDiff,Abs.Id.mk.injEq,and_false,false_and,and_true,true_and,if_false,↓reduceIte,Option.isSome_some, *]; done) | (simp only [nums_len,lnB] <;> omega) | fail) only [ev0,ev1,ev2,ev3,↓reduceIte,reduceCtorEq,zaa,zab,zac,zad,zae,zaf,zag,zah,zai,zaj,zak,zal,zam,zan,zao,zap,zaq,↓zar,↓zas,zat,zau,zav,zaw,zax,zay,zaz,zba,zbb,zbc,zbd,zbe,zbf,zbg,zbh,zbi,zbj,zbk,zbl,zbm,zbn,zbo,zbp,zbq,zbr,zbs,zbt,zbu,zbv,zbw,zbx,zby,zbz,zca,zcb,zcc,zcd,zce,zcf,zcg,zch,zci,zcj,zck,zcl,zcm,zcn,zco,zcp,zcq,zcr,zcs,zct,zcu,zcv,zcw,zcx,zcy,zcz,zda,zdb,zdc,zdd,zde,zdf,zdg,zdh,zdi,zdj,zdk,zdl,zdm,ev5,tbNa1,panV,stepP,ifcV,rawOf,rawsOf,endXQ,Option.getD_some,Option.getD_none,glob,Bx.own.injEq,and_false,false_and,and_true,true_and,List.size_toArray,Array.size_empty,List.length_nil,Int.reduceBEq,Int.reduceBNe,beq_self_eq_true,hb,d0]
        exact ⟨rfl,EndG.r0 [] [] rfl .nil rfl (fun _ _=>rfl) (fun _ _=>rfl)⟩
      · by_cases he : ttE l 4096 = 0
        · rw [if_pos he] at hr
          cases hr
          simp (maxSteps:=1000000) (disch:=first | omega | (simp only [updB,updI,dsB,reduceCtorEq,Nat.reduceEqDiff,Abs.Id.mk.injEq,and_false,false_and,and_true,true_and,if_false,↓reduceIte,Option.isSome_some, *]; done) | (simp only [nums_len,lnB] <;> omega) | fail) only [ev0,ev1,ev2,ev3,↓reduceIte,reduceCtorEq,zaa,zab,zac,zad,zae,zaf,zag,zah,zai,zaj,zak,zal,zam,zan,zao,zap,zaq,↓zar,↓zas,zat,zau,zav,zaw,zax,zay,zaz,zba,zbb,zbc,zbd,zbe,zbf,zbg,zbh,zbi,zbj,zbk,zbl,zbm,zbn,zbo,zbp,zbq,zbr,zbs,zbt,zbu,zbv,zbw,zbx,zby,zbz,zca,zcb,zcc,zcd,zce,zcf,zcg,zch,zci,zcj,zck,zcl,zcm,zcn,zco,zcp,zcq,zcr,zcs,zct,zcu,zcv,zcw,zcx,zcy,zcz,zda,zdb,zdc,zdd,zde,zdf,zdg,zdh,zdi,zdj,zdk,zdl,zdm,ev5,tbNa1,panV,stepP,ifcV,rawOf,rawsOf,endXQ,Option.getD_some,Option.getD_none,glob,Bx.own.injEq,and_false,false_and,and_true,true_and,List.size_toArray,Array.size_empty,List.length_nil,Int.reduceBEq,Int.reduceBNe,beq_self_eq_true,hb,he]
          refine ⟨_,rfl,?_⟩
          exact EndG.w1 [_] [_] rfl (.one (.bor _ _ _ (lowL_pure _ (nums_pure _)))) rfl hbL hbs (fun b' h1 h2=>by simp only [updB,if_neg h2]) updB_self (ExpL.same (rdB_low _)) (fun _ _=>rfl)
        · rw [if_neg he] at hr
          cases hr
          have d0 : ((ttE l 4096 : Int) != 0) = true:=by rw [bne_iff_ne]; omega
          simp (maxSteps:=1000000) (disch:=first | omega | (simp only [updB,updI,dsB,reduceCtorEq,Nat.reduceEqDiff,Abs.Id.mk.injEq,and_false,false_and,and_true,true_and,if_false,↓reduceIte,Option.isSome_some, *]; done) | (simp only [nums_len,lnB] <;> omega) | fail) only [ev0,ev1,ev2,ev3,↓reduceIte,reduceCtorEq,zaa,zab,zac,zad,zae,zaf,zag,zah,zai,zaj,zak,zal,zam,zan,zao,zap,zaq,↓zar,↓zas,zat,zau,zav,zaw,zax,zay,zaz,zba,zbb,zbc,zbd,zbe,zbf,zbg,zbh,zbi,zbj,zbk,zbl,zbm,zbn,zbo,zbp,zbq,zbr,zbs,zbt,zbu,zbv,zbw,zbx,zby,zbz,zca,zcb,zcc,zcd,zce,zcf,zcg,zch,zci,zcj,zck,zcl,zcm,zcn,zco,zcp,zcq,zcr,zcs,zct,zcu,zcv,zcw,zcx,zcy,zcz,zda,zdb,zdc,zdd,zde,zdf,zdg,zdh,zdi,zdj,zdk,zdl,zdm,ev5,tbNa1,panV,stepP,ifcV,rawOf,rawsOf,endXQ,Option.getD_some,Option.getD_none,glob,Bx.own.injEq,and_false,false_and,and_true,true_and,List.size_toArray,Array.size_empty,List.length_nil,Int.reduceBEq,Int.reduceBNe,beq_self_eq_true,hb,d0]
          exact ⟨rfl,EndG.r0 [] [] rfl .nil rfl (fun _ _=>rfl) (fun _ _=>rfl)⟩
    · cases hr
  · cases hr
end Go.Proofs.YtddeffdgldjdjaaDoor.W
