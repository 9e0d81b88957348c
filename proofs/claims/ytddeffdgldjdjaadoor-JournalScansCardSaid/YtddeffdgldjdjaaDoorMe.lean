/- What the reader's methods do to its box. -/
import Derived.Test.YtddeffdgldjdjaaDoorMd
namespace Go.Proofs.YtddeffdgldjdjaaDoor.W
set_option linter.unusedSimpArgs false
set_option linter.unusedVariables false
set_option linter.defProp false
open Go Go.Abs
open Nat renaming reduceAdd→zaa,reduceSub→zab,reduceMul→zac,reduceLT→zad,reduceLeDiff→zae,reduceEqDiff→zaf,reduceBEq→zag
open BitVec renaming reduceOfInt→zah
open Int renaming reduceLE→zai,reduceLT→zaj,reduceGT→zak,reduceGE→zal,reduceNeg→zam,reduceAdd→zan,reduceSub→zao,reduceMul→zap,reduceToNat→zaq
open Go.Abs renaming bind_go→zar,map_go→zas,wantedV→zat,isWrite→zau,grow→zav,write→zaw,ofV→zax,start→zaz,strip→zba,endQ→zbb,resV→zbc,rawsRes→zbd,rawRes→zbe,exports→zbf,export1→zbg,isSelf→zbl,convSelf→zbm,convV→zbn,loadV→zbo,storeV→zbp,fieldAddrV→zbq,fieldV→zbr,indexAddrV→zbs,indexV→zbt,partV→zbu,isAggK→zbv,isStr→zbw,place→zbx,ipS→zby,lenV→zbz,min2V→zca,makeV→zcb,freshSl→zcc,sliceV→zcd,boundOr→zce,bound→zcf,bounds→zcg,cutFl→zch,copyV→zci,slCells→zcj,srcV→zck,appendV→zcl,room→zcm,zerosOf→zcn,eqNeg→zco,kd→zcp,takeR→zcq,hasViewL→zcr,hasView→zcs,freshR→zct,freshC→zcu,snapAll→zcv,snap→zcw,snapL→zcx,flatL→zcy,pureL→zcz,pureA→zda,fillC→zdb,arrOK→zdc,oneA→zdd,partB→zde,ren1→zdg,applyW→zdi,useL→zdj,isGen→zdl,startG→zdm
open Go.Abs.AV renaming cells→zay,laid→zdf
open Go.Abs.AS renaming grown→zbh,put→zbi,mute→zdk
open Go.Abs.Env renaming know→zbj,boxed→zbk
open Go.Abs.CR renaming gr→zdh
set_option maxHeartbeats 8000000
def rdA (p : List (BitVec 8) × Int) : List AV:=[.sl p.1.length (nums .u8 p.1) .bor,.raw (.int .i64 p.2)]
theorem rdA_inj {p q : List (BitVec 8) × Int} (h : rdA p = rdA q) : p = q:=by
  obtain ⟨l,e⟩:=p
  obtain ⟨l',e'⟩:=q
  simp only [rdA,List.cons.injEq,AV.raw.injEq,AV.sl.injEq,Value.int.injEq,true_and,and_true] at h
  rw [nums_inj8 h.1.2,h.2]
noncomputable def rd? (cs : List AV) : Option (List (BitVec 8) × Int):=open Classical in if h : ∃ c,cs = rdA c then some h.choose else none
theorem rd?_of {cs : List AV} {c : List (BitVec 8) × Int} (h : rd? cs = some c) : cs = rdA c:=by
  unfold rd? at h
  split at h
  · rename_i h0; cases h; exact h0.choose_spec
  · cases h
theorem rd?_at (c : List (BitVec 8) × Int) : rd? (rdA c) = some c:=by
  have h0 : ∃ e,rdA c = rdA e:=⟨c,rfl⟩
  unfold rd?
  rw [dif_pos h0,rdA_inj h0.choose_spec.symm]
theorem rdA_ren (l s g : Nat) (c : List (BitVec 8) × Int) : (rdA c).map (ren1 l s g) = rdA c:=rfl
theorem rdA_len (c : List (BitVec 8) × Int) : (rdA c).length = 2:=rfl
theorem rdA_0 (c : List (BitVec 8) × Int) : (rdA c)[0]? = some (.sl c.1.length (nums .u8 c.1) .bor):=rfl
theorem rdA_1 (c : List (BitVec 8) × Int) : (rdA c)[1]? = some (.raw (.int .i64 c.2)):=rfl
theorem rdA_low {L : Nat} (c : List (BitVec 8) × Int) : lowL L (rdA c) ∧ ∀ x ∈ rdA c,(∀ n ys i z,x = .sl n ys (.own i z)→i.lvl < L ∧ i.gen ≠ 0) ∧ ∀ vs,x ≠ .tup vs:=by
  refine ⟨lowL_pure _ (by simp only [rdA,pureL,pureA,nums_pure]; rfl),fun x hx=>?_⟩
  simp only [rdA,List.mem_cons,List.not_mem_nil,or_false] at hx
  rcases hx with rfl | rfl
  · exact ⟨fun _ _ _ _ h=>(by cases h),fun _ h=>(by cases h)⟩
  · exact ⟨fun _ _ _ _ h=>(by cases h),fun _ h=>(by cases h)⟩
theorem sl_low {L n : Nat} {l : List (BitVec 8)} : lowA L (.sl n (nums .u8 l) .bor):=lowA_pure _ (by simp only [pureA]; exact nums_pure l)
theorem isl_low {L n : Nat} {l : List Int} : lowA L (.sl n (ints .i64 l) .bor):=lowA_pure _ (by simp only [pureA]; exact ints_pure l)
def rN (p : List (BitVec 8) × Int) : Int:=if p.2 = 0 then (tkN p.1 : Int) else 0
def rS (p : List (BitVec 8) × Int) : List (BitVec 8) × Int:=if p.2 = 0 then (tkR p.1,(tkE p.1 : Int)) else p
def tN (p : List (BitVec 8) × Int) : List (BitVec 8):=if p.2 = 0 then ttT p.1 4096 else []
def tS (p : List (BitVec 8) × Int) : List (BitVec 8) × Int:=if p.2 = 0 then (ttR p.1 4096,(ttE p.1 4096 : Int)) else p
def lN (m : Int) (p : List (BitVec 8) × Int) : List Int:=if p.2 = 0 then tlL p.1 m else []
def lS (m : Int) (p : List (BitVec 8) × Int) : List (BitVec 8) × Int:=if p.2 = 0 then (tlR p.1 m,(tlE p.1 m : Int)) else p
noncomputable def gf160 (args : List AV) (bx : Boxes) (us : Abs.Id → Bool) : Option CR := match args with
  | [.ptr r 0]=>(bx r).bind fun cs=>(rd? cs).bind fun p=>if p.1.length ≤ 150000000000000 then some { v:=.ret (.raw (.int .i64 (rN p))),wr:=[(r,rdA (rS p))] } else none
  | _=>none
noncomputable def gf161 (args : List AV) (bx : Boxes) (us : Abs.Id → Bool) : Option CR := match args with
  | [.ptr r 0]=>(bx r).bind fun cs=>(rd? cs).bind fun p=>if p.1.length ≤ 150000000000000 then some { v:=.ret (.sl (tN p).length (nums .u8 (tN p)) .bor),wr:=[(r,rdA (tS p))] } else none
  | _=>none
noncomputable def gf162 (args : List AV) (bx : Boxes) (us : Abs.Id → Bool) : Option CR := match args with
  | [.ptr r 0,.raw (.int .i64 m)]=>(bx r).bind fun cs=>(rd? cs).bind fun p=>if p.1.length ≤ 150000000000000 ∧ -9223372036854775808 ≤ m ∧ m ≤ 1000000 then some { v:=.ret (.sl (lN m p).length (ints .i64 (lN m p)) .bor),wr:=[(r,rdA (lS m p))] } else none
  | _=>none
theorem take_at {n : Nat} {b : List (BitVec 8)} {fl : Fl} (h : n = b.length) (h2 : b.length ≤ 150000000000000) : pf165 [.sl n (nums .u8 b) fl] = some (.tup [.raw (.int .i64 (tkN b : Int)),.sl (tkR b).length (nums .u8 (tkR b)) .bor,.raw (.int .i64 (tkE b : Int))]):=pf165_at h h2
theorem ttake_at {n : Nat} {b : List (BitVec 8)} {m : Int} {fl : Fl} (h : n = b.length) (h2 : b.length ≤ 150000000000000) (h3 : i64ok m) : pf145 [.sl n (nums .u8 b) fl,.raw (.int .i64 m)] = some (.tup [.sl (ttT b m).length (nums .u8 (ttT b m)) .bor,.sl (ttR b m).length (nums .u8 (ttR b m)) .bor,.raw (.int .i64 (ttE b m : Int))]):=by
  simp only [pf145,row?_at h,int?_at,Option.bind_some,if_pos (And.intro h2 h3)]
theorem ltake_at {n : Nat} {b : List (BitVec 8)} {m : Int} {fl : Fl} (h : n = b.length) (h2 : b.length ≤ 150000000000000) (h3 : -9223372036854775808 ≤ m ∧ m ≤ 1000000) : pf169 [.sl n (nums .u8 b) fl,.raw (.int .i64 m)] = some (.tup [.sl (tlL b m).length (ints .i64 (tlL b m)) .bor,.sl (tlR b m).length (nums .u8 (tlR b m)) .bor,.raw (.int .i64 (tlE b m : Int))]):=by
  simp only [pf169,row?_at h,int?_at,Option.bind_some,if_pos (And.intro h2 h3)]
theorem ok4096 : i64ok 4096:=by decide
theorem EX_13 : EX.tbl 159 = some (.val (fun xs=>pf165 (xs.map norm))):=rfl
theorem EX_17 : EX.tbl 145 = some (.val (fun xs=>pf145 (xs.map norm))):=rfl
theorem EX_22 : EX.tbl 169 = some (.val (fun xs=>pf169 (xs.map norm))):=rfl
theorem splice_rd1 {p : List (BitVec 8) × Int} {x : AV} : splice (rdA p) 0 [x] = [x,.raw (.int .i64 p.2)]:=by simp [splice,rdA]
def tbMe0:=(And.intro (And.intro (And.intro (And.intro (And.intro @teE @entA_strip) (And.intro @entA_snap (And.intro @entA_noview @entA_take))) (And.intro (And.intro @entA_one @dropE) (And.intro @zeroE (And.intro @splice_ent @splice_ent')))) (And.intro (And.intro (And.intro @entA_len @rep1) (And.intro @rep2 (And.intro @rep3 @rep5))) (And.intro (And.intro @one_le (And.intro @le2 @le3)) (And.intro @le5 (And.intro @dr1 @dr2))))) (And.intro (And.intro (And.intro (And.intro @dr3 @dr5) (And.intro @EX_te (And.intro @EX_glob @EX_gs))) (And.intro (And.intro @EX_dyn @EX_mu) (And.intro @EX_13 (And.intro @EX_17 @EX_22)))) (And.intro (And.intro (And.intro @ev4 @take_at) (And.intro @ttake_at (And.intro @ltake_at @rdA_len))) (And.intro (And.intro @rdA_0 (And.intro @rdA_1 @rdA_ren)) (And.intro @splice_rd1 (And.intro @zz0 @zz1))))))
theorem sound160 : SoundG Tryd.prog glob 160 gf160:=by
  refine SoundG.walk EX okX mixed Tryd.func160 rfl Tryd.call160 (by kernel_rfl) ?_
  intro args bx us cr hr
  unfold gf160 at hr
  split at hr
  · rename_i r
    simp only [Option.bind_eq_some_iff] at hr
    obtain ⟨cs,hb,p,hp,hr⟩:=hr
    have:=rd?_of hp
    subst this
    split at hr
    · rename_i hc
      cases hr
      rw [Tryd.ntmps160,Tryd.results160]
      refine ⟨by simp,fun L hlow hus hbf=>?_⟩
      have hbs : (bx r).isSome:=by rw [hb]; rfl
      have hbL:=(hlow r hbs).1
      obtain ⟨l,e⟩:=p
      dsimp only at hc
      by_cases he : e = 0
      · subst he
        simp (maxSteps:=1000000) (disch:=first | omega | exact ok4096 | (simp only [updB,dsB,reduceCtorEq,Nat.reduceEqDiff, *]; done) | (simp only [lnB] <;> omega) | fail) only [ev0,ev1,ev2,ev3,↓reduceIte,reduceCtorEq,zaa,zab,zac,zad,zae,zaf,zag,zah,zai,zaj,zak,zal,zam,zan,zao,zap,zaq,↓zar,↓zas,zat,zau,zav,zaw,zax,zay,zaz,zba,zbb,zbc,zbd,zbe,zbf,zbg,zbh,zbi,zbj,zbk,zbl,zbm,zbn,zbo,zbp,zbq,zbr,zbs,zbt,zbu,zbv,zbw,zbx,zby,zbz,zca,zcb,zcc,zcd,zce,zcf,zcg,zch,zci,zcj,zck,zcl,zcm,zcn,zco,zcp,zcq,zcr,zcs,zct,zcu,zcv,zcw,zcx,zcy,zcz,zda,zdb,zdc,zdd,zde,zdf,zdg,zdh,zdi,zdj,zdk,zdl,zdm,ev5,tbMe0,List.map_nil,List.all_nil,List.drop_zero,glob,List.size_toArray,Array.size_empty,List.length_nil,Int.reduceBEq,Int.reduceBNe,beq_self_eq_true,hb]
        change EndG _ _ _ _ _ _ _
        simp only [rN,rS,↓reduceIte]
        exact EndG.w1 [.raw (.int .i64 (tkN l : Int))] [_] rfl (.cons (.low _ (lowA_pure _ rfl) (by simp) (by simp) (by simp)) .nil) rfl hbL hbs (fun b' h1 h2=>by simp only [updB,if_neg h2]) updB_self (ExpL.same (rdA_low (tkR l,(tkE l : Int)))) (fun _ _=>rfl)
      · have d0 : (e == 0) = false := beq_eq_false_iff_ne.2 he
        simp (maxSteps:=1000000) (disch:=first | omega | exact ok4096 | (simp only [updB,dsB,reduceCtorEq,Nat.reduceEqDiff, *]; done) | (simp only [lnB] <;> omega) | fail) only [ev0,ev1,ev2,ev3,↓reduceIte,reduceCtorEq,zaa,zab,zac,zad,zae,zaf,zag,zah,zai,zaj,zak,zal,zam,zan,zao,zap,zaq,↓zar,↓zas,zat,zau,zav,zaw,zax,zay,zaz,zba,zbb,zbc,zbd,zbe,zbf,zbg,zbh,zbi,zbj,zbk,zbl,zbm,zbn,zbo,zbp,zbq,zbr,zbs,zbt,zbu,zbv,zbw,zbx,zby,zbz,zca,zcb,zcc,zcd,zce,zcf,zcg,zch,zci,zcj,zck,zcl,zcm,zcn,zco,zcp,zcq,zcr,zcs,zct,zcu,zcv,zcw,zcx,zcy,zcz,zda,zdb,zdc,zdd,zde,zdf,zdg,zdh,zdi,zdj,zdk,zdl,zdm,ev5,tbMe0,List.map_nil,List.all_nil,List.drop_zero,glob,List.size_toArray,Array.size_empty,List.length_nil,Int.reduceBEq,Int.reduceBNe,beq_self_eq_true,hb,d0]
        change EndG _ _ _ _ _ _ _
        simp only [rN,rS,if_neg he]
        exact EndG.w1 [.raw (.int .i64 0)] [_] rfl (.cons (.low _ (lowA_pure _ rfl) (by simp) (by simp) (by simp)) .nil) rfl hbL hbs (fun b' h1 h2=>rfl) hb (ExpL.same (rdA_low _)) (fun _ _=>rfl)
    · cases hr
  · cases hr
theorem sound161 : SoundG Tryd.prog glob 161 gf161:=by
  refine SoundG.walk EX okX mixed Tryd.func161 rfl Tryd.call161 (by kernel_rfl) ?_
  intro args bx us cr hr
  unfold gf161 at hr
  split at hr
  · rename_i r
    simp only [Option.bind_eq_some_iff] at hr
    obtain ⟨cs,hb,p,hp,hr⟩:=hr
    have:=rd?_of hp
    subst this
    split at hr
    · rename_i hc
      cases hr
      rw [Tryd.ntmps161,Tryd.results161]
      refine ⟨by simp,fun L hlow hus hbf=>?_⟩
      have hbs : (bx r).isSome:=by rw [hb]; rfl
      have hbL:=(hlow r hbs).1
      obtain ⟨l,e⟩:=p
      dsimp only at hc
      by_cases he : e = 0
      · subst he
        simp (maxSteps:=1000000) (disch:=first | omega | exact ok4096 | (simp only [updB,dsB,reduceCtorEq,Nat.reduceEqDiff, *]; done) | (simp only [lnB] <;> omega) | fail) only [ev0,ev1,ev2,ev3,↓reduceIte,reduceCtorEq,zaa,zab,zac,zad,zae,zaf,zag,zah,zai,zaj,zak,zal,zam,zan,zao,zap,zaq,↓zar,↓zas,zat,zau,zav,zaw,zax,zay,zaz,zba,zbb,zbc,zbd,zbe,zbf,zbg,zbh,zbi,zbj,zbk,zbl,zbm,zbn,zbo,zbp,zbq,zbr,zbs,zbt,zbu,zbv,zbw,zbx,zby,zbz,zca,zcb,zcc,zcd,zce,zcf,zcg,zch,zci,zcj,zck,zcl,zcm,zcn,zco,zcp,zcq,zcr,zcs,zct,zcu,zcv,zcw,zcx,zcy,zcz,zda,zdb,zdc,zdd,zde,zdf,zdg,zdh,zdi,zdj,zdk,zdl,zdm,ev5,tbMe0,List.map_nil,List.all_nil,List.drop_zero,glob,List.size_toArray,Array.size_empty,List.length_nil,Int.reduceBEq,Int.reduceBNe,beq_self_eq_true,hb]
        change EndG _ _ _ _ _ _ _
        simp only [tN,tS,↓reduceIte]
        exact EndG.w1 [.sl (ttT l 4096).length (nums .u8 (ttT l 4096)) .bor] [_] rfl (.cons (.low _ sl_low (by simp) (by simp) (by simp)) .nil) rfl hbL hbs (fun b' h1 h2=>by simp only [updB,if_neg h2]) updB_self (ExpL.same (rdA_low (ttR l 4096,(ttE l 4096 : Int)))) (fun _ _=>rfl)
      · have d0 : (e == 0) = false := beq_eq_false_iff_ne.2 he
        simp (maxSteps:=1000000) (disch:=first | omega | exact ok4096 | (simp only [updB,dsB,reduceCtorEq,Nat.reduceEqDiff, *]; done) | (simp only [lnB] <;> omega) | fail) only [ev0,ev1,ev2,ev3,↓reduceIte,reduceCtorEq,zaa,zab,zac,zad,zae,zaf,zag,zah,zai,zaj,zak,zal,zam,zan,zao,zap,zaq,↓zar,↓zas,zat,zau,zav,zaw,zax,zay,zaz,zba,zbb,zbc,zbd,zbe,zbf,zbg,zbh,zbi,zbj,zbk,zbl,zbm,zbn,zbo,zbp,zbq,zbr,zbs,zbt,zbu,zbv,zbw,zbx,zby,zbz,zca,zcb,zcc,zcd,zce,zcf,zcg,zch,zci,zcj,zck,zcl,zcm,zcn,zco,zcp,zcq,zcr,zcs,zct,zcu,zcv,zcw,zcx,zcy,zcz,zda,zdb,zdc,zdd,zde,zdf,zdg,zdh,zdi,zdj,zdk,zdl,zdm,ev5,tbMe0,List.map_nil,List.all_nil,List.drop_zero,glob,List.size_toArray,Array.size_empty,List.length_nil,Int.reduceBEq,Int.reduceBNe,beq_self_eq_true,hb,d0]
        change EndG _ _ _ _ _ _ _
        simp only [tN,tS,if_neg he]
        exact EndG.w1 [.raw (.slice none 0 0)] [_] rfl (.cons .nilb .nil) rfl hbL hbs (fun b' h1 h2=>rfl) hb (ExpL.same (rdA_low _)) (fun _ _=>rfl)
    · cases hr
  · cases hr
theorem sound162 : SoundG Tryd.prog glob 162 gf162:=by
  refine SoundG.walk EX okX mixed Tryd.func162 rfl Tryd.call162 (by kernel_rfl) ?_
  intro args bx us cr hr
  unfold gf162 at hr
  split at hr
  · rename_i r m
    simp only [Option.bind_eq_some_iff] at hr
    obtain ⟨cs,hb,p,hp,hr⟩:=hr
    have:=rd?_of hp
    subst this
    split at hr
    · rename_i hc
      cases hr
      rw [Tryd.ntmps162,Tryd.results162]
      refine ⟨by simp,fun L hlow hus hbf=>?_⟩
      have hbs : (bx r).isSome:=by rw [hb]; rfl
      have hbL:=(hlow r hbs).1
      obtain ⟨l,e⟩:=p
      dsimp only at hc
      by_cases he : e = 0
      · subst he
        simp (maxSteps:=1000000) (disch:=first | omega | exact ok4096 | (simp only [updB,dsB,reduceCtorEq,Nat.reduceEqDiff, *]; done) | (simp only [lnB] <;> omega) | fail) only [ev0,ev1,ev2,ev3,↓reduceIte,reduceCtorEq,zaa,zab,zac,zad,zae,zaf,zag,zah,zai,zaj,zak,zal,zam,zan,zao,zap,zaq,↓zar,↓zas,zat,zau,zav,zaw,zax,zay,zaz,zba,zbb,zbc,zbd,zbe,zbf,zbg,zbh,zbi,zbj,zbk,zbl,zbm,zbn,zbo,zbp,zbq,zbr,zbs,zbt,zbu,zbv,zbw,zbx,zby,zbz,zca,zcb,zcc,zcd,zce,zcf,zcg,zch,zci,zcj,zck,zcl,zcm,zcn,zco,zcp,zcq,zcr,zcs,zct,zcu,zcv,zcw,zcx,zcy,zcz,zda,zdb,zdc,zdd,zde,zdf,zdg,zdh,zdi,zdj,zdk,zdl,zdm,ev5,tbMe0,List.map_nil,List.all_nil,List.drop_zero,glob,List.size_toArray,Array.size_empty,List.length_nil,Int.reduceBEq,Int.reduceBNe,beq_self_eq_true,hb]
        change EndG _ _ _ _ _ _ _
        simp only [lN,lS,↓reduceIte]
        exact EndG.w1 [.sl (tlL l m).length (ints .i64 (tlL l m)) .bor] [_] rfl (.cons (.low _ isl_low (by simp) (by simp) (by simp)) .nil) rfl hbL hbs (fun b' h1 h2=>by simp only [updB,if_neg h2]) updB_self (ExpL.same (rdA_low (tlR l m,(tlE l m : Int)))) (fun _ _=>rfl)
      · have d0 : (e == 0) = false := beq_eq_false_iff_ne.2 he
        simp (maxSteps:=1000000) (disch:=first | omega | exact ok4096 | (simp only [updB,dsB,reduceCtorEq,Nat.reduceEqDiff, *]; done) | (simp only [lnB] <;> omega) | fail) only [ev0,ev1,ev2,ev3,↓reduceIte,reduceCtorEq,zaa,zab,zac,zad,zae,zaf,zag,zah,zai,zaj,zak,zal,zam,zan,zao,zap,zaq,↓zar,↓zas,zat,zau,zav,zaw,zax,zay,zaz,zba,zbb,zbc,zbd,zbe,zbf,zbg,zbh,zbi,zbj,zbk,zbl,zbm,zbn,zbo,zbp,zbq,zbr,zbs,zbt,zbu,zbv,zbw,zbx,zby,zbz,zca,zcb,zcc,zcd,zce,zcf,zcg,zch,zci,zcj,zck,zcl,zcm,zcn,zco,zcp,zcq,zcr,zcs,zct,zcu,zcv,zcw,zcx,zcy,zcz,zda,zdb,zdc,zdd,zde,zdf,zdg,zdh,zdi,zdj,zdk,zdl,zdm,ev5,tbMe0,List.map_nil,List.all_nil,List.drop_zero,glob,List.size_toArray,Array.size_empty,List.length_nil,Int.reduceBEq,Int.reduceBNe,beq_self_eq_true,hb,d0]
        change EndG _ _ _ _ _ _ _
        simp only [lN,lS,if_neg he]
        exact EndG.w1 [.raw (.slice none 0 0)] [_] rfl (.cons .nilb .nil) rfl hbL hbs (fun b' h1 h2=>rfl) hb (ExpL.same (rdA_low _)) (fun _ _=>rfl)
    · cases hr
  · cases hr
end Go.Proofs.YtddeffdgldjdjaaDoor.W
