/- A record is read,or it panics: what the walk comes to. -/
import Derived.Test.YtddeffdgldjdjaaDoorNa
import Derived.Test.YtddeffdgldjdjaaDoorMg
namespace Go.Proofs.YtddeffdgldjdjaaDoor.W
set_option linter.unusedSimpArgs false
set_option linter.unusedVariables false
set_option linter.defProp false
open Go Go.Abs
open Nat renaming reduceAdd→zaa,reduceSub→zab,reduceMul→zac,reduceLT→zad,reduceLeDiff→zae,reduceEqDiff→zaf,reduceBEq→zag
open BitVec renaming reduceOfInt→zah
open Int renaming reduceLE→zai,reduceLT→zaj,reduceGT→zak,reduceGE→zal,reduceNeg→zam,reduceAdd→zan,reduceSub→zao,reduceMul→zap,reduceToNat→zaq
open Go.Abs renaming bind_go→zar,map_go→zas,wantedV→zat,isWrite→zau,grow→zav,write→zaw,ofV→zax,start→zaz,strip→zba,endQ→zbb,resV→zbc,rawsRes→zbd,rawRes→zbe,exports→zbf,export1→zbg,isSelf→zbl,convSelf→zbm,convV→zbn,loadV→zbo,storeV→zbp,fieldAddrV→zbq,fieldV→zbr,indexAddrV→zbs,indexV→zbt,partV→zbu,isAggK→zbv,isStr→zbw,place→zbx,ipS→zby,lenV→zbz,min2V→zca,makeV→zcb,freshSl→zcc,sliceV→zcd,boundOr→zce,bound→zcf,bounds→zcg,cutFl→zch,copyV→zci,slCells→zcj,srcV→zck,appendV→zcl,room→zcm,zerosOf→zcn,eqNeg→zco,kd→zcp,takeR→zcq,hasViewL→zcr,hasView→zcs,freshR→zct,freshC→zcu,snapAll→zcv,snap→zcw,snapL→zcx,flatL→zcy,pureL→zcz,pureA→zda,fillC→zdb,arrOK→zdc,oneA→zdd,partB→zde,ren1→zdg,applyW→zdi,useL→zdj,isGen→zdl,startG→zdm
open Go.Abs.AV renaming cells→zay,laid→zdf
open Go.Abs.AS renaming grown→zbh,put→zbi,mute→zdk
open Go.Abs.Env renaming know→zbj,boxed→zbk
open Go.Abs.CR renaming gr→zdh
set_option maxHeartbeats 16000000
structure Rec where
  k : Int
  i : Int
  t : Int
  n : Int
  h : Int
  v : Int
  e : Eny
def recA (r : Rec) : List AV:=.raw (.int .i64 r.k) :: .raw (.int .i64 r.i) :: .raw (.int .i64 r.t) :: .raw (.int .i64 r.n) :: .raw (.int .i64 r.h) :: .raw (.int .i64 r.v) :: entA r.e
def noRec : Rec:=⟨0,0,0,0,0,0,noE⟩
def recX (b : List (BitVec 8)) : Option Rec :=
  if tkE b ≠ 0 then none
  else if tkN b = 1 then (if tkE (tkR b) ≠ 0 then none else if tkE (tkR (tkR b)) ≠ 0 then none else some ⟨1,0,0,0,tkN (tkR b),tkN (tkR (tkR b)),noE⟩)
  else if tkN b = 2 then (if tkE (tkR b) ≠ 0 then none else if ttE (tkR (tkR b)) 4096 ≠ 0 then none else if isE (ttT (tkR (tkR b)) 4096) = true then some ⟨2,tkN (tkR b),0,0,0,0,entF (ttT (tkR (tkR b)) 4096)⟩ else none)
  else if tkN b = 3 then (if tkE (tkR b) ≠ 0 then none else if tkE (tkR (tkR b)) ≠ 0 then none else if tkE (tkR (tkR (tkR b))) ≠ 0 then none else some ⟨3,tkN (tkR b),tkN (tkR (tkR b)),tkN (tkR (tkR (tkR b))),0,0,noE⟩)
  else none
noncomputable def gx117 (args : List AV) (bx : Boxes) (us : Abs.Id → Bool) : Option CR := match args with
  | [v] => (row? .u8 8 v).bind fun b => if b.length ≤ 150000000000000 then (match recX b with
      | some r=>some { v:=.ret (.agg (recA r)) }
      | none=>some { v:=.pan (.raw brk) }) else none
  | _=>none
noncomputable def ER : Env:=((E0.know 144 pf144).knowG 143 gx143).knowG 118 gx118
theorem okR0 : EnvOK Tryd.prog ER:=((ok0.know sound144).knowG sound143.toG).knowG sound118.toG
def ppR : PP:={ fs:=[143,118] }
theorem okRP : EnvP Tryd.prog ER ppR:=⟨okR0,(fun f gf h h2=>by
  have h3 : f = 143 ∨ f = 118:=by simpa [ppR] using h2
  rcases h3 with rfl | rfl
  · have : gf = gx143:=by
      have e : ER.tbl 143 = some (.gen gx143):=rfl
      rw [e] at h; cases h; rfl
    rw [this]; exact sound143
  · have : gf = gx118:=by
      have e : ER.tbl 118 = some (.gen gx118):=rfl
      rw [e] at h; cases h; rfl
    rw [this]; exact sound118),(fun _ h=>by simp [ppR] at h)⟩
theorem ER_te : ER.te = te:=rfl
theorem ER_glob : ER.glob = glob:=rfl
theorem ER_gs : ER.gs = [118,143]:=rfl
theorem ER_dyn : ER.dyn = false:=rfl
theorem ER_mu (d : Nat) : ER.mu d = false:=rfl
theorem ER_n : ER.tbl 143 = some (.gen gx143):=rfl
theorem ER_t : ER.tbl 118 = some (.gen gx118):=rfl
theorem ER_e : ER.tbl 144 = some (.val pf144):=rfl
theorem ppR_fs : ppR.fs = [143,118]:=rfl
theorem ppR_is : ppR.is = []:=rfl
theorem updB_low {bx : Boxes} {L s g : Nat} {cs : List AV} {b : Bx} (h : b.lvl < L) : updB bx (.own L s g) cs b = bx b:=by
  have hne : ¬ b = .own L s g:=fun e=>by subst e; exact Nat.lt_irrefl _ h
  simp only [updB,if_neg hne]
theorem zeroRec : List.map AV.raw (List.replicate 8 (Value.int .i64 0) ++ [Value.slice none 0 0,Value.slice none 0 0]) = [.raw (.int .i64 0),.raw (.int .i64 0),.raw (.int .i64 0),.raw (.int .i64 0),.raw (.int .i64 0),.raw (.int .i64 0),.raw (.int .i64 0),.raw (.int .i64 0),.raw (.slice none 0 0),.raw (.slice none 0 0)]:=rfl
section
variable {r : Bx} {bx : Boxes} {us : Abs.Id→Bool} {b : List (BitVec 8)}
theorem jnumber_is : gx143 [.ptr r 0] bx us = (bx r).bind fun cs=>(rdB? cs).bind fun l=>if l.length ≤ 150000000000000 then (if tkE l = 0 then some { v:=.ret (.raw (.int .i64 (tkN l : Int))),wr:=[(r,rdB (tkR l))] } else some { v:=.pan (.raw brk) }) else none:=rfl
theorem jtext_is : gx118 [.ptr r 0] bx us = (bx r).bind fun cs=>(rdB? cs).bind fun l=>if l.length ≤ 150000000000000 then (if ttE l 4096 = 0 then some { v:=.ret (.sl (ttT l 4096).length (nums .u8 (ttT l 4096)) .bor),wr:=[(r,rdB (ttR l 4096))] } else some { v:=.pan (.raw brk) }) else none:=rfl
theorem rdB?_lit {n : Nat} {fl : Fl} (h : n = b.length) : rdB? [.sl n (nums .u8 b) fl] = some b:=by
  subst h
  show row? .u8 8 (.sl b.length (nums .u8 b) fl) = some b
  exact row?_at rfl
end
theorem ttT_le (b : List (BitVec 8)) (m : Int) : (ttT b m).length ≤ b.length:=by
  have:=tkR_le b
  unfold ttT; split
  · rw [List.length_take]; omega
  · simp
theorem tke_at {n : Nat} {b : List (BitVec 8)} {fl : Fl} (h : n = b.length) (hl : b.length ≤ 150000000000000) : pf144 [.sl n (nums .u8 b) fl] = some (.tup [.agg (entA (tnF b)),.raw (.int .i64 (tnE b))]):=by
  simp only [pf144,row?_at h,Option.bind_some,if_pos hl]
theorem recA_pure (r : Rec) : pureA (.agg (recA r)) = true:=by
  obtain ⟨k,i,t,n,h,v,⟨a,b,c,d⟩⟩:=r
  cases c <;> cases d <;> simp only [recA,entA,btA,itA,pureA,pureL,nums_pure,ints_pure] <;> rfl
theorem splice4 (a b c d : AV) (e : Eny) : splice [a,b,c,d] 0 (entA e) = entA e:=by simp [splice,entA]
theorem splice10 (a b c d f g h i j k : AV) (e : Eny) : splice [a,b,c,d,f,g,h,i,j,k] 6 (entA e) = a :: b :: c :: d :: f :: g :: entA e:=by simp [splice,entA]
theorem recA_oneA (r : Rec) : (recA r).all oneA = true:=by
  obtain ⟨k,i,t,n,h,v,⟨a,b,c,d⟩⟩:=r
  cases c <;> cases d <;> rfl
theorem recA_strip (r : Rec) : (recA r).map strip = recA r:=by
  obtain ⟨k,i,t,n,h,v,⟨a,b,c,d⟩⟩:=r
  cases c <;> cases d <;> rfl
theorem rec_end {σ : AS} {L : Nat} {bx : Boxes} {us : Abs.Id → Bool} (r : Rec) (hs : σ.slots 2 = .ptr (.own L 2 1) 0) (hb : σ.box (.own L 2 1) = some (recA r)) (hw : ∀ b,b.lvl < L → σ.box b = bx b) (hu : ∀ i,i.lvl < L → σ.used i = us i) :
    EndG te [.cell 2 68] L bx us { v:=.ret (.agg (recA r)) } σ:=by
  have hlen : (recA r).length = 10:=rfl
  have hx : rawsRes te σ [.cell 2 68] = some [.agg (recA r)]:=by
    simp only [rawsRes,rawRes,loadV,hs,hb,te68,Option.bind_some,Option.map_some]
    have h : partB te 68 (recA r) 0 = some (.agg (recA r)):=by
      obtain ⟨k,i,t,n,h,v,⟨a,b,c,d⟩⟩:=r
      cases c <;> cases d <;> rfl
    rw [h]; rfl
  exact EndG.r0 [.agg (recA r)] [.agg (recA r)] hx (.one (.low _ (lowA_pure _ (recA_pure r)) (by simp) (by simp) (by simp))) rfl hw hu
def tbNb0:=(And.intro (And.intro (And.intro (And.intro (And.intro @teE @awpP_skip) (And.intro @awpP_label (And.intro @awpP_exit @awpP_ret))) (And.intro (And.intro @awpP_seq (And.intro @awpP_draw @awpP_region)) (And.intro @awpP_cond (And.intro @awpP_block @awpP_scope)))) (And.intro (And.intro (And.intro @awpP_loop (And.intro @thenQ_pan @blockQ_pan)) (And.intro @regsQO_nil (And.intro @regsQO_cons @stepV_O))) (And.intro (And.intro @ER_te (And.intro @ER_glob @ER_gs)) (And.intro @ER_dyn (And.intro @ER_mu @ER_n))))) (And.intro (And.intro (And.intro (And.intro @ER_t (And.intro @ER_e @jnumber_is)) (And.intro @jtext_is (And.intro @tke_at @zeroRec))) (And.intro (And.intro @ppR_fs (And.intro @ppR_is @ev4)) (And.intro @n00 (And.intro @splice4 @splice10)))) (And.intro (And.intro (And.intro @entA_snap (And.intro @entA_noview @zeroE)) (And.intro @splice_ent (And.intro @splice_ent' @entA_strip))) (And.intro (And.intro @entA_len (And.intro @entA_one @entA_take)) (And.intro @dropE (And.intro @own_ne @own_ne'))))))
theorem sound117 : SoundX Tryd.prog glob 117 gx117:=by
  refine SoundX.walk ER ppR okRP mixed Tryd.func117 rfl Tryd.call117 (by kernel_rfl) ?_
  intro args bx us cr hr
  unfold gx117 at hr
  split at hr
  · simp only [Option.bind_eq_some_iff] at hr
    obtain ⟨b,h1,hr⟩:=hr
    split at hr
    · rename_i hc
      obtain ⟨fl,rfl⟩:=row?_of h1
      rw [Tryd.ntmps117,Tryd.results117]
      refine ⟨by simp,fun L hlow hus hbf=>?_⟩
      have l1 : (tkR b).length ≤ b.length:=tkR_le _
      have l2 : (tkR (tkR b)).length ≤ (tkR b).length:=tkR_le _
      have l3 : (tkR (tkR (tkR b))).length ≤ (tkR (tkR b)).length:=tkR_le _
      have m0:=eq_true hc
      have m1:=eq_true (show (tkR b).length ≤ 150000000000000 by omega)
      have m2:=eq_true (show (tkR (tkR b)).length ≤ 150000000000000 by omega)
      have m3:=eq_true (show (tkR (tkR (tkR b))).length ≤ 150000000000000 by omega)
      by_cases e0 : tkE b = 0
      rotate_left
      · rw [recX,if_pos e0] at hr
        cases hr
        simp (maxSteps:=1000000) (disch:=first | omega | assumption | (simp only [updB,updI,dsB,reduceCtorEq,Nat.reduceEqDiff,Bx.own.injEq,Abs.Id.mk.injEq,and_false,false_and,and_true,true_and,if_false,↓reduceIte,Option.isSome_some, *]; done) | (simp only [lnB] <;> omega) | fail) only [ev0,ev1,ev2,ev3,↓reduceIte,reduceCtorEq,zaa,zab,zac,zad,zae,zaf,zag,zah,zai,zaj,zak,zal,zam,zan,zao,zap,zaq,↓zar,↓zas,zat,zau,zav,zaw,zax,zay,zaz,zba,zbb,zbc,zbd,zbe,zbf,zbg,zbh,zbi,zbj,zbk,zbl,zbm,zbn,zbo,zbp,zbq,zbr,zbs,zbt,zbu,zbv,zbw,zbx,zby,zbz,zca,zcb,zcc,zcd,zce,zcf,zcg,zch,zci,zcj,zck,zcl,zcm,zcn,zco,zcp,zcq,zcr,zcs,zct,zcu,zcv,zcw,zcx,zcy,zcz,zda,zdb,zdc,zdd,zde,zdf,zdg,zdh,zdi,zdj,zdk,zdl,zdm,ev5,tbNb0,panV,stepP,ifcV,rawOf,rawsOf,endXQ,Option.getD_some,Option.getD_none,rdB?_lit,rdB,glob,List.map_nil,List.all_nil,List.drop_zero,Bx.own.injEq,and_false,false_and,and_true,true_and,List.size_toArray,Array.size_empty,List.length_nil,Int.reduceBEq,Int.reduceBNe,beq_self_eq_true,m0,eq_false e0]
        exact EndG.r0 [] [] rfl .nil rfl (fun _ h=>by simp only [updB_low h]) (fun _ _=>rfl)
      have k0:=eq_true e0
      rw [recX,if_neg (not_not_intro e0)] at hr
      by_cases c1 : tkN b = 1
      · have d1 : ((tkN b : Nat) : Int) = 1 := by rw [c1]; rfl
        rw [if_pos c1] at hr
        by_cases e1 : tkE (tkR b) = 0
        rotate_left
        · rw [if_pos e1] at hr
          cases hr
          simp (maxSteps:=1000000) (disch:=first | omega | assumption | (simp only [updB,updI,dsB,reduceCtorEq,Nat.reduceEqDiff,Bx.own.injEq,Abs.Id.mk.injEq,and_false,false_and,and_true,true_and,if_false,↓reduceIte,Option.isSome_some, *]; done) | (simp only [lnB] <;> omega) | fail) only [ev0,ev1,ev2,ev3,↓reduceIte,reduceCtorEq,zaa,zab,zac,zad,zae,zaf,zag,zah,zai,zaj,zak,zal,zam,zan,zao,zap,zaq,↓zar,↓zas,zat,zau,zav,zaw,zax,zay,zaz,zba,zbb,zbc,zbd,zbe,zbf,zbg,zbh,zbi,zbj,zbk,zbl,zbm,zbn,zbo,zbp,zbq,zbr,zbs,zbt,zbu,zbv,zbw,zbx,zby,zbz,zca,zcb,zcc,zcd,zce,zcf,zcg,zch,zci,zcj,zck,zcl,zcm,zcn,zco,zcp,zcq,zcr,zcs,zct,zcu,zcv,zcw,zcx,zcy,zcz,zda,zdb,zdc,zdd,zde,zdf,zdg,zdh,zdi,zdj,zdk,zdl,zdm,ev5,tbNb0,panV,stepP,ifcV,rawOf,rawsOf,endXQ,Option.getD_some,Option.getD_none,rdB?_lit,rdB,glob,List.map_nil,List.all_nil,List.drop_zero,Bx.own.injEq,and_false,false_and,and_true,true_and,List.size_toArray,Array.size_empty,List.length_nil,Int.reduceBEq,Int.reduceBNe,beq_self_eq_true,m0,m1,k0,eq_false e1,d1]
          exact EndG.r0 [] [] rfl .nil rfl (fun _ h=>by simp only [updB_low h]) (fun _ _=>rfl)
        rw [if_neg (not_not_intro e1)] at hr
        by_cases e2 : tkE (tkR (tkR b)) = 0
        rotate_left
        · rw [if_pos e2] at hr
          cases hr
          simp (maxSteps:=1000000) (disch:=first | omega | assumption | (simp only [updB,updI,dsB,reduceCtorEq,Nat.reduceEqDiff,Bx.own.injEq,Abs.Id.mk.injEq,and_false,false_and,and_true,true_and,if_false,↓reduceIte,Option.isSome_some, *]; done) | (simp only [lnB] <;> omega) | fail) only [ev0,ev1,ev2,ev3,↓reduceIte,reduceCtorEq,zaa,zab,zac,zad,zae,zaf,zag,zah,zai,zaj,zak,zal,zam,zan,zao,zap,zaq,↓zar,↓zas,zat,zau,zav,zaw,zax,zay,zaz,zba,zbb,zbc,zbd,zbe,zbf,zbg,zbh,zbi,zbj,zbk,zbl,zbm,zbn,zbo,zbp,zbq,zbr,zbs,zbt,zbu,zbv,zbw,zbx,zby,zbz,zca,zcb,zcc,zcd,zce,zcf,zcg,zch,zci,zcj,zck,zcl,zcm,zcn,zco,zcp,zcq,zcr,zcs,zct,zcu,zcv,zcw,zcx,zcy,zcz,zda,zdb,zdc,zdd,zde,zdf,zdg,zdh,zdi,zdj,zdk,zdl,zdm,ev5,tbNb0,panV,stepP,ifcV,rawOf,rawsOf,endXQ,Option.getD_some,Option.getD_none,rdB?_lit,rdB,glob,List.map_nil,List.all_nil,List.drop_zero,Bx.own.injEq,and_false,false_and,and_true,true_and,List.size_toArray,Array.size_empty,List.length_nil,Int.reduceBEq,Int.reduceBNe,beq_self_eq_true,m0,m1,m2,k0,eq_true e1,eq_false e2,d1]
          exact EndG.r0 [] [] rfl .nil rfl (fun _ h=>by simp only [updB_low h]) (fun _ _=>rfl)
        rw [if_neg (not_not_intro e2)] at hr
        cases hr
        simp (maxSteps:=1000000) (disch:=first | omega | assumption | (simp only [updB,updI,dsB,reduceCtorEq,Nat.reduceEqDiff,Bx.own.injEq,Abs.Id.mk.injEq,and_false,false_and,and_true,true_and,if_false,↓reduceIte,Option.isSome_some, *]; done) | (simp only [lnB] <;> omega) | fail) only [ev0,ev1,ev2,ev3,↓reduceIte,reduceCtorEq,zaa,zab,zac,zad,zae,zaf,zag,zah,zai,zaj,zak,zal,zam,zan,zao,zap,zaq,↓zar,↓zas,zat,zau,zav,zaw,zax,zay,zaz,zba,zbb,zbc,zbd,zbe,zbf,zbg,zbh,zbi,zbj,zbk,zbl,zbm,zbn,zbo,zbp,zbq,zbr,zbs,zbt,zbu,zbv,zbw,zbx,zby,zbz,zca,zcb,zcc,zcd,zce,zcf,zcg,zch,zci,zcj,zck,zcl,zcm,zcn,zco,zcp,zcq,zcr,zcs,zct,zcu,zcv,zcw,zcx,zcy,zcz,zda,zdb,zdc,zdd,zde,zdf,zdg,zdh,zdi,zdj,zdk,zdl,zdm,ev5,tbNb0,panV,stepP,ifcV,rawOf,rawsOf,endXQ,Option.getD_some,Option.getD_none,rdB?_lit,rdB,glob,List.map_nil,List.all_nil,List.drop_zero,Bx.own.injEq,and_false,false_and,and_true,true_and,List.size_toArray,Array.size_empty,List.length_nil,Int.reduceBEq,Int.reduceBNe,beq_self_eq_true,m0,m1,m2,k0,eq_true e1,eq_true e2,d1]
        exact ⟨_,rfl,rec_end ⟨1,0,0,0,tkN (tkR b),tkN (tkR (tkR b)),noE⟩ rfl updB_self (fun _ h=>by simp only [updB_low h]) (fun _ _=>rfl)⟩
      rw [if_neg c1] at hr
      by_cases c2 : tkN b = 2
      · have d1 : ((tkN b : Nat) : Int) = 2 := by rw [c2]; rfl
        rw [if_pos c2] at hr
        by_cases e1 : tkE (tkR b) = 0
        rotate_left
        · rw [if_pos e1] at hr
          cases hr
          simp (maxSteps:=1000000) (disch:=first | omega | assumption | (simp only [updB,updI,dsB,reduceCtorEq,Nat.reduceEqDiff,Bx.own.injEq,Abs.Id.mk.injEq,and_false,false_and,and_true,true_and,if_false,↓reduceIte,Option.isSome_some, *]; done) | (simp only [lnB] <;> omega) | fail) only [ev0,ev1,ev2,ev3,↓reduceIte,reduceCtorEq,zaa,zab,zac,zad,zae,zaf,zag,zah,zai,zaj,zak,zal,zam,zan,zao,zap,zaq,↓zar,↓zas,zat,zau,zav,zaw,zax,zay,zaz,zba,zbb,zbc,zbd,zbe,zbf,zbg,zbh,zbi,zbj,zbk,zbl,zbm,zbn,zbo,zbp,zbq,zbr,zbs,zbt,zbu,zbv,zbw,zbx,zby,zbz,zca,zcb,zcc,zcd,zce,zcf,zcg,zch,zci,zcj,zck,zcl,zcm,zcn,zco,zcp,zcq,zcr,zcs,zct,zcu,zcv,zcw,zcx,zcy,zcz,zda,zdb,zdc,zdd,zde,zdf,zdg,zdh,zdi,zdj,zdk,zdl,zdm,ev5,tbNb0,panV,stepP,ifcV,rawOf,rawsOf,endXQ,Option.getD_some,Option.getD_none,rdB?_lit,rdB,glob,List.map_nil,List.all_nil,List.drop_zero,Bx.own.injEq,and_false,false_and,and_true,true_and,List.size_toArray,Array.size_empty,List.length_nil,Int.reduceBEq,Int.reduceBNe,beq_self_eq_true,m0,m1,k0,eq_false e1,d1]
          exact EndG.r0 [] [] rfl .nil rfl (fun _ h=>by simp only [updB_low h]) (fun _ _=>rfl)
        rw [if_neg (not_not_intro e1)] at hr
        by_cases e2 : ttE (tkR (tkR b)) 4096 = 0
        rotate_left
        · rw [if_pos e2] at hr
          cases hr
          simp (maxSteps:=1000000) (disch:=first | omega | assumption | (simp only [updB,updI,dsB,reduceCtorEq,Nat.reduceEqDiff,Bx.own.injEq,Abs.Id.mk.injEq,and_false,false_and,and_true,true_and,if_false,↓reduceIte,Option.isSome_some, *]; done) | (simp only [lnB] <;> omega) | fail) only [ev0,ev1,ev2,ev3,↓reduceIte,reduceCtorEq,zaa,zab,zac,zad,zae,zaf,zag,zah,zai,zaj,zak,zal,zam,zan,zao,zap,zaq,↓zar,↓zas,zat,zau,zav,zaw,zax,zay,zaz,zba,zbb,zbc,zbd,zbe,zbf,zbg,zbh,zbi,zbj,zbk,zbl,zbm,zbn,zbo,zbp,zbq,zbr,zbs,zbt,zbu,zbv,zbw,zbx,zby,zbz,zca,zcb,zcc,zcd,zce,zcf,zcg,zch,zci,zcj,zck,zcl,zcm,zcn,zco,zcp,zcq,zcr,zcs,zct,zcu,zcv,zcw,zcx,zcy,zcz,zda,zdb,zdc,zdd,zde,zdf,zdg,zdh,zdi,zdj,zdk,zdl,zdm,ev5,tbNb0,panV,stepP,ifcV,rawOf,rawsOf,endXQ,Option.getD_some,Option.getD_none,rdB?_lit,rdB,glob,List.map_nil,List.all_nil,List.drop_zero,Bx.own.injEq,and_false,false_and,and_true,true_and,List.size_toArray,Array.size_empty,List.length_nil,Int.reduceBEq,Int.reduceBNe,beq_self_eq_true,m0,m1,m2,k0,eq_true e1,eq_false e2,d1]
          exact EndG.r0 [] [] rfl .nil rfl (fun _ h=>by simp only [updB_low h]) (fun _ _=>rfl)
        rw [if_neg (not_not_intro e2)] at hr
        have lt : (ttT (tkR (tkR b)) 4096).length ≤ 150000000000000:=by have:=ttT_le (tkR (tkR b)) 4096; omega
        have T:=fun fl=>tke_at (b:=ttT (tkR (tkR b)) 4096) (fl:=fl) rfl lt
        cases e3 : isE (ttT (tkR (tkR b)) 4096)
        · rw [if_neg (by rw [e3]; decide)] at hr
          cases hr
          have x1 : tnE (ttT (tkR (tkR b)) 4096) = 80:=by rw [tnE,e3]; rfl
          have x2 : tnF (ttT (tkR (tkR b)) 4096) = noE:=by rw [tnF,e3]; rfl
          rw [x1,x2] at T
          simp (maxSteps:=1000000) (disch:=first | omega | assumption | (simp only [updB,updI,dsB,reduceCtorEq,Nat.reduceEqDiff,Bx.own.injEq,Abs.Id.mk.injEq,and_false,false_and,and_true,true_and,if_false,↓reduceIte,Option.isSome_some, *]; done) | (simp only [lnB] <;> omega) | fail) only [ev0,ev1,ev2,ev3,↓reduceIte,reduceCtorEq,zaa,zab,zac,zad,zae,zaf,zag,zah,zai,zaj,zak,zal,zam,zan,zao,zap,zaq,↓zar,↓zas,zat,zau,zav,zaw,zax,zay,zaz,zba,zbb,zbc,zbd,zbe,zbf,zbg,zbh,zbi,zbj,zbk,zbl,zbm,zbn,zbo,zbp,zbq,zbr,zbs,zbt,zbu,zbv,zbw,zbx,zby,zbz,zca,zcb,zcc,zcd,zce,zcf,zcg,zch,zci,zcj,zck,zcl,zcm,zcn,zco,zcp,zcq,zcr,zcs,zct,zcu,zcv,zcw,zcx,zcy,zcz,zda,zdb,zdc,zdd,zde,zdf,zdg,zdh,zdi,zdj,zdk,zdl,zdm,ev5,tbNb0,panV,stepP,ifcV,rawOf,rawsOf,endXQ,Option.getD_some,Option.getD_none,rdB?_lit,rdB,glob,List.map_nil,List.all_nil,List.drop_zero,Bx.own.injEq,and_false,false_and,and_true,true_and,List.size_toArray,Array.size_empty,List.length_nil,Int.reduceBEq,Int.reduceBNe,beq_self_eq_true,m0,m1,m2,k0,eq_true e1,eq_true e2,d1,T]
          exact ⟨rfl,EndG.r0 [] [] rfl .nil rfl (fun _ h=>by simp only [updB_low h]) (fun _ _=>rfl)⟩
        rw [if_pos e3] at hr
        cases hr
        have x1 : tnE (ttT (tkR (tkR b)) 4096) = 0:=by rw [tnE,e3]; rfl
        have x2 : tnF (ttT (tkR (tkR b)) 4096) = entF (ttT (tkR (tkR b)) 4096):=by rw [tnF,e3]; rfl
        rw [x1,x2] at T
        simp (maxSteps:=1000000) (disch:=first | omega | assumption | (simp only [updB,updI,dsB,reduceCtorEq,Nat.reduceEqDiff,Bx.own.injEq,Abs.Id.mk.injEq,and_false,false_and,and_true,true_and,if_false,↓reduceIte,Option.isSome_some, *]; done) | (simp only [lnB] <;> omega) | fail) only [ev0,ev1,ev2,ev3,↓reduceIte,reduceCtorEq,zaa,zab,zac,zad,zae,zaf,zag,zah,zai,zaj,zak,zal,zam,zan,zao,zap,zaq,↓zar,↓zas,zat,zau,zav,zaw,zax,zay,zaz,zba,zbb,zbc,zbd,zbe,zbf,zbg,zbh,zbi,zbj,zbk,zbl,zbm,zbn,zbo,zbp,zbq,zbr,zbs,zbt,zbu,zbv,zbw,zbx,zby,zbz,zca,zcb,zcc,zcd,zce,zcf,zcg,zch,zci,zcj,zck,zcl,zcm,zcn,zco,zcp,zcq,zcr,zcs,zct,zcu,zcv,zcw,zcx,zcy,zcz,zda,zdb,zdc,zdd,zde,zdf,zdg,zdh,zdi,zdj,zdk,zdl,zdm,ev5,tbNb0,panV,stepP,ifcV,rawOf,rawsOf,endXQ,Option.getD_some,Option.getD_none,rdB?_lit,rdB,glob,List.map_nil,List.all_nil,List.drop_zero,Bx.own.injEq,and_false,false_and,and_true,true_and,List.size_toArray,Array.size_empty,List.length_nil,Int.reduceBEq,Int.reduceBNe,beq_self_eq_true,m0,m1,m2,k0,eq_true e1,eq_true e2,d1,T]
        exact ⟨_,rfl,rec_end ⟨2,tkN (tkR b),0,0,0,0,entF (ttT (tkR (tkR b)) 4096)⟩ rfl updB_self (fun _ h=>by simp only [updB_low h]) (fun _ _=>rfl)⟩
      rw [if_neg c2] at hr
      by_cases c3 : tkN b = 3
      · have d1 : ((tkN b : Nat) : Int) = 3 := by rw [c3]; rfl
        rw [if_pos c3] at hr
        by_cases e1 : tkE (tkR b) = 0
        rotate_left
        · rw [if_pos e1] at hr
          cases hr
          simp (maxSteps:=1000000) (disch:=first | omega | assumption | (simp only [updB,updI,dsB,reduceCtorEq,Nat.reduceEqDiff,Bx.own.injEq,Abs.Id.mk.injEq,and_false,false_and,and_true,true_and,if_false,↓reduceIte,Option.isSome_some, *]; done) | (simp only [lnB] <;> omega) | fail) only [ev0,ev1,ev2,ev3,↓reduceIte,reduceCtorEq,zaa,zab,zac,zad,zae,zaf,zag,zah,zai,zaj,zak,zal,zam,zan,zao,zap,zaq,↓zar,↓zas,zat,zau,zav,zaw,zax,zay,zaz,zba,zbb,zbc,zbd,zbe,zbf,zbg,zbh,zbi,zbj,zbk,zbl,zbm,zbn,zbo,zbp,zbq,zbr,zbs,zbt,zbu,zbv,zbw,zbx,zby,zbz,zca,zcb,zcc,zcd,zce,zcf,zcg,zch,zci,zcj,zck,zcl,zcm,zcn,zco,zcp,zcq,zcr,zcs,zct,zcu,zcv,zcw,zcx,zcy,zcz,zda,zdb,zdc,zdd,zde,zdf,zdg,zdh,zdi,zdj,zdk,zdl,zdm,ev5,tbNb0,panV,stepP,ifcV,rawOf,rawsOf,endXQ,Option.getD_some,Option.getD_none,rdB?_lit,rdB,glob,List.map_nil,List.all_nil,List.drop_zero,Bx.own.injEq,and_false,false_and,and_true,true_and,List.size_toArray,Array.size_empty,List.length_nil,Int.reduceBEq,Int.reduceBNe,beq_self_eq_true,m0,m1,k0,eq_false e1,d1]
          exact EndG.r0 [] [] rfl .nil rfl (fun _ h=>by simp only [updB_low h]) (fun _ _=>rfl)
        rw [if_neg (not_not_intro e1)] at hr
        by_cases e2 : tkE (tkR (tkR b)) = 0
        rotate_left
        · rw [if_pos e2] at hr
          cases hr
          simp (maxSteps:=1000000) (disch:=first | omega | assumption | (simp only [updB,updI,dsB,reduceCtorEq,Nat.reduceEqDiff,Bx.own.injEq,Abs.Id.mk.injEq,and_false,false_and,and_true,true_and,if_false,↓reduceIte,Option.isSome_some, *]; done) | (simp only [lnB] <;> omega) | fail) only [ev0,ev1,ev2,ev3,↓reduceIte,reduceCtorEq,zaa,zab,zac,zad,zae,zaf,zag,zah,zai,zaj,zak,zal,zam,zan,zao,zap,zaq,↓zar,↓zas,zat,zau,zav,zaw,zax,zay,zaz,zba,zbb,zbc,zbd,zbe,zbf,zbg,zbh,zbi,zbj,zbk,zbl,zbm,zbn,zbo,zbp,zbq,zbr,zbs,zbt,zbu,zbv,zbw,zbx,zby,zbz,zca,zcb,zcc,zcd,zce,zcf,zcg,zch,zci,zcj,zck,zcl,zcm,zcn,zco,zcp,zcq,zcr,zcs,zct,zcu,zcv,zcw,zcx,zcy,zcz,zda,zdb,zdc,zdd,zde,zdf,zdg,zdh,zdi,zdj,zdk,zdl,zdm,ev5,tbNb0,panV,stepP,ifcV,rawOf,rawsOf,endXQ,Option.getD_some,Option.getD_none,rdB?_lit,rdB,glob,List.map_nil,List.all_nil,List.drop_zero,Bx.own.injEq,and_false,false_and,and_true,true_and,List.size_toArray,Array.size_empty,List.length_nil,Int.reduceBEq,Int.reduceBNe,beq_self_eq_true,m0,m1,m2,k0,eq_true e1,eq_false e2,d1]
          exact EndG.r0 [] [] rfl .nil rfl (fun _ h=>by simp only [updB_low h]) (fun _ _=>rfl)
        rw [if_neg (not_not_intro e2)] at hr
        by_cases e3 : tkE (tkR (tkR (tkR b))) = 0
        rotate_left
        · rw [if_pos e3] at hr
          cases hr
          simp (maxSteps:=1000000) (disch:=first | omega | assumption | (simp only [updB,updI,dsB,reduceCtorEq,Nat.reduceEqDiff,Bx.own.injEq,Abs.Id.mk.injEq,and_false,false_and,and_true,true_and,if_false,↓reduceIte,Option.isSome_some, *]; done) | (simp only [lnB] <;> omega) | fail) only [ev0,ev1,ev2,ev3,↓reduceIte,reduceCtorEq,zaa,zab,zac,zad,zae,zaf,zag,zah,zai,zaj,zak,zal,zam,zan,zao,zap,zaq,↓zar,↓zas,zat,zau,zav,zaw,zax,zay,zaz,zba,zbb,zbc,zbd,zbe,zbf,zbg,zbh,zbi,zbj,zbk,zbl,zbm,zbn,zbo,zbp,zbq,zbr,zbs,zbt,zbu,zbv,zbw,zbx,zby,zbz,zca,zcb,zcc,zcd,zce,zcf,zcg,zch,zci,zcj,zck,zcl,zcm,zcn,zco,zcp,zcq,zcr,zcs,zct,zcu,zcv,zcw,zcx,zcy,zcz,zda,zdb,zdc,zdd,zde,zdf,zdg,zdh,zdi,zdj,zdk,zdl,zdm,ev5,tbNb0,panV,stepP,ifcV,rawOf,rawsOf,endXQ,Option.getD_some,Option.getD_none,rdB?_lit,rdB,glob,List.map_nil,List.all_nil,List.drop_zero,Bx.own.injEq,and_false,false_and,and_true,true_and,List.size_toArray,Array.size_empty,List.length_nil,Int.reduceBEq,Int.reduceBNe,beq_self_eq_true,m0,m1,m2,m3,k0,eq_true e1,eq_true e2,eq_false e3,d1]
          exact EndG.r0 [] [] rfl .nil rfl (fun _ h=>by simp only [updB_low h]) (fun _ _=>rfl)
        rw [if_neg (not_not_intro e3)] at hr
        cases hr
        simp (maxSteps:=1000000) (disch:=first | omega | assumption | (simp only [updB,updI,dsB,reduceCtorEq,Nat.reduceEqDiff,Bx.own.injEq,Abs.Id.mk.injEq,and_false,false_and,and_true,true_and,if_false,↓reduceIte,Option.isSome_some, *]; done) | (simp only [lnB] <;> omega) | fail) only [ev0,ev1,ev2,ev3,↓reduceIte,reduceCtorEq,zaa,zab,zac,zad,zae,zaf,zag,zah,zai,zaj,zak,zal,zam,zan,zao,zap,zaq,↓zar,↓zas,zat,zau,zav,zaw,zax,zay,zaz,zba,zbb,zbc,zbd,zbe,zbf,zbg,zbh,zbi,zbj,zbk,zbl,zbm,zbn,zbo,zbp,zbq,zbr,zbs,zbt,zbu,zbv,zbw,zbx,zby,zbz,zca,zcb,zcc,zcd,zce,zcf,zcg,zch,zci,zcj,zck,zcl,zcm,zcn,zco,zcp,zcq,zcr,zcs,zct,zcu,zcv,zcw,zcx,zcy,zcz,zda,zdb,zdc,zdd,zde,zdf,zdg,zdh,zdi,zdj,zdk,zdl,zdm,ev5,tbNb0,panV,stepP,ifcV,rawOf,rawsOf,endXQ,Option.getD_some,Option.getD_none,rdB?_lit,rdB,glob,List.map_nil,List.all_nil,List.drop_zero,Bx.own.injEq,and_false,false_and,and_true,true_and,List.size_toArray,Array.size_empty,List.length_nil,Int.reduceBEq,Int.reduceBNe,beq_self_eq_true,m0,m1,m2,m3,k0,eq_true e1,eq_true e2,eq_true e3,d1]
        exact ⟨_,rfl,rec_end ⟨3,tkN (tkR b),tkN (tkR (tkR b)),tkN (tkR (tkR (tkR b))),0,0,noE⟩ rfl updB_self (fun _ h=>by simp only [updB_low h]) (fun _ _=>rfl)⟩
      rw [if_neg c3] at hr
      cases hr
      have d1 : (((tkN b : Nat) : Int) == 1) = false:=beq_eq_false_iff_ne.2 (by omega)
      have d2 : (((tkN b : Nat) : Int) == 2) = false:=beq_eq_false_iff_ne.2 (by omega)
      have d3 : (((tkN b : Nat) : Int) == 3) = false:=beq_eq_false_iff_ne.2 (by omega)
      simp (maxSteps:=1000000) (disch:=first | omega | assumption | (simp only [updB,updI,dsB,reduceCtorEq,Nat.reduceEqDiff,Bx.own.injEq,Abs.Id.mk.injEq,and_false,false_and,and_true,true_and,if_false,↓reduceIte,Option.isSome_some, *]; done) | (simp only [lnB] <;> omega) | fail) only [ev0,ev1,ev2,ev3,↓reduceIte,reduceCtorEq,zaa,zab,zac,zad,zae,zaf,zag,zah,zai,zaj,zak,zal,zam,zan,zao,zap,zaq,↓zar,↓zas,zat,zau,zav,zaw,zax,zay,zaz,zba,zbb,zbc,zbd,zbe,zbf,zbg,zbh,zbi,zbj,zbk,zbl,zbm,zbn,zbo,zbp,zbq,zbr,zbs,zbt,zbu,zbv,zbw,zbx,zby,zbz,zca,zcb,zcc,zcd,zce,zcf,zcg,zch,zci,zcj,zck,zcl,zcm,zcn,zco,zcp,zcq,zcr,zcs,zct,zcu,zcv,zcw,zcx,zcy,zcz,zda,zdb,zdc,zdd,zde,zdf,zdg,zdh,zdi,zdj,zdk,zdl,zdm,ev5,tbNb0,panV,stepP,ifcV,rawOf,rawsOf,endXQ,Option.getD_some,Option.getD_none,rdB?_lit,rdB,glob,List.map_nil,List.all_nil,List.drop_zero,Bx.own.injEq,and_false,false_and,and_true,true_and,List.size_toArray,Array.size_empty,List.length_nil,Int.reduceBEq,Int.reduceBNe,beq_self_eq_true,m0,k0,d1,d2,d3]
      exact ⟨rfl,EndG.r0 [] [] rfl .nil rfl (fun _ h=>by simp only [updB_low h]) (fun _ _=>rfl)⟩
    · cases hr
  · cases hr
end Go.Proofs.YtddeffdgldjdjaaDoor.W
