/- Entries in boxes. -/
import Derived.Test.YtddeffdgldjdjaaDoorMb
namespace Go.Proofs.YtddeffdgldjdjaaDoor.W
set_option linter.unusedSimpArgs false
set_option linter.unusedVariables false
set_option linter.defProp false
open Go Go.Abs
set_option maxHeartbeats 8000000
def itA : Option (List Int) → AV
  | none=>.raw (.slice none 0 0)
  | some l=>.sl l.length (ints .i64 l) .bor
theorem ints_inj8 : ∀ {l m : List Int},ints .i64 l = ints .i64 m → l = m
  | [],[],_=>rfl
  | [],y :: m,h=>by simp [ints] at h
  | x :: l,[],h=>by simp [ints] at h
  | x :: l,y :: m,h=>by
    simp only [ints,List.map_cons,List.cons.injEq,AV.raw.injEq,Value.int.injEq,true_and] at h
    obtain ⟨h1,h2⟩:=h
    rw [h1,ints_inj8 h2]
theorem itA_inj {x y : Option (List Int)} (h : itA x = itA y) : x = y:=by
  cases x <;> cases y <;> simp only [itA,AV.sl.injEq,reduceCtorEq] at h
  · rfl
  · rw [ints_inj8 h.2.1]
theorem itA_strip (x : Option (List Int)) : strip (itA x) = itA x:=by cases x <;> rfl
theorem itA_one (x : Option (List Int)) : oneA (itA x) = true:=by cases x <;> rfl
structure Eny where
  t : Int
  k : Int
  d : Option (List (BitVec 8))
  m : Option (List Int)
def entA (r : Eny) : List AV:=[.raw (.int .i64 r.t),.raw (.int .i64 r.k),btA r.d,itA r.m]
theorem entA_inj {c e : Eny} (h : entA c = entA e) : c = e:=by
  obtain ⟨k,s,q,b⟩:=c
  obtain ⟨k',s',q',b'⟩:=e
  simp only [entA,List.cons.injEq,AV.raw.injEq,Value.int.injEq,true_and,and_true] at h
  obtain ⟨rfl,rfl,h1,h2⟩:=h
  rw [btA_inj h1,itA_inj h2]
noncomputable def ent? (cs : List AV) : Option Eny:=open Classical in if h : ∃ c,cs = entA c then some h.choose else none
theorem ent?_of {cs : List AV} {c : Eny} (h : ent? cs = some c) : cs = entA c:=by
  unfold ent? at h
  split at h
  · rename_i h0; cases h; exact h0.choose_spec
  · cases h
theorem ent?_at (c : Eny) : ent? (entA c) = some c:=by
  have h0 : ∃ e,entA c = entA e:=⟨c,rfl⟩
  unfold ent?
  rw [dif_pos h0,entA_inj h0.choose_spec.symm]
theorem entA_0 (c : Eny) : (entA c)[0]? = some (.raw (.int .i64 c.t)):=rfl
theorem entA_1 (c : Eny) : (entA c)[1]? = some (.raw (.int .i64 c.k)):=rfl
theorem entA_2 (c : Eny) : (entA c)[2]? = some (btA c.d):=rfl
theorem entA_3 (c : Eny) : (entA c)[3]? = some (itA c.m):=rfl
theorem entA_len (c : Eny) : (entA c).length = 4:=rfl
theorem entA_strip (c : Eny) : (entA c).map strip = entA c:=by simp only [entA,List.map_cons,List.map_nil,btA_strip,itA_strip]; rfl
def idat : Option (List Int) → List Int
  | none=>[]
  | some l=>l
section
variable {bx : Boxes}
theorem btA_snap (x : Option (List (BitVec 8))) : snap bx (btA x) = some (btA x):=by
  cases x with
  | none=>rfl
  | some l=>simp only [btA,snap,nums_snap]; rfl
theorem itA_snap (x : Option (List Int)) : snap bx (itA x) = some (itA x):=by
  cases x with
  | none=>rfl
  | some l=>simp only [itA,snap,ints_snap]; rfl
theorem entA_snap (c : Eny) : snapL bx (entA c) = some (entA c):=by simp only [entA,snapL,snap,btA_snap,itA_snap]; rfl
end
theorem btA_noview (x : Option (List (BitVec 8))) : hasView (btA x) = false:=by
  cases x with
  | none=>rfl
  | some l=>simp only [btA,hasView,nums_noview]
theorem itA_noview (x : Option (List Int)) : hasView (itA x) = false:=by
  cases x with
  | none=>rfl
  | some l=>simp only [itA,hasView,ints_noview]
theorem entA_noview (c : Eny) : hasViewL (entA c) = false:=by simp only [entA,hasViewL,hasView,btA_noview,itA_noview]; rfl
theorem entA_take (c : Eny) : (entA c).take 4 = entA c:=rfl
theorem entA_one (c : Eny) : (entA c).all oneA = true:=by simp only [entA,List.all_cons,btA_one,itA_one]; rfl
theorem rep2 (x : AV) : rep 2 [x] = [x,x]:=rfl
theorem rep3 (x : AV) : rep 3 [x] = [x,x,x]:=rfl
theorem rep5 (x : AV) : rep 5 [x] = [x,x,x,x,x]:=rfl
theorem le2 (a b : AV) : (2 ≤ [a,b].length) = True:=by simp
theorem le3 (a b c : AV) : (3 ≤ [a,b,c].length) = True:=by simp
theorem le5 (a b c d e : AV) : (5 ≤ [a,b,c,d,e].length) = True:=by simp
theorem dr1 (a : AV) : [a].drop 1 = []:=rfl
theorem dr2 (a b : AV) : [a,b].drop 2 = []:=rfl
theorem dr3 (a b c : AV) : [a,b,c].drop 3 = []:=rfl
theorem dr5 (a b c d e : AV) : [a,b,c,d,e].drop 5 = []:=rfl
theorem zeroE : List.map AV.raw ([Value.int .i64 0,Value.int .i64 0] ++ [Value.slice none 0 0,Value.slice none 0 0]) = entA ⟨0,0,none,none⟩:=rfl
theorem dropE (c : Eny) : (entA c).drop 4 = []:=rfl
theorem splice_ent (c : Eny) (k s q b : AV) : splice (entA c) 0 [k,s,q,b] = [k,s,q,b]:=by simp [splice,entA]
theorem splice_ent' (c e : Eny) : splice (entA c) 0 (entA e) = entA e:=by simp [splice,entA]
end Go.Proofs.YtddeffdgldjdjaaDoor.W
/- An entry is written: what the walk comes to. -/
namespace Go.Proofs.YtddeffdgldjdjaaDoor.W
set_option linter.unusedSimpArgs false
set_option linter.unusedVariables false
set_option linter.defProp false
open Go Go.Abs
open Nat renaming reduceAdd→zaa,reduceSub→zab,reduceMul→zac,reduceLT→zad,reduceLeDiff→zae,reduceEqDiff→zaf,reduceBEq→zag
open BitVec renaming reduceOfInt→zah
open Int renaming reduceLE→zai,reduceLT→zaj,reduceGT→zak,reduceGE→zal,reduceNeg→zam,reduceAdd→zan,reduceSub→zao,reduceMul→zap,reduceToNat→zaq
open Go.Abs renaming bind_go→zar,map_go→zas,wantedV→zat,isWrite→zau,grow→zav,write→zaw,ofV→zax,start→zaz,strip→zba,endQ→zbb,resV→zbc,rawsRes→zbd,rawRes→zbe,exports→zbf,export1→zbg,isSelf→zbl,convSelf→zbm,convV→zbn,loadV→zbo,storeV→zbp,fieldAddrV→zbq,fieldV→zbr,indexAddrV→zbs,indexV→zbt,partV→zbu,isAggK→zbv,isStr→zbw,place→zbx,ipS→zby,lenV→zbz,min2V→zca,makeV→zcb,freshSl→zcc,sliceV→zcd,boundOr→zce,bound→zcf,bounds→zcg,cutFl→zch,copyV→zci,slCells→zcj,srcV→zck,appendV→zcl,room→zcm,zerosOf→zcn,eqNeg→zco,kd→zcp,takeR→zcq,hasViewL→zcr,hasView→zcs,freshR→zct,freshC→zcu,snapAll→zcv,snap→zcw,snapL→zcx,flatL→zcy,pureL→zcz,pureA→zda,fillC→zdb,arrOK→zdc,oneA→zdd,partB→zde,ren1→zdg,applyW→zdi,useL→zdj,isGen→zdl,startG→zdm
open Go.Abs.AV renaming cells→zay,laid→zdf
open Go.Abs.AS renaming grown→zbh,put→zbi,mute→zdk
open Go.Abs.Env renaming know→zbj,boxed→zbk
open Go.Abs.CR renaming gr→zdh
set_option maxHeartbeats 8000000
noncomputable def EX : Env:=EW.know 112 pf112
theorem okX : EnvOK Tryd.prog EX:=okW.know sound112
theorem EX_te : EX.te = te:=rfl
theorem EX_glob : EX.glob = glob:=rfl
theorem EX_gs : EX.gs = []:=rfl
theorem EX_dyn : EX.dyn = false:=rfl
theorem EX_mu (d : Nat) : EX.mu d = false:=rfl
theorem EX_15 : EX.tbl 72 = some (.val (fun xs=>pf72 (xs.map norm))):=rfl
theorem EX_20 : EX.tbl 113 = some (.val (fun xs=>pf113 (xs.map norm))):=rfl
theorem EX_29 : EX.tbl 78 = some (.val (fun xs=>pf78 (xs.map norm))):=rfl
theorem EX_w : EX.tbl 110 = some (.val pf110):=rfl
theorem EX_n : EX.tbl 112 = some (.val pf112):=rfl
def dat : Option (List (BitVec 8)) → List (BitVec 8)
  | none=>[]
  | some l=>l
def txB (b t : List (BitVec 8)) : List (BitVec 8):=putB b t.length ++ t
theorem txB_len (b t : List (BitVec 8)) (h : t.length ≤ 4096) : (txB b t).length ≤ b.length + 9 + t.length:=by
  have:=need_le t.length (by omega)
  rw [txB,List.length_append,putB_len]; omega
theorem nums_at {n : Nat} {l : List Int} {fl : Fl} (h : n = l.length) (h1 : l.length ≤ 1000) (h2 : ∀ n ∈ l,0 ≤ n ∧ n ≤ 9223372036854775807) : pf112 [.sl n (ints .i64 l) fl] = some (.sl (nmF l).length (nums .u8 (nmF l)) .bor):=by
  have h3 : ∀ n ∈ l,i64ok n:=fun n hn=>by have:=h2 n hn; unfold i64ok; omega
  have h4 : posL l = true:=List.all_eq_true.2 fun n hn=>decide_eq_true (h2 n hn).1
  simp only [pf112,irow?_at h h3,Option.bind_some,if_pos (And.intro h1 h4)]
theorem nmF_len {l : List Int} (h2 : ∀ n ∈ l,0 ≤ n ∧ n ≤ 9223372036854775807) : (nmF l).length ≤ 9 * l.length :=
  nmK_len l (fun n hn=>by have:=h2 n hn; unfold i64ok; omega) _ (Nat.le_refl _)
theorem text_at {l l' : Nat} {b t : List (BitVec 8)} {fl fl' : Fl} (h : l = b.length) (h' : l' = t.length) (h2 : b.length ≤ 150000000000000) (h3 : t.length ≤ 4096) : pf72 [.sl l (nums .u8 b) fl,.sl l' (nums .u8 t) fl'] = some (.tup [.sl (txB b t).length (nums .u8 (txB b t)) (.own ⟨0,0,0,0⟩ 1),.raw (.int .i64 0)]):=by
  simp only [pf72,row?_at h,row?_at h',Option.bind_some,if_pos h2,if_neg (show ¬ t.length > 4096 by omega),txB]
theorem text_nil {l : Nat} {b : List (BitVec 8)} {fl fl' : Fl} (h : l = b.length) (h2 : b.length ≤ 150000000000000) : pf72 [.sl l (nums .u8 b) fl,.sl 0 [] fl'] = some (.tup [.sl (txB b []).length (nums .u8 (txB b [])) (.own ⟨0,0,0,0⟩ 1),.raw (.int .i64 0)]) :=
  text_at (t:=[]) h rfl h2 (by simp)
theorem text_long {l l' : Nat} {b t : List (BitVec 8)} {fl fl' : Fl} (h : l = b.length) (h' : l' = t.length) (h2 : b.length ≤ 150000000000000) (h3 : 4096 < t.length) : pf72 [.sl l (nums .u8 b) fl,.sl l' (nums .u8 t) fl'] = some (.tup [.sl 0 [] (.own ⟨0,0,0,0⟩ 1),.raw (.int .i64 2)]):=by
  simp only [pf72,row?_at h,row?_at h',Option.bind_some,if_pos h2,if_pos (show t.length > 4096 by omega)]
theorem zz0 : ((0 : Int) != 0) = false:=rfl
theorem zz1 : ((1 : Int) != 0) = true:=rfl
def okN (r : Eny) : Prop:=(dat r.d).length ≤ 9223372036854775807 ∧ (idat r.m).length ≤ 9223372036854775807 ∧ ∀ n ∈ idat r.m,i64ok n
def badE (r : Eny) : Bool:=!inW r.t 0 1099511627776 || !inW r.k 0 2 || neg (idat r.m)
def entB (r : Eny) : List (BitVec 8):=putL (txB (nmF [r.t,r.k]) (dat r.d)) (idat r.m)
def entR (r : Eny) : List (BitVec 8) × Int:=if badE r = true then ([],1) else if (dat r.d).length > 4096 ∨ (idat r.m).length > 7 then ([],2) else (entB r,0)
noncomputable def pf81 : List AV → Option AV
  | [.agg cs]=>(ent? (cs.map strip)).bind fun c=>open Classical in if okN c then some (.tup [.sl (entR c).1.length (nums .u8 (entR c).1) .bor,.raw (.int .i64 (entR c).2)]) else none
  | _=>none
theorem any_at {n : Nat} {l : List Int} {fl : Fl} (h : n = l.length) (h2 : ∀ n ∈ l,i64ok n) (h3 : l.length ≤ 9223372036854775807) : pf78 [.sl n (ints .i64 l) fl,.fn 111 []] = some (.raw (.bool (neg l))) :=
  pf78_at h h2 h3 (.inr rfl)
theorem any_nil {fl : Fl} : pf78 [.sl 0 [] fl,.fn 111 []] = some (.raw (.bool false)):=any_at (l:=[]) rfl (by simp) (by simp)
theorem list_at {l l' : Nat} {b : List (BitVec 8)} {t : List Int} {fl fl' : Fl} (h : l = b.length) (h' : l' = t.length) (ht : ∀ n ∈ t,i64ok n) (h2 : b.length ≤ 1000000000) (h3 : t.length ≤ 4096) (h4 : neg t = false) : pf113 [.sl l (nums .u8 b) fl,.sl l' (ints .i64 t) fl'] = some (.tup [.sl (putL b t).length (nums .u8 (putL b t)) .bor,.raw (.int .i64 0)]):=by
  simp only [pf113,row?_at h,irow?_at h' ht,Option.bind_some,if_pos (And.intro h2 (show t.length ≤ 1000000000 by omega)),if_neg (show ¬ t.length > 4096 by omega),if_neg (show ¬ neg t = true by rw [h4]; decide)]
theorem list_nil {l : Nat} {b : List (BitVec 8)} {fl fl' : Fl} (h : l = b.length) (h2 : b.length ≤ 1000000000) : pf113 [.sl l (nums .u8 b) fl,.sl 0 [] fl'] = some (.tup [.sl (putL b []).length (nums .u8 (putL b [])) .bor,.raw (.int .i64 0)]) :=
  list_at (t:=[]) h rfl (by simp) h2 (by simp) rfl
theorem norm_fn {f : Nat} {cs : List AV} : norm (.fn f cs) = .fn f cs:=rfl
theorem inW_is {n a b : Int} : (decide (n ≥ a) && decide (n ≤ b)) = inW n a b:=rfl
def tbMd0:=(And.intro (And.intro (And.intro (And.intro (And.intro @teE (And.intro @entA_strip @entA_snap)) (And.intro @entA_noview (And.intro @entA_take @entA_one))) (And.intro (And.intro @dropE (And.intro @zeroE @splice_ent)) (And.intro @splice_ent' (And.intro @entA_len @rep1)))) (And.intro (And.intro (And.intro @rep2 (And.intro @rep3 @rep5)) (And.intro @one_le (And.intro @le2 @le3))) (And.intro (And.intro @le5 (And.intro @dr1 @dr2)) (And.intro (And.intro @dr3 @dr5) (And.intro @EX_te @EX_glob))))) (And.intro (And.intro (And.intro (And.intro @EX_gs (And.intro @EX_dyn @EX_mu)) (And.intro @EX_15 (And.intro @EX_20 @EX_29))) (And.intro (And.intro @EX_w (And.intro @EX_n @ev4)) (And.intro @nums_at (And.intro @text_at @text_long)))) (And.intro (And.intro (And.intro @text_nil (And.intro @norm_fn @any_at)) (And.intro @any_nil (And.intro @list_at @list_nil))) (And.intro (And.intro @within_at (And.intro @entA_0 @entA_1)) (And.intro (And.intro @entA_2 @entA_3) (And.intro @zz0 @zz1))))))
theorem sound81 : SoundV Tryd.prog glob 81 pf81:=by
  refine SoundV.walk EX okX mixed Tryd.func81 rfl Tryd.call81 (by kernel_rfl) ?_
  intro args r hr
  unfold pf81 at hr
  split at hr
  · rename_i cs
    simp only [Option.bind_eq_some_iff] at hr
    obtain ⟨c,hc,hr⟩:=hr
    split at hr
    · rename_i hn
      cases hr
      have hcs:=ent?_of hc
      rw [Tryd.ntmps81,Tryd.results81]
      refine ⟨by simp,?_⟩
      obtain ⟨t,k,d,m⟩:=c
      obtain ⟨o1,o2,o3⟩:=hn
      dsimp only at o1 o2 o3
      cases c1 : inW t 0 1099511627776
      · have hR : entR ⟨t,k,d,m⟩ = ([],1) := by simp [entR,badE,c1]
        rw [hR]
        simp (maxSteps:=1000000) (disch:=first | omega | (simp only [digF_len,putK_len,putB_len,lnB] <;> omega) | fail) only [ev0,ev1,ev2,ev3,↓reduceIte,reduceCtorEq,zaa,zab,zac,zad,zae,zaf,zag,zah,zai,zaj,zak,zal,zam,zan,zao,zap,zaq,↓zar,↓zas,zat,zau,zav,zaw,zax,zay,zaz,zba,zbb,zbc,zbd,zbe,zbf,zbg,zbh,zbi,zbj,zbk,zbl,zbm,zbn,zbo,zbp,zbq,zbr,zbs,zbt,zbu,zbv,zbw,zbx,zby,zbz,zca,zcb,zcc,zcd,zce,zcf,zcg,zch,zci,zcj,zck,zcl,zcm,zcn,zco,zcp,zcq,zcr,zcs,zct,zcu,zcv,zcw,zcx,zcy,zcz,zda,zdb,zdc,zdd,zde,zdf,zdg,zdh,zdi,zdj,zdk,zdl,zdm,ev5,tbMd0,List.map_nil,List.all_nil,List.drop_zero,glob,List.isEmpty_nil,btA,itA,List.size_toArray,Array.size_empty,List.length_nil,Bool.not_true,Bool.not_false,hcs,inW_is,c1]
        exact resQ_2nil
      cases c2 : inW k 0 2
      · have hR : entR ⟨t,k,d,m⟩ = ([],1) := by simp [entR,badE,c2]
        rw [hR]
        simp (maxSteps:=1000000) (disch:=first | omega | (simp only [digF_len,putK_len,putB_len,lnB] <;> omega) | fail) only [ev0,ev1,ev2,ev3,↓reduceIte,reduceCtorEq,zaa,zab,zac,zad,zae,zaf,zag,zah,zai,zaj,zak,zal,zam,zan,zao,zap,zaq,↓zar,↓zas,zat,zau,zav,zaw,zax,zay,zaz,zba,zbb,zbc,zbd,zbe,zbf,zbg,zbh,zbi,zbj,zbk,zbl,zbm,zbn,zbo,zbp,zbq,zbr,zbs,zbt,zbu,zbv,zbw,zbx,zby,zbz,zca,zcb,zcc,zcd,zce,zcf,zcg,zch,zci,zcj,zck,zcl,zcm,zcn,zco,zcp,zcq,zcr,zcs,zct,zcu,zcv,zcw,zcx,zcy,zcz,zda,zdb,zdc,zdd,zde,zdf,zdg,zdh,zdi,zdj,zdk,zdl,zdm,ev5,tbMd0,List.map_nil,List.all_nil,List.drop_zero,glob,List.isEmpty_nil,btA,itA,List.size_toArray,Array.size_empty,List.length_nil,Bool.not_true,Bool.not_false,hcs,inW_is,c1,c2]
        exact resQ_2nil
      have k1 : 0 ≤ t ∧ t ≤ 1099511627776:=by simpa [inW] using c1
      have k2 : 0 ≤ k ∧ k ≤ 2:=by simpa [inW] using c2
      have e2 : ∀ x ∈ [t,k],0 ≤ x ∧ x ≤ 9223372036854775807:=by
        simp only [List.mem_cons,List.not_mem_nil,or_false,forall_eq_or_imp,forall_eq]; omega
      have n2:=fun fl=>nums_at (n:=2) (fl:=fl) rfl (by simp) e2
      simp only [ints,List.map_cons,List.map_nil] at n2
      have l2:=nmF_len e2
      simp only [List.length_cons,List.length_nil] at l2
      cases c3 : neg (idat m)
      rotate_left
      · have hR : entR ⟨t,k,d,m⟩ = ([],1) := by simp [entR,badE,c3]
        rw [hR]
        cases m with
        | none=>exact absurd c3 (by decide)
        | some m =>
          have c3' : neg m = true:=c3
          simp only [idat] at o2 o3
          simp (maxSteps:=1000000) (disch:=first | omega | (simp only [digF_len,putK_len,putB_len,lnB] <;> omega) | fail) only [ev0,ev1,ev2,ev3,↓reduceIte,reduceCtorEq,zaa,zab,zac,zad,zae,zaf,zag,zah,zai,zaj,zak,zal,zam,zan,zao,zap,zaq,↓zar,↓zas,zat,zau,zav,zaw,zax,zay,zaz,zba,zbb,zbc,zbd,zbe,zbf,zbg,zbh,zbi,zbj,zbk,zbl,zbm,zbn,zbo,zbp,zbq,zbr,zbs,zbt,zbu,zbv,zbw,zbx,zby,zbz,zca,zcb,zcc,zcd,zce,zcf,zcg,zch,zci,zcj,zck,zcl,zcm,zcn,zco,zcp,zcq,zcr,zcs,zct,zcu,zcv,zcw,zcx,zcy,zcz,zda,zdb,zdc,zdd,zde,zdf,zdg,zdh,zdi,zdj,zdk,zdl,zdm,ev5,tbMd0,List.map_nil,List.all_nil,List.drop_zero,glob,List.isEmpty_nil,btA,itA,List.size_toArray,Array.size_empty,List.length_nil,Bool.not_true,Bool.not_false,hcs,inW_is,c1,c2,c3']
          exact resQ_2nil
      have hb : ¬ badE ⟨t,k,d,m⟩ = true:=by simp [badE,c1,c2,c3]
      have ht:=txB_len (nmF [t,k]) (dat d)
      by_cases c4 : (dat d).length > 4096
      · have hR : entR ⟨t,k,d,m⟩ = ([],2) := by rw [entR,if_neg hb]; exact if_pos (.inl c4)
        rw [hR]
        cases d with
        | none=>exact absurd c4 (by simp [dat])
        | some d =>
          have dd : decide ((d.length : Int) > 4096) = true:=decide_eq_true (by simp only [dat] at c4; omega)
          cases m with
          | none =>
            simp (maxSteps:=1000000) (disch:=first | omega | (simp only [digF_len,putK_len,putB_len,lnB] <;> omega) | fail) only [ev0,ev1,ev2,ev3,↓reduceIte,reduceCtorEq,zaa,zab,zac,zad,zae,zaf,zag,zah,zai,zaj,zak,zal,zam,zan,zao,zap,zaq,↓zar,↓zas,zat,zau,zav,zaw,zax,zay,zaz,zba,zbb,zbc,zbd,zbe,zbf,zbg,zbh,zbi,zbj,zbk,zbl,zbm,zbn,zbo,zbp,zbq,zbr,zbs,zbt,zbu,zbv,zbw,zbx,zby,zbz,zca,zcb,zcc,zcd,zce,zcf,zcg,zch,zci,zcj,zck,zcl,zcm,zcn,zco,zcp,zcq,zcr,zcs,zct,zcu,zcv,zcw,zcx,zcy,zcz,zda,zdb,zdc,zdd,zde,zdf,zdg,zdh,zdi,zdj,zdk,zdl,zdm,ev5,tbMd0,List.map_nil,List.all_nil,List.drop_zero,glob,List.isEmpty_nil,btA,itA,List.size_toArray,Array.size_empty,List.length_nil,Bool.not_true,Bool.not_false,hcs,inW_is,c1,c2,dd]
            exact resQ_2nil
          | some m =>
            have c3' : neg m = false:=c3
            simp only [idat] at o2 o3
            simp (maxSteps:=1000000) (disch:=first | omega | (simp only [digF_len,putK_len,putB_len,lnB] <;> omega) | fail) only [ev0,ev1,ev2,ev3,↓reduceIte,reduceCtorEq,zaa,zab,zac,zad,zae,zaf,zag,zah,zai,zaj,zak,zal,zam,zan,zao,zap,zaq,↓zar,↓zas,zat,zau,zav,zaw,zax,zay,zaz,zba,zbb,zbc,zbd,zbe,zbf,zbg,zbh,zbi,zbj,zbk,zbl,zbm,zbn,zbo,zbp,zbq,zbr,zbs,zbt,zbu,zbv,zbw,zbx,zby,zbz,zca,zcb,zcc,zcd,zce,zcf,zcg,zch,zci,zcj,zck,zcl,zcm,zcn,zco,zcp,zcq,zcr,zcs,zct,zcu,zcv,zcw,zcx,zcy,zcz,zda,zdb,zdc,zdd,zde,zdf,zdg,zdh,zdi,zdj,zdk,zdl,zdm,ev5,tbMd0,List.map_nil,List.all_nil,List.drop_zero,glob,List.isEmpty_nil,btA,itA,List.size_toArray,Array.size_empty,List.length_nil,Bool.not_true,Bool.not_false,hcs,inW_is,c1,c2,c3',dd]
            exact resQ_2nil
      have ht:=ht (by omega)
      by_cases c5 : (idat m).length > 7
      · have hR : entR ⟨t,k,d,m⟩ = ([],2) := by rw [entR,if_neg hb]; exact if_pos (.inr c5)
        rw [hR]
        cases m with
        | none=>exact absurd c5 (by simp [idat])
        | some m =>
          have c3' : neg m = false:=c3
          simp only [idat] at o2 o3 c5
          have dm : decide ((m.length : Int) > 7) = true:=decide_eq_true (by omega)
          cases d with
          | none =>
            simp (maxSteps:=1000000) (disch:=first | omega | (simp only [digF_len,putK_len,putB_len,lnB] <;> omega) | fail) only [ev0,ev1,ev2,ev3,↓reduceIte,reduceCtorEq,zaa,zab,zac,zad,zae,zaf,zag,zah,zai,zaj,zak,zal,zam,zan,zao,zap,zaq,↓zar,↓zas,zat,zau,zav,zaw,zax,zay,zaz,zba,zbb,zbc,zbd,zbe,zbf,zbg,zbh,zbi,zbj,zbk,zbl,zbm,zbn,zbo,zbp,zbq,zbr,zbs,zbt,zbu,zbv,zbw,zbx,zby,zbz,zca,zcb,zcc,zcd,zce,zcf,zcg,zch,zci,zcj,zck,zcl,zcm,zcn,zco,zcp,zcq,zcr,zcs,zct,zcu,zcv,zcw,zcx,zcy,zcz,zda,zdb,zdc,zdd,zde,zdf,zdg,zdh,zdi,zdj,zdk,zdl,zdm,ev5,tbMd0,List.map_nil,List.all_nil,List.drop_zero,glob,List.isEmpty_nil,btA,itA,List.size_toArray,Array.size_empty,List.length_nil,Bool.not_true,Bool.not_false,hcs,inW_is,c1,c2,c3',dm]
            exact resQ_2nil
          | some d =>
            have dd : decide ((d.length : Int) > 4096) = false:=decide_eq_false (by simp only [dat] at c4; omega)
            simp (maxSteps:=1000000) (disch:=first | omega | (simp only [digF_len,putK_len,putB_len,lnB] <;> omega) | fail) only [ev0,ev1,ev2,ev3,↓reduceIte,reduceCtorEq,zaa,zab,zac,zad,zae,zaf,zag,zah,zai,zaj,zak,zal,zam,zan,zao,zap,zaq,↓zar,↓zas,zat,zau,zav,zaw,zax,zay,zaz,zba,zbb,zbc,zbd,zbe,zbf,zbg,zbh,zbi,zbj,zbk,zbl,zbm,zbn,zbo,zbp,zbq,zbr,zbs,zbt,zbu,zbv,zbw,zbx,zby,zbz,zca,zcb,zcc,zcd,zce,zcf,zcg,zch,zci,zcj,zck,zcl,zcm,zcn,zco,zcp,zcq,zcr,zcs,zct,zcu,zcv,zcw,zcx,zcy,zcz,zda,zdb,zdc,zdd,zde,zdf,zdg,zdh,zdi,zdj,zdk,zdl,zdm,ev5,tbMd0,List.map_nil,List.all_nil,List.drop_zero,glob,List.isEmpty_nil,btA,itA,List.size_toArray,Array.size_empty,List.length_nil,Bool.not_true,Bool.not_false,hcs,inW_is,c1,c2,c3',dd,dm]
            exact resQ_2nil
      have hR : entR ⟨t,k,d,m⟩ = (entB ⟨t,k,d,m⟩,0):=by rw [entR,if_neg hb]; exact if_neg (by dsimp only; omega)
      rw [hR]
      simp only [entB]
      cases m with
      | none =>
        cases d with
        | none =>
          simp only [dat,idat,List.length_nil] at ht ⊢
          simp (maxSteps:=1000000) (disch:=first | omega | (simp only [digF_len,putK_len,putB_len,lnB] <;> omega) | fail) only [ev0,ev1,ev2,ev3,↓reduceIte,reduceCtorEq,zaa,zab,zac,zad,zae,zaf,zag,zah,zai,zaj,zak,zal,zam,zan,zao,zap,zaq,↓zar,↓zas,zat,zau,zav,zaw,zax,zay,zaz,zba,zbb,zbc,zbd,zbe,zbf,zbg,zbh,zbi,zbj,zbk,zbl,zbm,zbn,zbo,zbp,zbq,zbr,zbs,zbt,zbu,zbv,zbw,zbx,zby,zbz,zca,zcb,zcc,zcd,zce,zcf,zcg,zch,zci,zcj,zck,zcl,zcm,zcn,zco,zcp,zcq,zcr,zcs,zct,zcu,zcv,zcw,zcx,zcy,zcz,zda,zdb,zdc,zdd,zde,zdf,zdg,zdh,zdi,zdj,zdk,zdl,zdm,ev5,tbMd0,List.map_nil,List.all_nil,List.drop_zero,glob,List.isEmpty_nil,btA,itA,List.size_toArray,Array.size_empty,List.length_nil,Bool.not_true,Bool.not_false,hcs,inW_is,c1,c2,n2]
          exact resQ_2
        | some d =>
          simp only [dat,idat] at ht c4 ⊢
          have dd : decide ((d.length : Int) > 4096) = false:=decide_eq_false (by omega)
          simp (maxSteps:=1000000) (disch:=first | omega | (simp only [digF_len,putK_len,putB_len,lnB] <;> omega) | fail) only [ev0,ev1,ev2,ev3,↓reduceIte,reduceCtorEq,zaa,zab,zac,zad,zae,zaf,zag,zah,zai,zaj,zak,zal,zam,zan,zao,zap,zaq,↓zar,↓zas,zat,zau,zav,zaw,zax,zay,zaz,zba,zbb,zbc,zbd,zbe,zbf,zbg,zbh,zbi,zbj,zbk,zbl,zbm,zbn,zbo,zbp,zbq,zbr,zbs,zbt,zbu,zbv,zbw,zbx,zby,zbz,zca,zcb,zcc,zcd,zce,zcf,zcg,zch,zci,zcj,zck,zcl,zcm,zcn,zco,zcp,zcq,zcr,zcs,zct,zcu,zcv,zcw,zcx,zcy,zcz,zda,zdb,zdc,zdd,zde,zdf,zdg,zdh,zdi,zdj,zdk,zdl,zdm,ev5,tbMd0,List.map_nil,List.all_nil,List.drop_zero,glob,List.isEmpty_nil,btA,itA,List.size_toArray,Array.size_empty,List.length_nil,Bool.not_true,Bool.not_false,hcs,inW_is,c1,c2,dd,n2]
          exact resQ_2
      | some m =>
        have c3' : neg m = false:=c3
        simp only [idat] at o2 o3 c5
        have dm : decide ((m.length : Int) > 7) = false:=decide_eq_false (by omega)
        cases d with
        | none =>
          simp only [dat,idat,List.length_nil] at ht ⊢
          simp (maxSteps:=1000000) (disch:=first | omega | (simp only [digF_len,putK_len,putB_len,lnB] <;> omega) | fail) only [ev0,ev1,ev2,ev3,↓reduceIte,reduceCtorEq,zaa,zab,zac,zad,zae,zaf,zag,zah,zai,zaj,zak,zal,zam,zan,zao,zap,zaq,↓zar,↓zas,zat,zau,zav,zaw,zax,zay,zaz,zba,zbb,zbc,zbd,zbe,zbf,zbg,zbh,zbi,zbj,zbk,zbl,zbm,zbn,zbo,zbp,zbq,zbr,zbs,zbt,zbu,zbv,zbw,zbx,zby,zbz,zca,zcb,zcc,zcd,zce,zcf,zcg,zch,zci,zcj,zck,zcl,zcm,zcn,zco,zcp,zcq,zcr,zcs,zct,zcu,zcv,zcw,zcx,zcy,zcz,zda,zdb,zdc,zdd,zde,zdf,zdg,zdh,zdi,zdj,zdk,zdl,zdm,ev5,tbMd0,List.map_nil,List.all_nil,List.drop_zero,glob,List.isEmpty_nil,btA,itA,List.size_toArray,Array.size_empty,List.length_nil,Bool.not_true,Bool.not_false,hcs,inW_is,c1,c2,c3',dm,n2]
          exact resQ_2
        | some d =>
          simp only [dat,idat] at ht c4 ⊢
          have dd : decide ((d.length : Int) > 4096) = false:=decide_eq_false (by omega)
          simp (maxSteps:=1000000) (disch:=first | omega | (simp only [digF_len,putK_len,putB_len,lnB] <;> omega) | fail) only [ev0,ev1,ev2,ev3,↓reduceIte,reduceCtorEq,zaa,zab,zac,zad,zae,zaf,zag,zah,zai,zaj,zak,zal,zam,zan,zao,zap,zaq,↓zar,↓zas,zat,zau,zav,zaw,zax,zay,zaz,zba,zbb,zbc,zbd,zbe,zbf,zbg,zbh,zbi,zbj,zbk,zbl,zbm,zbn,zbo,zbp,zbq,zbr,zbs,zbt,zbu,zbv,zbw,zbx,zby,zbz,zca,zcb,zcc,zcd,zce,zcf,zcg,zch,zci,zcj,zck,zcl,zcm,zcn,zco,zcp,zcq,zcr,zcs,zct,zcu,zcv,zcw,zcx,zcy,zcz,zda,zdb,zdc,zdd,zde,zdf,zdg,zdh,zdi,zdj,zdk,zdl,zdm,ev5,tbMd0,List.map_nil,List.all_nil,List.drop_zero,glob,List.isEmpty_nil,btA,itA,List.size_toArray,Array.size_empty,List.length_nil,Bool.not_true,Bool.not_false,hcs,inW_is,c1,c2,c3',dd,dm,n2]
          exact resQ_2
    · cases hr
  · cases hr
end Go.Proofs.YtddeffdgldjdjaaDoor.W
