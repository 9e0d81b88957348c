/- Small facts that several texts need. -/
import Derived.Test.YtddeffdgldjdjaaDoorMg
namespace Go.Proofs.YtddeffdgldjdjaaDoor.W
set_option linter.unusedSimpArgs false
set_option linter.unusedVariables false
set_option linter.defProp false
open Go Go.Abs
set_option maxHeartbeats 8000000
theorem put_nil {fl : Fl} {n : Int} (h3 : n ≤ 9223372036854775807) (h0 : 0 ≤ n) : pf80 [.sl 0 [] fl,.raw (.int .i64 n)] = some (.tup [.sl (putB [] n.toNat).length (nums .u8 (putB [] n.toNat)) (.own ⟨0,0,0,0⟩ 1),.raw (.int .i64 0)]) :=
  pf80_at (b:=[]) rfl (by simp) h3 h0
theorem rS_ok {p : List (BitVec 8) × Int} (h : p.2 = 0) : rS p = (tkR p.1,(tkE p.1 : Int)):=by rw [rS,if_pos h]
theorem rS_no {p : List (BitVec 8) × Int} (h : p.2 ≠ 0) : rS p = p:=by rw [rS,if_neg h]
theorem rN_ok' {p : List (BitVec 8) × Int} (h : p.2 = 0) : rN p = (tkN p.1 : Int):=by rw [rN,if_pos h]
theorem tS_ok {p : List (BitVec 8) × Int} (h : p.2 = 0) : tS p = (ttR p.1 4096,(ttE p.1 4096 : Int)):=by rw [tS,if_pos h]
theorem tS_no {p : List (BitVec 8) × Int} (h : p.2 ≠ 0) : tS p = p:=by rw [tS,if_neg h]
theorem tN_ok {p : List (BitVec 8) × Int} (h : p.2 = 0) : tN p = ttT p.1 4096:=by rw [tN,if_pos h]
theorem lS_ok {p : List (BitVec 8) × Int} (h : p.2 = 0) : lS 7 p = (tlR p.1 7,(tlE p.1 7 : Int)):=by rw [lS,if_pos h]
theorem lS_no {p : List (BitVec 8) × Int} (h : p.2 ≠ 0) : lS 7 p = p:=by rw [lS,if_neg h]
theorem lN_ok' {p : List (BitVec 8) × Int} (h : p.2 = 0) : lN 7 p = tlL p.1 7:=by rw [lN,if_pos h]
theorem nz_t {n : Nat} (h : n ≠ 0) : ((n : Int) != 0) = true:=by rw [bne_iff_ne]; omega
theorem nz_f {n : Nat} (h : n = 0) : ((n : Int) != 0) = false:=by rw [h]; rfl
theorem dz {n : Nat} (h : n ≠ 0) : decide ((n : Int) = 0) = false:=decide_eq_false (by omega)
end Go.Proofs.YtddeffdgldjdjaaDoor.W
/- What is written of an entry is read as it was: plain laws. -/
namespace Go.Proofs.YtddeffdgldjdjaaDoor.W
set_option linter.unusedSimpArgs false
set_option linter.unusedVariables false
set_option linter.defProp false
open Go Go.Abs
set_option maxHeartbeats 8000000
theorem rS_put {n : Int} (h : 0 ≤ n ∧ n ≤ 9223372036854775807) (t : List (BitVec 8)) : rS (putB [] n.toNat ++ t,0) = (t,0) ∧ rN (putB [] n.toNat ++ t,0) = n:=by
  obtain ⟨h1,h2,h3⟩:=take_put n.toNat t (by omega)
  simp only [rS,rN,if_true,h1,h2,h3]
  exact ⟨rfl,Int.toNat_of_nonneg h.1⟩
theorem tS_put (t a : List (BitVec 8)) (h : t.length ≤ 4096) : tS (putB [] t.length ++ t ++ a,0) = (a,0) ∧ tN (putB [] t.length ++ t ++ a,0) = t:=by
  obtain ⟨h1,h2,h3⟩:=tt_put t a (m:=4096) (by omega) h
  simp only [tS,tN,if_true,h1,h2,h3]
  exact ⟨rfl,trivial⟩
theorem lS_put (l : List Int) (a : List (BitVec 8)) {m : Int} (hm : (l.length : Int) ≤ m) (hl : ∀ n ∈ l,i64ok n) (hn : neg l = false) (h : l.length ≤ 4096) : lS m (putL [] l ++ a,0) = (a,0) ∧ lN m (putL [] l ++ a,0) = l:=by
  obtain ⟨h1,h2,h3⟩:=tl_put l a hm hl hn h
  simp only [lS,lN,if_true,h1,h2,h3]
  exact ⟨rfl,trivial⟩
theorem txB_behind (b t : List (BitVec 8)) : txB b t = b ++ (putB [] t.length ++ t):=by rw [txB,putB_behind,List.append_assoc]
theorem nmF2 (k s : Int) : nmF [k,s] = putB [] k.toNat ++ putB [] s.toNat:=by
  have : nmF [k,s] = putB (putB [] k.toNat) s.toNat:=rfl
  rw [this,putB_behind (putB [] k.toNat)]
def fulE (c : Eny) : Eny:=⟨c.t,c.k,some (dat c.d),some (idat c.m)⟩
theorem entR_ful (c : Eny) : entR (fulE c) = entR c:=rfl
theorem entB_is (r : Eny) : entB r = putB [] r.t.toNat ++ (putB [] r.k.toNat ++ (putB [] (dat r.d).length ++ dat r.d ++ (putL [] (idat r.m) ++ []))):=by
  have : ∀ b,putL b (idat r.m) = b ++ putL [] (idat r.m):=fun b=>by rw [putL,putL,putLk_is,putLk_is []]; simp
  rw [entB,this,txB_behind,nmF2]
  simp only [List.append_assoc,List.append_nil]
theorem read_ent {r : Eny} (ho : okN r) (h : (entR r).2 = 0) : isE (entR r).1 = true ∧ entF (entR r).1 = fulE r:=by
  have hb : ¬ badE r = true:=fun hb=>by rw [entR,if_pos hb] at h; cases h
  have hl : ¬ ((dat r.d).length > 4096 ∨ (idat r.m).length > 7):=fun hl=>by rw [entR,if_neg hb,if_pos hl] at h; cases h
  have hR : entR r = (entB r,0):=by rw [entR,if_neg hb,if_neg hl]
  obtain ⟨_,_,o3⟩:=ho
  simp only [badE,inW,Bool.or_eq_true,Bool.not_eq_true',Bool.and_eq_false_iff,decide_eq_false_iff_not,not_or] at hb
  obtain ⟨⟨h1,h2⟩,h3⟩:=hb
  have h3 : neg (idat r.m) = false:=Bool.eq_false_iff.2 h3
  have e1 : 0 ≤ r.t ∧ r.t ≤ 9223372036854775807:=by omega
  have e2 : 0 ≤ r.k ∧ r.k ≤ 9223372036854775807:=by omega
  obtain ⟨a1,b1⟩:=rS_put e1 (putB [] r.k.toNat ++ (putB [] (dat r.d).length ++ dat r.d ++ (putL [] (idat r.m) ++ [])))
  obtain ⟨a2,b2⟩:=rS_put e2 (putB [] (dat r.d).length ++ dat r.d ++ (putL [] (idat r.m) ++ []))
  obtain ⟨a3,b3⟩:=tS_put (dat r.d) (putL [] (idat r.m) ++ []) (by omega)
  obtain ⟨a4,b4⟩:=lS_put (idat r.m) [] (m:=7) (by omega) o3 h3 (by omega)
  have hB:=entB_is r
  have hf : entF (entB r) = fulE r:=by
    rw [entF,e3,q2,q1,hB,a1,a2,a3,b1,b2,b3,b4]
    rfl
  have hq : e4 (entB r) = ([],0):=by rw [e4,e3,q2,q1,hB,a1,a2,a3,a4]
  rw [hR]
  refine ⟨?_,hf⟩
  rw [isE]
  simp only [hf,hq,entR_ful,hR]
  simp
def sameE (c e : Eny) : Bool:=decide (c.t = e.t) && (decide (c.k = e.k) && (decide (dat c.d = dat e.d) && decide (idat c.m = idat e.m)))
theorem sameE_self (c : Eny) : sameE c c = true:=by simp [sameE]
end Go.Proofs.YtddeffdgldjdjaaDoor.W
/- Whether two entries are the same. -/
namespace Go.Proofs.YtddeffdgldjdjaaDoor.W
set_option linter.unusedSimpArgs false
set_option linter.unusedVariables false
set_option linter.defProp false
open Go Go.Abs
open Nat renaming reduceAdd→zaa,reduceSub→zab,reduceMul→zac,reduceLT→zad,reduceLeDiff→zae,reduceEqDiff→zaf,reduceBEq→zag
open BitVec renaming reduceOfInt→zah
open Int renaming reduceLE→zai,reduceLT→zaj,reduceGT→zak,reduceGE→zal,reduceNeg→zam,reduceAdd→zan,reduceSub→zao,reduceMul→zap,reduceToNat→zaq
open Go.Abs renaming bind_go→zar,map_go→zas,wantedV→zat,isWrite→zau,grow→zav,write→zaw,ofV→zax,start→zaz,strip→zba,endQ→zbb,resV→zbc,rawsRes→zbd,rawRes→zbe,exports→zbf,export1→zbg,isSelf→zbl,convSelf→zbm,convV→zbn,loadV→zbo,storeV→zbp,fieldAddrV→zbq,fieldV→zbr,indexAddrV→zbs,indexV→zbt,partV→zbu,isAggK→zbv,isStr→zbw,place→zbx,ipS→zby,lenV→zbz,min2V→zca,makeV→zcb,freshSl→zcc,sliceV→zcd,boundOr→zce,bound→zcf,bounds→zcg,cutFl→zch,copyV→zci,slCells→zcj,srcV→zck,appendV→zcl,room→zcm,zerosOf→zcn,eqNeg→zco,kd→zcp,takeR→zcq,hasViewL→zcr,hasView→zcs,freshR→zct,freshC→zcu,snapAll→zcv,snap→zcw,snapL→zcx,flatL→zcy,pureL→zcz,pureA→zda,fillC→zdb,arrOK→zdc,oneA→zdd,partB→zde,ren1→zdg,applyW→zdi,useL→zdj,isGen→zdl,startG→zdm
open Go.Abs.AV renaming cells→zay,laid→zdf
open Go.Abs.AS renaming grown→zbh,put→zbi,mute→zdk
open Go.Abs.Env renaming know→zbj,boxed→zbk
open Go.Abs.CR renaming gr→zdh
set_option maxHeartbeats 8000000
theorem beq_dec' (n m : Int) : (n == m) = decide (n = m):=by
  by_cases h : n = m
  · subst h; simp
  · rw [beq_eq_false_iff_ne.2 h,decide_eq_false h]
def norm3 : AV → AV
  | .agg xs=>.agg (xs.map norm)
  | v=>v
theorem norm3_rel {μ : Bx→Option Nat} {G : Nat→Nat→Prop} {w : World} {v : AV} {u : Value} (h : RV μ G w v u) : RV μ G w (norm3 v) u:=by
  unfold norm3
  split
  · simp only [RV] at h ⊢
    obtain ⟨us,h1,h2⟩:=h
    exact ⟨us,h1,norm_rels h2⟩
  · exact h
theorem norm3_rels {μ : Bx → Option Nat} {G : Nat → Nat → Prop} {w : World} : ∀ {xs : List AV} {us : List Value},RVs μ G w xs us → RVs μ G w (xs.map norm3) us
  | [],us,h=>h
  | x :: xs,us,h=>by
    simp only [RVs,List.map_cons] at h ⊢
    obtain ⟨u,us',h1,h2,h3⟩:=h
    exact ⟨u,us',h1,norm3_rel h2,norm3_rels h3⟩
theorem SoundV.norm3 {P : Program} {glob : Nat→Option (List AV)} {f : FuncId} {pf : List AV→Option AV} (h : SoundV P glob f pf) : SoundV P glob f (fun args=>pf (args.map norm3)) :=
  ⟨h.1,fun args r hr G w vals hp=>h.2 (args.map YtddeffdgldjdjaaDoor.W.norm3) r hr G w vals ⟨hp.cell,hp.glob,norm3_rels hp.args⟩⟩
noncomputable def pf89 : List AV → Option AV
  | [.agg a,.agg b]=>(ent? (a.map strip)).bind fun c=>(ent? (b.map strip)).bind fun e=>open Classical in if (c.d.isSome ∧ c.m.isSome ∧ e.d.isSome ∧ e.m.isSome) ∧ okN c ∧ okN e then some (.raw (.bool (sameE c e))) else none
  | _=>none
theorem ent_norm (c : Eny) : (entA c).map norm = entA (fulE c):=by
  obtain ⟨t,k,d,m⟩:=c
  cases d <;> cases m <;> rfl
theorem samee_at {c e : Eny} (h : okN c) (h' : okN e) : pf89 (List.map norm3 [.agg (entA c),.agg (entA e)]) = some (.raw (.bool (sameE c e))):=by
  simp only [List.map_cons,List.map_nil,norm3,ent_norm,pf89,entA_strip,ent?_at,Option.bind_some]
  exact if_pos ⟨⟨rfl,rfl,rfl,rfl⟩,h,h'⟩
theorem dat_beq (x y : List (BitVec 8)) : (List.map UInt8.ofBitVec x == List.map UInt8.ofBitVec y) = decide (x = y):=map8_beq x y
theorem bne_dec (n m : Int) : (n != m) = !decide (n = m):=by rw [bne,beq_dec']
theorem ilist_ext {l m : List Int} (h : l.length = m.length) (h2 : ∀ j,j < l.length→l.getD j 0 = m.getD j 0) : l = m:=by
  apply List.ext_getElem h
  intro i h1 h3
  have:=h2 i h1
  rwa [List.getD_eq_getElem?_getD,List.getD_eq_getElem?_getD,List.getElem?_eq_getElem h1,List.getElem?_eq_getElem h3] at this
def tbMj0:=(And.intro (And.intro (And.intro (And.intro (And.intro @teE @entA_strip) (And.intro @entA_snap @entA_noview)) (And.intro (And.intro @entA_take @entA_one) (And.intro @dropE (And.intro @zeroE @splice_ent)))) (And.intro (And.intro (And.intro @splice_ent' @entA_len) (And.intro @rep1 @rep2)) (And.intro (And.intro @rep3 @rep5) (And.intro @one_le (And.intro @le2 @le3))))) (And.intro (And.intro (And.intro (And.intro @le5 @dr1) (And.intro @dr2 @dr3)) (And.intro (And.intro @dr5 @EW_te) (And.intro @EW_glob (And.intro @EW_gs @EW_dyn)))) (And.intro (And.intro (And.intro @EW_mu @ev4) (And.intro @asB0 @dat_beq)) (And.intro (And.intro @bne_dec @entA_0) (And.intro @entA_1 (And.intro @entA_2 @entA_3))))))
set_option maxRecDepth 4000 in
theorem sound89 : SoundV Tryd.prog glob 89 pf89:=by
  refine SoundV.walk EW okW mixed Tryd.func89 rfl Tryd.call89 (by kernel_rfl) ?_
  intro args r hr
  unfold pf89 at hr
  split at hr
  · rename_i a b
    simp only [Option.bind_eq_some_iff] at hr
    obtain ⟨c,hc,e,he,hr⟩:=hr
    split at hr
    · rename_i hh
      cases hr
      have h1:=ent?_of hc
      have h2:=ent?_of he
      rw [Tryd.ntmps89,Tryd.results89]
      refine ⟨by simp,?_⟩
      obtain ⟨t,k,d,m⟩:=c
      obtain ⟨t',k',d',m'⟩:=e
      obtain ⟨⟨g1,g2,g3,g4⟩,⟨_,z1,_⟩,⟨_,z2,_⟩⟩:=hh
      obtain ⟨d,rfl⟩:=Option.isSome_iff_exists.1 g1
      obtain ⟨m,rfl⟩:=Option.isSome_iff_exists.1 g2
      obtain ⟨d',rfl⟩:=Option.isSome_iff_exists.1 g3
      obtain ⟨m',rfl⟩:=Option.isSome_iff_exists.1 g4
      simp only [idat] at z1 z2
      have hs : sameE ⟨t,k,some d,some m⟩ ⟨t',k',some d',some m'⟩ = (decide (t = t') && (decide (k = k') && (decide (d = d') && decide (m = m')))):=rfl
      rw [hs]
      clear hs hc he g1 g2 g3 g4
      cases e1 : decide (t = t')
      · simp (maxSteps := 1000000) (disch := first | omega | exact ok4096 | (simp only [updB,dsB,reduceCtorEq,Nat.reduceEqDiff, *]; done) | (simp only [lnB] <;> omega) | fail) only [ev0,ev1,ev2,ev3,↓reduceIte,reduceCtorEq,zaa,zab,zac,zad,zae,zaf,zag,zah,zai,zaj,zak,zal,zam,zan,zao,zap,zaq,↓zar,↓zas,zat,zau,zav,zaw,zax,zay,zaz,zba,zbb,zbc,zbd,zbe,zbf,zbg,zbh,zbi,zbj,zbk,zbl,zbm,zbn,zbo,zbp,zbq,zbr,zbs,zbt,zbu,zbv,zbw,zbx,zby,zbz,zca,zcb,zcc,zcd,zce,zcf,zcg,zch,zci,zcj,zck,zcl,zcm,zcn,zco,zcp,zcq,zcr,zcs,zct,zcu,zcv,zcw,zcx,zcy,zcz,zda,zdb,zdc,zdd,zde,zdf,zdg,zdh,zdi,zdj,zdk,zdl,zdm,ev5,tbMj0,List.map_nil,List.all_nil,List.drop_zero,glob,Bool.not_false,Bool.not_true,btA,itA,List.size_toArray,Array.size_empty,List.length_nil,h1,h2,e1]
        exact ResQ.same rfl
      cases e2 : decide (k = k')
      · simp (maxSteps := 1000000) (disch := first | omega | exact ok4096 | (simp only [updB,dsB,reduceCtorEq,Nat.reduceEqDiff, *]; done) | (simp only [lnB] <;> omega) | fail) only [ev0,ev1,ev2,ev3,↓reduceIte,reduceCtorEq,zaa,zab,zac,zad,zae,zaf,zag,zah,zai,zaj,zak,zal,zam,zan,zao,zap,zaq,↓zar,↓zas,zat,zau,zav,zaw,zax,zay,zaz,zba,zbb,zbc,zbd,zbe,zbf,zbg,zbh,zbi,zbj,zbk,zbl,zbm,zbn,zbo,zbp,zbq,zbr,zbs,zbt,zbu,zbv,zbw,zbx,zby,zbz,zca,zcb,zcc,zcd,zce,zcf,zcg,zch,zci,zcj,zck,zcl,zcm,zcn,zco,zcp,zcq,zcr,zcs,zct,zcu,zcv,zcw,zcx,zcy,zcz,zda,zdb,zdc,zdd,zde,zdf,zdg,zdh,zdi,zdj,zdk,zdl,zdm,ev5,tbMj0,List.map_nil,List.all_nil,List.drop_zero,glob,Bool.not_false,Bool.not_true,btA,itA,List.size_toArray,Array.size_empty,List.length_nil,h1,h2,e1,e2]
        exact ResQ.same rfl
      cases e3 : decide (d = d')
      · simp (maxSteps := 1000000) (disch := first | omega | exact ok4096 | (simp only [updB,dsB,reduceCtorEq,Nat.reduceEqDiff, *]; done) | (simp only [lnB] <;> omega) | fail) only [ev0,ev1,ev2,ev3,↓reduceIte,reduceCtorEq,zaa,zab,zac,zad,zae,zaf,zag,zah,zai,zaj,zak,zal,zam,zan,zao,zap,zaq,↓zar,↓zas,zat,zau,zav,zaw,zax,zay,zaz,zba,zbb,zbc,zbd,zbe,zbf,zbg,zbh,zbi,zbj,zbk,zbl,zbm,zbn,zbo,zbp,zbq,zbr,zbs,zbt,zbu,zbv,zbw,zbx,zby,zbz,zca,zcb,zcc,zcd,zce,zcf,zcg,zch,zci,zcj,zck,zcl,zcm,zcn,zco,zcp,zcq,zcr,zcs,zct,zcu,zcv,zcw,zcx,zcy,zcz,zda,zdb,zdc,zdd,zde,zdf,zdg,zdh,zdi,zdj,zdk,zdl,zdm,ev5,tbMj0,List.map_nil,List.all_nil,List.drop_zero,glob,Bool.not_false,Bool.not_true,btA,itA,List.size_toArray,Array.size_empty,List.length_nil,h1,h2,e1,e2,e3]
        exact ResQ.same rfl
      by_cases hl : m.length = m'.length
      rotate_left
      · have e4 : decide (m.length = m'.length) = false := decide_eq_false hl
        have e5 : decide (m = m') = false:=decide_eq_false (fun h=>hl (by rw [h]))
        simp (maxSteps:=1000000) (disch:=first | omega | exact ok4096 | (simp only [updB,dsB,reduceCtorEq,Nat.reduceEqDiff, *]; done) | (simp only [lnB] <;> omega) | fail) only [ev0,ev1,ev2,ev3,↓reduceIte,reduceCtorEq,zaa,zab,zac,zad,zae,zaf,zag,zah,zai,zaj,zak,zal,zam,zan,zao,zap,zaq,↓zar,↓zas,zat,zau,zav,zaw,zax,zay,zaz,zba,zbb,zbc,zbd,zbe,zbf,zbg,zbh,zbi,zbj,zbk,zbl,zbm,zbn,zbo,zbp,zbq,zbr,zbs,zbt,zbu,zbv,zbw,zbx,zby,zbz,zca,zcb,zcc,zcd,zce,zcf,zcg,zch,zci,zcj,zck,zcl,zcm,zcn,zco,zcp,zcq,zcr,zcs,zct,zcu,zcv,zcw,zcx,zcy,zcz,zda,zdb,zdc,zdd,zde,zdf,zdg,zdh,zdi,zdj,zdk,zdl,zdm,ev5,tbMj0,List.map_nil,List.all_nil,List.drop_zero,glob,Bool.not_false,Bool.not_true,btA,itA,List.size_toArray,Array.size_empty,List.length_nil,h1,h2,e1,e2,e3,e4]
        rw [e5]
        exact ResQ.same rfl
      have e4 : decide (m.length = m'.length) = true:=decide_eq_true hl
      simp (maxSteps:=1000000) (disch:=first | omega | exact ok4096 | (simp only [updB,dsB,reduceCtorEq,Nat.reduceEqDiff, *]; done) | (simp only [lnB] <;> omega) | fail) only [ev0,ev1,ev2,ev3,↓reduceIte,reduceCtorEq,zaa,zab,zac,zad,zae,zaf,zag,zah,zai,zaj,zak,zal,zam,zan,zao,zap,zaq,↓zar,↓zas,zat,zau,zav,zaw,zax,zay,zaz,zba,zbb,zbc,zbd,zbe,zbf,zbg,zbh,zbi,zbj,zbk,zbl,zbm,zbn,zbo,zbp,zbq,zbr,zbs,zbt,zbu,zbv,zbw,zbx,zby,zbz,zca,zcb,zcc,zcd,zce,zcf,zcg,zch,zci,zcj,zck,zcl,zcm,zcn,zco,zcp,zcq,zcr,zcs,zct,zcu,zcv,zcw,zcx,zcy,zcz,zda,zdb,zdc,zdd,zde,zdf,zdg,zdh,zdi,zdj,zdk,zdl,zdm,ev5,tbMj0,List.map_nil,List.all_nil,List.drop_zero,glob,Bool.not_false,Bool.not_true,btA,itA,List.size_toArray,Array.size_empty,List.length_nil,h1,h2,e1,e2,e3,e4]
      refine loopQ_of (fun n σ=>∃ j,j ≤ m.length ∧ n = m.length - j ∧ (∀ i,i < j→m.getD i 0 = m'.getD i 0) ∧ σ.slots 5 = .raw (.int .i64 (j : Int)) ∧ σ.slots 2 = .ptr (.own 0 2 1) 0 ∧ σ.slots 3 = .ptr (.own 0 3 1) 0 ∧ σ.box (.own 0 2 1) = some (entA ⟨t,k,some d,some m⟩) ∧ σ.box (.own 0 3 1) = some (entA ⟨t',k',some d',some m'⟩)) m.length ?_ ?_
      · refine ⟨0,by omega,by omega,by omega,?_⟩
        simp (maxSteps:=1000000) (disch:=first | omega | exact ok4096 | (simp only [updB,dsB,reduceCtorEq,Nat.reduceEqDiff, *]; done) | (simp only [lnB] <;> omega) | fail) only [ev0,ev1,ev2,ev3,↓reduceIte,reduceCtorEq,zaa,zab,zac,zad,zae,zaf,zag,zah,zai,zaj,zak,zal,zam,zan,zao,zap,zaq,↓zar,↓zas,zat,zau,zav,zaw,zax,zay,zaz,zba,zbb,zbc,zbd,zbe,zbf,zbg,zbh,zbi,zbj,zbk,zbl,zbm,zbn,zbo,zbp,zbq,zbr,zbs,zbt,zbu,zbv,zbw,zbx,zby,zbz,zca,zcb,zcc,zcd,zce,zcf,zcg,zch,zci,zcj,zck,zcl,zcm,zcn,zco,zcp,zcq,zcr,zcs,zct,zcu,zcv,zcw,zcx,zcy,zcz,zda,zdb,zdc,zdd,zde,zdf,zdg,zdh,zdi,zdj,zdk,zdl,zdm,ev5,tbMj0,List.map_nil,List.all_nil,List.drop_zero,glob,Bool.not_false,Bool.not_true,btA,itA,List.size_toArray,Array.size_empty,List.length_nil]
        exact rfl
      · rintro n ⟨sl,gn,bx,us⟩ ⟨j,hj,rfl,hsm,s5,s2,s3,b2,b3⟩
        dsimp only at s5 s2 s3 b2 b3
        simp (maxSteps:=1000000) (disch:=first | omega | exact ok4096 | (simp only [updB,dsB,reduceCtorEq,Nat.reduceEqDiff, *]; done) | (simp only [lnB] <;> omega) | fail) only [ev0,ev1,ev2,ev3,↓reduceIte,reduceCtorEq,zaa,zab,zac,zad,zae,zaf,zag,zah,zai,zaj,zak,zal,zam,zan,zao,zap,zaq,↓zar,↓zas,zat,zau,zav,zaw,zax,zay,zaz,zba,zbb,zbc,zbd,zbe,zbf,zbg,zbh,zbi,zbj,zbk,zbl,zbm,zbn,zbo,zbp,zbq,zbr,zbs,zbt,zbu,zbv,zbw,zbx,zby,zbz,zca,zcb,zcc,zcd,zce,zcf,zcg,zch,zci,zcj,zck,zcl,zcm,zcn,zco,zcp,zcq,zcr,zcs,zct,zcu,zcv,zcw,zcx,zcy,zcz,zda,zdb,zdc,zdd,zde,zdf,zdg,zdh,zdi,zdj,zdk,zdl,zdm,ev5,tbMj0,List.map_nil,List.all_nil,List.drop_zero,glob,Bool.not_false,Bool.not_true,btA,itA,List.size_toArray,Array.size_empty,List.length_nil,s5,s2,s3,b2,b3]
        refine condQ_dec (fun hlt=>?_) (fun hge=>?_)
        · have hlt : j < m.length := by omega
          cases e6 : decide (m.getD j 0 = m'.getD j 0)
          · have e5 : decide (m = m') = false := decide_eq_false (fun h => by rw [h] at e6; simp at e6)
            simp (maxSteps:=1000000) (disch:=first | omega | exact ok4096 | (simp only [updB,dsB,reduceCtorEq,Nat.reduceEqDiff, *]; done) | (simp only [lnB] <;> omega) | fail) only [ev0,ev1,ev2,ev3,↓reduceIte,reduceCtorEq,zaa,zab,zac,zad,zae,zaf,zag,zah,zai,zaj,zak,zal,zam,zan,zao,zap,zaq,↓zar,↓zas,zat,zau,zav,zaw,zax,zay,zaz,zba,zbb,zbc,zbd,zbe,zbf,zbg,zbh,zbi,zbj,zbk,zbl,zbm,zbn,zbo,zbp,zbq,zbr,zbs,zbt,zbu,zbv,zbw,zbx,zby,zbz,zca,zcb,zcc,zcd,zce,zcf,zcg,zch,zci,zcj,zck,zcl,zcm,zcn,zco,zcp,zcq,zcr,zcs,zct,zcu,zcv,zcw,zcx,zcy,zcz,zda,zdb,zdc,zdd,zde,zdf,zdg,zdh,zdi,zdj,zdk,zdl,zdm,ev5,tbMj0,List.map_nil,List.all_nil,List.drop_zero,glob,Bool.not_false,Bool.not_true,btA,itA,List.size_toArray,Array.size_empty,List.length_nil,s5,s2,s3,b2,b3,e6]
            rw [e5]
            exact ResQ.same rfl
          · simp (maxSteps := 1000000) (disch := first | omega | exact ok4096 | (simp only [updB,dsB,reduceCtorEq,Nat.reduceEqDiff, *]; done) | (simp only [lnB] <;> omega) | fail) only [ev0,ev1,ev2,ev3,↓reduceIte,reduceCtorEq,zaa,zab,zac,zad,zae,zaf,zag,zah,zai,zaj,zak,zal,zam,zan,zao,zap,zaq,↓zar,↓zas,zat,zau,zav,zaw,zax,zay,zaz,zba,zbb,zbc,zbd,zbe,zbf,zbg,zbh,zbi,zbj,zbk,zbl,zbm,zbn,zbo,zbp,zbq,zbr,zbs,zbt,zbu,zbv,zbw,zbx,zby,zbz,zca,zcb,zcc,zcd,zce,zcf,zcg,zch,zci,zcj,zck,zcl,zcm,zcn,zco,zcp,zcq,zcr,zcs,zct,zcu,zcv,zcw,zcx,zcy,zcz,zda,zdb,zdc,zdd,zde,zdf,zdg,zdh,zdi,zdj,zdk,zdl,zdm,ev5,tbMj0,List.map_nil,List.all_nil,List.drop_zero,glob,Bool.not_false,Bool.not_true,btA,itA,List.size_toArray,Array.size_empty,List.length_nil,s5,s2,s3,b2,b3,e6]
            refine ⟨m.length - (j + 1),by omega,j + 1,by omega,rfl,?_,?_⟩
            · intro i hi
              rcases Nat.lt_or_eq_of_le (Nat.le_of_lt_succ hi) with h | h
              · exact hsm i h
              · rw [h]; exact of_decide_eq_true e6
            · first | exact rfl | exact ⟨rfl,rfl⟩ | exact ⟨rfl,rfl,rfl⟩
        · have hj : j = m.length := by omega
          subst hj
          have e5 : decide (m = m') = true:=decide_eq_true (ilist_ext hl hsm)
          simp (maxSteps:=1000000) (disch:=first | omega | exact ok4096 | (simp only [updB,dsB,reduceCtorEq,Nat.reduceEqDiff, *]; done) | (simp only [lnB] <;> omega) | fail) only [ev0,ev1,ev2,ev3,↓reduceIte,reduceCtorEq,zaa,zab,zac,zad,zae,zaf,zag,zah,zai,zaj,zak,zal,zam,zan,zao,zap,zaq,↓zar,↓zas,zat,zau,zav,zaw,zax,zay,zaz,zba,zbb,zbc,zbd,zbe,zbf,zbg,zbh,zbi,zbj,zbk,zbl,zbm,zbn,zbo,zbp,zbq,zbr,zbs,zbt,zbu,zbv,zbw,zbx,zby,zbz,zca,zcb,zcc,zcd,zce,zcf,zcg,zch,zci,zcj,zck,zcl,zcm,zcn,zco,zcp,zcq,zcr,zcs,zct,zcu,zcv,zcw,zcx,zcy,zcz,zda,zdb,zdc,zdd,zde,zdf,zdg,zdh,zdi,zdj,zdk,zdl,zdm,ev5,tbMj0,List.map_nil,List.all_nil,List.drop_zero,glob,Bool.not_false,Bool.not_true,btA,itA,List.size_toArray,Array.size_empty,List.length_nil,s5,s2,s3,b2,b3]
          rw [e5]
          exact ResQ.same rfl
    · cases hr
  · cases hr
theorem samee_at' {c e : Eny} (h : okN c) (h' : okN e) : pf89 [norm3 (.agg (entA c)),norm3 (.agg (entA e))] = some (.raw (.bool (sameE c e))):=samee_at h h'
end Go.Proofs.YtddeffdgldjdjaaDoor.W
