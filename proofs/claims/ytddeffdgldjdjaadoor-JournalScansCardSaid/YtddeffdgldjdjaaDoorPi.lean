/- Texts are laid behind bytes,and taken from their front: what the walks come to. -/
import Derived.Test.YtddeffdgldjdjaaDoorPf
import Derived.Test.YtddeffdgldjdjaaDoorM3
namespace Go.Proofs.YtddeffdgldjdjaaDoor.W
set_option linter.unusedSimpArgs false
set_option linter.unusedVariables false
set_option linter.defProp false
open Go Go.Abs
def E4 : Env:=((E3.know 80 (fun xs=>pf80 (xs.map norm))).know 104 (fun xs=>pf80 (xs.map norm))).know 147 (fun xs=>pf165 (xs.map norm))
theorem ok4 : EnvOK Tryd.prog E4:=((ok3.know sound80.norm).know sound104.norm).know sound147.norm
theorem E4_te : E4.te = te:=rfl
theorem E4_gs : E4.gs = []:=rfl
theorem E4_dyn : E4.dyn = false:=rfl
theorem E4_glob : E4.glob = glob:=rfl
theorem E4_mu (d : Nat) : E4.mu d = false:=rfl
theorem E4_90 : E4.tbl 90 = some (.val (fun xs=>pf90 (xs.map norm))):=rfl
theorem E4_165 : E4.tbl 165 = some (.val (fun xs=>pf165 (xs.map norm))):=rfl
theorem E4_80 : E4.tbl 80 = some (.val (fun xs=>pf80 (xs.map norm))):=rfl
theorem E4_104 : E4.tbl 104 = some (.val (fun xs=>pf80 (xs.map norm))):=rfl
theorem E4_147 : E4.tbl 147 = some (.val (fun xs=>pf165 (xs.map norm))):=rfl
theorem pf80_at {l : Nat} {b : List (BitVec 8)} {fl : Fl} {n : Int} (h : l = b.length) (h2 : b.length ≤ 150000000000000) (h3 : n ≤ 9223372036854775807) (h0 : 0 ≤ n) : pf80 [.sl l (nums .u8 b) fl,.raw (.int .i64 n)] = some (.tup [.sl (putB b n.toNat).length (nums .u8 (putB b n.toNat)) (.own ⟨0,0,0,0⟩ 1),.raw (.int .i64 0)]):=by
  simp only [pf80,row?_at h,int?_at,Option.bind_some,if_pos (And.intro h2 h3),if_neg (show ¬ n < 0 by omega)]
theorem pf80_neg {l : Nat} {b : List (BitVec 8)} {fl : Fl} {n : Int} (h : l = b.length) (h2 : b.length ≤ 150000000000000) (h3 : n ≤ 9223372036854775807) (h0 : n < 0) : pf80 [.sl l (nums .u8 b) fl,.raw (.int .i64 n)] = some (.tup [.sl 0 [] (.own ⟨0,0,0,0⟩ 1),.raw (.int .i64 1)]):=by
  simp only [pf80,row?_at h,int?_at,Option.bind_some,if_pos (And.intro h2 h3),if_pos h0]
def pf72 : List AV → Option AV
  | [v,w] => (row? .u8 8 v).bind fun b => (row? .u8 8 w).bind fun t => if b.length ≤ 150000000000000 then
      (if t.length > 4096 then some (.tup [.sl 0 [] (.own ⟨0,0,0,0⟩ 1),.raw (.int .i64 2)]) else some (.tup [.sl (putB b t.length ++ t).length (nums .u8 (putB b t.length ++ t)) (.own ⟨0,0,0,0⟩ 1),.raw (.int .i64 0)])) else none
  | _=>none
set_option maxHeartbeats 4000000
def tbPg0:=(And.intro (And.intro (And.intro @teE (And.intro @E4_te @E4_gs)) (And.intro (And.intro @E4_dyn @E4_glob) (And.intro @E4_mu @E4_80))) (And.intro (And.intro @E4_104 (And.intro @E4_147 @E4_90)) (And.intro (And.intro @E4_165 @pf90_at) (And.intro @pf80_at @pf165_at))))
theorem sound72 : SoundV Tryd.prog glob 72 pf72:=by
  refine SoundV.walk E4 ok4 mixed Tryd.func72 rfl Tryd.call72 (by kernel_rfl) ?_
  intro args r hr
  unfold pf72 at hr
  split at hr
  · simp only [Option.bind_eq_some_iff] at hr
    obtain ⟨b,h1,t,h2,hr⟩:=hr
    split at hr
    · rename_i hc
      obtain ⟨fl,rfl⟩:=row?_of h1
      obtain ⟨gl,rfl⟩:=row?_of h2
      by_cases ht : t.length > 4096
      · rw [if_pos ht] at hr
        cases hr
        rw [Tryd.ntmps72,Tryd.results72]
        refine ⟨by simp,?_⟩
        have dt : decide ((t.length : Int) > 4096) = true:=decide_eq_true (by omega)
        simp (maxSteps:=1000000) (disch:=first | omega | (simp only [digF_len,putK_len,putB_len,lnB] <;> omega) | fail) only [ev0,ev1,ev2,ev3,↓reduceIte,reduceCtorEq,Nat.reduceAdd,Nat.reduceSub,Nat.reduceMul,Nat.reduceLT,Nat.reduceLeDiff,Nat.reduceEqDiff,Nat.reduceBEq,BitVec.reduceOfInt,Int.reduceLE,Int.reduceLT,Int.reduceGT,Int.reduceGE,Int.reduceNeg,Int.reduceAdd,Int.reduceSub,Int.reduceMul,Int.reduceToNat,↓bind_go,↓map_go,wantedV,isWrite,grow,write,ofV,AV.cells,Abs.start,Abs.strip,endQ,resV,rawsRes,rawRes,exports,export1,AS.grown,AS.put,Env.know,Env.boxed,isSelf,convSelf,convV,loadV,storeV,fieldAddrV,fieldV,indexAddrV,indexV,partV,isAggK,isStr,place,ipS,lenV,min2V,makeV,freshSl,sliceV,boundOr,bound,bounds,cutFl,copyV,slCells,srcV,appendV,room,zerosOf,eqNeg,kd,takeR,hasViewL,hasView,freshR,freshC,snapAll,snap,snapL,flatL,pureL,pureA,fillC,arrOK,oneA,partB,AV.laid,ren1,CR.gr,applyW,useL,AS.mute,isGen,startG,ev5,tbPg0,glob,dt]
        exact resQ_tnil
      · rw [if_neg ht] at hr
        cases hr
        rw [Tryd.ntmps72,Tryd.results72]
        refine ⟨by simp,?_⟩
        have hn8:=need_le t.length (by omega)
        have dt : decide ((t.length : Int) > 4096) = false:=decide_eq_false (by omega)
        simp (maxSteps:=1000000) (disch:=first | omega | (simp only [digF_len,putK_len,putB_len,lnB] <;> omega) | fail) only [ev0,ev1,ev2,ev3,↓reduceIte,reduceCtorEq,Nat.reduceAdd,Nat.reduceSub,Nat.reduceMul,Nat.reduceLT,Nat.reduceLeDiff,Nat.reduceEqDiff,Nat.reduceBEq,BitVec.reduceOfInt,Int.reduceLE,Int.reduceLT,Int.reduceGT,Int.reduceGE,Int.reduceNeg,Int.reduceAdd,Int.reduceSub,Int.reduceMul,Int.reduceToNat,↓bind_go,↓map_go,wantedV,isWrite,grow,write,ofV,AV.cells,Abs.start,Abs.strip,endQ,resV,rawsRes,rawRes,exports,export1,AS.grown,AS.put,Env.know,Env.boxed,isSelf,convSelf,convV,loadV,storeV,fieldAddrV,fieldV,indexAddrV,indexV,partV,isAggK,isStr,place,ipS,lenV,min2V,makeV,freshSl,sliceV,boundOr,bound,bounds,cutFl,copyV,slCells,srcV,appendV,room,zerosOf,eqNeg,kd,takeR,hasViewL,hasView,freshR,freshC,snapAll,snap,snapL,flatL,pureL,pureA,fillC,arrOK,oneA,partB,AV.laid,ren1,CR.gr,applyW,useL,AS.mute,isGen,startG,ev5,tbPg0,glob,dt]
        exact ResQ.same rfl
    · cases hr
  · cases hr
theorem sound73 : SoundV Tryd.prog glob 73 pf72:=by
  refine SoundV.walk E4 ok4 mixed Tryd.func73 rfl Tryd.call73 (by kernel_rfl) ?_
  intro args r hr
  unfold pf72 at hr
  split at hr
  · simp only [Option.bind_eq_some_iff] at hr
    obtain ⟨b,h1,t,h2,hr⟩:=hr
    split at hr
    · rename_i hc
      obtain ⟨fl,rfl⟩:=row?_of h1
      obtain ⟨gl,rfl⟩:=row?_of h2
      by_cases ht : t.length > 4096
      · rw [if_pos ht] at hr
        cases hr
        rw [Tryd.ntmps73,Tryd.results73]
        refine ⟨by simp,?_⟩
        have dt : decide ((t.length : Int) > 4096) = true:=decide_eq_true (by omega)
        simp (maxSteps:=1000000) (disch:=first | omega | (simp only [digF_len,putK_len,putB_len,lnB] <;> omega) | fail) only [ev0,ev1,ev2,ev3,↓reduceIte,reduceCtorEq,Nat.reduceAdd,Nat.reduceSub,Nat.reduceMul,Nat.reduceLT,Nat.reduceLeDiff,Nat.reduceEqDiff,Nat.reduceBEq,BitVec.reduceOfInt,Int.reduceLE,Int.reduceLT,Int.reduceGT,Int.reduceGE,Int.reduceNeg,Int.reduceAdd,Int.reduceSub,Int.reduceMul,Int.reduceToNat,↓bind_go,↓map_go,wantedV,isWrite,grow,write,ofV,AV.cells,Abs.start,Abs.strip,endQ,resV,rawsRes,rawRes,exports,export1,AS.grown,AS.put,Env.know,Env.boxed,isSelf,convSelf,convV,loadV,storeV,fieldAddrV,fieldV,indexAddrV,indexV,partV,isAggK,isStr,place,ipS,lenV,min2V,makeV,freshSl,sliceV,boundOr,bound,bounds,cutFl,copyV,slCells,srcV,appendV,room,zerosOf,eqNeg,kd,takeR,hasViewL,hasView,freshR,freshC,snapAll,snap,snapL,flatL,pureL,pureA,fillC,arrOK,oneA,partB,AV.laid,ren1,CR.gr,applyW,useL,AS.mute,isGen,startG,ev5,tbPg0,glob,dt]
        exact resQ_tnil
      · rw [if_neg ht] at hr
        cases hr
        rw [Tryd.ntmps73,Tryd.results73]
        refine ⟨by simp,?_⟩
        have hn8:=need_le t.length (by omega)
        have dt : decide ((t.length : Int) > 4096) = false:=decide_eq_false (by omega)
        simp (maxSteps:=1000000) (disch:=first | omega | (simp only [digF_len,putK_len,putB_len,lnB] <;> omega) | fail) only [ev0,ev1,ev2,ev3,↓reduceIte,reduceCtorEq,Nat.reduceAdd,Nat.reduceSub,Nat.reduceMul,Nat.reduceLT,Nat.reduceLeDiff,Nat.reduceEqDiff,Nat.reduceBEq,BitVec.reduceOfInt,Int.reduceLE,Int.reduceLT,Int.reduceGT,Int.reduceGE,Int.reduceNeg,Int.reduceAdd,Int.reduceSub,Int.reduceMul,Int.reduceToNat,↓bind_go,↓map_go,wantedV,isWrite,grow,write,ofV,AV.cells,Abs.start,Abs.strip,endQ,resV,rawsRes,rawRes,exports,export1,AS.grown,AS.put,Env.know,Env.boxed,isSelf,convSelf,convV,loadV,storeV,fieldAddrV,fieldV,indexAddrV,indexV,partV,isAggK,isStr,place,ipS,lenV,min2V,makeV,freshSl,sliceV,boundOr,bound,bounds,cutFl,copyV,slCells,srcV,appendV,room,zerosOf,eqNeg,kd,takeR,hasViewL,hasView,freshR,freshC,snapAll,snap,snapL,flatL,pureL,pureA,fillC,arrOK,oneA,partB,AV.laid,ren1,CR.gr,applyW,useL,AS.mute,isGen,startG,ev5,tbPg0,glob,dt]
        exact ResQ.same rfl
    · cases hr
  · cases hr
end Go.Proofs.YtddeffdgldjdjaaDoor.W
/- Texts are taken from the front of bytes; rows of numbers: what the walks come to. -/
namespace Go.Proofs.YtddeffdgldjdjaaDoor.W
set_option linter.unusedSimpArgs false
set_option linter.unusedVariables false
set_option linter.defProp false
open Go Go.Abs
open Nat renaming reduceAdd→zaa,reduceSub→zab,reduceMul→zac,reduceLT→zad,reduceLeDiff→zae,reduceEqDiff→zaf,reduceBEq→zag
open BitVec renaming reduceOfInt→zah
open Int renaming reduceLE→zai,reduceLT→zaj,reduceGT→zak,reduceGE→zal,reduceNeg→zam,reduceAdd→zan,reduceSub→zao,reduceMul→zap,reduceToNat→zaq
open Go.Abs renaming bind_go→zar,map_go→zas,wantedV→zat,isWrite→zau,grow→zav,write→zaw,ofV→zax,start→zaz,strip→zba,endQ→zbb,resV→zbc,rawsRes→zbd,rawRes→zbe,exports→zbf,export1→zbg,isSelf→zbl,convSelf→zbm,convV→zbn,loadV→zbo,storeV→zbp,fieldAddrV→zbq,fieldV→zbr,indexAddrV→zbs,indexV→zbt,partV→zbu,isAggK→zbv,isStr→zbw,place→zbx,ipS→zby,lenV→zbz,min2V→zca,makeV→zcb,freshSl→zcc,sliceV→zcd,boundOr→zce,bound→zcf,bounds→zcg,cutFl→zch,copyV→zci,slCells→zcj,srcV→zck,appendV→zcl,room→zcm,zerosOf→zcn,eqNeg→zco,kd→zcp,takeR→zcq,hasViewL→zcr,hasView→zcs,freshR→zct,freshC→zcu,snapAll→zcv,snap→zcw,snapL→zcx,flatL→zcy,pureL→zcz,pureA→zda,fillC→zdb,arrOK→zdc,oneA→zdd,partB→zde,ren1→zdg,applyW→zdi,useL→zdj,isGen→zdl,startG→zdm
open Go.Abs.AV renaming cells→zay,laid→zdf
open Go.Abs.AS renaming grown→zbh,put→zbi,mute→zdk
open Go.Abs.Env renaming know→zbj,boxed→zbk
open Go.Abs.CR renaming gr→zdh
def ttE (b : List (BitVec 8)) (m : Int) : Nat:=if tkE b ≠ 0 then tkE b else if (tkN b : Int) > m then 2 else if tkN b > (tkR b).length then 3 else 0
def ttT (b : List (BitVec 8)) (m : Int) : List (BitVec 8):=if ttE b m = 0 then (tkR b).take (tkN b) else []
def ttR (b : List (BitVec 8)) (m : Int) : List (BitVec 8):=if ttE b m = 0 then (tkR b).drop (tkN b) else []
def pf145 : List AV → Option AV
  | [v,w] => (row? .u8 8 v).bind fun b => (int? w).bind fun m => if b.length ≤ 150000000000000 ∧ i64ok m then
      some (.tup [.sl (ttT b m).length (nums .u8 (ttT b m)) .bor,.sl (ttR b m).length (nums .u8 (ttR b m)) .bor,.raw (.int .i64 (ttE b m : Int))]) else none
  | _=>none
theorem mem1 {x y a b c d e f : Nat} (h : a ≠ d) : ((⟨x,a,b,c⟩ : Abs.Id) ∈ [(⟨y,d,e,f⟩ : Abs.Id)]) = False:=by
  rw [List.mem_singleton]; exact eq_false fun h2=>h (by cases h2; rfl)
theorem resQ_4nil {v : Value} : ResQ (some (.tup [.raw (.slice none 0 0),.raw (.slice none 0 0),.raw v])) (.tup [.sl 0 [] .bor,.sl 0 [] .bor,.raw v]) :=
  ⟨_,rfl,.tup rfl fun j x r hx hr=>by
    match j with
    | 0=>simp at hx hr; subst hx hr; exact .nilb _
    | 1=>simp at hx hr; subst hx hr; exact .nilb _
    | 2=>simp at hx hr; subst hx hr; exact .same _ _
    | j + 3=>simp at hx⟩
theorem resQ_4 {v : Value} {n m : Nat} {xs ys : List AV} {fl gl : Fl} : ResQ (some (.tup [.sl n xs fl,.sl m ys gl,.raw v])) (.tup [.sl n xs .bor,.sl m ys .bor,.raw v]) :=
  ⟨_,rfl,.tup rfl fun j x r hx hr=>by
    match j with
    | 0=>simp at hx hr; subst hx hr; exact .bor _ _ _ _
    | 1=>simp at hx hr; subst hx hr; exact .bor _ _ _ _
    | 2=>simp at hx hr; subst hx hr; exact .same _ _
    | j + 3=>simp at hx⟩
theorem tt_no {b : List (BitVec 8)} {m : Int} {e : Nat} (h : ttE b m = e) (h0 : e ≠ 0) : AV.tup [.sl (ttT b m).length (nums .u8 (ttT b m)) .bor,.sl (ttR b m).length (nums .u8 (ttR b m)) .bor,.raw (.int .i64 (ttE b m : Int))] = .tup [.sl 0 [] .bor,.sl 0 [] .bor,.raw (.int .i64 (e : Int))]:=by
  have h1 : ttT b m = []:=by rw [ttT,if_neg (by omega)]
  have h2 : ttR b m = []:=by rw [ttR,if_neg (by omega)]
  rw [h1,h2,h]
  rfl
set_option maxHeartbeats 4000000
def tbPh0:=(And.intro (And.intro (And.intro @teE (And.intro @E4_te @E4_gs)) (And.intro (And.intro @E4_dyn @E4_glob) (And.intro @E4_mu @E4_80))) (And.intro (And.intro (And.intro @E4_104 @E4_147) (And.intro @E4_90 @E4_165)) (And.intro (And.intro @pf90_at @pf80_at) (And.intro @pf165_at @ev4))))
theorem sound145 : SoundV Tryd.prog glob 145 pf145:=by
  refine SoundV.walk E4 ok4 mixed Tryd.func145 rfl Tryd.call145 (by kernel_rfl) ?_
  intro args r hr
  unfold pf145 at hr
  split at hr
  · simp only [Option.bind_eq_some_iff] at hr
    obtain ⟨b,h1,m,h2,hr⟩:=hr
    split at hr
    · rename_i hc
      obtain ⟨hc,hm⟩:=hc
      unfold i64ok at hm
      cases hr
      obtain ⟨fl,rfl⟩:=row?_of h1
      rw [int?_of h2,Tryd.ntmps145,Tryd.results145]
      refine ⟨by simp,?_⟩
      have hE : ttE b m = if tkE b ≠ 0 then tkE b else if (tkN b : Int) > m then 2 else if tkN b > (tkR b).length then 3 else 0:=rfl
      have hle:=tkR_le b
      by_cases c0 : tkE b ≠ 0
      · rw [if_pos c0] at hE
        rw [tt_no hE c0]
        have d0 : ((tkE b : Int) != 0) = true:=by rw [bne_iff_ne]; omega
        simp (maxSteps:=1000000) (disch:=first | omega | (simp only [nums_len,lnB] <;> omega) | fail) only [ev0,ev1,ev2,ev3,↓reduceIte,reduceCtorEq,zaa,zab,zac,zad,zae,zaf,zag,zah,zai,zaj,zak,zal,zam,zan,zao,zap,zaq,↓zar,↓zas,zat,zau,zav,zaw,zax,zay,zaz,zba,zbb,zbc,zbd,zbe,zbf,zbg,zbh,zbi,zbj,zbk,zbl,zbm,zbn,zbo,zbp,zbq,zbr,zbs,zbt,zbu,zbv,zbw,zbx,zby,zbz,zca,zcb,zcc,zcd,zce,zcf,zcg,zch,zci,zcj,zck,zcl,zcm,zcn,zco,zcp,zcq,zcr,zcs,zct,zcu,zcv,zcw,zcx,zcy,zcz,zda,zdb,zdc,zdd,zde,zdf,zdg,zdh,zdi,zdj,zdk,zdl,zdm,ev5,tbPh0,glob,d0]
        exact resQ_4nil
      · rw [if_neg c0] at hE
        have d0 : ((tkE b : Int) != 0) = false:=by rw [Nat.eq_zero_of_not_pos (show ¬ 0 < tkE b by omega)]; rfl
        by_cases c1 : (tkN b : Int) > m
        · rw [if_pos c1] at hE
          rw [tt_no hE (by decide)]
          have d1 : decide ((tkN b : Int) > m) = true:=decide_eq_true c1
          simp (maxSteps:=1000000) (disch:=first | omega | (simp only [nums_len,lnB] <;> omega) | fail) only [ev0,ev1,ev2,ev3,↓reduceIte,reduceCtorEq,zaa,zab,zac,zad,zae,zaf,zag,zah,zai,zaj,zak,zal,zam,zan,zao,zap,zaq,↓zar,↓zas,zat,zau,zav,zaw,zax,zay,zaz,zba,zbb,zbc,zbd,zbe,zbf,zbg,zbh,zbi,zbj,zbk,zbl,zbm,zbn,zbo,zbp,zbq,zbr,zbs,zbt,zbu,zbv,zbw,zbx,zby,zbz,zca,zcb,zcc,zcd,zce,zcf,zcg,zch,zci,zcj,zck,zcl,zcm,zcn,zco,zcp,zcq,zcr,zcs,zct,zcu,zcv,zcw,zcx,zcy,zcz,zda,zdb,zdc,zdd,zde,zdf,zdg,zdh,zdi,zdj,zdk,zdl,zdm,ev5,tbPh0,glob,d0,d1]
          exact resQ_4nil
        · rw [if_neg c1] at hE
          have d1 : decide ((tkN b : Int) > m) = false:=decide_eq_false c1
          by_cases c2 : tkN b > (tkR b).length
          · rw [if_pos c2] at hE
            rw [tt_no hE (by decide)]
            have d2 : decide ((tkN b : Int) > ((tkR b).length : Int)) = true:=decide_eq_true (by omega)
            simp (maxSteps:=1000000) (disch:=first | omega | (simp only [nums_len,lnB] <;> omega) | fail) only [ev0,ev1,ev2,ev3,↓reduceIte,reduceCtorEq,zaa,zab,zac,zad,zae,zaf,zag,zah,zai,zaj,zak,zal,zam,zan,zao,zap,zaq,↓zar,↓zas,zat,zau,zav,zaw,zax,zay,zaz,zba,zbb,zbc,zbd,zbe,zbf,zbg,zbh,zbi,zbj,zbk,zbl,zbm,zbn,zbo,zbp,zbq,zbr,zbs,zbt,zbu,zbv,zbw,zbx,zby,zbz,zca,zcb,zcc,zcd,zce,zcf,zcg,zch,zci,zcj,zck,zcl,zcm,zcn,zco,zcp,zcq,zcr,zcs,zct,zcu,zcv,zcw,zcx,zcy,zcz,zda,zdb,zdc,zdd,zde,zdf,zdg,zdh,zdi,zdj,zdk,zdl,zdm,ev5,tbPh0,glob,d0,d1,d2]
            exact resQ_4nil
          · rw [if_neg c2] at hE
            have d2 : decide ((tkN b : Int) > ((tkR b).length : Int)) = false:=decide_eq_false (by omega)
            rw [hE,show ttT b m = (tkR b).take (tkN b) by rw [ttT,if_pos hE],show ttR b m = (tkR b).drop (tkN b) by rw [ttR,if_pos hE]]
            have hmin : min (tkN b) (tkR b).length = tkN b:=Nat.min_eq_left (by omega)
            simp (maxSteps:=1000000) (disch:=first | omega | (simp only [nums_len,lnB] <;> omega) | fail) only [ev0,ev1,ev2,ev3,↓reduceIte,reduceCtorEq,zaa,zab,zac,zad,zae,zaf,zag,zah,zai,zaj,zak,zal,zam,zan,zao,zap,zaq,↓zar,↓zas,zat,zau,zav,zaw,zax,zay,zaz,zba,zbb,zbc,zbd,zbe,zbf,zbg,zbh,zbi,zbj,zbk,zbl,zbm,zbn,zbo,zbp,zbq,zbr,zbs,zbt,zbu,zbv,zbw,zbx,zby,zbz,zca,zcb,zcc,zcd,zce,zcf,zcg,zch,zci,zcj,zck,zcl,zcm,zcn,zco,zcp,zcq,zcr,zcs,zct,zcu,zcv,zcw,zcx,zcy,zcz,zda,zdb,zdc,zdd,zde,zdf,zdg,zdh,zdi,zdj,zdk,zdl,zdm,ev5,tbPh0,glob,d0,d1,d2,mem1,not_false_eq_true,hmin]
            exact resQ_4
    · cases hr
  · cases hr
theorem sound120 : SoundV Tryd.prog glob 120 pf145:=by
  refine SoundV.walk E4 ok4 mixed Tryd.func120 rfl Tryd.call120 (by kernel_rfl) ?_
  intro args r hr
  unfold pf145 at hr
  split at hr
  · simp only [Option.bind_eq_some_iff] at hr
    obtain ⟨b,h1,m,h2,hr⟩:=hr
    split at hr
    · rename_i hc
      obtain ⟨hc,hm⟩:=hc
      unfold i64ok at hm
      cases hr
      obtain ⟨fl,rfl⟩:=row?_of h1
      rw [int?_of h2,Tryd.ntmps120,Tryd.results120]
      refine ⟨by simp,?_⟩
      have hE : ttE b m = if tkE b ≠ 0 then tkE b else if (tkN b : Int) > m then 2 else if tkN b > (tkR b).length then 3 else 0:=rfl
      have hle:=tkR_le b
      by_cases c0 : tkE b ≠ 0
      · rw [if_pos c0] at hE
        rw [tt_no hE c0]
        have d0 : ((tkE b : Int) != 0) = true:=by rw [bne_iff_ne]; omega
        simp (maxSteps:=1000000) (disch:=first | omega | (simp only [nums_len,lnB] <;> omega) | fail) only [ev0,ev1,ev2,ev3,↓reduceIte,reduceCtorEq,zaa,zab,zac,zad,zae,zaf,zag,zah,zai,zaj,zak,zal,zam,zan,zao,zap,zaq,↓zar,↓zas,zat,zau,zav,zaw,zax,zay,zaz,zba,zbb,zbc,zbd,zbe,zbf,zbg,zbh,zbi,zbj,zbk,zbl,zbm,zbn,zbo,zbp,zbq,zbr,zbs,zbt,zbu,zbv,zbw,zbx,zby,zbz,zca,zcb,zcc,zcd,zce,zcf,zcg,zch,zci,zcj,zck,zcl,zcm,zcn,zco,zcp,zcq,zcr,zcs,zct,zcu,zcv,zcw,zcx,zcy,zcz,zda,zdb,zdc,zdd,zde,zdf,zdg,zdh,zdi,zdj,zdk,zdl,zdm,ev5,tbPh0,glob,d0]
        exact resQ_4nil
      · rw [if_neg c0] at hE
        have d0 : ((tkE b : Int) != 0) = false:=by rw [Nat.eq_zero_of_not_pos (show ¬ 0 < tkE b by omega)]; rfl
        by_cases c1 : (tkN b : Int) > m
        · rw [if_pos c1] at hE
          rw [tt_no hE (by decide)]
          have d1 : decide ((tkN b : Int) > m) = true:=decide_eq_true c1
          simp (maxSteps:=1000000) (disch:=first | omega | (simp only [nums_len,lnB] <;> omega) | fail) only [ev0,ev1,ev2,ev3,↓reduceIte,reduceCtorEq,zaa,zab,zac,zad,zae,zaf,zag,zah,zai,zaj,zak,zal,zam,zan,zao,zap,zaq,↓zar,↓zas,zat,zau,zav,zaw,zax,zay,zaz,zba,zbb,zbc,zbd,zbe,zbf,zbg,zbh,zbi,zbj,zbk,zbl,zbm,zbn,zbo,zbp,zbq,zbr,zbs,zbt,zbu,zbv,zbw,zbx,zby,zbz,zca,zcb,zcc,zcd,zce,zcf,zcg,zch,zci,zcj,zck,zcl,zcm,zcn,zco,zcp,zcq,zcr,zcs,zct,zcu,zcv,zcw,zcx,zcy,zcz,zda,zdb,zdc,zdd,zde,zdf,zdg,zdh,zdi,zdj,zdk,zdl,zdm,ev5,tbPh0,glob,d0,d1]
          exact resQ_4nil
        · rw [if_neg c1] at hE
          have d1 : decide ((tkN b : Int) > m) = false:=decide_eq_false c1
          by_cases c2 : tkN b > (tkR b).length
          · rw [if_pos c2] at hE
            rw [tt_no hE (by decide)]
            have d2 : decide ((tkN b : Int) > ((tkR b).length : Int)) = true:=decide_eq_true (by omega)
            simp (maxSteps:=1000000) (disch:=first | omega | (simp only [nums_len,lnB] <;> omega) | fail) only [ev0,ev1,ev2,ev3,↓reduceIte,reduceCtorEq,zaa,zab,zac,zad,zae,zaf,zag,zah,zai,zaj,zak,zal,zam,zan,zao,zap,zaq,↓zar,↓zas,zat,zau,zav,zaw,zax,zay,zaz,zba,zbb,zbc,zbd,zbe,zbf,zbg,zbh,zbi,zbj,zbk,zbl,zbm,zbn,zbo,zbp,zbq,zbr,zbs,zbt,zbu,zbv,zbw,zbx,zby,zbz,zca,zcb,zcc,zcd,zce,zcf,zcg,zch,zci,zcj,zck,zcl,zcm,zcn,zco,zcp,zcq,zcr,zcs,zct,zcu,zcv,zcw,zcx,zcy,zcz,zda,zdb,zdc,zdd,zde,zdf,zdg,zdh,zdi,zdj,zdk,zdl,zdm,ev5,tbPh0,glob,d0,d1,d2]
            exact resQ_4nil
          · rw [if_neg c2] at hE
            have d2 : decide ((tkN b : Int) > ((tkR b).length : Int)) = false:=decide_eq_false (by omega)
            rw [hE,show ttT b m = (tkR b).take (tkN b) by rw [ttT,if_pos hE],show ttR b m = (tkR b).drop (tkN b) by rw [ttR,if_pos hE]]
            have hmin : min (tkN b) (tkR b).length = tkN b:=Nat.min_eq_left (by omega)
            simp (maxSteps:=1000000) (disch:=first | omega | (simp only [nums_len,lnB] <;> omega) | fail) only [ev0,ev1,ev2,ev3,↓reduceIte,reduceCtorEq,zaa,zab,zac,zad,zae,zaf,zag,zah,zai,zaj,zak,zal,zam,zan,zao,zap,zaq,↓zar,↓zas,zat,zau,zav,zaw,zax,zay,zaz,zba,zbb,zbc,zbd,zbe,zbf,zbg,zbh,zbi,zbj,zbk,zbl,zbm,zbn,zbo,zbp,zbq,zbr,zbs,zbt,zbu,zbv,zbw,zbx,zby,zbz,zca,zcb,zcc,zcd,zce,zcf,zcg,zch,zci,zcj,zck,zcl,zcm,zcn,zco,zcp,zcq,zcr,zcs,zct,zcu,zcv,zcw,zcx,zcy,zcz,zda,zdb,zdc,zdd,zde,zdf,zdg,zdh,zdi,zdj,zdk,zdl,zdm,ev5,tbPh0,glob,d0,d1,d2,mem1,not_false_eq_true,hmin]
            exact resQ_4
    · cases hr
  · cases hr
end Go.Proofs.YtddeffdgldjdjaaDoor.W
/- Numbers are looked through for one below nought: what the walks come to. -/
namespace Go.Proofs.YtddeffdgldjdjaaDoor.W
set_option linter.unusedSimpArgs false
set_option linter.unusedVariables false
set_option linter.defProp false
open Go Go.Abs
open Nat renaming reduceAdd→zaa,reduceSub→zab,reduceMul→zac,reduceLT→zad,reduceLeDiff→zae,reduceEqDiff→zaf,reduceBEq→zag
open BitVec renaming reduceOfInt→zah
open Int renaming reduceLE→zai,reduceLT→zaj,reduceGT→zak,reduceGE→zal,reduceNeg→zam,reduceAdd→zan,reduceSub→zao,reduceMul→zap,reduceToNat→zaq
open Go.Abs renaming bind_go→zar,map_go→zas,wantedV→zat,isWrite→zau,grow→zav,write→zaw,ofV→zax,start→zaz,strip→zba,endQ→zbb,resV→zbc,rawsRes→zbd,rawRes→zbe,exports→zbf,export1→zbg,isSelf→zbl,convSelf→zbm,convV→zbn,loadV→zbo,storeV→zbp,fieldAddrV→zbq,fieldV→zbr,indexAddrV→zbs,indexV→zbt,partV→zbu,isAggK→zbv,isStr→zbw,place→zbx,ipS→zby,lenV→zbz,min2V→zca,makeV→zcb,freshSl→zcc,sliceV→zcd,boundOr→zce,bound→zcf,bounds→zcg,cutFl→zch,copyV→zci,slCells→zcj,srcV→zck,appendV→zcl,room→zcm,zerosOf→zcn,eqNeg→zco,kd→zcp,takeR→zcq,hasViewL→zcr,hasView→zcs,freshR→zct,freshC→zcu,snapAll→zcv,snap→zcw,snapL→zcx,flatL→zcy,pureL→zcz,pureA→zda,fillC→zdb,arrOK→zdc,oneA→zdd,partB→zde,ren1→zdg,applyW→zdi,useL→zdj,isGen→zdl,startG→zdm
open Go.Abs.AV renaming cells→zay,laid→zdf
open Go.Abs.AS renaming grown→zbh,put→zbi,mute→zdk
open Go.Abs.Env renaming know→zbj,boxed→zbk
open Go.Abs.CR renaming gr→zdh
def pf141 : List AV → Option AV
  | [v]=>(int? v).bind fun n=>some (.raw (.bool (decide (n < 0))))
  | _=>none
theorem pf141_at {n : Int} : pf141 [.raw (.int .i64 n)] = some (.raw (.bool (decide (n < 0)))):=rfl
def tbPi0:=(And.intro (And.intro @teE (And.intro @E4_te @E4_gs)) (And.intro (And.intro @E4_dyn @E4_glob) (And.intro @E4_mu @ev4)))
theorem sound141 : SoundV Tryd.prog glob 141 pf141:=by
  refine SoundV.walk E4 ok4 mixed Tryd.func141 rfl Tryd.call141 (by kernel_rfl) ?_
  intro args r hr
  unfold pf141 at hr
  split at hr
  · simp only [Option.bind_eq_some_iff] at hr
    obtain ⟨n,h1,hr⟩:=hr
    cases hr
    rw [int?_of h1,Tryd.ntmps141,Tryd.results141]
    refine ⟨by simp,?_⟩
    simp (maxSteps:=1000000) (disch:=first | omega | (simp only [nums_len,lnB] <;> omega) | fail) only [ev0,ev1,ev2,ev3,↓reduceIte,reduceCtorEq,zaa,zab,zac,zad,zae,zaf,zag,zah,zai,zaj,zak,zal,zam,zan,zao,zap,zaq,↓zar,↓zas,zat,zau,zav,zaw,zax,zay,zaz,zba,zbb,zbc,zbd,zbe,zbf,zbg,zbh,zbi,zbj,zbk,zbl,zbm,zbn,zbo,zbp,zbq,zbr,zbs,zbt,zbu,zbv,zbw,zbx,zby,zbz,zca,zcb,zcc,zcd,zce,zcf,zcg,zch,zci,zcj,zck,zcl,zcm,zcn,zco,zcp,zcq,zcr,zcs,zct,zcu,zcv,zcw,zcx,zcy,zcz,zda,zdb,zdc,zdd,zde,zdf,zdg,zdh,zdi,zdj,zdk,zdl,zdm,ev5,tbPi0,glob]
    exact ResQ.same rfl
  · cases hr
theorem sound111 : SoundV Tryd.prog glob 111 pf141:=by
  refine SoundV.walk E4 ok4 mixed Tryd.func111 rfl Tryd.call111 (by kernel_rfl) ?_
  intro args r hr
  unfold pf141 at hr
  split at hr
  · simp only [Option.bind_eq_some_iff] at hr
    obtain ⟨n,h1,hr⟩:=hr
    cases hr
    rw [int?_of h1,Tryd.ntmps111,Tryd.results111]
    refine ⟨by simp,?_⟩
    simp (maxSteps:=1000000) (disch:=first | omega | (simp only [nums_len,lnB] <;> omega) | fail) only [ev0,ev1,ev2,ev3,↓reduceIte,reduceCtorEq,zaa,zab,zac,zad,zae,zaf,zag,zah,zai,zaj,zak,zal,zam,zan,zao,zap,zaq,↓zar,↓zas,zat,zau,zav,zaw,zax,zay,zaz,zba,zbb,zbc,zbd,zbe,zbf,zbg,zbh,zbi,zbj,zbk,zbl,zbm,zbn,zbo,zbp,zbq,zbr,zbs,zbt,zbu,zbv,zbw,zbx,zby,zbz,zca,zcb,zcc,zcd,zce,zcf,zcg,zch,zci,zcj,zck,zcl,zcm,zcn,zco,zcp,zcq,zcr,zcs,zct,zcu,zcv,zcw,zcx,zcy,zcz,zda,zdb,zdc,zdd,zde,zdf,zdg,zdh,zdi,zdj,zdk,zdl,zdm,ev5,tbPi0,glob]
    exact ResQ.same rfl
  · cases hr
def E5 : Env:=(E4.know 141 pf141).know 111 pf141
theorem ok5 : EnvOK Tryd.prog E5:=(ok4.know sound141).know sound111
theorem E5_te : E5.te = te:=rfl
theorem E5_gs : E5.gs = []:=rfl
theorem E5_dyn : E5.dyn = false:=rfl
theorem E5_glob : E5.glob = glob:=rfl
theorem E5_mu (d : Nat) : E5.mu d = false:=rfl
def isNeg (g : Nat) : Prop:=g = 141 ∨ g = 111
instance (g : Nat) : Decidable (isNeg g):=by unfold isNeg; infer_instance
theorem E5_neg {g : Nat} (h : isNeg g) : E5.tbl g = some (.val pf141):=by rcases h with rfl | rfl <;> rfl
def negF (l : List Int) : Int:=match l.findIdx? (fun n=>decide (n < 0)) with | some i=>(i : Int) | none=>-1
theorem negF_at {l : List Int} {k : Nat} (hk : k < l.length) (hn : l.getD k 0 < 0) (hs : ∀ i,i < k→¬ l.getD i 0 < 0) : negF l = (k : Int):=by
  have : l.findIdx? (fun n=>decide (n < 0)) = some k:=by
    rw [List.findIdx?_eq_some_iff_getElem]
    refine ⟨hk,?_,?_⟩
    · rw [List.getD_eq_getElem?_getD,List.getElem?_eq_getElem hk] at hn
      exact decide_eq_true hn
    · intro j hj
      have:=hs j hj
      rw [List.getD_eq_getElem?_getD,List.getElem?_eq_getElem (show j < l.length by omega)] at this
      simpa using this
  rw [negF,this]
theorem negF_no {l : List Int} (hs : ∀ i,i < l.length→¬ l.getD i 0 < 0) : negF l = -1:=by
  have : l.findIdx? (fun n=>decide (n < 0)) = none:=by
    rw [List.findIdx?_eq_none_iff]
    intro x hx
    obtain ⟨i,hi,rfl⟩:=List.mem_iff_getElem.1 hx
    have:=hs i hi
    rw [List.getD_eq_getElem?_getD,List.getElem?_eq_getElem hi] at this
    simpa using this
  rw [negF,this]
theorem negF_any (l : List Int) : decide (negF l ≥ 0) = l.any fun n=>decide (n < 0):=by
  rw [negF,← List.findIdx?_isSome]
  cases l.findIdx? (fun n=>decide (n < 0)) with
  | none=>rfl
  | some i=>simp
def pf108 : List AV → Option AV
  | [v,.fn g []]=>if isNeg g then (irow? v).bind fun l=>if l.length ≤ 9223372036854775807 then some (.raw (.int .i64 (negF l))) else none else none
  | _=>none
set_option maxHeartbeats 4000000
def tbPi1:=(And.intro (And.intro (And.intro @teE @E5_te) (And.intro @E5_gs @E5_dyn)) (And.intro (And.intro @E5_glob @E5_mu) (And.intro @pf141_at @ev4)))
theorem sound108 : SoundV Tryd.prog glob 108 pf108:=by
  refine SoundV.walk E5 ok5 mixed Tryd.func108 rfl Tryd.call108 (by kernel_rfl) ?_
  intro args r hr
  unfold pf108 at hr
  split at hr
  · rename_i v g
    split at hr
    · rename_i hg
      have hg':=E5_neg hg
      simp only [Option.bind_eq_some_iff] at hr
      obtain ⟨l,h1,hr⟩:=hr
      split at hr
      · rename_i hc
        cases hr
        obtain ⟨⟨fl,rfl⟩,hl⟩:=irow?_of h1
        rw [Tryd.ntmps108,Tryd.results108]
        refine ⟨by simp,?_⟩
        simp (maxSteps:=1000000) (disch:=first | omega | (simp only [nums_len,lnB] <;> omega) | fail) only [ev0,ev1,ev2,ev3,↓reduceIte,reduceCtorEq,zaa,zab,zac,zad,zae,zaf,zag,zah,zai,zaj,zak,zal,zam,zan,zao,zap,zaq,↓zar,↓zas,zat,zau,zav,zaw,zax,zay,zaz,zba,zbb,zbc,zbd,zbe,zbf,zbg,zbh,zbi,zbj,zbk,zbl,zbm,zbn,zbo,zbp,zbq,zbr,zbs,zbt,zbu,zbv,zbw,zbx,zby,zbz,zca,zcb,zcc,zcd,zce,zcf,zcg,zch,zci,zcj,zck,zcl,zcm,zcn,zco,zcp,zcq,zcr,zcs,zct,zcu,zcv,zcw,zcx,zcy,zcz,zda,zdb,zdc,zdd,zde,zdf,zdg,zdh,zdi,zdj,zdk,zdl,zdm,ev5,tbPi1,glob,hg']
        refine loopQ_of (fun n σ=>∃ k,k ≤ l.length ∧ n = l.length - k ∧ (∀ i,i < k→¬ l.getD i 0 < 0) ∧ σ.slots 8 = .raw (.int .i64 (k : Int)) ∧ σ.slots 7 = .raw (.int .i64 (l.length : Int)) ∧ σ.slots 0 = .sl l.length (ints .i64 l) .bor ∧ σ.slots 1 = .fn g []) l.length ?_ ?_
        · refine ⟨0,by omega,by omega,by omega,?_⟩
          simp (maxSteps:=1000000) (disch:=first | omega | (simp only [nums_len,lnB] <;> omega) | fail) only [ev0,ev1,ev2,ev3,↓reduceIte,reduceCtorEq,zaa,zab,zac,zad,zae,zaf,zag,zah,zai,zaj,zak,zal,zam,zan,zao,zap,zaq,↓zar,↓zas,zat,zau,zav,zaw,zax,zay,zaz,zba,zbb,zbc,zbd,zbe,zbf,zbg,zbh,zbi,zbj,zbk,zbl,zbm,zbn,zbo,zbp,zbq,zbr,zbs,zbt,zbu,zbv,zbw,zbx,zby,zbz,zca,zcb,zcc,zcd,zce,zcf,zcg,zch,zci,zcj,zck,zcl,zcm,zcn,zco,zcp,zcq,zcr,zcs,zct,zcu,zcv,zcw,zcx,zcy,zcz,zda,zdb,zdc,zdd,zde,zdf,zdg,zdh,zdi,zdj,zdk,zdl,zdm,ev5,tbPi1,glob,hg']
          rfl
        · rintro n ⟨sl,gn,bx,us⟩ ⟨k,hk,rfl,hs,s8,s7,s0,s1⟩
          dsimp only at s8 s7 s0 s1
          simp (maxSteps:=1000000) (disch:=first | omega | (simp only [nums_len,lnB] <;> omega) | fail) only [ev0,ev1,ev2,ev3,↓reduceIte,reduceCtorEq,zaa,zab,zac,zad,zae,zaf,zag,zah,zai,zaj,zak,zal,zam,zan,zao,zap,zaq,↓zar,↓zas,zat,zau,zav,zaw,zax,zay,zaz,zba,zbb,zbc,zbd,zbe,zbf,zbg,zbh,zbi,zbj,zbk,zbl,zbm,zbn,zbo,zbp,zbq,zbr,zbs,zbt,zbu,zbv,zbw,zbx,zby,zbz,zca,zcb,zcc,zcd,zce,zcf,zcg,zch,zci,zcj,zck,zcl,zcm,zcn,zco,zcp,zcq,zcr,zcs,zct,zcu,zcv,zcw,zcx,zcy,zcz,zda,zdb,zdc,zdd,zde,zdf,zdg,zdh,zdi,zdj,zdk,zdl,zdm,ev5,tbPi1,glob,hg',s8,s7,s0,s1]
          refine condQ_dec (fun hlt=>?_) (fun hge=>?_)
          · have hlt : k < l.length := by omega
            simp (maxSteps:=1000000) (disch:=first | omega | (simp only [nums_len,lnB] <;> omega) | fail) only [ev0,ev1,ev2,ev3,↓reduceIte,reduceCtorEq,zaa,zab,zac,zad,zae,zaf,zag,zah,zai,zaj,zak,zal,zam,zan,zao,zap,zaq,↓zar,↓zas,zat,zau,zav,zaw,zax,zay,zaz,zba,zbb,zbc,zbd,zbe,zbf,zbg,zbh,zbi,zbj,zbk,zbl,zbm,zbn,zbo,zbp,zbq,zbr,zbs,zbt,zbu,zbv,zbw,zbx,zby,zbz,zca,zcb,zcc,zcd,zce,zcf,zcg,zch,zci,zcj,zck,zcl,zcm,zcn,zco,zcp,zcq,zcr,zcs,zct,zcu,zcv,zcw,zcx,zcy,zcz,zda,zdb,zdc,zdd,zde,zdf,zdg,zdh,zdi,zdj,zdk,zdl,zdm,ev5,tbPi1,glob,hg',s8,s7,s0,s1]
            refine condQ_dec (fun hn=>?_) (fun hn=>?_)
            · rw [negF_at hlt hn hs]
              simp (maxSteps:=1000000) (disch:=first | omega | (simp only [nums_len,lnB] <;> omega) | fail) only [ev0,ev1,ev2,ev3,↓reduceIte,reduceCtorEq,zaa,zab,zac,zad,zae,zaf,zag,zah,zai,zaj,zak,zal,zam,zan,zao,zap,zaq,↓zar,↓zas,zat,zau,zav,zaw,zax,zay,zaz,zba,zbb,zbc,zbd,zbe,zbf,zbg,zbh,zbi,zbj,zbk,zbl,zbm,zbn,zbo,zbp,zbq,zbr,zbs,zbt,zbu,zbv,zbw,zbx,zby,zbz,zca,zcb,zcc,zcd,zce,zcf,zcg,zch,zci,zcj,zck,zcl,zcm,zcn,zco,zcp,zcq,zcr,zcs,zct,zcu,zcv,zcw,zcx,zcy,zcz,zda,zdb,zdc,zdd,zde,zdf,zdg,zdh,zdi,zdj,zdk,zdl,zdm,ev5,tbPi1,glob,hg',s8,s7,s0,s1]
              exact ResQ.same rfl
            · simp (maxSteps := 1000000) (disch := first | omega | (simp only [nums_len,lnB] <;> omega) | fail) only [ev0,ev1,ev2,ev3,↓reduceIte,reduceCtorEq,zaa,zab,zac,zad,zae,zaf,zag,zah,zai,zaj,zak,zal,zam,zan,zao,zap,zaq,↓zar,↓zas,zat,zau,zav,zaw,zax,zay,zaz,zba,zbb,zbc,zbd,zbe,zbf,zbg,zbh,zbi,zbj,zbk,zbl,zbm,zbn,zbo,zbp,zbq,zbr,zbs,zbt,zbu,zbv,zbw,zbx,zby,zbz,zca,zcb,zcc,zcd,zce,zcf,zcg,zch,zci,zcj,zck,zcl,zcm,zcn,zco,zcp,zcq,zcr,zcs,zct,zcu,zcv,zcw,zcx,zcy,zcz,zda,zdb,zdc,zdd,zde,zdf,zdg,zdh,zdi,zdj,zdk,zdl,zdm,ev5,tbPi1,glob,hg',s8,s7,s0,s1]
              refine ⟨l.length - (k + 1),by omega,k + 1,by omega,rfl,?_,rfl⟩
              intro i hi
              rcases Nat.lt_or_eq_of_le (Nat.le_of_lt_succ hi) with h | h
              · exact hs i h
              · rw [h]; exact hn
          · have hk : k = l.length := by omega
            subst hk
            rw [negF_no hs]
            simp (maxSteps:=1000000) (disch:=first | omega | (simp only [nums_len,lnB] <;> omega) | fail) only [ev0,ev1,ev2,ev3,↓reduceIte,reduceCtorEq,zaa,zab,zac,zad,zae,zaf,zag,zah,zai,zaj,zak,zal,zam,zan,zao,zap,zaq,↓zar,↓zas,zat,zau,zav,zaw,zax,zay,zaz,zba,zbb,zbc,zbd,zbe,zbf,zbg,zbh,zbi,zbj,zbk,zbl,zbm,zbn,zbo,zbp,zbq,zbr,zbs,zbt,zbu,zbv,zbw,zbx,zby,zbz,zca,zcb,zcc,zcd,zce,zcf,zcg,zch,zci,zcj,zck,zcl,zcm,zcn,zco,zcp,zcq,zcr,zcs,zct,zcu,zcv,zcw,zcx,zcy,zcz,zda,zdb,zdc,zdd,zde,zdf,zdg,zdh,zdi,zdj,zdk,zdl,zdm,ev5,tbPi1,glob,hg',s8,s7,s0,s1]
            exact ResQ.same rfl
      · cases hr
    · cases hr
  · cases hr
def E6 : Env:=E5.know 108 pf108
theorem ok6 : EnvOK Tryd.prog E6:=ok5.know sound108
theorem E6_te : E6.te = te:=rfl
theorem E6_gs : E6.gs = []:=rfl
theorem E6_dyn : E6.dyn = false:=rfl
theorem E6_glob : E6.glob = glob:=rfl
theorem E6_mu (d : Nat) : E6.mu d = false:=rfl
theorem E6_108 : E6.tbl 108 = some (.val pf108):=rfl
theorem pf108_at {n : Nat} {l : List Int} {fl : Fl} (h : n = l.length) (h2 : ∀ n ∈ l,i64ok n) (h3 : l.length ≤ 9223372036854775807) {g : Nat} (hg : isNeg g) : pf108 [.sl n (ints .i64 l) fl,.fn g []] = some (.raw (.int .i64 (negF l))):=by
  simp only [pf108,if_pos hg,irow?_at h h2,Option.bind_some,if_pos h3]
def pf78 : List AV → Option AV
  | [v,.fn g []]=>if isNeg g then (irow? v).bind fun l=>if l.length ≤ 9223372036854775807 then some (.raw (.bool (l.any fun n=>decide (n < 0)))) else none else none
  | _=>none
theorem sound78 : SoundV Tryd.prog glob 78 pf78:=by
  refine SoundV.walk E6 ok6 mixed Tryd.func78 rfl Tryd.call78 (by kernel_rfl) ?_
  intro args r hr
  unfold pf78 at hr
  split at hr
  · rename_i v g
    split at hr
    · rename_i hg
      have hg':=E5_neg hg
      simp only [Option.bind_eq_some_iff] at hr
      obtain ⟨l,h1,hr⟩:=hr
      split at hr
      · rename_i hc
        cases hr
        obtain ⟨⟨fl,rfl⟩,hl⟩:=irow?_of h1
        rw [Tryd.ntmps78,Tryd.results78]
        refine ⟨by simp,?_⟩
        have hp:=pf108_at (l:=l) (fl:=.bor) rfl hl hc hg
        rw [← negF_any]
        simp (maxSteps:=1000000) (disch:=first | omega | (simp only [nums_len,lnB] <;> omega) | fail) only [ev0,ev1,ev2,ev3,↓reduceIte,reduceCtorEq,zaa,zab,zac,zad,zae,zaf,zag,zah,zai,zaj,zak,zal,zam,zan,zao,zap,zaq,↓zar,↓zas,zat,zau,zav,zaw,zax,zay,zaz,zba,zbb,zbc,zbd,zbe,zbf,zbg,zbh,zbi,zbj,zbk,zbl,zbm,zbn,zbo,zbp,zbq,zbr,zbs,zbt,zbu,zbv,zbw,zbx,zby,zbz,zca,zcb,zcc,zcd,zce,zcf,zcg,zch,zci,zcj,zck,zcl,zcm,zcn,zco,zcp,zcq,zcr,zcs,zct,zcu,zcv,zcw,zcx,zcy,zcz,zda,zdb,zdc,zdd,zde,zdf,zdg,zdh,zdi,zdj,zdk,zdl,zdm,ev5,teE,E6_te,E6_gs,E6_dyn,E6_glob,E6_mu,E6_108,glob,ev4,hp,List.isEmpty_nil]
        exact ResQ.same rfl
      · cases hr
    · cases hr
  · cases hr
end Go.Proofs.YtddeffdgldjdjaaDoor.W
