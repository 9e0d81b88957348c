/- Rows of numbers are laid behind bytes: what the walks come to. -/
import Derived.Test.YtddeffdgldjdjaaDoorPi
namespace Go.Proofs.YtddeffdgldjdjaaDoor.W
set_option linter.unusedSimpArgs false
set_option linter.unusedVariables false
set_option linter.defProp false
open Go Go.Abs
open Nat renaming reduceAdd→zaa,reduceSub→zab,reduceMul→zac,reduceLT→zad,reduceLeDiff→zae,reduceEqDiff→zaf,reduceBEq→zag
open BitVec renaming reduceOfInt→zah
open Int renaming reduceLE→zai,reduceLT→zaj,reduceGT→zak,reduceGE→zal,reduceNeg→zam,reduceAdd→zan,reduceSub→zao,reduceMul→zap,reduceToNat→zaq
open Go.Abs renaming bind_go→zar,map_go→zas,wantedV→zat,isWrite→zau,grow→zav,write→zaw,ofV→zax,start→zaz,strip→zba,endQ→zbb,resV→zbc,rawsRes→zbd,rawRes→zbe,exports→zbf,export1→zbg,isSelf→zbl,convSelf→zbm,convV→zbn,loadV→zbo,storeV→zbp,fieldAddrV→zbq,fieldV→zbr,indexAddrV→zbs,indexV→zbt,partV→zbu,isAggK→zbv,isStr→zbw,place→zbx,ipS→zby,lenV→zbz,min2V→zca,makeV→zcb,freshSl→zcc,sliceV→zcd,boundOr→zce,bound→zcf,bounds→zcg,cutFl→zch,copyV→zci,slCells→zcj,srcV→zck,appendV→zcl,room→zcm,zerosOf→zcn,eqNeg→zco,kd→zcp,takeR→zcq,hasViewL→zcr,hasView→zcs,freshR→zct,freshC→zcu,snapAll→zcv,snap→zcw,snapL→zcx,flatL→zcy,pureL→zcz,pureA→zda,fillC→zdb,arrOK→zdc,oneA→zdd,partB→zde,ren1→zdg,applyW→zdi,useL→zdj,isGen→zdl,startG→zdm
open Go.Abs.AV renaming cells→zay,laid→zdf
open Go.Abs.AS renaming grown→zbh,put→zbi,mute→zdk
open Go.Abs.Env renaming know→zbj,boxed→zbk
open Go.Abs.CR renaming gr→zdh
def E7 : Env:=(E6.know 78 pf78)
theorem ok7 : EnvOK Tryd.prog E7:=ok6.know sound78
theorem E7_te : E7.te = te:=rfl
theorem E7_gs : E7.gs = []:=rfl
theorem E7_dyn : E7.dyn = false:=rfl
theorem E7_glob : E7.glob = glob:=rfl
theorem E7_mu (d : Nat) : E7.mu d = false:=rfl
theorem E7_78 : E7.tbl 78 = some (.val pf78):=rfl
theorem E7_80 : E7.tbl 80 = some (.val (fun xs=>pf80 (xs.map norm))):=rfl
theorem E7_104 : E7.tbl 104 = some (.val (fun xs=>pf80 (xs.map norm))):=rfl
theorem E7_147 : E7.tbl 147 = some (.val (fun xs=>pf165 (xs.map norm))):=rfl
theorem E7_90 : E7.tbl 90 = some (.val (fun xs=>pf90 (xs.map norm))):=rfl
theorem E7_165 : E7.tbl 165 = some (.val (fun xs=>pf165 (xs.map norm))):=rfl
theorem pf78_at {n : Nat} {l : List Int} {fl : Fl} (h : n = l.length) (h2 : ∀ n ∈ l,i64ok n) (h3 : l.length ≤ 9223372036854775807) {g : Nat} (hg : isNeg g) : pf78 [.sl n (ints .i64 l) fl,.fn g []] = some (.raw (.bool (l.any fun n=>decide (n < 0)))):=by
  simp only [pf78,if_pos hg,irow?_at h h2,Option.bind_some,if_pos h3]
def putLk (b : List (BitVec 8)) (l : List Int) : Nat → List (BitVec 8)
  | 0=>putB b l.length
  | k + 1=>putB (putLk b l k) (l.getD k 0).toNat
def putL (b : List (BitVec 8)) (l : List Int) : List (BitVec 8):=putLk b l l.length
theorem putLk_len (b : List (BitVec 8)) (l : List Int) (hl : ∀ n ∈ l,i64ok n) (h : l.length ≤ 4096) (k : Nat) (hk : k ≤ l.length) : (putLk b l k).length ≤ b.length + 9 + 9 * k:=by
  induction k with
  | zero =>
    have:=need_le l.length (by omega)
    rw [putLk,putB_len]; omega
  | succ k ih =>
    have:=ih (by omega)
    have hm:=hl _ (getD_mem (show k < l.length by omega))
    unfold i64ok at hm
    have:=need_le (l.getD k 0).toNat (by omega)
    rw [putLk,putB_len]; omega
theorem ne10 : ((1 : Int) != 0) = true:=rfl
theorem ne00 : ((0 : Int) != 0) = false:=rfl
def neg (l : List Int) : Bool:=l.any fun n=>decide (n < 0)
theorem neg_iff (l : List Int) : neg l = true ↔ ∃ n ∈ l,n < 0:=by simp [neg]
def pf113 : List AV → Option AV
  | [v,w] => (row? .u8 8 v).bind fun b => (irow? w).bind fun l => if b.length ≤ 1000000000 ∧ l.length ≤ 1000000000 then
      (if l.length > 4096 then some (.tup [.sl 0 [] .bor,.raw (.int .i64 2)]) else if neg l = true then some (.tup [.sl 0 [] .bor,.raw (.int .i64 1)]) else some (.tup [.sl (putL b l).length (nums .u8 (putL b l)) .bor,.raw (.int .i64 0)])) else none
  | _=>none
theorem resQ_2nil {v : Value} : ResQ (some (.tup [.raw (.slice none 0 0),.raw v])) (.tup [.sl 0 [] .bor,.raw v]) :=
  ⟨_,rfl,.tup rfl fun j x r hx hr=>by
    match j with
    | 0=>simp at hx hr; subst hx hr; exact .nilb _
    | 1=>simp at hx hr; subst hx hr; exact .same _ _
    | j + 2=>simp at hx⟩
theorem resQ_2 {v : Value} {n : Nat} {xs : List AV} {fl : Fl} : ResQ (some (.tup [.sl n xs fl,.raw v])) (.tup [.sl n xs .bor,.raw v]) :=
  ⟨_,rfl,.tup rfl fun j x r hx hr=>by
    match j with
    | 0=>simp at hx hr; subst hx hr; exact .bor _ _ _ _
    | 1=>simp at hx hr; subst hx hr; exact .same _ _
    | j + 2=>simp at hx⟩
set_option maxHeartbeats 4000000
def tbPj0:=(And.intro (And.intro (And.intro (And.intro @teE @E7_te) (And.intro @E7_gs @E7_dyn)) (And.intro (And.intro @E7_glob @E7_mu) (And.intro @E7_80 @E7_104))) (And.intro (And.intro (And.intro @E7_147 @E7_90) (And.intro @E7_165 @E7_78)) (And.intro (And.intro @pf90_at @pf80_at) (And.intro @pf165_at @ev4))))
theorem sound113 : SoundV Tryd.prog glob 113 pf113:=by
  refine SoundV.walk E7 ok7 mixed Tryd.func113 rfl Tryd.call113 (by kernel_rfl) ?_
  intro args r hr
  unfold pf113 at hr
  split at hr
  · simp only [Option.bind_eq_some_iff] at hr
    obtain ⟨b,h1,l,h2,hr⟩:=hr
    split at hr
    · rename_i hc
      obtain ⟨fl,rfl⟩:=row?_of h1
      obtain ⟨⟨gl,rfl⟩,hl⟩:=irow?_of h2
      by_cases c1 : l.length > 4096
      · rw [if_pos c1] at hr
        cases hr
        rw [Tryd.ntmps113,Tryd.results113]
        refine ⟨by simp,?_⟩
        have d1 : decide ((l.length : Int) > 4096) = true:=decide_eq_true (by omega)
        simp (maxSteps:=1000000) (disch:=first | omega | (simp only [digF_len,putK_len,putB_len,lnB] <;> omega) | fail) only [ev0,ev1,ev2,ev3,↓reduceIte,reduceCtorEq,zaa,zab,zac,zad,zae,zaf,zag,zah,zai,zaj,zak,zal,zam,zan,zao,zap,zaq,↓zar,↓zas,zat,zau,zav,zaw,zax,zay,zaz,zba,zbb,zbc,zbd,zbe,zbf,zbg,zbh,zbi,zbj,zbk,zbl,zbm,zbn,zbo,zbp,zbq,zbr,zbs,zbt,zbu,zbv,zbw,zbx,zby,zbz,zca,zcb,zcc,zcd,zce,zcf,zcg,zch,zci,zcj,zck,zcl,zcm,zcn,zco,zcp,zcq,zcr,zcs,zct,zcu,zcv,zcw,zcx,zcy,zcz,zda,zdb,zdc,zdd,zde,zdf,zdg,zdh,zdi,zdj,zdk,zdl,zdm,ev5,tbPj0,glob,d1]
        exact resQ_2nil
      · rw [if_neg c1] at hr
        have d1 : decide ((l.length : Int) > 4096) = false:=decide_eq_false (by omega)
        have hp:=pf78_at (l:=l) (fl:=.bor) rfl hl (by omega) (g:=141) (.inl rfl)
        have hn8:=need_le l.length (by omega)
        by_cases c2 : neg l = true
        · rw [if_pos c2] at hr
          cases hr
          rw [Tryd.ntmps113,Tryd.results113]
          refine ⟨by simp,?_⟩
          rw [show (l.any fun n=>decide (n < 0)) = true from c2] at hp
          simp (maxSteps:=1000000) (disch:=first | omega | (simp only [digF_len,putK_len,putB_len,lnB] <;> omega) | fail) only [ev0,ev1,ev2,ev3,↓reduceIte,reduceCtorEq,zaa,zab,zac,zad,zae,zaf,zag,zah,zai,zaj,zak,zal,zam,zan,zao,zap,zaq,↓zar,↓zas,zat,zau,zav,zaw,zax,zay,zaz,zba,zbb,zbc,zbd,zbe,zbf,zbg,zbh,zbi,zbj,zbk,zbl,zbm,zbn,zbo,zbp,zbq,zbr,zbs,zbt,zbu,zbv,zbw,zbx,zby,zbz,zca,zcb,zcc,zcd,zce,zcf,zcg,zch,zci,zcj,zck,zcl,zcm,zcn,zco,zcp,zcq,zcr,zcs,zct,zcu,zcv,zcw,zcx,zcy,zcz,zda,zdb,zdc,zdd,zde,zdf,zdg,zdh,zdi,zdj,zdk,zdl,zdm,ev5,tbPj0,glob,d1,hp,List.isEmpty_nil]
          exact resQ_2nil
        · rw [if_neg c2] at hr
          cases hr
          rw [Tryd.ntmps113,Tryd.results113]
          refine ⟨by simp,?_⟩
          rw [show (l.any fun n=>decide (n < 0)) = false from Bool.eq_false_iff.2 c2] at hp
          simp (maxSteps:=1000000) (disch:=first | omega | (simp only [digF_len,putK_len,putB_len,lnB] <;> omega) | fail) only [ev0,ev1,ev2,ev3,↓reduceIte,reduceCtorEq,zaa,zab,zac,zad,zae,zaf,zag,zah,zai,zaj,zak,zal,zam,zan,zao,zap,zaq,↓zar,↓zas,zat,zau,zav,zaw,zax,zay,zaz,zba,zbb,zbc,zbd,zbe,zbf,zbg,zbh,zbi,zbj,zbk,zbl,zbm,zbn,zbo,zbp,zbq,zbr,zbs,zbt,zbu,zbv,zbw,zbx,zby,zbz,zca,zcb,zcc,zcd,zce,zcf,zcg,zch,zci,zcj,zck,zcl,zcm,zcn,zco,zcp,zcq,zcr,zcs,zct,zcu,zcv,zcw,zcx,zcy,zcz,zda,zdb,zdc,zdd,zde,zdf,zdg,zdh,zdi,zdj,zdk,zdl,zdm,ev5,tbPj0,glob,d1,hp,List.isEmpty_nil]
          have hpos : ∀ k,k < l.length→0 ≤ l.getD k 0:=fun k hk=>by
            apply Classical.byContradiction
            intro h
            exact c2 ((neg_iff l).2 ⟨_,getD_mem hk,by omega⟩)
          refine loopQ_of (fun n σ=>∃ k i,k ≤ l.length ∧ n = l.length - k ∧ σ.slots 22 = .raw (.int .i64 (k : Int)) ∧ σ.slots 21 = .raw (.int .i64 (l.length : Int)) ∧ σ.slots 20 = .sl l.length (ints .i64 l) .bor ∧ σ.slots 0 = .sl (putLk b l k).length (nums .u8 (putLk b l k)) (.own i 1)) l.length ?_ ?_
          · refine ⟨0,⟨0,17,0,1⟩,by omega,by omega,?_⟩
            simp (maxSteps:=1000000) (disch:=first | omega | (simp only [digF_len,putK_len,putB_len,lnB] <;> omega) | fail) only [ev0,ev1,ev2,ev3,↓reduceIte,reduceCtorEq,zaa,zab,zac,zad,zae,zaf,zag,zah,zai,zaj,zak,zal,zam,zan,zao,zap,zaq,↓zar,↓zas,zat,zau,zav,zaw,zax,zay,zaz,zba,zbb,zbc,zbd,zbe,zbf,zbg,zbh,zbi,zbj,zbk,zbl,zbm,zbn,zbo,zbp,zbq,zbr,zbs,zbt,zbu,zbv,zbw,zbx,zby,zbz,zca,zcb,zcc,zcd,zce,zcf,zcg,zch,zci,zcj,zck,zcl,zcm,zcn,zco,zcp,zcq,zcr,zcs,zct,zcu,zcv,zcw,zcx,zcy,zcz,zda,zdb,zdc,zdd,zde,zdf,zdg,zdh,zdi,zdj,zdk,zdl,zdm,ev5,tbPj0,glob]
            exact ⟨rfl,rfl⟩
          · rintro n ⟨sl,gn,bx,us⟩ ⟨k,i,hk,rfl,s22,s21,s20,s0⟩
            dsimp only at s22 s21 s20 s0
            have lM:=putLk_len b l hl (by omega) k hk
            generalize hM : putLk b l k = M at s0 lM
            simp (maxSteps:=1000000) (disch:=first | omega | (simp only [digF_len,putK_len,putB_len,lnB] <;> omega) | fail) only [ev0,ev1,ev2,ev3,↓reduceIte,reduceCtorEq,zaa,zab,zac,zad,zae,zaf,zag,zah,zai,zaj,zak,zal,zam,zan,zao,zap,zaq,↓zar,↓zas,zat,zau,zav,zaw,zax,zay,zaz,zba,zbb,zbc,zbd,zbe,zbf,zbg,zbh,zbi,zbj,zbk,zbl,zbm,zbn,zbo,zbp,zbq,zbr,zbs,zbt,zbu,zbv,zbw,zbx,zby,zbz,zca,zcb,zcc,zcd,zce,zcf,zcg,zch,zci,zcj,zck,zcl,zcm,zcn,zco,zcp,zcq,zcr,zcs,zct,zcu,zcv,zcw,zcx,zcy,zcz,zda,zdb,zdc,zdd,zde,zdf,zdg,zdh,zdi,zdj,zdk,zdl,zdm,ev5,tbPj0,glob,s22,s21,s20,s0]
            refine condQ_dec (fun hlt=>?_) (fun hge=>?_)
            · have hlt : k < l.length := by omega
              have h0:=hpos k hlt
              have hm:=hl _ (getD_mem hlt)
              unfold i64ok at hm
              have hn8:=need_le (l.getD k 0).toNat (by omega)
              simp (maxSteps:=1000000) (disch:=first | omega | (simp only [digF_len,putK_len,putB_len,lnB] <;> omega) | fail) only [ev0,ev1,ev2,ev3,↓reduceIte,reduceCtorEq,zaa,zab,zac,zad,zae,zaf,zag,zah,zai,zaj,zak,zal,zam,zan,zao,zap,zaq,↓zar,↓zas,zat,zau,zav,zaw,zax,zay,zaz,zba,zbb,zbc,zbd,zbe,zbf,zbg,zbh,zbi,zbj,zbk,zbl,zbm,zbn,zbo,zbp,zbq,zbr,zbs,zbt,zbu,zbv,zbw,zbx,zby,zbz,zca,zcb,zcc,zcd,zce,zcf,zcg,zch,zci,zcj,zck,zcl,zcm,zcn,zco,zcp,zcq,zcr,zcs,zct,zcu,zcv,zcw,zcx,zcy,zcz,zda,zdb,zdc,zdd,zde,zdf,zdg,zdh,zdi,zdj,zdk,zdl,zdm,ev5,tbPj0,glob,s22,s21,s20,s0]
              refine ⟨l.length - (k + 1),by omega,k + 1,⟨0,29,0,gn 29 + 1⟩,by omega,rfl,rfl,?_⟩
              have hN : putLk b l (k + 1) = putB M (l.getD k 0).toNat:=by rw [putLk,hM]
              rw [hN,putB_len]
            · have hk : k = l.length := by omega
              subst hk
              rw [show putL b l = M from hM]
              cases hu : us i
              · simp (maxSteps := 1000000) (disch := first | omega | (simp only [digF_len,putK_len,putB_len,lnB] <;> omega) | fail) only [ev0,ev1,ev2,ev3,↓reduceIte,reduceCtorEq,zaa,zab,zac,zad,zae,zaf,zag,zah,zai,zaj,zak,zal,zam,zan,zao,zap,zaq,↓zar,↓zas,zat,zau,zav,zaw,zax,zay,zaz,zba,zbb,zbc,zbd,zbe,zbf,zbg,zbh,zbi,zbj,zbk,zbl,zbm,zbn,zbo,zbp,zbq,zbr,zbs,zbt,zbu,zbv,zbw,zbx,zby,zbz,zca,zcb,zcc,zcd,zce,zcf,zcg,zch,zci,zcj,zck,zcl,zcm,zcn,zco,zcp,zcq,zcr,zcs,zct,zcu,zcv,zcw,zcx,zcy,zcz,zda,zdb,zdc,zdd,zde,zdf,zdg,zdh,zdi,zdj,zdk,zdl,zdm,ev5,tbPj0,glob,s22,s21,s20,s0,hu]
                exact resQ_2
              · simp (maxSteps := 1000000) (disch := first | omega | (simp only [digF_len,putK_len,putB_len,lnB] <;> omega) | fail) only [ev0,ev1,ev2,ev3,↓reduceIte,reduceCtorEq,zaa,zab,zac,zad,zae,zaf,zag,zah,zai,zaj,zak,zal,zam,zan,zao,zap,zaq,↓zar,↓zas,zat,zau,zav,zaw,zax,zay,zaz,zba,zbb,zbc,zbd,zbe,zbf,zbg,zbh,zbi,zbj,zbk,zbl,zbm,zbn,zbo,zbp,zbq,zbr,zbs,zbt,zbu,zbv,zbw,zbx,zby,zbz,zca,zcb,zcc,zcd,zce,zcf,zcg,zch,zci,zcj,zck,zcl,zcm,zcn,zco,zcp,zcq,zcr,zcs,zct,zcu,zcv,zcw,zcx,zcy,zcz,zda,zdb,zdc,zdd,zde,zdf,zdg,zdh,zdi,zdj,zdk,zdl,zdm,ev5,tbPj0,glob,s22,s21,s20,s0,hu]
                exact resQ_2
    · cases hr
  · cases hr
theorem sound142 : SoundV Tryd.prog glob 142 pf113:=by
  refine SoundV.walk E7 ok7 mixed Tryd.func142 rfl Tryd.call142 (by kernel_rfl) ?_
  intro args r hr
  unfold pf113 at hr
  split at hr
  · simp only [Option.bind_eq_some_iff] at hr
    obtain ⟨b,h1,l,h2,hr⟩:=hr
    split at hr
    · rename_i hc
      obtain ⟨fl,rfl⟩:=row?_of h1
      obtain ⟨⟨gl,rfl⟩,hl⟩:=irow?_of h2
      by_cases c1 : l.length > 4096
      · rw [if_pos c1] at hr
        cases hr
        rw [Tryd.ntmps142,Tryd.results142]
        refine ⟨by simp,?_⟩
        have d1 : decide ((l.length : Int) > 4096) = true:=decide_eq_true (by omega)
        simp (maxSteps:=1000000) (disch:=first | omega | (simp only [digF_len,putK_len,putB_len,lnB] <;> omega) | fail) only [ev0,ev1,ev2,ev3,↓reduceIte,reduceCtorEq,zaa,zab,zac,zad,zae,zaf,zag,zah,zai,zaj,zak,zal,zam,zan,zao,zap,zaq,↓zar,↓zas,zat,zau,zav,zaw,zax,zay,zaz,zba,zbb,zbc,zbd,zbe,zbf,zbg,zbh,zbi,zbj,zbk,zbl,zbm,zbn,zbo,zbp,zbq,zbr,zbs,zbt,zbu,zbv,zbw,zbx,zby,zbz,zca,zcb,zcc,zcd,zce,zcf,zcg,zch,zci,zcj,zck,zcl,zcm,zcn,zco,zcp,zcq,zcr,zcs,zct,zcu,zcv,zcw,zcx,zcy,zcz,zda,zdb,zdc,zdd,zde,zdf,zdg,zdh,zdi,zdj,zdk,zdl,zdm,ev5,tbPj0,glob,d1]
        exact resQ_2nil
      · rw [if_neg c1] at hr
        have d1 : decide ((l.length : Int) > 4096) = false:=decide_eq_false (by omega)
        have hn8:=need_le l.length (by omega)
        rw [Tryd.ntmps142,Tryd.results142]
        refine ⟨by simp,?_⟩
        simp (maxSteps:=1000000) (disch:=first | omega | (simp only [digF_len,putK_len,putB_len,lnB] <;> omega) | fail) only [ev0,ev1,ev2,ev3,↓reduceIte,reduceCtorEq,zaa,zab,zac,zad,zae,zaf,zag,zah,zai,zaj,zak,zal,zam,zan,zao,zap,zaq,↓zar,↓zas,zat,zau,zav,zaw,zax,zay,zaz,zba,zbb,zbc,zbd,zbe,zbf,zbg,zbh,zbi,zbj,zbk,zbl,zbm,zbn,zbo,zbp,zbq,zbr,zbs,zbt,zbu,zbv,zbw,zbx,zby,zbz,zca,zcb,zcc,zcd,zce,zcf,zcg,zch,zci,zcj,zck,zcl,zcm,zcn,zco,zcp,zcq,zcr,zcs,zct,zcu,zcv,zcw,zcx,zcy,zcz,zda,zdb,zdc,zdd,zde,zdf,zdg,zdh,zdi,zdj,zdk,zdl,zdm,ev5,tbPj0,glob,d1]
        refine loopQ_of (fun n σ=>∃ k i,k ≤ l.length ∧ n = l.length - k ∧ (∀ j,j < k→0 ≤ l.getD j 0) ∧ σ.slots 8 = .raw (.int .i64 (k : Int)) ∧ σ.slots 1 = .sl l.length (ints .i64 l) .bor ∧ σ.slots 6 = .sl (putLk b l k).length (nums .u8 (putLk b l k)) (.own i 1)) l.length ?_ ?_
        · refine ⟨0,⟨0,18,0,1⟩,by omega,by omega,by omega,?_⟩
          simp (maxSteps:=1000000) (disch:=first | omega | (simp only [digF_len,putK_len,putB_len,lnB] <;> omega) | fail) only [ev0,ev1,ev2,ev3,↓reduceIte,reduceCtorEq,zaa,zab,zac,zad,zae,zaf,zag,zah,zai,zaj,zak,zal,zam,zan,zao,zap,zaq,↓zar,↓zas,zat,zau,zav,zaw,zax,zay,zaz,zba,zbb,zbc,zbd,zbe,zbf,zbg,zbh,zbi,zbj,zbk,zbl,zbm,zbn,zbo,zbp,zbq,zbr,zbs,zbt,zbu,zbv,zbw,zbx,zby,zbz,zca,zcb,zcc,zcd,zce,zcf,zcg,zch,zci,zcj,zck,zcl,zcm,zcn,zco,zcp,zcq,zcr,zcs,zct,zcu,zcv,zcw,zcx,zcy,zcz,zda,zdb,zdc,zdd,zde,zdf,zdg,zdh,zdi,zdj,zdk,zdl,zdm,ev5,tbPj0,glob]
          exact ⟨rfl,rfl⟩
        · rintro n ⟨sl,gn,bx,us⟩ ⟨k,i,hk,rfl,hs,s8,s1,s6⟩
          dsimp only at s8 s1 s6
          have lM:=putLk_len b l hl (by omega) k hk
          generalize hM : putLk b l k = M at s6 lM
          simp (maxSteps:=1000000) (disch:=first | omega | (simp only [digF_len,putK_len,putB_len,lnB] <;> omega) | fail) only [ev0,ev1,ev2,ev3,↓reduceIte,reduceCtorEq,zaa,zab,zac,zad,zae,zaf,zag,zah,zai,zaj,zak,zal,zam,zan,zao,zap,zaq,↓zar,↓zas,zat,zau,zav,zaw,zax,zay,zaz,zba,zbb,zbc,zbd,zbe,zbf,zbg,zbh,zbi,zbj,zbk,zbl,zbm,zbn,zbo,zbp,zbq,zbr,zbs,zbt,zbu,zbv,zbw,zbx,zby,zbz,zca,zcb,zcc,zcd,zce,zcf,zcg,zch,zci,zcj,zck,zcl,zcm,zcn,zco,zcp,zcq,zcr,zcs,zct,zcu,zcv,zcw,zcx,zcy,zcz,zda,zdb,zdc,zdd,zde,zdf,zdg,zdh,zdi,zdj,zdk,zdl,zdm,ev5,tbPj0,glob,s8,s1,s6]
          refine condQ_dec (fun hlt=>?_) (fun hge=>?_)
          · have hlt : k < l.length := by omega
            have hm:=hl _ (getD_mem hlt)
            unfold i64ok at hm
            by_cases h0 : l.getD k 0 < 0
            · have hng : neg l = true := (neg_iff l).2 ⟨_,getD_mem hlt,h0⟩
              rw [if_pos hng] at hr
              cases hr
              have hp:=pf80_neg (b:=M) (fl:=.own i 1) (n:=l.getD k 0) rfl (by omega) (by omega) h0
              have hp2:=pf80_neg (b:=M) (fl:=.bor) (n:=l.getD k 0) rfl (by omega) (by omega) h0
              simp (maxSteps:=1000000) (disch:=first | omega | (simp only [digF_len,putK_len,putB_len,lnB] <;> omega) | fail) only [ev0,ev1,ev2,ev3,↓reduceIte,reduceCtorEq,zaa,zab,zac,zad,zae,zaf,zag,zah,zai,zaj,zak,zal,zam,zan,zao,zap,zaq,↓zar,↓zas,zat,zau,zav,zaw,zax,zay,zaz,zba,zbb,zbc,zbd,zbe,zbf,zbg,zbh,zbi,zbj,zbk,zbl,zbm,zbn,zbo,zbp,zbq,zbr,zbs,zbt,zbu,zbv,zbw,zbx,zby,zbz,zca,zcb,zcc,zcd,zce,zcf,zcg,zch,zci,zcj,zck,zcl,zcm,zcn,zco,zcp,zcq,zcr,zcs,zct,zcu,zcv,zcw,zcx,zcy,zcz,zda,zdb,zdc,zdd,zde,zdf,zdg,zdh,zdi,zdj,zdk,zdl,zdm,ev5,tbPj0,glob,s8,s1,s6,hp,hp2,ne10]
              exact resQ_2nil
            · have hn8 := need_le (l.getD k 0).toNat (by omega)
              simp (maxSteps:=1000000) (disch:=first | omega | (simp only [digF_len,putK_len,putB_len,lnB] <;> omega) | fail) only [ev0,ev1,ev2,ev3,↓reduceIte,reduceCtorEq,zaa,zab,zac,zad,zae,zaf,zag,zah,zai,zaj,zak,zal,zam,zan,zao,zap,zaq,↓zar,↓zas,zat,zau,zav,zaw,zax,zay,zaz,zba,zbb,zbc,zbd,zbe,zbf,zbg,zbh,zbi,zbj,zbk,zbl,zbm,zbn,zbo,zbp,zbq,zbr,zbs,zbt,zbu,zbv,zbw,zbx,zby,zbz,zca,zcb,zcc,zcd,zce,zcf,zcg,zch,zci,zcj,zck,zcl,zcm,zcn,zco,zcp,zcq,zcr,zcs,zct,zcu,zcv,zcw,zcx,zcy,zcz,zda,zdb,zdc,zdd,zde,zdf,zdg,zdh,zdi,zdj,zdk,zdl,zdm,ev5,tbPj0,glob,s8,s1,s6,ne00]
              refine ⟨l.length - (k + 1),by omega,k + 1,⟨0,33,0,gn 33 + 1⟩,by omega,rfl,?_,?_⟩
              · intro j hj
                rcases Nat.lt_or_eq_of_le (Nat.le_of_lt_succ hj) with h | h
                · exact hs j h
                · rw [h]; omega
              · have hN : putLk b l (k + 1) = putB M (l.getD k 0).toNat := by rw [putLk,hM]
                rw [hN,putB_len]
                exact ⟨rfl,rfl⟩
          · have hk : k = l.length := by omega
            subst hk
            have hng : ¬ neg l = true:=fun h=>by
              obtain ⟨x,hx,h0⟩:=(neg_iff l).1 h
              obtain ⟨j,hj,rfl⟩:=List.mem_iff_getElem.1 hx
              have:=hs j hj
              rw [List.getD_eq_getElem?_getD,List.getElem?_eq_getElem hj] at this
              simp at this
              omega
            rw [if_neg hng] at hr
            cases hr
            rw [show putL b l = M from hM]
            cases hu : us i
            · simp (maxSteps := 1000000) (disch := first | omega | (simp only [digF_len,putK_len,putB_len,lnB] <;> omega) | fail) only [ev0,ev1,ev2,ev3,↓reduceIte,reduceCtorEq,zaa,zab,zac,zad,zae,zaf,zag,zah,zai,zaj,zak,zal,zam,zan,zao,zap,zaq,↓zar,↓zas,zat,zau,zav,zaw,zax,zay,zaz,zba,zbb,zbc,zbd,zbe,zbf,zbg,zbh,zbi,zbj,zbk,zbl,zbm,zbn,zbo,zbp,zbq,zbr,zbs,zbt,zbu,zbv,zbw,zbx,zby,zbz,zca,zcb,zcc,zcd,zce,zcf,zcg,zch,zci,zcj,zck,zcl,zcm,zcn,zco,zcp,zcq,zcr,zcs,zct,zcu,zcv,zcw,zcx,zcy,zcz,zda,zdb,zdc,zdd,zde,zdf,zdg,zdh,zdi,zdj,zdk,zdl,zdm,ev5,tbPj0,glob,s8,s1,s6,hu]
              exact resQ_2
            · simp (maxSteps := 1000000) (disch := first | omega | (simp only [digF_len,putK_len,putB_len,lnB] <;> omega) | fail) only [ev0,ev1,ev2,ev3,↓reduceIte,reduceCtorEq,zaa,zab,zac,zad,zae,zaf,zag,zah,zai,zaj,zak,zal,zam,zan,zao,zap,zaq,↓zar,↓zas,zat,zau,zav,zaw,zax,zay,zaz,zba,zbb,zbc,zbd,zbe,zbf,zbg,zbh,zbi,zbj,zbk,zbl,zbm,zbn,zbo,zbp,zbq,zbr,zbs,zbt,zbu,zbv,zbw,zbx,zby,zbz,zca,zcb,zcc,zcd,zce,zcf,zcg,zch,zci,zcj,zck,zcl,zcm,zcn,zco,zcp,zcq,zcr,zcs,zct,zcu,zcv,zcw,zcx,zcy,zcz,zda,zdb,zdc,zdd,zde,zdf,zdg,zdh,zdi,zdj,zdk,zdl,zdm,ev5,tbPj0,glob,s8,s1,s6,hu]
              exact resQ_2
    · cases hr
  · cases hr
end Go.Proofs.YtddeffdgldjdjaaDoor.W
