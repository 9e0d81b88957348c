/- A number is laid behind bytes: what the walks come to. -/
import Derived.Test.YtddeffdgldjdjaaDoorPb
namespace Go.Proofs.YtddeffdgldjdjaaDoor.W
set_option linter.unusedSimpArgs false
set_option linter.unusedVariables false
set_option linter.defProp false
open Go Go.Abs
open Nat renaming reduceAdd→zaa,reduceSub→zab,reduceMul→zac,reduceLT→zad,reduceLeDiff→zae,reduceEqDiff→zaf,reduceBEq→zag
open BitVec renaming reduceOfInt→zah
open Int renaming reduceLE→zai,reduceLT→zaj,reduceGT→zak,reduceGE→zal,reduceNeg→zam,reduceAdd→zan,reduceSub→zao,reduceMul→zap,reduceToNat→zaq
open Go.Abs renaming bind_go→zar,map_go→zas,wantedV→zat,isWrite→zau,grow→zav,write→zaw,ofV→zax,start→zaz,strip→zba,endQ→zbb,resV→zbc,rawsRes→zbd,rawRes→zbe,exports→zbf,export1→zbg,isSelf→zbl,convSelf→zbm,convV→zbn,loadV→zbo,storeV→zbp,fieldAddrV→zbq,fieldV→zbr,indexAddrV→zbs,indexV→zbt,partV→zbu,isAggK→zbv,isStr→zbw,place→zbx,ipS→zby,lenV→zbz,min2V→zca,makeV→zcb,freshSl→zcc,sliceV→zcd,boundOr→zce,bound→zcf,bounds→zcg,cutFl→zch,copyV→zci,slCells→zcj,srcV→zck,appendV→zcl,room→zcm,zerosOf→zcn,eqNeg→zco,kd→zcp,takeR→zcq,hasViewL→zcr,hasView→zcs,freshR→zct,freshC→zcu,snapAll→zcv,snap→zcw,snapL→zcx,flatL→zcy,pureL→zcz,pureA→zda,fillC→zdb,arrOK→zdc,oneA→zdd,partB→zde,ren1→zdg,applyW→zdi,useL→zdj,isGen→zdl,startG→zdm
open Go.Abs.AV renaming cells→zay,laid→zdf
open Go.Abs.AS renaming grown→zbh,put→zbi,mute→zdk
open Go.Abs.Env renaming know→zbj,boxed→zbk
open Go.Abs.CR renaming gr→zdh
def top : Nat:=150000000000000
def pf90 : List AV → Option AV
  | [v]=>(row? .u8 8 v).bind fun m=>if m.length ≤ 150000000000000 then some (.sl m.length (nums .u8 m) (.own ⟨0,0,0,0⟩ 1)) else none
  | _=>none
theorem pf90_at {n : Nat} {m : List (BitVec 8)} {fl : Fl} (h : n = m.length) (h2 : m.length ≤ 150000000000000) : pf90 [.sl n (nums .u8 m) fl] = some (.sl m.length (nums .u8 m) (.own ⟨0,0,0,0⟩ 1)):=by
  simp only [pf90,row?_at h,Option.bind_some,if_pos h2]
set_option maxHeartbeats 4000000
theorem sound90 : SoundV Tryd.prog glob 90 pf90:=by
  refine SoundV.walk E0 ok0 mixed Tryd.func90 rfl Tryd.call90 (by kernel_rfl) ?_
  intro args r h
  unfold pf90 at h
  split at h
  · simp only [Option.bind_eq_some_iff] at h
    obtain ⟨m,h1,h2⟩:=h
    split at h2
    · rename_i hm
      cases h2
      obtain ⟨fl,rfl⟩:=row?_of h1
      rw [Tryd.ntmps90,Tryd.results90]
      refine ⟨by simp,?_⟩
      by_cases h0 : m.length = 0
      · simp (maxSteps := 1000000) (disch := first | omega | (simp only [nums_len,lnB] <;> omega) | fail) only [ev0,ev1,ev2,ev3,↓reduceIte,reduceCtorEq,zaa,zab,zac,zad,zae,zaf,zag,zah,zai,zaj,zak,zal,zam,zan,zao,zap,zaq,↓zar,↓zas,zat,zau,zav,zaw,zax,zay,zaz,zba,zbb,zbc,zbd,zbe,zbf,zbg,zbh,zbi,zbj,zbk,zbl,zbm,zbn,zbo,zbp,zbq,zbr,zbs,zbt,zbu,zbv,zbw,zbx,zby,zbz,zca,zcb,zcc,zcd,zce,zcf,zcg,zch,zci,zcj,zck,zcl,zcm,zcn,zco,zcp,zcq,zcr,zcs,zct,zcu,zcv,zcw,zcx,zcy,zcz,zda,zdb,zdc,zdd,zde,zdf,zdg,zdh,zdi,zdj,zdk,zdl,zdm,ev5,teE,E0,h0]
        have : m = []:=List.eq_nil_of_length_eq_zero h0
        subst this
        exact ⟨ResQ.nil 1,ResQ.same rfl⟩
      · simp (maxSteps := 1000000) (disch := first | omega | (simp only [nums_len,lnB] <;> omega) | fail) only [ev0,ev1,ev2,ev3,↓reduceIte,reduceCtorEq,zaa,zab,zac,zad,zae,zaf,zag,zah,zai,zaj,zak,zal,zam,zan,zao,zap,zaq,↓zar,↓zas,zat,zau,zav,zaw,zax,zay,zaz,zba,zbb,zbc,zbd,zbe,zbf,zbg,zbh,zbi,zbj,zbk,zbl,zbm,zbn,zbo,zbp,zbq,zbr,zbs,zbt,zbu,zbv,zbw,zbx,zby,zbz,zca,zcb,zcc,zcd,zce,zcf,zcg,zch,zci,zcj,zck,zcl,zcm,zcn,zco,zcp,zcq,zcr,zcs,zct,zcu,zcv,zcw,zcx,zcy,zcz,zda,zdb,zdc,zdd,zde,zdf,zdg,zdh,zdi,zdj,zdk,zdl,zdm,ev5,teE,E0,h0]
        exact ResQ.same rfl
    · cases h2
  · cases h
def E2 : Env:=((E0.know 90 (fun xs=>pf90 (xs.map norm))).know 109 pf140).know 136 pf136
theorem ok2 : EnvOK Tryd.prog E2:=((ok0.know sound90.norm).know sound109).know sound136
theorem E2_te : E2.te = te:=rfl
theorem E2_gs : E2.gs = []:=rfl
theorem E2_dyn : E2.dyn = false:=rfl
theorem E2_glob : E2.glob = glob:=rfl
theorem E2_mu (d : Nat) : E2.mu d = false:=rfl
theorem E2_109 : E2.tbl 109 = some (.val pf140):=rfl
theorem E2_90 : E2.tbl 90 = some (.val (fun xs=>pf90 (xs.map norm))):=rfl
theorem E2_136 : E2.tbl 136 = some (.val pf136):=rfl
theorem pf136_at {n : Int} (h : 0 ≤ n ∧ n ≤ 9223372036854775807) : pf136 [.raw (.int .i64 n)] = some (.raw (.int .i64 (need n.toNat : Int))):=by
  simp only [pf136,int?_at,Option.bind_some,if_pos h]
theorem nat64 {m : Nat} (h : m < 18446744073709551616) : (BitVec.ofNat 64 m).toNat = m:=by rw [BitVec.toNat_ofNat]; omega
theorem pf140_nat {m : Nat} (h : m < 18446744073709551616) : pf140 [.raw (.int .u64 (m : Int))] = some (.raw (.int .i64 (blen m : Int))):=by
  have:=pf140_at (x:=BitVec.ofNat 64 m)
  rwa [nat64 h] at this
theorem need_int (m : Nat) : ((blen m : Int) + 7) / 8 = ((need m : Nat) : Int):=by unfold need; omega
theorem blen_le (m : Nat) (h : m < 2 ^ 64) : blen m ≤ 64:=by
  unfold blen
  split
  · omega
  · have : m.log2 < 64 := (Nat.log2_lt (by assumption)).2 h
    omega
def byteAt (n e : Nat) : BitVec 8:=BitVec.ofInt 8 ((n : Int).fdiv (2 ^ e))
def digF (n s : Nat) : Nat → List (BitVec 8)
  | 0=>[]
  | k + 1=>digF n s k ++ [byteAt n (8 * (s - 1 - k))]
theorem digF_len (n s k : Nat) : (digF n s k).length = k:=by
  induction k with
  | zero=>rfl
  | succ k ih=>simp [digF,ih]
def putK (b : List (BitVec 8)) (n k : Nat) : List (BitVec 8):=b ++ [BitVec.ofInt 8 ((need n : Nat) : Int)] ++ digF n (need n) k
def putB (b : List (BitVec 8)) (n : Nat) : List (BitVec 8):=putK b n (need n)
theorem putK_len (b : List (BitVec 8)) (n k : Nat) : (putK b n k).length = b.length + 1 + k:=by simp [putK,digF_len]; omega
theorem putB_len (b : List (BitVec 8)) (n : Nat) : (putB b n).length = b.length + 1 + need n:=putK_len _ _ _
def pf80 : List AV → Option AV
  | [v,m] => (row? .u8 8 v).bind fun b => (int? m).bind fun n => if b.length ≤ 150000000000000 ∧ n ≤ 9223372036854775807 then
      (if n < 0 then some (.tup [.sl 0 [] (.own ⟨0,0,0,0⟩ 1),.raw (.int .i64 1)]) else some (.tup [.sl (putB b n.toNat).length (nums .u8 (putB b n.toNat)) (.own ⟨0,0,0,0⟩ 1),.raw (.int .i64 0)])) else none
  | _=>none
theorem resQ_tnil {v : Value} : ResQ (some (.tup [.raw (.slice none 0 0),.raw v])) (.tup [.sl 0 [] (.own ⟨0,0,0,0⟩ 1),.raw v]) :=
  ⟨_,rfl,.tup rfl fun j x r hx hr=>by
    match j with
    | 0=>simp at hx hr; subst hx hr; exact .nil _ _
    | 1=>simp at hx hr; subst hx hr; exact .same _ _
    | j + 2=>simp at hx⟩
def tbPc1:=(And.intro (And.intro (And.intro @teE (And.intro @E2_te @E2_gs)) (And.intro (And.intro @E2_dyn @E2_glob) (And.intro @E2_mu @E2_109))) (And.intro (And.intro @E2_90 (And.intro @E2_136 @pf90_at)) (And.intro (And.intro @pf140_nat @pf136_at) (And.intro @nat64 @need_int))))
theorem sound80 : SoundV Tryd.prog glob 80 pf80:=by
  refine SoundV.walk E2 ok2 mixed Tryd.func80 rfl Tryd.call80 (by kernel_rfl) ?_
  intro args r hr
  unfold pf80 at hr
  split at hr
  · simp only [Option.bind_eq_some_iff] at hr
    obtain ⟨b,h1,n,h2,hr⟩:=hr
    split at hr
    · rename_i hc
      obtain ⟨fl,rfl⟩:=row?_of h1
      rw [int?_of h2,Tryd.ntmps80,Tryd.results80]
      refine ⟨by simp,?_⟩
      by_cases hn : n < 0
      · rw [if_pos hn] at hr
        cases hr
        simp (maxSteps:=1000000) (disch:=first | omega | (simp only [digF_len,putK_len,putB_len,lnB] <;> omega) | fail) only [ev0,ev1,ev2,ev3,↓reduceIte,reduceCtorEq,zaa,zab,zac,zad,zae,zaf,zag,zah,zai,zaj,zak,zal,zam,zan,zao,zap,zaq,↓zar,↓zas,zat,zau,zav,zaw,zax,zay,zaz,zba,zbb,zbc,zbd,zbe,zbf,zbg,zbh,zbi,zbj,zbk,zbl,zbm,zbn,zbo,zbp,zbq,zbr,zbs,zbt,zbu,zbv,zbw,zbx,zby,zbz,zca,zcb,zcc,zcd,zce,zcf,zcg,zch,zci,zcj,zck,zcl,zcm,zcn,zco,zcp,zcq,zcr,zcs,zct,zcu,zcv,zcw,zcx,zcy,zcz,zda,zdb,zdc,zdd,zde,zdf,zdg,zdh,zdi,zdj,zdk,zdl,zdm,ev5,tbPc1,glob,hn]
        exact resQ_tnil
      · rw [if_neg hn] at hr
        cases hr
        obtain ⟨m,rfl⟩:=Int.eq_ofNat_of_zero_le (show 0 ≤ n by omega)
        have hb64:=blen_le m (by omega)
        have hn8:=need_le m (by omega)
        simp (maxSteps:=1000000) (disch:=first | omega | (simp only [digF_len,putK_len,putB_len,lnB] <;> omega) | fail) only [ev0,ev1,ev2,ev3,↓reduceIte,reduceCtorEq,zaa,zab,zac,zad,zae,zaf,zag,zah,zai,zaj,zak,zal,zam,zan,zao,zap,zaq,↓zar,↓zas,zat,zau,zav,zaw,zax,zay,zaz,zba,zbb,zbc,zbd,zbe,zbf,zbg,zbh,zbi,zbj,zbk,zbl,zbm,zbn,zbo,zbp,zbq,zbr,zbs,zbt,zbu,zbv,zbw,zbx,zby,zbz,zca,zcb,zcc,zcd,zce,zcf,zcg,zch,zci,zcj,zck,zcl,zcm,zcn,zco,zcp,zcq,zcr,zcs,zct,zcu,zcv,zcw,zcx,zcy,zcz,zda,zdb,zdc,zdd,zde,zdf,zdg,zdh,zdi,zdj,zdk,zdl,zdm,ev5,tbPc1,glob,hn]
        refine loopQ_of (fun n σ=>∃ k i,k ≤ need m ∧ n = need m - k ∧ σ.slots 8 = .raw (.int .i64 ((need m : Int) - 1 - (k : Int))) ∧ σ.slots 1 = .raw (.int .i64 (m : Int)) ∧ σ.slots 7 = .sl (putK b m k).length (nums .u8 (putK b m k)) (.own i 1) ∧ Free σ.used (σ.gen 35) 35 i) (need m) ?_ ?_
        · refine ⟨0,⟨0,21,0,1⟩,by omega,by omega,?_⟩
          simp (maxSteps:=1000000) (disch:=first | omega | (simp only [digF_len,putK_len,putB_len,lnB] <;> omega) | fail) only [ev0,ev1,ev2,ev3,↓reduceIte,reduceCtorEq,zaa,zab,zac,zad,zae,zaf,zag,zah,zai,zaj,zak,zal,zam,zan,zao,zap,zaq,↓zar,↓zas,zat,zau,zav,zaw,zax,zay,zaz,zba,zbb,zbc,zbd,zbe,zbf,zbg,zbh,zbi,zbj,zbk,zbl,zbm,zbn,zbo,zbp,zbq,zbr,zbs,zbt,zbu,zbv,zbw,zbx,zby,zbz,zca,zcb,zcc,zcd,zce,zcf,zcg,zch,zci,zcj,zck,zcl,zcm,zcn,zco,zcp,zcq,zcr,zcs,zct,zcu,zcv,zcw,zcx,zcy,zcz,zda,zdb,zdc,zdd,zde,zdf,zdg,zdh,zdi,zdj,zdk,zdl,zdm,ev5,tbPc1,glob]
          refine ⟨i64_eq (by omega),row_eq ?_ ?_,?_⟩
          · have:=putK_len b m 0; omega
          · simp [putK,digF]
          · exact ⟨by simp [updI],fun g _=>by simp [updI],by simp⟩
        · rintro n ⟨sl,gn,bx,us⟩ ⟨k,i,hk,rfl,s8,s1,s7,hf⟩
          dsimp only at s8 s1 s7 hf
          have hf0:=hf.now
          have lM:=putK_len b m k
          generalize hM : putK b m k = M at s7 lM
          simp (maxSteps:=1000000) (disch:=first | omega | (simp only [digF_len,putK_len,putB_len,lnB] <;> omega) | fail) only [ev0,ev1,ev2,ev3,↓reduceIte,reduceCtorEq,zaa,zab,zac,zad,zae,zaf,zag,zah,zai,zaj,zak,zal,zam,zan,zao,zap,zaq,↓zar,↓zas,zat,zau,zav,zaw,zax,zay,zaz,zba,zbb,zbc,zbd,zbe,zbf,zbg,zbh,zbi,zbj,zbk,zbl,zbm,zbn,zbo,zbp,zbq,zbr,zbs,zbt,zbu,zbv,zbw,zbx,zby,zbz,zca,zcb,zcc,zcd,zce,zcf,zcg,zch,zci,zcj,zck,zcl,zcm,zcn,zco,zcp,zcq,zcr,zcs,zct,zcu,zcv,zcw,zcx,zcy,zcz,zda,zdb,zdc,zdd,zde,zdf,zdg,zdh,zdi,zdj,zdk,zdl,zdm,ev5,tbPc1,glob,s8,s1,s7,hf0]
          refine condQ_dec (fun hge=>?_) (fun hlt=>?_)
          · have hlt : k < need m := by omega
            simp (maxSteps:=1000000) (disch:=first | omega | (simp only [digF_len,putK_len,putB_len,lnB] <;> omega) | fail) only [ev0,ev1,ev2,ev3,↓reduceIte,reduceCtorEq,zaa,zab,zac,zad,zae,zaf,zag,zah,zai,zaj,zak,zal,zam,zan,zao,zap,zaq,↓zar,↓zas,zat,zau,zav,zaw,zax,zay,zaz,zba,zbb,zbc,zbd,zbe,zbf,zbg,zbh,zbi,zbj,zbk,zbl,zbm,zbn,zbo,zbp,zbq,zbr,zbs,zbt,zbu,zbv,zbw,zbx,zby,zbz,zca,zcb,zcc,zcd,zce,zcf,zcg,zch,zci,zcj,zck,zcl,zcm,zcn,zco,zcp,zcq,zcr,zcs,zct,zcu,zcv,zcw,zcx,zcy,zcz,zda,zdb,zdc,zdd,zde,zdf,zdg,zdh,zdi,zdj,zdk,zdl,zdm,ev5,tbPc1,glob,s8,s1,s7,hf0]
            refine ⟨need m - (k + 1),by omega,k + 1,⟨0,35,0,gn 35 + 1⟩,by omega,rfl,i64_eq (by omega),row_eq ?_ ?_,hf.go⟩
            · have:=putK_len b m (k + 1); omega
            · rw [← hM]; simp only [putK,digF,byteAt,List.append_assoc]
          · have hk : k = need m := by omega
            subst hk
            simp (maxSteps:=1000000) (disch:=first | omega | (simp only [digF_len,putK_len,putB_len,lnB] <;> omega) | fail) only [ev0,ev1,ev2,ev3,↓reduceIte,reduceCtorEq,zaa,zab,zac,zad,zae,zaf,zag,zah,zai,zaj,zak,zal,zam,zan,zao,zap,zaq,↓zar,↓zas,zat,zau,zav,zaw,zax,zay,zaz,zba,zbb,zbc,zbd,zbe,zbf,zbg,zbh,zbi,zbj,zbk,zbl,zbm,zbn,zbo,zbp,zbq,zbr,zbs,zbt,zbu,zbv,zbw,zbx,zby,zbz,zca,zcb,zcc,zcd,zce,zcf,zcg,zch,zci,zcj,zck,zcl,zcm,zcn,zco,zcp,zcq,zcr,zcs,zct,zcu,zcv,zcw,zcx,zcy,zcz,zda,zdb,zdc,zdd,zde,zdf,zdg,zdh,zdi,zdj,zdk,zdl,zdm,ev5,tbPc1,glob,s8,s1,s7,hf0]
            rw [show putB b m = M from hM]
            exact ResQ.same rfl
    · cases hr
  · cases hr
theorem sound104 : SoundV Tryd.prog glob 104 pf80:=by
  refine SoundV.walk E2 ok2 mixed Tryd.func104 rfl Tryd.call104 (by kernel_rfl) ?_
  intro args r hr
  unfold pf80 at hr
  split at hr
  · simp only [Option.bind_eq_some_iff] at hr
    obtain ⟨b,h1,n,h2,hr⟩:=hr
    split at hr
    · rename_i hc
      obtain ⟨fl,rfl⟩:=row?_of h1
      rw [int?_of h2,Tryd.ntmps104,Tryd.results104]
      refine ⟨by simp,?_⟩
      by_cases hn : n < 0
      · rw [if_pos hn] at hr
        cases hr
        simp (maxSteps:=1000000) (disch:=first | omega | (simp only [digF_len,putK_len,putB_len,lnB] <;> omega) | fail) only [ev0,ev1,ev2,ev3,↓reduceIte,reduceCtorEq,zaa,zab,zac,zad,zae,zaf,zag,zah,zai,zaj,zak,zal,zam,zan,zao,zap,zaq,↓zar,↓zas,zat,zau,zav,zaw,zax,zay,zaz,zba,zbb,zbc,zbd,zbe,zbf,zbg,zbh,zbi,zbj,zbk,zbl,zbm,zbn,zbo,zbp,zbq,zbr,zbs,zbt,zbu,zbv,zbw,zbx,zby,zbz,zca,zcb,zcc,zcd,zce,zcf,zcg,zch,zci,zcj,zck,zcl,zcm,zcn,zco,zcp,zcq,zcr,zcs,zct,zcu,zcv,zcw,zcx,zcy,zcz,zda,zdb,zdc,zdd,zde,zdf,zdg,zdh,zdi,zdj,zdk,zdl,zdm,ev5,tbPc1,glob,hn]
        exact resQ_tnil
      · rw [if_neg hn] at hr
        cases hr
        obtain ⟨m,rfl⟩:=Int.eq_ofNat_of_zero_le (show 0 ≤ n by omega)
        have hb64:=blen_le m (by omega)
        have hn8:=need_le m (by omega)
        simp (maxSteps:=1000000) (disch:=first | omega | (simp only [digF_len,putK_len,putB_len,lnB] <;> omega) | fail) only [ev0,ev1,ev2,ev3,↓reduceIte,reduceCtorEq,zaa,zab,zac,zad,zae,zaf,zag,zah,zai,zaj,zak,zal,zam,zan,zao,zap,zaq,↓zar,↓zas,zat,zau,zav,zaw,zax,zay,zaz,zba,zbb,zbc,zbd,zbe,zbf,zbg,zbh,zbi,zbj,zbk,zbl,zbm,zbn,zbo,zbp,zbq,zbr,zbs,zbt,zbu,zbv,zbw,zbx,zby,zbz,zca,zcb,zcc,zcd,zce,zcf,zcg,zch,zci,zcj,zck,zcl,zcm,zcn,zco,zcp,zcq,zcr,zcs,zct,zcu,zcv,zcw,zcx,zcy,zcz,zda,zdb,zdc,zdd,zde,zdf,zdg,zdh,zdi,zdj,zdk,zdl,zdm,ev5,tbPc1,glob,hn]
        refine loopQ_of (fun n σ=>∃ k i,k ≤ need m ∧ n = need m - k ∧ σ.slots 8 = .raw (.int .i64 ((need m : Int) - 1 - (k : Int))) ∧ σ.slots 1 = .raw (.int .i64 (m : Int)) ∧ σ.slots 7 = .sl (putK b m k).length (nums .u8 (putK b m k)) (.own i 1) ∧ Free σ.used (σ.gen 33) 33 i) (need m) ?_ ?_
        · refine ⟨0,⟨0,19,0,1⟩,by omega,by omega,?_⟩
          simp (maxSteps:=1000000) (disch:=first | omega | (simp only [digF_len,putK_len,putB_len,lnB] <;> omega) | fail) only [ev0,ev1,ev2,ev3,↓reduceIte,reduceCtorEq,zaa,zab,zac,zad,zae,zaf,zag,zah,zai,zaj,zak,zal,zam,zan,zao,zap,zaq,↓zar,↓zas,zat,zau,zav,zaw,zax,zay,zaz,zba,zbb,zbc,zbd,zbe,zbf,zbg,zbh,zbi,zbj,zbk,zbl,zbm,zbn,zbo,zbp,zbq,zbr,zbs,zbt,zbu,zbv,zbw,zbx,zby,zbz,zca,zcb,zcc,zcd,zce,zcf,zcg,zch,zci,zcj,zck,zcl,zcm,zcn,zco,zcp,zcq,zcr,zcs,zct,zcu,zcv,zcw,zcx,zcy,zcz,zda,zdb,zdc,zdd,zde,zdf,zdg,zdh,zdi,zdj,zdk,zdl,zdm,ev5,tbPc1,glob]
          refine ⟨i64_eq (by omega),row_eq ?_ ?_,?_⟩
          · have:=putK_len b m 0; omega
          · simp [putK,digF]
          · exact ⟨by simp [updI],fun g _=>by simp [updI],by simp⟩
        · rintro n ⟨sl,gn,bx,us⟩ ⟨k,i,hk,rfl,s8,s1,s7,hf⟩
          dsimp only at s8 s1 s7 hf
          have hf0:=hf.now
          have lM:=putK_len b m k
          generalize hM : putK b m k = M at s7 lM
          simp (maxSteps:=1000000) (disch:=first | omega | (simp only [digF_len,putK_len,putB_len,lnB] <;> omega) | fail) only [ev0,ev1,ev2,ev3,↓reduceIte,reduceCtorEq,zaa,zab,zac,zad,zae,zaf,zag,zah,zai,zaj,zak,zal,zam,zan,zao,zap,zaq,↓zar,↓zas,zat,zau,zav,zaw,zax,zay,zaz,zba,zbb,zbc,zbd,zbe,zbf,zbg,zbh,zbi,zbj,zbk,zbl,zbm,zbn,zbo,zbp,zbq,zbr,zbs,zbt,zbu,zbv,zbw,zbx,zby,zbz,zca,zcb,zcc,zcd,zce,zcf,zcg,zch,zci,zcj,zck,zcl,zcm,zcn,zco,zcp,zcq,zcr,zcs,zct,zcu,zcv,zcw,zcx,zcy,zcz,zda,zdb,zdc,zdd,zde,zdf,zdg,zdh,zdi,zdj,zdk,zdl,zdm,ev5,tbPc1,glob,s8,s1,s7,hf0]
          refine condQ_dec (fun hge=>?_) (fun hlt=>?_)
          · have hlt : k < need m := by omega
            simp (maxSteps:=1000000) (disch:=first | omega | (simp only [digF_len,putK_len,putB_len,lnB] <;> omega) | fail) only [ev0,ev1,ev2,ev3,↓reduceIte,reduceCtorEq,zaa,zab,zac,zad,zae,zaf,zag,zah,zai,zaj,zak,zal,zam,zan,zao,zap,zaq,↓zar,↓zas,zat,zau,zav,zaw,zax,zay,zaz,zba,zbb,zbc,zbd,zbe,zbf,zbg,zbh,zbi,zbj,zbk,zbl,zbm,zbn,zbo,zbp,zbq,zbr,zbs,zbt,zbu,zbv,zbw,zbx,zby,zbz,zca,zcb,zcc,zcd,zce,zcf,zcg,zch,zci,zcj,zck,zcl,zcm,zcn,zco,zcp,zcq,zcr,zcs,zct,zcu,zcv,zcw,zcx,zcy,zcz,zda,zdb,zdc,zdd,zde,zdf,zdg,zdh,zdi,zdj,zdk,zdl,zdm,ev5,tbPc1,glob,s8,s1,s7,hf0]
            refine ⟨need m - (k + 1),by omega,k + 1,⟨0,33,0,gn 33 + 1⟩,by omega,rfl,i64_eq (by omega),row_eq ?_ ?_,hf.go⟩
            · have:=putK_len b m (k + 1); omega
            · rw [← hM]; simp only [putK,digF,byteAt,List.append_assoc]
          · have hk : k = need m := by omega
            subst hk
            simp (maxSteps:=1000000) (disch:=first | omega | (simp only [digF_len,putK_len,putB_len,lnB] <;> omega) | fail) only [ev0,ev1,ev2,ev3,↓reduceIte,reduceCtorEq,zaa,zab,zac,zad,zae,zaf,zag,zah,zai,zaj,zak,zal,zam,zan,zao,zap,zaq,↓zar,↓zas,zat,zau,zav,zaw,zax,zay,zaz,zba,zbb,zbc,zbd,zbe,zbf,zbg,zbh,zbi,zbj,zbk,zbl,zbm,zbn,zbo,zbp,zbq,zbr,zbs,zbt,zbu,zbv,zbw,zbx,zby,zbz,zca,zcb,zcc,zcd,zce,zcf,zcg,zch,zci,zcj,zck,zcl,zcm,zcn,zco,zcp,zcq,zcr,zcs,zct,zcu,zcv,zcw,zcx,zcy,zcz,zda,zdb,zdc,zdd,zde,zdf,zdg,zdh,zdi,zdj,zdk,zdl,zdm,ev5,tbPc1,glob,s8,s1,s7,hf0]
            rw [show putB b m = M from hM]
            exact ResQ.same rfl
    · cases hr
  · cases hr
end Go.Proofs.YtddeffdgldjdjaaDoor.W
