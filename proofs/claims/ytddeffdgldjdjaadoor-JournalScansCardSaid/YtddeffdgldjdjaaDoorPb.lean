/- How many bits a number has: what the walk of the library's function comes to. -/
import Derived.Test.YtddeffdgldjdjaaDoorBa
import Derived.Test.YtddeffdgldjdjaaDoorM3
namespace Go.Proofs.YtddeffdgldjdjaaDoor.W
set_option linter.unusedSimpArgs false
set_option linter.unusedVariables false
set_option linter.defProp false
open Go Go.Abs
open Nat renaming reduceAdd→zaa,reduceSub→zab,reduceMul→zac,reduceLT→zad,reduceLeDiff→zae,reduceEqDiff→zaf,reduceBEq→zag
open BitVec renaming reduceOfInt→zah
open Int renaming reduceLE→zai,reduceLT→zaj,reduceGT→zak,reduceGE→zal,reduceNeg→zam,reduceAdd→zan,reduceSub→zao,reduceMul→zap,reduceToNat→zaq
open Go.Abs renaming bind_go→zar,map_go→zas,wantedV→zat,isWrite→zau,grow→zav,write→zaw,ofV→zax,start→zaz,strip→zba,endQ→zbb,resV→zbc,rawsRes→zbd,rawRes→zbe,exports→zbf,export1→zbg,isSelf→zbl,convSelf→zbm,convV→zbn,loadV→zbo,storeV→zbp,fieldAddrV→zbq,fieldV→zbr,indexAddrV→zbs,indexV→zbt,partV→zbu,isAggK→zbv,isStr→zbw,place→zbx,ipS→zby,lenV→zbz,min2V→zca,makeV→zcb,freshSl→zcc,sliceV→zcd,boundOr→zce,bound→zcf,bounds→zcg,cutFl→zch,copyV→zci,slCells→zcj,srcV→zck,appendV→zcl,room→zcm,zerosOf→zcn,eqNeg→zco,kd→zcp,takeR→zcq,hasViewL→zcr,hasView→zcs,freshR→zct,freshC→zcu,snapAll→zcv,snap→zcw,snapL→zcx,flatL→zcy,pureL→zcz,pureA→zda,fillC→zdb,arrOK→zdc,oneA→zdd,partB→zde,ren1→zdg,applyW→zdi,useL→zdj,isGen→zdl,startG→zdm
open Go.Abs.AV renaming cells→zay,laid→zdf
open Go.Abs.AS renaming grown→zbh,put→zbi,mute→zdk
open Go.Abs.Env renaming know→zbj,boxed→zbk
open Go.Abs.CR renaming gr→zdh
def glob : Nat→Option (List AV):=fun _=>none
def E0 : Env:={ te:=te,glob:=glob,tbl:=fun _=>none,mu:=fun _=>false,dyn:=false,gs:=[] }
theorem ok0 : EnvOK Tryd.prog E0:=⟨te_ok,(fun _ _ h=>by cases h),(fun _ _ h=>by cases h)⟩
def blen (x : Nat) : Nat:=if x = 0 then 0 else x.log2 + 1
theorem blen_shift (x k : Nat) (h : 2 ^ k ≤ x) : blen x = blen (x / 2 ^ k) + k:=by
  have hx : x ≠ 0:=by
    have : 0 < 2 ^ k:=Nat.two_pow_pos k
    omega
  have hd : x / 2 ^ k ≠ 0:=by
    have:=Nat.div_pos h (Nat.two_pow_pos k)
    omega
  rw [blen,blen,if_neg hx,if_neg hd]
  have h1 : k ≤ x.log2:=(Nat.le_log2 hx).2 h
  have h2 : (x / 2 ^ k).log2 = x.log2 - k:=by
    apply (Nat.log2_eq_iff hd).2
    constructor
    · rw [Nat.le_div_iff_mul_le (Nat.two_pow_pos k),← Nat.pow_add,Nat.sub_add_cancel h1]
      exact Nat.log2_self_le hx
    · rw [Nat.div_lt_iff_lt_mul (Nat.two_pow_pos k),← Nat.pow_add,show x.log2 - k + 1 + k = x.log2 + 1 by omega]
      exact Nat.lt_log2_self
  omega
theorem len8 (i : Nat) (h : i < 256) : ((([0,1,2,2,3,3,3,3,4,4,4,4,4,4,4,4,5,5,5,5,5,5,5,5,5,5,5,5,5,5,5,5,6,6,6,6,6,6,6,6,6,6,6,6,6,6,6,6,6,6,6,6,6,6,6,6,6,6,6,6,6,6,6,6] : List UInt8).append [7,7,7,7,7,7,7,7,7,7,7,7,7,7,7,7,7,7,7,7,7,7,7,7,7,7,7,7,7,7,7,7,7,7,7,7,7,7,7,7,7,7,7,7,7,7,7,7,7,7,7,7,7,7,7,7,7,7,7,7,7,7,7,7]).append (([8,8,8,8,8,8,8,8,8,8,8,8,8,8,8,8,8,8,8,8,8,8,8,8,8,8,8,8,8,8,8,8,8,8,8,8,8,8,8,8,8,8,8,8,8,8,8,8,8,8,8,8,8,8,8,8,8,8,8,8,8,8,8,8] : List UInt8).append [8,8,8,8,8,8,8,8,8,8,8,8,8,8,8,8,8,8,8,8,8,8,8,8,8,8,8,8,8,8,8,8,8,8,8,8,8,8,8,8,8,8,8,8,8,8,8,8,8,8,8,8,8,8,8,8,8,8,8,8,8,8,8,8]))[i]? = some (UInt8.ofNat (blen i)):=by
  have all : ∀ n : Fin 256,((([0,1,2,2,3,3,3,3,4,4,4,4,4,4,4,4,5,5,5,5,5,5,5,5,5,5,5,5,5,5,5,5,6,6,6,6,6,6,6,6,6,6,6,6,6,6,6,6,6,6,6,6,6,6,6,6,6,6,6,6,6,6,6,6] : List UInt8).append [7,7,7,7,7,7,7,7,7,7,7,7,7,7,7,7,7,7,7,7,7,7,7,7,7,7,7,7,7,7,7,7,7,7,7,7,7,7,7,7,7,7,7,7,7,7,7,7,7,7,7,7,7,7,7,7,7,7,7,7,7,7,7,7]).append (([8,8,8,8,8,8,8,8,8,8,8,8,8,8,8,8,8,8,8,8,8,8,8,8,8,8,8,8,8,8,8,8,8,8,8,8,8,8,8,8,8,8,8,8,8,8,8,8,8,8,8,8,8,8,8,8,8,8,8,8,8,8,8,8] : List UInt8).append [8,8,8,8,8,8,8,8,8,8,8,8,8,8,8,8,8,8,8,8,8,8,8,8,8,8,8,8,8,8,8,8,8,8,8,8,8,8,8,8,8,8,8,8,8,8,8,8,8,8,8,8,8,8,8,8,8,8,8,8,8,8,8,8]))[n.val]? = some (UInt8.ofNat (blen n.val)):=by decide +kernel
  exact all ⟨i,h⟩
theorem blen_le8 {i : Nat} (h : i < 256) : blen i ≤ 8:=by
  unfold blen; split
  · omega
  · have : i.log2 < 8 := (Nat.log2_lt (by assumption)).2 h
    omega
theorem u8_len {i : Nat} (h : i < 256) : (UInt8.ofNat (blen i)).toNat = blen i:=by
  have:=blen_le8 h
  simp
  omega
set_option maxHeartbeats 8000000
def pf140 : List AV → Option AV
  | [v]=>(num? .u64 64 v).bind fun x=>some (.raw (.int .i64 (blen x.toNat : Int)))
  | _=>none
theorem sound140 : SoundV Tryd.prog glob 140 pf140:=by
  refine SoundV.walk E0 ok0 mixed Tryd.func140 rfl Tryd.call140 (by kernel_rfl) ?_
  intro args r hr
  unfold pf140 at hr
  split at hr
  · simp only [Option.bind_eq_some_iff] at hr
    obtain ⟨x,h1,hr⟩:=hr
    cases hr
    rw [num?_of h1,Tryd.ntmps140,Tryd.results140]
    refine ⟨by simp,?_⟩
    simp (maxSteps:=1000000) (disch:=first | omega | (simp only [nums_len,lnB] <;> omega) | fail) only [ev0,ev1,ev2,ev3,↓reduceIte,reduceCtorEq,zaa,zab,zac,zad,zae,zaf,zag,zah,zai,zaj,zak,zal,zam,zan,zao,zap,zaq,↓zar,↓zas,zat,zau,zav,zaw,zax,zay,zaz,zba,zbb,zbc,zbd,zbe,zbf,zbg,zbh,zbi,zbj,zbk,zbl,zbm,zbn,zbo,zbp,zbq,zbr,zbs,zbt,zbu,zbv,zbw,zbx,zby,zbz,zca,zcb,zcc,zcd,zce,zcf,zcg,zch,zci,zcj,zck,zcl,zcm,zcn,zco,zcp,zcq,zcr,zcs,zct,zcu,zcv,zcw,zcx,zcy,zcz,zda,zdb,zdc,zdd,zde,zdf,zdg,zdh,zdi,zdj,zdk,zdl,zdm,ev5,teE,E0]
    refine condQ_dec (fun c1=>?_) (fun c1=>?_)
    · simp (maxSteps := 1000000) (disch := first | omega | (simp only [nums_len,lnB] <;> omega) | fail) only [ev0,ev1,ev2,ev3,↓reduceIte,reduceCtorEq,zaa,zab,zac,zad,zae,zaf,zag,zah,zai,zaj,zak,zal,zam,zan,zao,zap,zaq,↓zar,↓zas,zat,zau,zav,zaw,zax,zay,zaz,zba,zbb,zbc,zbd,zbe,zbf,zbg,zbh,zbi,zbj,zbk,zbl,zbm,zbn,zbo,zbp,zbq,zbr,zbs,zbt,zbu,zbv,zbw,zbx,zby,zbz,zca,zcb,zcc,zcd,zce,zcf,zcg,zch,zci,zcj,zck,zcl,zcm,zcn,zco,zcp,zcq,zcr,zcs,zct,zcu,zcv,zcw,zcx,zcy,zcz,zda,zdb,zdc,zdd,zde,zdf,zdg,zdh,zdi,zdj,zdk,zdl,zdm,ev5,teE,E0]
      refine condQ_dec (fun c2=>?_) (fun c2=>?_)
      · simp (maxSteps := 1000000) (disch := first | omega | (simp only [nums_len,lnB] <;> omega) | fail) only [ev0,ev1,ev2,ev3,↓reduceIte,reduceCtorEq,zaa,zab,zac,zad,zae,zaf,zag,zah,zai,zaj,zak,zal,zam,zan,zao,zap,zaq,↓zar,↓zas,zat,zau,zav,zaw,zax,zay,zaz,zba,zbb,zbc,zbd,zbe,zbf,zbg,zbh,zbi,zbj,zbk,zbl,zbm,zbn,zbo,zbp,zbq,zbr,zbs,zbt,zbu,zbv,zbw,zbx,zby,zbz,zca,zcb,zcc,zcd,zce,zcf,zcg,zch,zci,zcj,zck,zcl,zcm,zcn,zco,zcp,zcq,zcr,zcs,zct,zcu,zcv,zcw,zcx,zcy,zcz,zda,zdb,zdc,zdd,zde,zdf,zdg,zdh,zdi,zdj,zdk,zdl,zdm,ev5,teE,E0]
        refine condQ_dec (fun c3=>?_) (fun c3=>?_)
        · skip
          have hy : ((((x >>> 32) >>> 16) >>> 8)).toNat < 256:=by
            try simp only [BitVec.toNat_ushiftRight,Nat.shiftRight_eq_div_pow] at *
            omega
          have hbl : blen x.toNat = blen ((((x >>> 32) >>> 16) >>> 8)).toNat + 56:=by
            try simp only [BitVec.toNat_ushiftRight,Nat.shiftRight_eq_div_pow] at *
            rw [blen_shift (x.toNat) 32 (by omega)]
            rw [blen_shift (x.toNat / 2 ^ 32) 16 (by omega)]
            rw [blen_shift (x.toNat / 2 ^ 32 / 2 ^ 16) 8 (by omega)]
          have e8 : (BitVec.ofNat 8 ((((x >>> 32) >>> 16) >>> 8)).toNat).toNat = ((((x >>> 32) >>> 16) >>> 8)).toNat:=by rw [BitVec.toNat_ofNat]; omega
          have hb:=blen_le8 hy
          have hu:=u8_len hy
          simp (maxSteps:=1000000) (disch:=first | omega | (simp only [nums_len,lnB] <;> omega) | fail) only [ev0,ev1,ev2,ev3,↓reduceIte,reduceCtorEq,zaa,zab,zac,zad,zae,zaf,zag,zah,zai,zaj,zak,zal,zam,zan,zao,zap,zaq,↓zar,↓zas,zat,zau,zav,zaw,zax,zay,zaz,zba,zbb,zbc,zbd,zbe,zbf,zbg,zbh,zbi,zbj,zbk,zbl,zbm,zbn,zbo,zbp,zbq,zbr,zbs,zbt,zbu,zbv,zbw,zbx,zby,zbz,zca,zcb,zcc,zcd,zce,zcf,zcg,zch,zci,zcj,zck,zcl,zcm,zcn,zco,zcp,zcq,zcr,zcs,zct,zcu,zcv,zcw,zcx,zcy,zcz,zda,zdb,zdc,zdd,zde,zdf,zdg,zdh,zdi,zdj,zdk,zdl,zdm,ev5,teE,E0,len8,e8,hu]
          rw [hbl]
          exact ResQ.same (i64_eq (by omega))
        · skip
          have hy : (((x >>> 32) >>> 16)).toNat < 256:=by
            try simp only [BitVec.toNat_ushiftRight,Nat.shiftRight_eq_div_pow] at *
            omega
          have hbl : blen x.toNat = blen (((x >>> 32) >>> 16)).toNat + 48:=by
            try simp only [BitVec.toNat_ushiftRight,Nat.shiftRight_eq_div_pow] at *
            rw [blen_shift (x.toNat) 32 (by omega)]
            rw [blen_shift (x.toNat / 2 ^ 32) 16 (by omega)]
          have e8 : (BitVec.ofNat 8 (((x >>> 32) >>> 16)).toNat).toNat = (((x >>> 32) >>> 16)).toNat:=by rw [BitVec.toNat_ofNat]; omega
          have hb:=blen_le8 hy
          have hu:=u8_len hy
          simp (maxSteps:=1000000) (disch:=first | omega | (simp only [nums_len,lnB] <;> omega) | fail) only [ev0,ev1,ev2,ev3,↓reduceIte,reduceCtorEq,zaa,zab,zac,zad,zae,zaf,zag,zah,zai,zaj,zak,zal,zam,zan,zao,zap,zaq,↓zar,↓zas,zat,zau,zav,zaw,zax,zay,zaz,zba,zbb,zbc,zbd,zbe,zbf,zbg,zbh,zbi,zbj,zbk,zbl,zbm,zbn,zbo,zbp,zbq,zbr,zbs,zbt,zbu,zbv,zbw,zbx,zby,zbz,zca,zcb,zcc,zcd,zce,zcf,zcg,zch,zci,zcj,zck,zcl,zcm,zcn,zco,zcp,zcq,zcr,zcs,zct,zcu,zcv,zcw,zcx,zcy,zcz,zda,zdb,zdc,zdd,zde,zdf,zdg,zdh,zdi,zdj,zdk,zdl,zdm,ev5,teE,E0,len8,e8,hu]
          rw [hbl]
          exact ResQ.same (i64_eq (by omega))
      · simp (maxSteps := 1000000) (disch := first | omega | (simp only [nums_len,lnB] <;> omega) | fail) only [ev0,ev1,ev2,ev3,↓reduceIte,reduceCtorEq,zaa,zab,zac,zad,zae,zaf,zag,zah,zai,zaj,zak,zal,zam,zan,zao,zap,zaq,↓zar,↓zas,zat,zau,zav,zaw,zax,zay,zaz,zba,zbb,zbc,zbd,zbe,zbf,zbg,zbh,zbi,zbj,zbk,zbl,zbm,zbn,zbo,zbp,zbq,zbr,zbs,zbt,zbu,zbv,zbw,zbx,zby,zbz,zca,zcb,zcc,zcd,zce,zcf,zcg,zch,zci,zcj,zck,zcl,zcm,zcn,zco,zcp,zcq,zcr,zcs,zct,zcu,zcv,zcw,zcx,zcy,zcz,zda,zdb,zdc,zdd,zde,zdf,zdg,zdh,zdi,zdj,zdk,zdl,zdm,ev5,teE,E0]
        refine condQ_dec (fun c3=>?_) (fun c3=>?_)
        · skip
          have hy : (((x >>> 32) >>> 8)).toNat < 256:=by
            try simp only [BitVec.toNat_ushiftRight,Nat.shiftRight_eq_div_pow] at *
            omega
          have hbl : blen x.toNat = blen (((x >>> 32) >>> 8)).toNat + 40:=by
            try simp only [BitVec.toNat_ushiftRight,Nat.shiftRight_eq_div_pow] at *
            rw [blen_shift (x.toNat) 32 (by omega)]
            rw [blen_shift (x.toNat / 2 ^ 32) 8 (by omega)]
          have e8 : (BitVec.ofNat 8 (((x >>> 32) >>> 8)).toNat).toNat = (((x >>> 32) >>> 8)).toNat:=by rw [BitVec.toNat_ofNat]; omega
          have hb:=blen_le8 hy
          have hu:=u8_len hy
          simp (maxSteps:=1000000) (disch:=first | omega | (simp only [nums_len,lnB] <;> omega) | fail) only [ev0,ev1,ev2,ev3,↓reduceIte,reduceCtorEq,zaa,zab,zac,zad,zae,zaf,zag,zah,zai,zaj,zak,zal,zam,zan,zao,zap,zaq,↓zar,↓zas,zat,zau,zav,zaw,zax,zay,zaz,zba,zbb,zbc,zbd,zbe,zbf,zbg,zbh,zbi,zbj,zbk,zbl,zbm,zbn,zbo,zbp,zbq,zbr,zbs,zbt,zbu,zbv,zbw,zbx,zby,zbz,zca,zcb,zcc,zcd,zce,zcf,zcg,zch,zci,zcj,zck,zcl,zcm,zcn,zco,zcp,zcq,zcr,zcs,zct,zcu,zcv,zcw,zcx,zcy,zcz,zda,zdb,zdc,zdd,zde,zdf,zdg,zdh,zdi,zdj,zdk,zdl,zdm,ev5,teE,E0,len8,e8,hu]
          rw [hbl]
          exact ResQ.same (i64_eq (by omega))
        · skip
          have hy : ((x >>> 32)).toNat < 256:=by
            try simp only [BitVec.toNat_ushiftRight,Nat.shiftRight_eq_div_pow] at *
            omega
          have hbl : blen x.toNat = blen ((x >>> 32)).toNat + 32:=by
            try simp only [BitVec.toNat_ushiftRight,Nat.shiftRight_eq_div_pow] at *
            rw [blen_shift (x.toNat) 32 (by omega)]
          have e8 : (BitVec.ofNat 8 ((x >>> 32)).toNat).toNat = ((x >>> 32)).toNat:=by rw [BitVec.toNat_ofNat]; omega
          have hb:=blen_le8 hy
          have hu:=u8_len hy
          simp (maxSteps:=1000000) (disch:=first | omega | (simp only [nums_len,lnB] <;> omega) | fail) only [ev0,ev1,ev2,ev3,↓reduceIte,reduceCtorEq,zaa,zab,zac,zad,zae,zaf,zag,zah,zai,zaj,zak,zal,zam,zan,zao,zap,zaq,↓zar,↓zas,zat,zau,zav,zaw,zax,zay,zaz,zba,zbb,zbc,zbd,zbe,zbf,zbg,zbh,zbi,zbj,zbk,zbl,zbm,zbn,zbo,zbp,zbq,zbr,zbs,zbt,zbu,zbv,zbw,zbx,zby,zbz,zca,zcb,zcc,zcd,zce,zcf,zcg,zch,zci,zcj,zck,zcl,zcm,zcn,zco,zcp,zcq,zcr,zcs,zct,zcu,zcv,zcw,zcx,zcy,zcz,zda,zdb,zdc,zdd,zde,zdf,zdg,zdh,zdi,zdj,zdk,zdl,zdm,ev5,teE,E0,len8,e8,hu]
          rw [hbl]
          exact ResQ.same (i64_eq (by omega))
    · simp (maxSteps := 1000000) (disch := first | omega | (simp only [nums_len,lnB] <;> omega) | fail) only [ev0,ev1,ev2,ev3,↓reduceIte,reduceCtorEq,zaa,zab,zac,zad,zae,zaf,zag,zah,zai,zaj,zak,zal,zam,zan,zao,zap,zaq,↓zar,↓zas,zat,zau,zav,zaw,zax,zay,zaz,zba,zbb,zbc,zbd,zbe,zbf,zbg,zbh,zbi,zbj,zbk,zbl,zbm,zbn,zbo,zbp,zbq,zbr,zbs,zbt,zbu,zbv,zbw,zbx,zby,zbz,zca,zcb,zcc,zcd,zce,zcf,zcg,zch,zci,zcj,zck,zcl,zcm,zcn,zco,zcp,zcq,zcr,zcs,zct,zcu,zcv,zcw,zcx,zcy,zcz,zda,zdb,zdc,zdd,zde,zdf,zdg,zdh,zdi,zdj,zdk,zdl,zdm,ev5,teE,E0]
      refine condQ_dec (fun c2=>?_) (fun c2=>?_)
      · simp (maxSteps := 1000000) (disch := first | omega | (simp only [nums_len,lnB] <;> omega) | fail) only [ev0,ev1,ev2,ev3,↓reduceIte,reduceCtorEq,zaa,zab,zac,zad,zae,zaf,zag,zah,zai,zaj,zak,zal,zam,zan,zao,zap,zaq,↓zar,↓zas,zat,zau,zav,zaw,zax,zay,zaz,zba,zbb,zbc,zbd,zbe,zbf,zbg,zbh,zbi,zbj,zbk,zbl,zbm,zbn,zbo,zbp,zbq,zbr,zbs,zbt,zbu,zbv,zbw,zbx,zby,zbz,zca,zcb,zcc,zcd,zce,zcf,zcg,zch,zci,zcj,zck,zcl,zcm,zcn,zco,zcp,zcq,zcr,zcs,zct,zcu,zcv,zcw,zcx,zcy,zcz,zda,zdb,zdc,zdd,zde,zdf,zdg,zdh,zdi,zdj,zdk,zdl,zdm,ev5,teE,E0]
        refine condQ_dec (fun c3=>?_) (fun c3=>?_)
        · skip
          have hy : (((x >>> 16) >>> 8)).toNat < 256:=by
            try simp only [BitVec.toNat_ushiftRight,Nat.shiftRight_eq_div_pow] at *
            omega
          have hbl : blen x.toNat = blen (((x >>> 16) >>> 8)).toNat + 24:=by
            try simp only [BitVec.toNat_ushiftRight,Nat.shiftRight_eq_div_pow] at *
            rw [blen_shift (x.toNat) 16 (by omega)]
            rw [blen_shift (x.toNat / 2 ^ 16) 8 (by omega)]
          have e8 : (BitVec.ofNat 8 (((x >>> 16) >>> 8)).toNat).toNat = (((x >>> 16) >>> 8)).toNat:=by rw [BitVec.toNat_ofNat]; omega
          have hb:=blen_le8 hy
          have hu:=u8_len hy
          simp (maxSteps:=1000000) (disch:=first | omega | (simp only [nums_len,lnB] <;> omega) | fail) only [ev0,ev1,ev2,ev3,↓reduceIte,reduceCtorEq,zaa,zab,zac,zad,zae,zaf,zag,zah,zai,zaj,zak,zal,zam,zan,zao,zap,zaq,↓zar,↓zas,zat,zau,zav,zaw,zax,zay,zaz,zba,zbb,zbc,zbd,zbe,zbf,zbg,zbh,zbi,zbj,zbk,zbl,zbm,zbn,zbo,zbp,zbq,zbr,zbs,zbt,zbu,zbv,zbw,zbx,zby,zbz,zca,zcb,zcc,zcd,zce,zcf,zcg,zch,zci,zcj,zck,zcl,zcm,zcn,zco,zcp,zcq,zcr,zcs,zct,zcu,zcv,zcw,zcx,zcy,zcz,zda,zdb,zdc,zdd,zde,zdf,zdg,zdh,zdi,zdj,zdk,zdl,zdm,ev5,teE,E0,len8,e8,hu]
          rw [hbl]
          exact ResQ.same (i64_eq (by omega))
        · skip
          have hy : ((x >>> 16)).toNat < 256:=by
            try simp only [BitVec.toNat_ushiftRight,Nat.shiftRight_eq_div_pow] at *
            omega
          have hbl : blen x.toNat = blen ((x >>> 16)).toNat + 16:=by
            try simp only [BitVec.toNat_ushiftRight,Nat.shiftRight_eq_div_pow] at *
            rw [blen_shift (x.toNat) 16 (by omega)]
          have e8 : (BitVec.ofNat 8 ((x >>> 16)).toNat).toNat = ((x >>> 16)).toNat:=by rw [BitVec.toNat_ofNat]; omega
          have hb:=blen_le8 hy
          have hu:=u8_len hy
          simp (maxSteps:=1000000) (disch:=first | omega | (simp only [nums_len,lnB] <;> omega) | fail) only [ev0,ev1,ev2,ev3,↓reduceIte,reduceCtorEq,zaa,zab,zac,zad,zae,zaf,zag,zah,zai,zaj,zak,zal,zam,zan,zao,zap,zaq,↓zar,↓zas,zat,zau,zav,zaw,zax,zay,zaz,zba,zbb,zbc,zbd,zbe,zbf,zbg,zbh,zbi,zbj,zbk,zbl,zbm,zbn,zbo,zbp,zbq,zbr,zbs,zbt,zbu,zbv,zbw,zbx,zby,zbz,zca,zcb,zcc,zcd,zce,zcf,zcg,zch,zci,zcj,zck,zcl,zcm,zcn,zco,zcp,zcq,zcr,zcs,zct,zcu,zcv,zcw,zcx,zcy,zcz,zda,zdb,zdc,zdd,zde,zdf,zdg,zdh,zdi,zdj,zdk,zdl,zdm,ev5,teE,E0,len8,e8,hu]
          rw [hbl]
          exact ResQ.same (i64_eq (by omega))
      · simp (maxSteps := 1000000) (disch := first | omega | (simp only [nums_len,lnB] <;> omega) | fail) only [ev0,ev1,ev2,ev3,↓reduceIte,reduceCtorEq,zaa,zab,zac,zad,zae,zaf,zag,zah,zai,zaj,zak,zal,zam,zan,zao,zap,zaq,↓zar,↓zas,zat,zau,zav,zaw,zax,zay,zaz,zba,zbb,zbc,zbd,zbe,zbf,zbg,zbh,zbi,zbj,zbk,zbl,zbm,zbn,zbo,zbp,zbq,zbr,zbs,zbt,zbu,zbv,zbw,zbx,zby,zbz,zca,zcb,zcc,zcd,zce,zcf,zcg,zch,zci,zcj,zck,zcl,zcm,zcn,zco,zcp,zcq,zcr,zcs,zct,zcu,zcv,zcw,zcx,zcy,zcz,zda,zdb,zdc,zdd,zde,zdf,zdg,zdh,zdi,zdj,zdk,zdl,zdm,ev5,teE,E0]
        refine condQ_dec (fun c3=>?_) (fun c3=>?_)
        · skip
          have hy : ((x >>> 8)).toNat < 256:=by
            try simp only [BitVec.toNat_ushiftRight,Nat.shiftRight_eq_div_pow] at *
            omega
          have hbl : blen x.toNat = blen ((x >>> 8)).toNat + 8:=by
            try simp only [BitVec.toNat_ushiftRight,Nat.shiftRight_eq_div_pow] at *
            rw [blen_shift (x.toNat) 8 (by omega)]
          have e8 : (BitVec.ofNat 8 ((x >>> 8)).toNat).toNat = ((x >>> 8)).toNat:=by rw [BitVec.toNat_ofNat]; omega
          have hb:=blen_le8 hy
          have hu:=u8_len hy
          simp (maxSteps:=1000000) (disch:=first | omega | (simp only [nums_len,lnB] <;> omega) | fail) only [ev0,ev1,ev2,ev3,↓reduceIte,reduceCtorEq,zaa,zab,zac,zad,zae,zaf,zag,zah,zai,zaj,zak,zal,zam,zan,zao,zap,zaq,↓zar,↓zas,zat,zau,zav,zaw,zax,zay,zaz,zba,zbb,zbc,zbd,zbe,zbf,zbg,zbh,zbi,zbj,zbk,zbl,zbm,zbn,zbo,zbp,zbq,zbr,zbs,zbt,zbu,zbv,zbw,zbx,zby,zbz,zca,zcb,zcc,zcd,zce,zcf,zcg,zch,zci,zcj,zck,zcl,zcm,zcn,zco,zcp,zcq,zcr,zcs,zct,zcu,zcv,zcw,zcx,zcy,zcz,zda,zdb,zdc,zdd,zde,zdf,zdg,zdh,zdi,zdj,zdk,zdl,zdm,ev5,teE,E0,len8,e8,hu]
          rw [hbl]
          exact ResQ.same (i64_eq (by omega))
        · skip
          have hy : (x).toNat < 256:=by
            try simp only [BitVec.toNat_ushiftRight,Nat.shiftRight_eq_div_pow] at *
            omega
          have hbl : blen x.toNat = blen (x).toNat + 0:=by
            rfl
          have e8 : (BitVec.ofNat 8 (x).toNat).toNat = (x).toNat:=by rw [BitVec.toNat_ofNat]; omega
          have hb:=blen_le8 hy
          have hu:=u8_len hy
          simp (maxSteps:=1000000) (disch:=first | omega | (simp only [nums_len,lnB] <;> omega) | fail) only [ev0,ev1,ev2,ev3,↓reduceIte,reduceCtorEq,zaa,zab,zac,zad,zae,zaf,zag,zah,zai,zaj,zak,zal,zam,zan,zao,zap,zaq,↓zar,↓zas,zat,zau,zav,zaw,zax,zay,zaz,zba,zbb,zbc,zbd,zbe,zbf,zbg,zbh,zbi,zbj,zbk,zbl,zbm,zbn,zbo,zbp,zbq,zbr,zbs,zbt,zbu,zbv,zbw,zbx,zby,zbz,zca,zcb,zcc,zcd,zce,zcf,zcg,zch,zci,zcj,zck,zcl,zcm,zcn,zco,zcp,zcq,zcr,zcs,zct,zcu,zcv,zcw,zcx,zcy,zcz,zda,zdb,zdc,zdd,zde,zdf,zdg,zdh,zdi,zdj,zdk,zdl,zdm,ev5,teE,E0,len8,e8,hu]
          rw [hbl]
          exact ResQ.same (i64_eq (by omega))
  · cases hr
def E1 : Env:=E0.know 140 pf140
theorem ok1 : EnvOK Tryd.prog E1:=ok0.know sound140
theorem E1_te : E1.te = te:=rfl
theorem E1_gs : E1.gs = []:=rfl
theorem E1_dyn : E1.dyn = false:=rfl
theorem E1_glob : E1.glob = glob:=rfl
theorem E1_mu (d : Nat) : E1.mu d = false:=rfl
theorem E1_140 : E1.tbl 140 = some (.val pf140):=rfl
theorem pf140_at {x : BitVec 64} : pf140 [.raw (.int .u64 (x.toNat : Int))] = some (.raw (.int .i64 (blen x.toNat : Int))):=by
  simp only [pf140,num?_num,Option.bind_some]
theorem sound109 : SoundV Tryd.prog glob 109 pf140:=by
  refine SoundV.walk E1 ok1 mixed Tryd.func109 rfl Tryd.call109 (by kernel_rfl) ?_
  intro args r hr
  unfold pf140 at hr
  split at hr
  · simp only [Option.bind_eq_some_iff] at hr
    obtain ⟨x,h1,hr⟩:=hr
    cases hr
    rw [num?_of h1,Tryd.ntmps109,Tryd.results109]
    refine ⟨by simp,?_⟩
    simp (maxSteps:=1000000) (disch:=first | omega | (simp only [nums_len,lnB] <;> omega) | fail) only [ev0,ev1,ev2,ev3,↓reduceIte,reduceCtorEq,zaa,zab,zac,zad,zae,zaf,zag,zah,zai,zaj,zak,zal,zam,zan,zao,zap,zaq,↓zar,↓zas,zat,zau,zav,zaw,zax,zay,zaz,zba,zbb,zbc,zbd,zbe,zbf,zbg,zbh,zbi,zbj,zbk,zbl,zbm,zbn,zbo,zbp,zbq,zbr,zbs,zbt,zbu,zbv,zbw,zbx,zby,zbz,zca,zcb,zcc,zcd,zce,zcf,zcg,zch,zci,zcj,zck,zcl,zcm,zcn,zco,zcp,zcq,zcr,zcs,zct,zcu,zcv,zcw,zcx,zcy,zcz,zda,zdb,zdc,zdd,zde,zdf,zdg,zdh,zdi,zdj,zdk,zdl,zdm,ev5,teE,E1_te,E1_gs,E1_dyn,E1_glob,E1_mu,E1_140,pf140_at,glob]
    exact ResQ.same rfl
  · cases hr
def need (n : Nat) : Nat:=(blen n + 7) / 8
theorem need_zero : need 0 = 0:=rfl
theorem need_step (n : Nat) (h : 0 < n) : need n = need (n / 256) + 1:=by
  unfold need
  by_cases h2 : 256 ≤ n
  · rw [blen_shift n 8 h2]
    have : n / 2 ^ 8 = n / 256:=rfl
    rw [this]
    omega
  · have h0 : n / 256 = 0 := by omega
    have h8:=blen_le8 (show n < 256 by omega)
    have h1 : 0 < blen n:=by unfold blen; rw [if_neg (by omega)]; omega
    rw [h0]
    have : blen 0 = 0:=rfl
    rw [this]
    omega
def pf136 : List AV → Option AV
  | [v]=>(int? v).bind fun n=>if 0 ≤ n ∧ n ≤ 9223372036854775807 then some (.raw (.int .i64 (need n.toNat : Int))) else none
  | _=>none
theorem need_le (n : Nat) (h : n < 2 ^ 64) : need n ≤ 8:=by
  unfold need blen
  split
  · omega
  · have : n.log2 < 64 := (Nat.log2_lt (by assumption)).2 h
    omega
theorem sound136 : SoundV Tryd.prog glob 136 pf136:=by
  refine SoundV.walk E0 ok0 mixed Tryd.func136 rfl Tryd.call136 (by kernel_rfl) ?_
  intro args r hr
  unfold pf136 at hr
  split at hr
  · simp only [Option.bind_eq_some_iff] at hr
    obtain ⟨n,h1,hr⟩:=hr
    split at hr
    · rename_i hc
      cases hr
      rw [int?_of h1,Tryd.ntmps136,Tryd.results136]
      obtain ⟨m,rfl⟩:=Int.eq_ofNat_of_zero_le hc.1
      refine ⟨by simp,?_⟩
      simp (maxSteps:=1000000) (disch:=first | omega | (simp only [nums_len,lnB] <;> omega) | fail) only [ev0,ev1,ev2,ev3,↓reduceIte,reduceCtorEq,zaa,zab,zac,zad,zae,zaf,zag,zah,zai,zaj,zak,zal,zam,zan,zao,zap,zaq,↓zar,↓zas,zat,zau,zav,zaw,zax,zay,zaz,zba,zbb,zbc,zbd,zbe,zbf,zbg,zbh,zbi,zbj,zbk,zbl,zbm,zbn,zbo,zbp,zbq,zbr,zbs,zbt,zbu,zbv,zbw,zbx,zby,zbz,zca,zcb,zcc,zcd,zce,zcf,zcg,zch,zci,zcj,zck,zcl,zcm,zcn,zco,zcp,zcq,zcr,zcs,zct,zcu,zcv,zcw,zcx,zcy,zcz,zda,zdb,zdc,zdd,zde,zdf,zdg,zdh,zdi,zdj,zdk,zdl,zdm,ev5,teE,E0]
      refine loopQ_of (fun j σ=>∃ x k : Nat,x = j ∧ x ≤ m ∧ need x + k = need m ∧ σ.slots 0 = .raw (.int .i64 (x : Int)) ∧ σ.slots 3 = .raw (.int .i64 (k : Int))) m ?_ ?_
      · refine ⟨m,0,rfl,Nat.le_refl _,rfl,?_⟩
        simp (maxSteps:=1000000) (disch:=first | omega | (simp only [nums_len,lnB] <;> omega) | fail) only [ev0,ev1,ev2,ev3,↓reduceIte,reduceCtorEq,zaa,zab,zac,zad,zae,zaf,zag,zah,zai,zaj,zak,zal,zam,zan,zao,zap,zaq,↓zar,↓zas,zat,zau,zav,zaw,zax,zay,zaz,zba,zbb,zbc,zbd,zbe,zbf,zbg,zbh,zbi,zbj,zbk,zbl,zbm,zbn,zbo,zbp,zbq,zbr,zbs,zbt,zbu,zbv,zbw,zbx,zby,zbz,zca,zcb,zcc,zcd,zce,zcf,zcg,zch,zci,zcj,zck,zcl,zcm,zcn,zco,zcp,zcq,zcr,zcs,zct,zcu,zcv,zcw,zcx,zcy,zcz,zda,zdb,zdc,zdd,zde,zdf,zdg,zdh,zdi,zdj,zdk,zdl,zdm,ev5,teE,E0]
        exact rfl
      · rintro j ⟨sl,gn,bx,us⟩ ⟨x,k,rfl,hx,hk,s0,s3⟩
        dsimp only at s0 s3
        simp (maxSteps:=1000000) (disch:=first | omega | (simp only [nums_len,lnB] <;> omega) | fail) only [ev0,ev1,ev2,ev3,↓reduceIte,reduceCtorEq,zaa,zab,zac,zad,zae,zaf,zag,zah,zai,zaj,zak,zal,zam,zan,zao,zap,zaq,↓zar,↓zas,zat,zau,zav,zaw,zax,zay,zaz,zba,zbb,zbc,zbd,zbe,zbf,zbg,zbh,zbi,zbj,zbk,zbl,zbm,zbn,zbo,zbp,zbq,zbr,zbs,zbt,zbu,zbv,zbw,zbx,zby,zbz,zca,zcb,zcc,zcd,zce,zcf,zcg,zch,zci,zcj,zck,zcl,zcm,zcn,zco,zcp,zcq,zcr,zcs,zct,zcu,zcv,zcw,zcx,zcy,zcz,zda,zdb,zdc,zdd,zde,zdf,zdg,zdh,zdi,zdj,zdk,zdl,zdm,ev5,teE,E0,s0,s3]
        refine condQ_dec (fun hgt=>?_) (fun hle=>?_)
        · have hp : 0 < x := by omega
          have hs:=need_step x hp
          have hm8:=need_le m (by omega)
          simp (maxSteps:=1000000) (disch:=first | omega | (simp only [nums_len,lnB] <;> omega) | fail) only [ev0,ev1,ev2,ev3,↓reduceIte,reduceCtorEq,zaa,zab,zac,zad,zae,zaf,zag,zah,zai,zaj,zak,zal,zam,zan,zao,zap,zaq,↓zar,↓zas,zat,zau,zav,zaw,zax,zay,zaz,zba,zbb,zbc,zbd,zbe,zbf,zbg,zbh,zbi,zbj,zbk,zbl,zbm,zbn,zbo,zbp,zbq,zbr,zbs,zbt,zbu,zbv,zbw,zbx,zby,zbz,zca,zcb,zcc,zcd,zce,zcf,zcg,zch,zci,zcj,zck,zcl,zcm,zcn,zco,zcp,zcq,zcr,zcs,zct,zcu,zcv,zcw,zcx,zcy,zcz,zda,zdb,zdc,zdd,zde,zdf,zdg,zdh,zdi,zdj,zdk,zdl,zdm,ev5,teE,E0,s0,s3]
          refine ⟨x / 256,by omega,x / 256,k + 1,rfl,by omega,by omega,i64_eq (by omega),rfl⟩
        · have hz : x = 0 := by omega
          subst hz
          rw [need_zero] at hk
          simp (maxSteps:=1000000) (disch:=first | omega | (simp only [nums_len,lnB] <;> omega) | fail) only [ev0,ev1,ev2,ev3,↓reduceIte,reduceCtorEq,zaa,zab,zac,zad,zae,zaf,zag,zah,zai,zaj,zak,zal,zam,zan,zao,zap,zaq,↓zar,↓zas,zat,zau,zav,zaw,zax,zay,zaz,zba,zbb,zbc,zbd,zbe,zbf,zbg,zbh,zbi,zbj,zbk,zbl,zbm,zbn,zbo,zbp,zbq,zbr,zbs,zbt,zbu,zbv,zbw,zbx,zby,zbz,zca,zcb,zcc,zcd,zce,zcf,zcg,zch,zci,zcj,zck,zcl,zcm,zcn,zco,zcp,zcq,zcr,zcs,zct,zcu,zcv,zcw,zcx,zcy,zcz,zda,zdb,zdc,zdd,zde,zdf,zdg,zdh,zdi,zdj,zdk,zdl,zdm,ev5,teE,E0,s0,s3]
          exact ResQ.same (i64_eq (by omega))
    · cases hr
  · cases hr
end Go.Proofs.YtddeffdgldjdjaaDoor.W
