/- A number's bytes: plain laws. -/
import Derived.Test.YtddeffdgldjdjaaDoorPd
namespace Go.Proofs.YtddeffdgldjdjaaDoor.W
set_option linter.unusedSimpArgs false
set_option linter.unusedVariables false
set_option linter.defProp false
open Go Go.Abs
def valF (l : List (BitVec 8)) : Nat → Nat
  | 0=>0
  | k + 1=>valF l k * 256 + (l.getD k 0#8).toNat
theorem valF_lt (l : List (BitVec 8)) (k : Nat) : valF l k < 256 ^ k:=by
  induction k with
  | zero=>simp [valF]
  | succ k ih =>
    have:=(l.getD k 0#8).isLt
    rw [valF,Nat.pow_succ]
    omega
theorem accF_val (l : List (BitVec 8)) (k : Nat) (h : k ≤ 8) : (accF l k).toNat = valF l k:=by
  induction k with
  | zero=>rfl
  | succ k ih =>
    have hv:=valF_lt l k
    have hp : 256 ^ k ≤ 256 ^ 7:=Nat.pow_le_pow_right (by decide) (by omega)
    have hc:=(l.getD k 0#8).isLt
    rw [accF,valF,BitVec.toNat_or,BitVec.toNat_shiftLeft,ih (by omega),BitVec.toNat_ofNat,Nat.mod_eq_of_lt (show (l.getD k 0#8).toNat < 2 ^ 64 by omega)]
    rw [Nat.shiftLeft_eq,Nat.mod_eq_of_lt (show valF l k * 2 ^ 8 < 2 ^ 64 by omega),← Nat.shiftLeft_eq,← Nat.shiftLeft_add_eq_or_of_lt hc,Nat.shiftLeft_eq]
theorem valF_first (l : List (BitVec 8)) (k : Nat) : (l.getD 0 0#8).toNat * 256 ^ k ≤ valF l (k + 1) ∧ valF l (k + 1) < ((l.getD 0 0#8).toNat + 1) * 256 ^ k:=by
  induction k with
  | zero=>simp [valF]
  | succ k ih =>
    have hc:=(l.getD (k + 1) 0#8).isLt
    have e : valF l (k + 1 + 1) = valF l (k + 1) * 256 + (l.getD (k + 1) 0#8).toNat:=rfl
    rw [e,Nat.pow_succ,← Nat.mul_assoc,← Nat.mul_assoc]
    omega
theorem need_le_iff (n s : Nat) : need n ≤ s ↔ n < 256 ^ s:=by
  induction s generalizing n with
  | zero =>
    constructor
    · intro h
      apply Classical.byContradiction
      intro hn
      have:=need_step n (by simp at hn; omega)
      omega
    · intro h
      have : n = 0:=by simp at h; omega
      subst this
      exact Nat.le_refl _
  | succ s ih =>
    by_cases h0 : n = 0
    · subst h0
      constructor
      · intro _; exact Nat.pow_pos (by decide)
      · intro _; rw [need_zero]; omega
    · rw [need_step n (by omega),Nat.pow_succ]
      have:=ih (n / 256)
      constructor
      · intro h
        have:=this.1 (by omega)
        omega
      · intro h
        have:=this.2 (by omega)
        omega
theorem toInt_neg (x : BitVec 64) : x.toInt < 0 ↔ 9223372036854775808 ≤ x.toNat:=by
  have:=x.isLt
  rw [BitVec.toInt_eq_toNat_cond]
  split <;> omega
theorem bad_iff (l : List (BitVec 8)) (s : Nat) (hs : s ≤ 8) : ((accF l s).toInt < 0 ∨ need (accF l s).toNat ≠ s) ↔ ((0 < s ∧ l.getD 0 0#8 = 0#8) ∨ (s = 8 ∧ (l.getD 0 0#8).toNat > 127)):=by
  rw [toInt_neg,accF_val l s hs]
  cases s with
  | zero=>simp [valF,need_zero]
  | succ k =>
    obtain ⟨h1,h2⟩:=valF_first l k
    have hz : (l.getD 0 0#8 = 0#8) ↔ (l.getD 0 0#8).toNat = 0:=by
      constructor
      · intro h; rw [h]; rfl
      · intro h; apply BitVec.eq_of_toNat_eq; rw [h]; rfl
    rw [hz]
    have hlt:=valF_lt l (k + 1)
    have n1:=(need_le_iff (valF l (k + 1)) (k + 1)).2 hlt
    have n2:=need_le_iff (valF l (k + 1)) k
    generalize (l.getD 0 0#8).toNat = f at *
    generalize valF l (k + 1) = v at *
    have hpos : 0 < 256 ^ k:=Nat.pow_pos (by decide)
    by_cases hf : f = 0
    · subst hf
      have : need v ≤ k:=n2.2 (by omega)
      constructor
      · intro _; left; omega
      · intro _; right; omega
    · have hge : 256 ^ k ≤ v:=by
        have : 1 * 256 ^ k ≤ f * 256 ^ k:=Nat.mul_le_mul_right _ (by omega)
        omega
      have hn : ¬ need v ≤ k:=fun h=>by have:=n2.1 h; omega
      have hne : need v = k + 1:=by omega
      by_cases hk : k = 7
      · subst hk
        simp only [Nat.reducePow] at *
        constructor
        · rintro (h | h)
          · have hf : f > 127 := by omega
            exact .inr ⟨trivial,hf⟩
          · exact absurd hne h
        · rintro (h | h)
          · omega
          · left; obtain ⟨_,h⟩:=h; omega
      · have hp : 256 ^ (k + 1) ≤ 256 ^ 7 := Nat.pow_le_pow_right (by decide) (by omega)
        simp only [Nat.reducePow] at hp
        constructor
        · rintro (h | h)
          · omega
          · exact absurd hne h
        · rintro (h | h) <;> omega
def E3 : Env:=E2.know 165 (fun xs=>pf165 (xs.map norm))
theorem ok3 : EnvOK Tryd.prog E3:=ok2.know sound165.norm
theorem E3_te : E3.te = te:=rfl
theorem E3_gs : E3.gs = []:=rfl
theorem E3_dyn : E3.dyn = false:=rfl
theorem E3_glob : E3.glob = glob:=rfl
theorem E3_mu (d : Nat) : E3.mu d = false:=rfl
theorem E3_90 : E3.tbl 90 = some (.val (fun xs=>pf90 (xs.map norm))):=rfl
theorem E3_165 : E3.tbl 165 = some (.val (fun xs=>pf165 (xs.map norm))):=rfl
theorem pf165_at {n : Nat} {b : List (BitVec 8)} {fl : Fl} (h : n = b.length) (h2 : b.length ≤ 150000000000000) : pf165 [.sl n (nums .u8 b) fl] = some (.tup [.raw (.int .i64 (tkN b : Int)),.sl (tkR b).length (nums .u8 (tkR b)) .bor,.raw (.int .i64 (tkE b : Int))]):=by
  simp only [pf165,row?_at h,Option.bind_some,if_pos h2]
theorem tkR_le (b : List (BitVec 8)) : (tkR b).length ≤ b.length:=by
  unfold tkR; split <;> simp
set_option maxHeartbeats 4000000
theorem sound159 : SoundV Tryd.prog glob 159 pf165:=by
  refine SoundV.walk E3 ok3 mixed Tryd.func159 rfl Tryd.call159 (by kernel_rfl) ?_
  intro args r hr
  unfold pf165 at hr
  split at hr
  · simp only [Option.bind_eq_some_iff] at hr
    obtain ⟨b,h1,hr⟩:=hr
    split at hr
    · rename_i hc
      cases hr
      obtain ⟨fl,rfl⟩:=row?_of h1
      rw [Tryd.ntmps159,Tryd.results159]
      refine ⟨by simp,?_⟩
      have hle:=tkR_le b
      simp (maxSteps:=1000000) (disch:=first | omega | (simp only [nums_len,lnB] <;> omega) | fail) only [ev0,ev1,ev2,ev3,↓reduceIte,reduceCtorEq,Nat.reduceAdd,Nat.reduceSub,Nat.reduceMul,Nat.reduceLT,Nat.reduceLeDiff,Nat.reduceEqDiff,Nat.reduceBEq,BitVec.reduceOfInt,Int.reduceLE,Int.reduceLT,Int.reduceGT,Int.reduceGE,Int.reduceNeg,Int.reduceAdd,Int.reduceSub,Int.reduceMul,Int.reduceToNat,↓bind_go,↓map_go,wantedV,isWrite,grow,write,ofV,AV.cells,Abs.start,Abs.strip,endQ,resV,rawsRes,rawRes,exports,export1,AS.grown,AS.put,Env.know,Env.boxed,isSelf,convSelf,convV,loadV,storeV,fieldAddrV,fieldV,indexAddrV,indexV,partV,isAggK,isStr,place,ipS,lenV,min2V,makeV,freshSl,sliceV,boundOr,bound,bounds,cutFl,copyV,slCells,srcV,appendV,room,zerosOf,eqNeg,kd,takeR,hasViewL,hasView,freshR,freshC,snapAll,snap,snapL,flatL,pureL,pureA,fillC,arrOK,oneA,partB,AV.laid,ren1,CR.gr,applyW,useL,AS.mute,isGen,startG,ev5,teE,E3_te,E3_gs,E3_dyn,E3_glob,E3_mu,E3_90,E3_165,pf90_at,pf165_at,glob]
      exact resQ_3
    · cases hr
  · cases hr
end Go.Proofs.YtddeffdgldjdjaaDoor.W
