/- What is put is taken,and what is taken is put: plain laws. -/
import Derived.Test.YtddeffdgldjdjaaDoorPk
namespace Go.Proofs.YtddeffdgldjdjaaDoor.W
set_option linter.unusedSimpArgs false
set_option linter.unusedVariables false
set_option linter.defProp false
open Go Go.Abs
set_option maxHeartbeats 8000000
theorem byteAt_nat (n e : Nat) : (byteAt n e).toNat = n / 2 ^ e % 256:=by
  have h : ((n : Int).fdiv (2 ^ e)) = ((n / 2 ^ e : Nat) : Int):=by
    rw [Int.fdiv_eq_ediv_of_nonneg _ (by exact Int.pow_nonneg (by decide))]
    norm_cast
  rw [byteAt,h,BitVec.ofInt_natCast,BitVec.toNat_ofNat]
theorem digF_get (n s k j : Nat) (h : j < k) : (digF n s k).getD j 0#8 = byteAt n (8 * (s - 1 - j)):=by
  induction k with
  | zero=>omega
  | succ k ih =>
    have hl:=digF_len n s k
    rw [digF,List.getD_eq_getElem?_getD]
    by_cases e : j = k
    · subst e
      rw [List.getElem?_append_right (by omega),hl,Nat.sub_self]
      rfl
    · rw [List.getElem?_append_left (by omega),← List.getD_eq_getElem?_getD]
      exact ih (by omega)
theorem digF_val (n s k : Nat) (hk : k ≤ s) (hn : n < 256 ^ s) : valF (digF n s s) k = n / 256 ^ (s - k):=by
  induction k with
  | zero=>rw [valF,Nat.sub_zero,Nat.div_eq_of_lt hn]
  | succ k ih =>
    rw [valF,ih (by omega),digF_get _ _ _ _ (by omega),byteAt_nat,show s - 1 - k = s - (k + 1) by omega,Nat.pow_mul,show (2 : Nat) ^ 8 = 256 from rfl,show s - k = s - (k + 1) + 1 by omega,Nat.pow_succ,← Nat.div_div_eq_div_mul]
    omega
theorem valF_inj {l m : List (BitVec 8)} (k : Nat) (h : valF l k = valF m k) : ∀ j,j < k→l.getD j 0#8 = m.getD j 0#8:=by
  induction k with
  | zero=>intro j hj; omega
  | succ k ih =>
    intro j hj
    have h1:=(l.getD k 0#8).isLt
    have h2:=(m.getD k 0#8).isLt
    rw [valF,valF] at h
    by_cases e : j = k
    · subst e
      apply BitVec.eq_of_toNat_eq
      omega
    · exact ih (by omega) j (by omega)
theorem list_ext8 {l m : List (BitVec 8)} (h : l.length = m.length) (h2 : ∀ j,j < l.length→l.getD j 0#8 = m.getD j 0#8) : l = m:=by
  apply List.ext_getElem h
  intro i h1 h3
  have:=h2 i h1
  rwa [List.getD_eq_getElem?_getD,List.getD_eq_getElem?_getD,List.getElem?_eq_getElem h1,List.getElem?_eq_getElem h3] at this
theorem need_lt (n : Nat) : n < 256 ^ need n:=(need_le_iff n (need n)).1 (Nat.le_refl _)
theorem size_byte (n : Nat) (h : need n ≤ 8) : (BitVec.ofInt 8 ((need n : Nat) : Int)).toNat = need n:=by
  rw [BitVec.ofInt_natCast,BitVec.toNat_ofNat]; omega
theorem putB_behind (b : List (BitVec 8)) (n : Nat) : putB b n = b ++ putB [] n:=by simp [putB,putK]
theorem take_put (n : Nat) (t : List (BitVec 8)) (h : n < 9223372036854775808) : tkE (putB [] n ++ t) = 0 ∧ tkN (putB [] n ++ t) = n ∧ tkR (putB [] n ++ t) = t:=by
  have h8:=need_le n (by omega)
  have e : putB [] n ++ t = BitVec.ofInt 8 ((need n : Nat) : Int) :: (digF n (need n) (need n) ++ t):=by simp [putB,putK]
  rw [e]
  have hl:=digF_len n (need n) (need n)
  generalize hb : BitVec.ofInt 8 ((need n : Nat) : Int) :: (digF n (need n) (need n) ++ t) = b
  have hS : tkS b = need n:=by rw [← hb,tkS]; exact size_byte n h8
  have hL : (b.drop 1).take (need n) = digF n (need n) (need n):=by
    rw [← hb,List.drop_succ_cons,List.drop_zero]
    exact List.take_left' hl
  have hX : (tkX b).toNat = n:=by
    rw [tkX,hS,hL,accF_val _ _ h8,digF_val n (need n) (need n) (Nat.le_refl _) (need_lt n)]
    simp
  have lb : b.length = 1 + need n + t.length:=by rw [← hb]; simp [hl]; omega
  have hE : tkE b = 0:=by
    have hok : ¬ ((tkX b).toInt < 0 ∨ need (tkX b).toNat ≠ tkS b):=by
      rw [toInt_neg,hX,hS]; omega
    rw [tkE,if_neg (by omega),if_neg (by omega),if_neg (by omega),if_neg hok]
  refine ⟨hE,by rw [tkN,if_pos hE,hX],?_⟩
  rw [tkR,if_pos hE,hS,← hb,Nat.add_comm,List.drop_succ_cons]
  exact List.drop_left' hl
theorem put_take (b : List (BitVec 8)) (h : tkE b = 0) : putB [] (tkN b) ++ tkR b = b:=by
  have h0:=h
  unfold tkE at h0
  split at h0
  · omega
  split at h0
  · omega
  split at h0
  · omega
  split at h0
  · omega
  rename_i c0 c1 c2 hok
  have hnd : need (tkX b).toNat = tkS b:=by omega
  have hN : tkN b = (tkX b).toNat:=by rw [tkN,if_pos h]
  have lL : ((b.drop 1).take (tkS b)).length = tkS b:=by rw [List.length_take,List.length_drop]; omega
  have hX : (tkX b).toNat = valF ((b.drop 1).take (tkS b)) (tkS b):=by rw [tkX,accF_val _ _ (by omega)]
  have hlt : (tkX b).toNat < 256 ^ tkS b:=by rw [← hnd]; exact need_lt _
  have hD : digF (tkX b).toNat (tkS b) (tkS b) = (b.drop 1).take (tkS b):=by
    refine list_ext8 (by rw [digF_len,lL]) fun j hj=>?_
    rw [digF_len] at hj
    refine valF_inj (tkS b) ?_ j hj
    rw [digF_val _ _ _ (Nat.le_refl _) hlt,Nat.sub_self,Nat.pow_zero,Nat.div_one,hX]
  rw [hN,tkR,if_pos h,putB,putK,hnd,hD]
  match b,c0 with
  | x :: l,_ =>
    have hx : BitVec.ofInt 8 ((tkS (x :: l) : Nat) : Int) = x:=by
      apply BitVec.eq_of_toNat_eq
      rw [BitVec.ofInt_natCast,BitVec.toNat_ofNat,tkS]
      have:=x.isLt
      simp
      omega
    rw [hx,Nat.add_comm 1,List.drop_succ_cons,List.drop_succ_cons,List.drop_zero]
    simp
theorem tt_put (t a : List (BitVec 8)) {m : Int} (hm : (t.length : Int) ≤ m) (h : t.length ≤ 4096) : ttE (putB [] t.length ++ t ++ a) m = 0 ∧ ttT (putB [] t.length ++ t ++ a) m = t ∧ ttR (putB [] t.length ++ t ++ a) m = a:=by
  obtain ⟨h1,h2,h3⟩:=take_put t.length (t ++ a) (by omega)
  rw [← List.append_assoc] at h1 h2 h3
  have hE : ttE (putB [] t.length ++ t ++ a) m = 0:=by
    rw [ttE,h1,h2,h3,if_neg (by omega),if_neg (by omega),if_neg (by rw [List.length_append]; omega)]
  refine ⟨hE,?_,?_⟩
  · rw [ttT,if_pos hE,h2,h3]; exact List.take_left' rfl
  · rw [ttR,if_pos hE,h2,h3]; exact List.drop_left' rfl
theorem put_tt (b : List (BitVec 8)) (h : ttE b 4096 = 0) : (ttT b 4096).length ≤ 4096 ∧ putB [] (ttT b 4096).length ++ ttT b 4096 ++ ttR b 4096 = b:=by
  have h0:=h
  unfold ttE at h0
  split at h0
  · omega
  split at h0
  · omega
  split at h0
  · omega
  rename_i c0 c1 c2
  have hT : ttT b 4096 = (tkR b).take (tkN b):=by rw [ttT,if_pos h]
  have hR : ttR b 4096 = (tkR b).drop (tkN b):=by rw [ttR,if_pos h]
  have lT : (ttT b 4096).length = tkN b:=by rw [hT,List.length_take]; omega
  refine ⟨by omega,?_⟩
  rw [lT,hT,hR,List.append_assoc,List.take_append_drop]
  exact put_take b (by omega)
def putM (l : List Int) : Nat → List (BitVec 8)
  | 0=>[]
  | k + 1=>putM l k ++ putB [] (l.getD k 0).toNat
theorem putLk_is (b : List (BitVec 8)) (l : List Int) (k : Nat) : putLk b l k = b ++ putB [] l.length ++ putM l k:=by
  induction k with
  | zero=>rw [putLk,putM,putB_behind]; simp
  | succ k ih=>rw [putLk,ih,putM,putB_behind]; simp
def putS (l : List Int) : Nat → List (BitVec 8)
  | 0=>[]
  | j + 1=>putB [] (l.getD (l.length - (j + 1)) 0).toNat ++ putS l j
theorem putM_S (l : List Int) (j : Nat) (h : j ≤ l.length) : putM l (l.length - j) ++ putS l j = putM l l.length:=by
  induction j with
  | zero=>simp [putS]
  | succ j ih =>
    rw [← ih (by omega),putS,← List.append_assoc,show l.length - j = l.length - (j + 1) + 1 by omega,putM]
theorem tl_step {b : List (BitVec 8)} {k : Nat} {L : List Int} {R : List (BitVec 8)} (h : tlF b k = (L,R,0)) (h2 : tkE R = 0) : tlF b (k + 1) = (L ++ [(tkN R : Int)],tkR R,0):=by
  rw [tlF,h]; simp [h2]
theorem tl_put (l : List Int) (a : List (BitVec 8)) {m : Int} (hm : (l.length : Int) ≤ m) (hl : ∀ n ∈ l,i64ok n) (hn : neg l = false) (h : l.length ≤ 4096) : tlE (putL [] l ++ a) m = 0 ∧ tlL (putL [] l ++ a) m = l ∧ tlR (putL [] l ++ a) m = a:=by
  have e : putL [] l ++ a = putB [] l.length ++ (putM l l.length ++ a):=by rw [putL,putLk_is]; simp
  obtain ⟨h1,h2,h3⟩:=take_put l.length (putM l l.length ++ a) (by omega)
  rw [e]
  generalize putB [] l.length ++ (putM l l.length ++ a) = b at h1 h2 h3 ⊢
  have key : ∀ k,k ≤ l.length→tlF b k = (l.take k,putS l (l.length - k) ++ a,0):=by
    intro k hk
    induction k with
    | zero =>
      rw [tlF,h3,List.take_zero]
      have:=putM_S l l.length (Nat.le_refl _)
      rw [Nat.sub_self,putM,List.nil_append] at this
      rw [Nat.sub_zero,this]
    | succ k ih =>
      have hlt : k < l.length:=by omega
      have hm:=hl _ (getD_mem hlt)
      have h0 : 0 ≤ l.getD k 0:=by
        apply Classical.byContradiction
        intro hc
        have:=(neg_iff l).2 ⟨_,getD_mem hlt,by omega⟩
        rw [hn] at this; cases this
      unfold i64ok at hm
      have hp : putS l (l.length - k) ++ a = putB [] (l.getD k 0).toNat ++ (putS l (l.length - (k + 1)) ++ a):=by
        rw [show l.length - k = l.length - (k + 1) + 1 by omega,putS,show l.length - (l.length - (k + 1) + 1) = k by omega,List.append_assoc]
      obtain ⟨g1,g2,g3⟩:=take_put (l.getD k 0).toNat (putS l (l.length - (k + 1)) ++ a) (by omega)
      rw [← hp] at g1 g2 g3
      rw [tl_step (ih (by omega)) g1,g2,g3,Int.toNat_of_nonneg h0]
      congr 1
      rw [List.take_add_one,List.getD_eq_getElem?_getD,List.getElem?_eq_getElem hlt]
      rfl
  have hk:=key l.length (Nat.le_refl _)
  rw [List.take_length,Nat.sub_self,putS,List.nil_append] at hk
  have hE : tlE b m = 0:=by
    rw [tlE,h1,h2,if_neg (by omega),if_neg (by omega),hk]
  exact ⟨hE,by rw [tlL,if_pos hE,h2,hk],by rw [tlR,if_pos hE,h2,hk]⟩
end Go.Proofs.YtddeffdgldjdjaaDoor.W
/- What is within; bytes in boxes; numbers are laid one behind the other. -/
namespace Go.Proofs.YtddeffdgldjdjaaDoor.W
set_option linter.unusedSimpArgs false
set_option linter.unusedVariables false
set_option linter.defProp false
open Go Go.Abs
open Nat renaming reduceAdd→zaa,reduceSub→zab,reduceMul→zac,reduceLT→zad,reduceLeDiff→zae,reduceEqDiff→zaf,reduceBEq→zag
open BitVec renaming reduceOfInt→zah
open Int renaming reduceLE→zai,reduceLT→zaj,reduceGT→zak,reduceGE→zal,reduceNeg→zam,reduceAdd→zan,reduceSub→zao,reduceMul→zap,reduceToNat→zaq
open Go.Abs renaming bind_go→zar,map_go→zas,wantedV→zat,isWrite→zau,grow→zav,write→zaw,ofV→zax,start→zaz,strip→zba,endQ→zbb,resV→zbc,rawsRes→zbd,rawRes→zbe,exports→zbf,export1→zbg,isSelf→zbl,convSelf→zbm,convV→zbn,loadV→zbo,storeV→zbp,fieldAddrV→zbq,fieldV→zbr,indexAddrV→zbs,indexV→zbt,partV→zbu,isAggK→zbv,isStr→zbw,place→zbx,ipS→zby,lenV→zbz,min2V→zca,makeV→zcb,freshSl→zcc,sliceV→zcd,boundOr→zce,bound→zcf,bounds→zcg,cutFl→zch,copyV→zci,slCells→zcj,srcV→zck,appendV→zcl,room→zcm,zerosOf→zcn,eqNeg→zco,kd→zcp,takeR→zcq,hasViewL→zcr,hasView→zcs,freshR→zct,freshC→zcu,snapAll→zcv,snap→zcw,snapL→zcx,flatL→zcy,pureL→zcz,pureA→zda,fillC→zdb,arrOK→zdc,oneA→zdd,partB→zde,ren1→zdg,applyW→zdi,useL→zdj,isGen→zdl,startG→zdm
open Go.Abs.AV renaming cells→zay,laid→zdf
open Go.Abs.AS renaming grown→zbh,put→zbi,mute→zdk
open Go.Abs.Env renaming know→zbj,boxed→zbk
open Go.Abs.CR renaming gr→zdh
set_option maxHeartbeats 8000000
theorem E0_te : E0.te = te:=rfl
theorem E0_glob : E0.glob = glob:=rfl
theorem E0_gs : E0.gs = []:=rfl
theorem E0_dyn : E0.dyn = false:=rfl
theorem E0_mu (d : Nat) : E0.mu d = false:=rfl
def pf110 : List AV → Option AV
  | [.raw (.int .i64 n),.raw (.int .i64 a),.raw (.int .i64 b)]=>some (.raw (.bool (decide (n ≥ a) && decide (n ≤ b))))
  | _=>none
def tbMb0:=(And.intro (And.intro @teE (And.intro @E0_te @E0_glob)) (And.intro @E0_gs (And.intro @E0_dyn @E0_mu)))
theorem sound110 : SoundV Tryd.prog glob 110 pf110:=by
  refine SoundV.walk E0 ok0 mixed Tryd.func110 rfl Tryd.call110 (by kernel_rfl) ?_
  intro args r hr
  unfold pf110 at hr
  split at hr
  · rename_i n a b
    cases hr
    rw [Tryd.ntmps110,Tryd.results110]
    refine ⟨by simp,?_⟩
    cases h : decide (n ≥ a)
    · simp (maxSteps := 1000000) (disch := first | omega | (simp only [nums_len,lnB] <;> omega) | fail) only [ev0,ev1,ev2,ev3,↓reduceIte,reduceCtorEq,zaa,zab,zac,zad,zae,zaf,zag,zah,zai,zaj,zak,zal,zam,zan,zao,zap,zaq,↓zar,↓zas,zat,zau,zav,zaw,zax,zay,zaz,zba,zbb,zbc,zbd,zbe,zbf,zbg,zbh,zbi,zbj,zbk,zbl,zbm,zbn,zbo,zbp,zbq,zbr,zbs,zbt,zbu,zbv,zbw,zbx,zby,zbz,zca,zcb,zcc,zcd,zce,zcf,zcg,zch,zci,zcj,zck,zcl,zcm,zcn,zco,zcp,zcq,zcr,zcs,zct,zcu,zcv,zcw,zcx,zcy,zcz,zda,zdb,zdc,zdd,zde,zdf,zdg,zdh,zdi,zdj,zdk,zdl,zdm,ev5,tbMb0,glob,h]
      exact ResQ.same rfl
    · simp (maxSteps := 1000000) (disch := first | omega | (simp only [nums_len,lnB] <;> omega) | fail) only [ev0,ev1,ev2,ev3,↓reduceIte,reduceCtorEq,zaa,zab,zac,zad,zae,zaf,zag,zah,zai,zaj,zak,zal,zam,zan,zao,zap,zaq,↓zar,↓zas,zat,zau,zav,zaw,zax,zay,zaz,zba,zbb,zbc,zbd,zbe,zbf,zbg,zbh,zbi,zbj,zbk,zbl,zbm,zbn,zbo,zbp,zbq,zbr,zbs,zbt,zbu,zbv,zbw,zbx,zby,zbz,zca,zcb,zcc,zcd,zce,zcf,zcg,zch,zci,zcj,zck,zcl,zcm,zcn,zco,zcp,zcq,zcr,zcs,zct,zcu,zcv,zcw,zcx,zcy,zcz,zda,zdb,zdc,zdd,zde,zdf,zdg,zdh,zdi,zdj,zdk,zdl,zdm,ev5,tbMb0,glob,h]
      exact ResQ.same rfl
  · cases hr
def btA : Option (List (BitVec 8)) → AV
  | none=>.raw (.slice none 0 0)
  | some l=>.sl l.length (nums .u8 l) .bor
theorem nums_inj8 : ∀ {l m : List (BitVec 8)},nums .u8 l = nums .u8 m → l = m
  | [],[],_=>rfl
  | [],y :: m,h=>by simp [nums] at h
  | x :: l,[],h=>by simp [nums] at h
  | x :: l,y :: m,h=>by
    simp only [nums,List.map_cons,List.cons.injEq,AV.raw.injEq,Value.int.injEq,true_and] at h
    obtain ⟨h1,h2⟩:=h
    have e : x = y:=BitVec.eq_of_toNat_eq (by omega)
    rw [e,nums_inj8 h2]
theorem btA_inj {x y : Option (List (BitVec 8))} (h : btA x = btA y) : x = y:=by
  cases x <;> cases y <;> simp only [btA,AV.sl.injEq,reduceCtorEq] at h
  · rfl
  · rw [nums_inj8 h.2.1]
theorem within_at {n a b : Int} : pf110 [.raw (.int .i64 n),.raw (.int .i64 a),.raw (.int .i64 b)] = some (.raw (.bool (decide (n ≥ a) && decide (n ≤ b)))):=rfl
def inW (n a b : Int) : Bool:=decide (n ≥ a) && decide (n ≤ b)
theorem btA_strip (x : Option (List (BitVec 8))) : strip (btA x) = btA x:=by cases x <;> rfl
theorem btA_one (x : Option (List (BitVec 8))) : oneA (btA x) = true:=by cases x <;> rfl
noncomputable def EW : Env:=(((((((((((((((E7.know 159 (fun xs=>pf165 (xs.map norm))).know 72 (fun xs=>pf72 (xs.map norm))).know 73 (fun xs=>pf72 (xs.map norm))).know 145 (fun xs=>pf145 (xs.map norm))).know 120 (fun xs=>pf145 (xs.map norm))).know 113 (fun xs=>pf113 (xs.map norm))).know 142 (fun xs=>pf113 (xs.map norm))).know 169 (fun xs=>pf169 (xs.map norm))).know 166 (fun xs=>pf169 (xs.map norm))).know 78 (fun xs=>pf78 (xs.map norm))).know 80 (fun xs=>pf80 (xs.map norm))).know 104 (fun xs=>pf80 (xs.map norm))).know 147 (fun xs=>pf165 (xs.map norm)))).know 110 pf110)
theorem okW : EnvOK Tryd.prog EW:=(((((((((((((((ok7.know sound159.norm).know sound72.norm).know sound73.norm).know sound145.norm).know sound120.norm).know sound113.norm).know sound142.norm).know sound169.norm).know sound166.norm).know sound78.norm).know sound80.norm).know sound104.norm).know sound147.norm)).know sound110)
theorem EW_te : EW.te = te:=rfl
theorem EW_glob : EW.glob = glob:=rfl
theorem EW_gs : EW.gs = []:=rfl
theorem EW_dyn : EW.dyn = false:=rfl
theorem EW_mu (d : Nat) : EW.mu d = false:=rfl
theorem EW_11 : EW.tbl 80 = some (.val (fun xs=>pf80 (xs.map norm))):=rfl
theorem EW_12 : EW.tbl 104 = some (.val (fun xs=>pf80 (xs.map norm))):=rfl
theorem EW_13 : EW.tbl 159 = some (.val (fun xs=>pf165 (xs.map norm))):=rfl
theorem EW_14 : EW.tbl 147 = some (.val (fun xs=>pf165 (xs.map norm))):=rfl
theorem EW_15 : EW.tbl 72 = some (.val (fun xs=>pf72 (xs.map norm))):=rfl
theorem EW_16 : EW.tbl 73 = some (.val (fun xs=>pf72 (xs.map norm))):=rfl
theorem EW_17 : EW.tbl 145 = some (.val (fun xs=>pf145 (xs.map norm))):=rfl
theorem EW_18 : EW.tbl 120 = some (.val (fun xs=>pf145 (xs.map norm))):=rfl
theorem EW_20 : EW.tbl 113 = some (.val (fun xs=>pf113 (xs.map norm))):=rfl
theorem EW_21 : EW.tbl 142 = some (.val (fun xs=>pf113 (xs.map norm))):=rfl
theorem EW_22 : EW.tbl 169 = some (.val (fun xs=>pf169 (xs.map norm))):=rfl
theorem EW_23 : EW.tbl 166 = some (.val (fun xs=>pf169 (xs.map norm))):=rfl
theorem EW_29 : EW.tbl 78 = some (.val (fun xs=>pf78 (xs.map norm))):=rfl
theorem EW_w : EW.tbl 110 = some (.val pf110):=rfl
def nmK (l : List Int) : Nat → List (BitVec 8)
  | 0=>[]
  | k + 1=>putB (nmK l k) (l.getD k 0).toNat
def nmF (l : List Int) : List (BitVec 8):=nmK l l.length
theorem nmK_len (l : List Int) (hl : ∀ n ∈ l,i64ok n) (k : Nat) (hk : k ≤ l.length) : (nmK l k).length ≤ 9 * k:=by
  induction k with
  | zero=>exact Nat.le_refl _
  | succ k ih =>
    have:=ih (by omega)
    have hm:=hl _ (getD_mem (show k < l.length by omega))
    unfold i64ok at hm
    have:=need_le (l.getD k 0).toNat (by omega)
    rw [nmK,putB_len]; omega
def posL (l : List Int) : Bool:=l.all fun n=>decide (0 ≤ n)
def pf112 : List AV → Option AV
  | [v]=>(irow? v).bind fun l=>if l.length ≤ 1000 ∧ posL l = true then some (.sl (nmF l).length (nums .u8 (nmF l)) .bor) else none
  | _=>none
def tbMb1:=(And.intro (And.intro (And.intro (And.intro @teE @EW_te) (And.intro @EW_glob (And.intro @EW_gs @EW_dyn))) (And.intro (And.intro @EW_mu (And.intro @EW_11 @EW_13)) (And.intro @EW_15 (And.intro @EW_17 @EW_20)))) (And.intro (And.intro (And.intro @EW_22 @EW_29) (And.intro @EW_12 (And.intro @EW_14 @EW_16))) (And.intro (And.intro @EW_18 (And.intro @EW_21 @EW_23)) (And.intro @EW_w (And.intro @ev4 @pf80_at)))))
theorem sound112 : SoundV Tryd.prog glob 112 pf112:=by
  refine SoundV.walk EW okW mixed Tryd.func112 rfl Tryd.call112 (by kernel_rfl) ?_
  intro args r hr
  unfold pf112 at hr
  split at hr
  · simp only [Option.bind_eq_some_iff] at hr
    obtain ⟨l,h1,hr⟩:=hr
    split at hr
    · rename_i hc
      obtain ⟨hc,hp⟩:=hc
      cases hr
      obtain ⟨⟨fl,rfl⟩,hl⟩:=irow?_of h1
      rw [Tryd.ntmps112,Tryd.results112]
      refine ⟨by simp,?_⟩
      have hpos : ∀ k,k < l.length→0 ≤ l.getD k 0:=fun k hk=>of_decide_eq_true (List.all_eq_true.1 hp _ (getD_mem hk))
      simp (maxSteps:=1000000) (disch:=first | omega | (simp only [digF_len,putK_len,putB_len,lnB] <;> omega) | fail) only [ev0,ev1,ev2,ev3,↓reduceIte,reduceCtorEq,zaa,zab,zac,zad,zae,zaf,zag,zah,zai,zaj,zak,zal,zam,zan,zao,zap,zaq,↓zar,↓zas,zat,zau,zav,zaw,zax,zay,zaz,zba,zbb,zbc,zbd,zbe,zbf,zbg,zbh,zbi,zbj,zbk,zbl,zbm,zbn,zbo,zbp,zbq,zbr,zbs,zbt,zbu,zbv,zbw,zbx,zby,zbz,zca,zcb,zcc,zcd,zce,zcf,zcg,zch,zci,zcj,zck,zcl,zcm,zcn,zco,zcp,zcq,zcr,zcs,zct,zcu,zcv,zcw,zcx,zcy,zcz,zda,zdb,zdc,zdd,zde,zdf,zdg,zdh,zdi,zdj,zdk,zdl,zdm,ev5,tbMb1,glob]
      refine loopQ_wk _ (Wk.at (d:=3) (v:=.sl 0 [] (.own ⟨0,3,0,0⟩ 1)) (by simp (maxSteps:=1000000) (disch:=first | omega | (simp only [digF_len,putK_len,putB_len,lnB] <;> omega) | fail) only [ev0,ev1,ev2,ev3,↓reduceIte,reduceCtorEq,zaa,zab,zac,zad,zae,zaf,zag,zah,zai,zaj,zak,zal,zam,zan,zao,zap,zaq,↓zar,↓zas,zat,zau,zav,zaw,zax,zay,zaz,zba,zbb,zbc,zbd,zbe,zbf,zbg,zbh,zbi,zbj,zbk,zbl,zbm,zbn,zbo,zbp,zbq,zbr,zbs,zbt,zbu,zbv,zbw,zbx,zby,zbz,zca,zcb,zcc,zcd,zce,zcf,zcg,zch,zci,zcj,zck,zcl,zcm,zcn,zco,zcp,zcq,zcr,zcs,zct,zcu,zcv,zcw,zcx,zcy,zcz,zda,zdb,zdc,zdd,zde,zdf,zdg,zdh,zdi,zdj,zdk,zdl,zdm,ev5,tbMb1,glob]; exact .nil 3 1)) (fun n σ=>∃ k i,k ≤ l.length ∧ n = l.length - k ∧ σ.slots 8 = .raw (.int .i64 (k : Int)) ∧ σ.slots 7 = .raw (.int .i64 (l.length : Int)) ∧ σ.slots 6 = .sl l.length (ints .i64 l) .bor ∧ σ.slots 3 = .sl (nmK l k).length (nums .u8 (nmK l k)) (.own i 1)) l.length ?_ ?_
      · refine ⟨0,⟨0,3,0,0⟩,by omega,by omega,?_⟩
        simp (maxSteps:=1000000) (disch:=first | omega | (simp only [digF_len,putK_len,putB_len,lnB] <;> omega) | fail) only [ev0,ev1,ev2,ev3,↓reduceIte,reduceCtorEq,zaa,zab,zac,zad,zae,zaf,zag,zah,zai,zaj,zak,zal,zam,zan,zao,zap,zaq,↓zar,↓zas,zat,zau,zav,zaw,zax,zay,zaz,zba,zbb,zbc,zbd,zbe,zbf,zbg,zbh,zbi,zbj,zbk,zbl,zbm,zbn,zbo,zbp,zbq,zbr,zbs,zbt,zbu,zbv,zbw,zbx,zby,zbz,zca,zcb,zcc,zcd,zce,zcf,zcg,zch,zci,zcj,zck,zcl,zcm,zcn,zco,zcp,zcq,zcr,zcs,zct,zcu,zcv,zcw,zcx,zcy,zcz,zda,zdb,zdc,zdd,zde,zdf,zdg,zdh,zdi,zdj,zdk,zdl,zdm,ev5,tbMb1,glob]
        exact ⟨rfl,rfl⟩
      · rintro n ⟨sl,gn,bx,us⟩ ⟨k,i,hk,rfl,sk,sn,s0,sb⟩
        dsimp only at sk sn s0 sb
        have lM:=nmK_len l hl k hk
        generalize hM : nmK l k = M at sb lM
        simp (maxSteps:=1000000) (disch:=first | omega | (simp only [digF_len,putK_len,putB_len,lnB] <;> omega) | fail) only [ev0,ev1,ev2,ev3,↓reduceIte,reduceCtorEq,zaa,zab,zac,zad,zae,zaf,zag,zah,zai,zaj,zak,zal,zam,zan,zao,zap,zaq,↓zar,↓zas,zat,zau,zav,zaw,zax,zay,zaz,zba,zbb,zbc,zbd,zbe,zbf,zbg,zbh,zbi,zbj,zbk,zbl,zbm,zbn,zbo,zbp,zbq,zbr,zbs,zbt,zbu,zbv,zbw,zbx,zby,zbz,zca,zcb,zcc,zcd,zce,zcf,zcg,zch,zci,zcj,zck,zcl,zcm,zcn,zco,zcp,zcq,zcr,zcs,zct,zcu,zcv,zcw,zcx,zcy,zcz,zda,zdb,zdc,zdd,zde,zdf,zdg,zdh,zdi,zdj,zdk,zdl,zdm,ev5,tbMb1,glob,sk,sn,s0,sb]
        refine condQ_dec (fun hlt=>?_) (fun hge=>?_)
        · have hlt : k < l.length := by omega
          have h0:=hpos k hlt
          have hm:=hl _ (getD_mem hlt)
          unfold i64ok at hm
          have hn8:=need_le (l.getD k 0).toNat (by omega)
          simp (maxSteps:=1000000) (disch:=first | omega | (simp only [digF_len,putK_len,putB_len,lnB] <;> omega) | fail) only [ev0,ev1,ev2,ev3,↓reduceIte,reduceCtorEq,zaa,zab,zac,zad,zae,zaf,zag,zah,zai,zaj,zak,zal,zam,zan,zao,zap,zaq,↓zar,↓zas,zat,zau,zav,zaw,zax,zay,zaz,zba,zbb,zbc,zbd,zbe,zbf,zbg,zbh,zbi,zbj,zbk,zbl,zbm,zbn,zbo,zbp,zbq,zbr,zbs,zbt,zbu,zbv,zbw,zbx,zby,zbz,zca,zcb,zcc,zcd,zce,zcf,zcg,zch,zci,zcj,zck,zcl,zcm,zcn,zco,zcp,zcq,zcr,zcs,zct,zcu,zcv,zcw,zcx,zcy,zcz,zda,zdb,zdc,zdd,zde,zdf,zdg,zdh,zdi,zdj,zdk,zdl,zdm,ev5,tbMb1,glob,sk,sn,s0,sb]
          refine ⟨l.length - (k + 1),by omega,k + 1,⟨0,15,0,gn 15 + 1⟩,by omega,rfl,rfl,?_⟩
          have hN : nmK l (k + 1) = putB M (l.getD k 0).toNat:=by rw [nmK,hM]
          rw [hN,putB_len]
        · have hk : k = l.length := by omega
          subst hk
          rw [show nmF l = M from hM]
          cases hu : us i
          · simp (maxSteps := 1000000) (disch := first | omega | (simp only [digF_len,putK_len,putB_len,lnB] <;> omega) | fail) only [ev0,ev1,ev2,ev3,↓reduceIte,reduceCtorEq,zaa,zab,zac,zad,zae,zaf,zag,zah,zai,zaj,zak,zal,zam,zan,zao,zap,zaq,↓zar,↓zas,zat,zau,zav,zaw,zax,zay,zaz,zba,zbb,zbc,zbd,zbe,zbf,zbg,zbh,zbi,zbj,zbk,zbl,zbm,zbn,zbo,zbp,zbq,zbr,zbs,zbt,zbu,zbv,zbw,zbx,zby,zbz,zca,zcb,zcc,zcd,zce,zcf,zcg,zch,zci,zcj,zck,zcl,zcm,zcn,zco,zcp,zcq,zcr,zcs,zct,zcu,zcv,zcw,zcx,zcy,zcz,zda,zdb,zdc,zdd,zde,zdf,zdg,zdh,zdi,zdj,zdk,zdl,zdm,ev5,tbMb1,glob,sk,sn,s0,sb,hu]
            exact ResQ.bor
          · simp (maxSteps := 1000000) (disch := first | omega | (simp only [digF_len,putK_len,putB_len,lnB] <;> omega) | fail) only [ev0,ev1,ev2,ev3,↓reduceIte,reduceCtorEq,zaa,zab,zac,zad,zae,zaf,zag,zah,zai,zaj,zak,zal,zam,zan,zao,zap,zaq,↓zar,↓zas,zat,zau,zav,zaw,zax,zay,zaz,zba,zbb,zbc,zbd,zbe,zbf,zbg,zbh,zbi,zbj,zbk,zbl,zbm,zbn,zbo,zbp,zbq,zbr,zbs,zbt,zbu,zbv,zbw,zbx,zby,zbz,zca,zcb,zcc,zcd,zce,zcf,zcg,zch,zci,zcj,zck,zcl,zcm,zcn,zco,zcp,zcq,zcr,zcs,zct,zcu,zcv,zcw,zcx,zcy,zcz,zda,zdb,zdc,zdd,zde,zdf,zdg,zdh,zdi,zdj,zdk,zdl,zdm,ev5,tbMb1,glob,sk,sn,s0,sb,hu]
            exact ResQ.bor
    · cases hr
  · cases hr
end Go.Proofs.YtddeffdgldjdjaaDoor.W
