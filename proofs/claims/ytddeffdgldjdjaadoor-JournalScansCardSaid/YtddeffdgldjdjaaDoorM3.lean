/- The abstract machine: from a promise to a row. -/
import Derived.Test.YtddeffdgldjdjaaDoorM2
import Derived.ProofKit
import Derived.LaidMore
import Derived.OpenShut
import Derived.Stop.Joined
import Derived.Lib.LaidTab
import Derived.Deep.Fields
import Derived.Deep.Slices
namespace Go.Abs
set_option linter.unusedSimpArgs false
set_option linter.unusedVariables false
open Go Go.ChangeShapes Go.WideShapes Go.ChangeAt Go.RowKit
def allG (W : World) : Nat→Nat→Prop:=fun k o=>(at_ W k o).isSome
theorem SoundV.calls {P : Program} {glob : Nat → Option (List AV)} {f : FuncId} {pf : List AV → Option AV} (h : SoundV P glob f pf) {args : List AV} {v : Value} {W : World} {vals : List Value} (hr : pf args = some (.raw v))
    (hg : ∀ gi xs,glob gi = some xs→RV noMu (allG W) W (.iptr xs) (.pointer (some ⟨gi,0,none⟩))) (ha : RVs noMu (allG W) W args vals) :
    Calls P f vals.toArray W fun e W'=>e = .returned v ∧ Below W.heap.size W W':=by
  refine (h.2 args _ hr (allG W) W vals ⟨fun _ _ h=>h,hg,ha⟩).mono ?_
  rintro e W' ⟨u,G',T,rfl,hp⟩
  have hu:=hp.rel
  simp only [RV] at hu
  exact ⟨by rw [hu],hp.below⟩
theorem RVs.nums {μ : Bx→Option Nat} {G : Nat→Nat→Prop} {W : World} {k : IntKind} {w : Nat} (m : List (BitVec w)) : RVs μ G W (nums k m) (m.map fun x=>.int k (x.toNat : Int)):=by
  have:=RVs.raws (μ:=μ) (G:=G) (w:=W) (m.map fun x=>Value.int k (x.toNat : Int))
  rwa [List.map_map] at this
theorem bits_of {k : IntKind} {w : Nat} (hk : ∀ z,(Lit.int k z).wf = true→0 ≤ z ∧ z < 2 ^ w) : ∀ zs : List Int,(∀ z ∈ zs,(Lit.int k z).wf = true)→(zs.map fun z=>BitVec.ofInt w z).map (fun x=>(x.toNat : Int)) = zs:=by
  intro zs hz
  rw [List.map_map]
  conv=>rhs; rw [← List.map_id zs]
  refine List.map_congr_left fun z hm=>?_
  obtain ⟨h1,h2⟩:=hk z (hz z hm)
  simp only [Function.comp,id,BitVec.toNat_ofInt]
  have hp : ((2 ^ w : Nat) : Int) = 2 ^ w:=by simp
  rw [hp,Int.emod_eq_of_lt h1 h2,Int.toNat_of_nonneg h1]
theorem open_row {H : Type} {enc : TypeId × Value → H} {P : Program} {W : World} {base : Nat} {t e : TypeId} {k : IntKind} {w : Nat} {v : Value} {d : DataW H} {p : List MemPlace} (ht : P.underlying t = some (.slice e)) (he : P.underlying e = some (.int k)) (hc : P.cellsOf e = 1)
    (hk : ∀ z,(Lit.int k z).wf = true→0 ≤ z ∧ z < 2 ^ w) (hv : Value.okWide P W .any base t v) (h0 : DataW.Trod enc P W 0 (fun _=>true) true t v d p) :
    ∃ m : List (BitVec w),m.length ≤ maxLen ∧ RV noMu (allG W) W (.sl m.length (nums k m) .bor) v:=by
  obtain ⟨a,len,cap,rfl⟩:=okWide_slice ht hv
  obtain ⟨fuel,hf⟩:=h0
  rcases open_ints ht he hc hf with ⟨hcs,_⟩ | ⟨a',len',cap',zs,hcs,_,hl,hm,hz,_,hcell,hwf⟩
  · simp [Value.cells] at hcs
    obtain ⟨rfl,rfl,rfl⟩:=hcs
    exact ⟨[],Nat.zero_le _,by simp only [RV]; exact .inl ⟨⟨none,rfl⟩,by simp,by simp [nums]⟩⟩
  · simp [Value.cells] at hcs
    obtain ⟨rfl,rfl,rfl⟩:=hcs
    have hsp : a'.spot = none:=by
      simp only [Value.okWide,ht,Cell.okWide,Cell.ok] at hv
      exact hv.2.2.2.1
    obtain ⟨b,o,s⟩:=a'
    cases hsp
    simp only [if_true] at hz
    refine ⟨(zs.take len).map fun z=>BitVec.ofInt w z,by simp; omega,?_⟩
    simp only [RV]
    have hb:=bits_of hk (zs.take len) fun z hz=>hwf z (List.mem_of_mem_take hz)
    have hlen : ((zs.take len).map fun z=>BitVec.ofInt w z).length = len:=by simp; omega
    refine .inr ⟨b,o,cap,_,by rw [hlen],by rw [hlen]; exact hl,RVs.nums _,fun j hj=>?_⟩
    have hjl : j < len:=by simpa using (by rw [List.length_map,hlen] at hj; exact hj)
    have hv : at_ W b (o + j) = some (.int k (zs.getD j 0)):=by
      have:=hcell j (by omega)
      rwa [add_plain] at this
    refine ⟨?_,by show (at_ W b (o + j)).isSome = true; rw [hv]; rfl⟩
    rw [hv]
    have e2 : ((zs.take len).map fun z=>BitVec.ofInt w z).map (fun x=>Value.int k (x.toNat : Int)) = (zs.take len).map (Value.int k):=by
      conv=>rhs; rw [← hb]
      rw [List.map_map,List.map_map,List.map_map]
      rfl
    rw [e2]
    simp only [List.getElem?_map,List.getElem?_take,if_pos hjl,List.getElem?_eq_getElem (show j < zs.length by omega),Option.map_some,List.getD_eq_getElem?_getD,Option.getD_some]
theorem glob_of_tab {P : Program} {W : World} {name : String} {k : IntKind} {w g : Nat} {m : List (BitVec w)} (h : Lib.TabIs P W name k (m.map fun x => (x.toNat : Int))) (hg : P.globalNamed name = some g) :
    RV noMu (allG W) W (.iptr (nums k m)) (.pointer (some ⟨g,0,none⟩)):=by
  simp only [RV]
  refine ⟨g,0,_,rfl,RVs.nums _,fun j hj=>?_⟩
  have hjl : j < m.length:=by simpa using hj
  have hc:=h.cell hg j (by simpa using hjl)
  have hat : at_ W g (0 + j) = some (.int k ((m.map fun x=>(x.toNat : Int)).getD j 0)):=by rw [Nat.zero_add]; exact hc
  refine ⟨?_,by show (at_ W g (0 + j)).isSome = true; rw [hat]; rfl⟩
  rw [hat]
  simp [hjl]
end Go.Abs
namespace Go.Abs
set_option linter.unusedSimpArgs false
set_option linter.unusedVariables false
open Go
end Go.Abs
namespace Go.Abs
set_option linter.unusedSimpArgs false
set_option linter.unusedVariables false
set_option linter.defProp false
open Go Go.ChangeShapes Go.WideShapes Go.ChangeAt Go.RowKit
section
variable {k : IntKind}
theorem ints_len (l : List Int) : (ints k l).length = l.length:=by simp [ints]
theorem ints_get (l : List Int) (i : Nat) (h : i < l.length) : (ints k l)[i]? = some (.raw (.int k (l.getD i 0))):=by simp [ints,h]
theorem ints_get0 (l : List Int) (h : 0 < l.length) : (ints k l)[0]? = some (.raw (.int k (l.getD 0 0))):=ints_get l 0 h
theorem ints_take (l : List Int) (n : Nat) : (ints k l).take n = ints k (l.take n):=by simp [ints]
theorem ints_drop (l : List Int) (n : Nat) : (ints k l).drop n = ints k (l.drop n):=by simp [ints]
theorem ints_app (l m : List Int) : ints k l ++ ints k m = ints k (l ++ m):=by simp [ints]
theorem ints_snoc (l : List Int) (x : Int) : ints k l ++ [.raw (.int k x)] = ints k (l ++ [x]):=by simp [ints]
theorem ints_nil_app (m : List Int) : [] ++ ints k m = ints k m:=rfl
theorem ints_one (l : List Int) : (ints k l).all oneA = true:=by simp [ints,oneA]
theorem ints_flat (l : List Int) : flatL (ints k l) = some (ints k l):=by
  induction l with
  | nil=>rfl
  | cons x l ih=>simp only [ints,List.map_cons,flatL] at ih ⊢; rw [ih]; rfl
theorem ints_pure (l : List Int) : pureL (ints k l) = true:=by
  induction l with
  | nil=>rfl
  | cons x l ih=>simp only [ints,List.map_cons,pureL,pureA] at ih ⊢; rw [ih]; rfl
theorem ints_snap (bx : Boxes) (l : List Int) : snapL bx (ints k l) = some (ints k l):=by
  induction l with
  | nil=>rfl
  | cons x l ih=>simp only [ints,List.map_cons,snapL,snap] at ih ⊢; rw [ih]; rfl
theorem ints_noview (l : List Int) : hasViewL (ints k l) = false:=by
  induction l with
  | nil=>rfl
  | cons x l ih=>simp only [ints,List.map_cons,hasViewL,hasView] at ih ⊢; rw [ih]; rfl
theorem ints_nil : ints k [] = []:=rfl
end
def i64ok (n : Int) : Prop:=-9223372036854775808 ≤ n ∧ n ≤ 9223372036854775807
instance (n : Int) : Decidable (i64ok n):=inferInstanceAs (Decidable (_ ∧ _))
def deInts : List AV → Option (List Int)
  | []=>some []
  | .raw (.int .i64 n) :: xs=>if i64ok n then (deInts xs).map (n :: ·) else none
  | _=>none
theorem deInts_of : ∀ {xs : List AV} {l : List Int},deInts xs = some l → xs = ints .i64 l ∧ ∀ n ∈ l,i64ok n
  | [],l,h=>by simp [deInts] at h; subst h; exact ⟨rfl,by simp⟩
  | x :: xs,l,h=>by
    unfold deInts at h
    split at h
    · rename_i e; cases e
    · rename_i n xs' e
      cases e
      split at h
      · rename_i hc
        simp only [Option.map_eq_some_iff] at h
        obtain ⟨l',h1,rfl⟩:=h
        obtain ⟨e1,e2⟩:=deInts_of h1
        rw [e1]
        exact ⟨rfl,fun m hm=>(List.mem_cons.1 hm).elim (fun e=>e ▸ hc) (e2 m)⟩
      · cases h
    · cases h
theorem deInts_ints (l : List Int) (h : ∀ n ∈ l,i64ok n) : deInts (ints .i64 l) = some l:=by
  induction l with
  | nil=>rfl
  | cons x l ih =>
    have:=ih fun n hn=>h n (List.mem_cons_of_mem _ hn)
    simp only [ints,List.map_cons,deInts] at this ⊢
    rw [if_pos (h x (List.mem_cons_self ..)),this]
    rfl
def irow? : AV → Option (List Int)
  | .sl n xs _=>(deInts xs).bind fun m=>if n = m.length then some m else none
  | _=>none
theorem irow?_of {v : AV} {m : List Int} (h : irow? v = some m) : (∃ fl,v = .sl m.length (ints .i64 m) fl) ∧ ∀ n ∈ m,i64ok n:=by
  unfold irow? at h
  split at h
  · simp only [Option.bind_eq_some_iff] at h
    obtain ⟨m',h1,h2⟩:=h
    split at h2
    · rename_i hn
      cases h2
      obtain ⟨e1,e2⟩:=deInts_of h1
      rw [e1,hn]
      exact ⟨⟨_,rfl⟩,e2⟩
    · cases h2
  · cases h
theorem irow?_at {n : Nat} {m : List Int} {fl : Fl} (h : n = m.length) (h2 : ∀ n ∈ m,i64ok n) : irow? (.sl n (ints .i64 m) fl) = some m:=by
  simp [irow?,deInts_ints m h2,h]
theorem getD_mem {l : List Int} {i : Nat} (h : i < l.length) : l.getD i 0 ∈ l:=by
  rw [List.getD_eq_getElem?_getD,List.getElem?_eq_getElem h]; exact List.getElem_mem h
theorem RVs.ints {μ : Bx→Option Nat} {G : Nat→Nat→Prop} {W : World} {k : IntKind} (m : List Int) : RVs μ G W (ints k m) (m.map fun x=>.int k x):=by
  have:=RVs.raws (μ:=μ) (G:=G) (w:=W) (m.map fun x=>Value.int k x)
  rwa [List.map_map] at this
def ev4:=And.intro @ints_len (And.intro @ints_get (And.intro @ints_get0 (And.intro @ints_take (And.intro @ints_drop (And.intro @ints_app (And.intro @ints_snoc (And.intro @ints_nil_app (And.intro @ints_one (And.intro @ints_flat (And.intro @ints_pure (And.intro @ints_snap (And.intro @ints_noview (@ints_nil)))))))))))))
end Go.Abs
namespace Go.Abs
set_option linter.unusedSimpArgs false
set_option linter.unusedVariables false
open Go Go.RowKit
mutual
def lowA (L : Nat) : AV → Prop
  | .ptr b _=>b.lvl < L
  | .view b _ _ _ _=>b.lvl < L
  | .sl _ xs _=>lowL L xs
  | .agg xs=>lowL L xs
  | .tup xs=>lowL L xs
  | .iptr xs=>lowL L xs
  | .fn _ xs=>lowL L xs
  | .nptr _=>False
  | .dead=>True
  | .raw _=>True
  | .anyb=>True
def lowL (L : Nat) : List AV → Prop
  | []=>True
  | x :: xs=>lowA L x ∧ lowL L xs
end
mutual
theorem lowA_pure {L : Nat} : ∀ (v : AV),pureA v = true → lowA L v
  | .dead,_=>trivial
  | .raw _,_=>trivial
  | .anyb,_=>trivial
  | .sl _ xs _,h=>by simp only [pureA,lowA] at h ⊢; exact lowL_pure xs h
  | .agg xs,h=>by simp only [pureA,lowA] at h ⊢; exact lowL_pure xs h
  | .tup xs,h=>by simp only [pureA,lowA] at h ⊢; exact lowL_pure xs h
  | .fn _ xs,h=>by simp only [pureA,lowA] at h ⊢; exact lowL_pure xs h
  | .iptr xs,h=>by simp only [pureA,lowA] at h ⊢; exact lowL_pure xs h
  | .ptr _ _,h=>by simp [pureA] at h
  | .view ..,h=>by simp [pureA] at h
  | .nptr _,h=>by simp [pureA] at h
theorem lowL_pure {L : Nat} : ∀ (xs : List AV),pureL xs = true → lowL L xs
  | [],_=>trivial
  | x :: xs,h=>by
    simp only [pureL,lowL,Bool.and_eq_true] at h ⊢
    exact ⟨lowA_pure x h.1,lowL_pure xs h.2⟩
end
mutual
theorem RV.low {μ : Bx → Option Nat} {G : Nat → Nat → Prop} {w : World} {L : Nat} (hm : ∀ b k,μ b = some k → b.lvl < L) : ∀ (v : AV) (u : Value),RV μ G w v u → lowA L v
  | .dead,_,_=>trivial
  | .raw _,_,_=>trivial
  | .anyb,_,_=>trivial
  | .sl n xs fl,u,h=>by
    simp only [RV,lowA] at h ⊢
    rcases h with ⟨_,_,h⟩ | ⟨k,o,c,us,_,_,h,_⟩
    · rw [h]; simp only [lowL]
    · exact RVs.low hm xs us h
  | .ptr b off,u,h=>by simp only [RV,lowA] at h ⊢; obtain ⟨k,h,_⟩:=h; exact hm _ _ h
  | .iptr xs,u,h=>by simp only [RV,lowA] at h ⊢; obtain ⟨k,o,us,_,h,_⟩:=h; exact RVs.low hm xs us h
  | .view b off n c z,u,h=>by simp only [RV,lowA] at h ⊢; obtain ⟨k,o,_,h,_⟩:=h; exact hm _ _ h
  | .agg xs,u,h=>by simp only [RV,lowA] at h ⊢; obtain ⟨us,_,h⟩:=h; exact RVs.low hm xs us h
  | .tup xs,u,h=>by simp only [RV,lowA] at h ⊢; obtain ⟨us,_,h⟩:=h; exact RVs.low hm xs us h
  | .fn _ xs,u,h=>by simp only [RV,lowA] at h ⊢; obtain ⟨us,_,h⟩:=h; exact RVs.low hm xs us h
  | .nptr _,_,h=>by simp only [RV] at h
theorem RVs.low {μ : Bx → Option Nat} {G : Nat → Nat → Prop} {w : World} {L : Nat} (hm : ∀ b k,μ b = some k → b.lvl < L) : ∀ (xs : List AV) (us : List Value),RVs μ G w xs us → lowL L xs
  | [],_,_=>trivial
  | x :: xs,us,h=>by
    simp only [RVs,lowL] at h ⊢
    obtain ⟨u,us',_,h1,h2⟩:=h
    exact ⟨RV.low hm x u h1,RVs.low hm xs us' h2⟩
end
mutual
theorem RV.relow {μ μ' : Bx → Option Nat} {G G' : Nat → Nat → Prop} {w : World} {L : Nat} (hm : ∀ b k,b.lvl < L → μ b = some k → μ' b = some k) (hG : ∀ k o,G k o → G' k o) : ∀ (v : AV) (u : Value),lowA L v → RV μ G w v u → RV μ' G' w v u
  | .dead,_,_,_=>by simp only [RV]
  | .raw _,_,_,h=>by simpa only [RV] using h
  | .anyb,_,_,h=>by simpa only [RV] using h
  | .sl n xs fl,u,hl,h=>by
    simp only [RV,lowA] at h hl ⊢
    rcases h with h | ⟨k,o,c,us,h1,h2,h3,h4⟩
    · exact .inl h
    · exact .inr ⟨k,o,c,us,h1,h2,RVs.relow hm hG xs us hl h3,fun j hj=>⟨(h4 j hj).1,hG _ _ (h4 j hj).2⟩⟩
  | .iptr xs,u,hl,h=>by
    simp only [RV,lowA] at h hl ⊢
    obtain ⟨k,o,us,h1,h3,h4⟩:=h
    exact ⟨k,o,us,h1,RVs.relow hm hG xs us hl h3,fun j hj=>⟨(h4 j hj).1,hG _ _ (h4 j hj).2⟩⟩
  | .agg xs,u,hl,h=>by
    simp only [RV,lowA] at h hl ⊢
    obtain ⟨us,h1,h2⟩:=h
    exact ⟨us,h1,RVs.relow hm hG xs us hl h2⟩
  | .tup xs,u,hl,h=>by
    simp only [RV,lowA] at h hl ⊢
    obtain ⟨us,h1,h2⟩:=h
    exact ⟨us,h1,RVs.relow hm hG xs us hl h2⟩
  | .fn f xs,u,hl,h=>by
    simp only [RV,lowA] at h hl ⊢
    obtain ⟨us,h1,h2⟩:=h
    exact ⟨us,h1,RVs.relow hm hG xs us hl h2⟩
  | .ptr b off,u,hl,h=>by
    simp only [RV,lowA] at h hl ⊢
    obtain ⟨k,h1,h2⟩:=h
    exact ⟨k,hm _ _ hl h1,h2⟩
  | .view b off n c z,u,hl,h=>by
    simp only [RV,lowA] at h hl ⊢
    obtain ⟨k,o,c',h1,h2⟩:=h
    exact ⟨k,o,c',hm _ _ hl h1,h2⟩
  | .nptr _,_,hl,_=>hl.elim
theorem RVs.relow {μ μ' : Bx → Option Nat} {G G' : Nat → Nat → Prop} {w : World} {L : Nat} (hm : ∀ b k,b.lvl < L → μ b = some k → μ' b = some k) (hG : ∀ k o,G k o → G' k o) : ∀ (xs : List AV) (us : List Value),lowL L xs → RVs μ G w xs us → RVs μ' G' w xs us
  | [],_,_,h=>by simpa only [RVs] using h
  | x :: xs,us,hl,h=>by
    simp only [RVs,lowL] at h hl ⊢
    obtain ⟨u,us',h1,h2,h3⟩:=h
    exact ⟨u,us',h1,RV.relow hm hG x u hl.1 h2,RVs.relow hm hG xs us' hl.2 h3⟩
end
inductive ExpV (σ : AS) (L : Nat) (xp : List (Nat × Id)) (bn : Option Bx) : AV → AV → Prop
  | low (v : AV) (hl : lowA L v) (hf : ∀ n xs i z,v ≠ .sl n xs (.own i z)) (hb : ∀ n xs,v ≠ .sl n xs .full) (hn : ∀ vs,v ≠ .tup vs) : ExpV σ L xp bn v v
  | full (n : Nat) (xs : List AV) (hl : lowL L xs) : ExpV σ L xp bn (.sl n xs .full) (.sl n xs .full)
  | keep (n : Nat) (xs : List AV) (i : Id) (z : Nat) (hl : lowL L xs) (hi : i.lvl < L) (hg : i.gen ≠ 0) : ExpV σ L xp bn (.sl n xs (.own i z)) (.sl n xs (.own i z))
  | give (n : Nat) (xs : List AV) (i : Id) (z c : Nat) (hl : lowL L xs) (hc : (c,i) ∈ xp) : ExpV σ L xp bn (.sl n xs (.own i z)) (.sl n xs (.own ⟨0,0,c,0⟩ z))
  | bor (n : Nat) (xs : List AV) (fl : Fl) (hl : lowL L xs) : ExpV σ L xp bn (.sl n xs fl) (.sl n xs .bor)
  | nil (c z : Nat) : ExpV σ L xp bn (.raw (.slice none 0 0)) (.sl 0 [] (.own ⟨0,0,c,0⟩ z))
  | nilb : ExpV σ L xp bn (.raw (.slice none 0 0)) (.sl 0 [] .bor)
  | any (b : Bool) : ExpV σ L xp bn (.raw (.bool b)) .anyb
  | shut (b : Bx) (off n c z : Nat) (xs : List AV) (hx : σ.box b = some xs) (hL : b.lvl = L) (hn : some b ≠ bn) (hle : off + n * z ≤ xs.length) (hl : lowL L ((xs.drop off).take (n * z))) : ExpV σ L xp bn (.view b off n c z) (.sl n ((xs.drop off).take (n * z)) .bor)
  | newp (b : Bx) (o : Nat) (hb : bn = some b) : ExpV σ L xp bn (.ptr b o) (.ptr (.own 0 0 0) o)
  | newv (b : Bx) (o n c z : Nat) (hb : bn = some b) : ExpV σ L xp bn (.view b o n c z) (.view (.own 0 0 0) o n c z)
inductive ExpL (σ : AS) (L : Nat) (xp : List (Nat × Id)) (bn : Option Bx) : List AV → List AV → Prop
  | nil : ExpL σ L xp bn [] []
  | cons {x y : AV} {xs ys : List AV} (h : ExpV σ L xp bn x y) (t : ExpL σ L xp bn xs ys) : ExpL σ L xp bn (x :: xs) (y :: ys)
def wrAt : List (Bx × List AV) → Bx → Option (List AV)
  | [],_=>none
  | p :: l,b => match wrAt l b with
    | some c=>some c
    | none=>if b = p.1 then some p.2 else none
def startG (args : List AV) (bx : Boxes) (us : Id→Bool) : AS :=
  { slots := fun i => match args[i]? with
      | some (.tup _)=>.dead
      | some v=>v
      | none=>.raw undef
    gen:=fun _=>0
    box:=bx
    used:=us }
def tupOf (rv : List AV) : AV := match rv with
  | [v]=>v
  | vs=>.tup vs
structure EndG (te : TypeId → Option TI) (rs : List ResultVar) (L : Nat) (bx : Boxes) (us : Id → Bool) (cr : CR) (σ : AS) : Prop where
  ex : ∃ (xp : List (Nat × Id)) (bn : Option Bx) (vs rv : List AV),rawsRes te σ rs = some vs ∧ ExpL σ L xp bn vs rv ∧ cr.v = .ret (tupOf rv) ∧
    (xp.map (·.1)).Nodup ∧ (xp.map (·.2)).Nodup ∧ (∀ q ∈ xp,q.2.lvl = L ∧ σ.used q.2 = false) ∧
    (∀ b,b.lvl < L→match wrAt cr.wr b with | none=>σ.box b = bx b | some ys=>(bx b).isSome ∧ ∃ xs,σ.box b = some xs ∧ ExpL σ L xp bn xs ys) ∧
    (∀ b ys,wrAt cr.wr b = some ys→b.lvl < L) ∧
    (match bn with | none=>cr.cont = none | some b=>b.lvl = L ∧ ∃ xs ys,σ.box b = some xs ∧ cr.cont = some ys ∧ ExpL σ L xp bn xs ys) ∧
    (∀ i,i.lvl < L→σ.used i = useL us cr.use i) ∧ ∀ i ∈ cr.use,i.lvl < L
def endGQ (te : TypeId → Option TI) (rs : List ResultVar) (L : Nat) (bx : Boxes) (us : Id → Bool) (cr : CR) : AX → AS → Prop
  | .exit _,_=>False
  | .pan _,_=>False
  | _,σ=>EndG te rs L bx us cr σ
theorem useL_mono : ∀ (l : List Id) (u : Id → Bool) (i : Id),u i = true → useL u l i = true
  | [],u,i,h=>h
  | j :: l,u,i,h=>useL_mono l (updI u j) i (by unfold updI; split <;> simp [h])
theorem useL_mem : ∀ (l : List Id) (u : Id → Bool) (i : Id),useL u l i = true → u i = true ∨ i ∈ l
  | [],u,i,h=>.inl h
  | j :: l,u,i,h=>by
    rcases useL_mem l (updI u j) i h with h | h
    · unfold updI at h
      split at h
      · rename_i e; exact .inr (by rw [e]; simp)
      · exact .inl h
    · exact .inr (by simp [h])
theorem applyW_at : ∀ (l : List (Bx × List AV)) (f : List AV → List AV) (bx : Boxes) (b : Bx),applyW bx (l.map fun p => (p.1,f p.2)) b = match wrAt l b with | some c => some (f c) | none => bx b
  | [],f,bx,b=>rfl
  | p :: l,f,bx,b=>by
    simp only [List.map_cons,applyW,wrAt]
    rw [applyW_at l f]
    cases wrAt l b with
    | some c=>rfl
    | none =>
      simp only [updB]
      by_cases h : b = p.1 <;> simp [h]
structure Hand (N : Ent) (g gr : Ghost) (σ : AS) (w : World) (L Lc d dn : Nat) (xp : List (Nat × Id)) (bn : Option Bx) : Prop where
  hv : Valid N g σ.box w
  lvl : N.lvl = L
  mu : ∀ b k,b.lvl < L→g.μ b = some k→gr.μ b = some k
  mub : ∀ b k,bn = some b→g.μ b = some k→gr.μ (.own Lc d dn) = some k
  G : ∀ k o,g.G k o→gr.G k o
  Gl : ∀ b xs k o,b.lvl = L→some b ≠ bn→g.μ b = some k→σ.box b = some xs→o < xs.length→gr.G k o
  T : ∀ i r,i.lvl < L→g.D i = false→g.T i = some r→gr.T i = some r
  Tx : ∀ c i,(c,i) ∈ xp→gr.T ⟨Lc,d,c,dn⟩ = g.T i
  Dl : ∀ i,i.lvl < L→g.D i = true→gr.D i = true
  Dx : ∀ c i,(c,i) ∈ xp→g.D i = false
  mde : ∀ i,i.lvl < L→made g i→made gr i
  mdx : ∀ c,made gr ⟨Lc,d,c,dn⟩
  ty : g.D = σ.used
section
variable {N : Ent} {g gr : Ghost} {σ : AS} {w : World} {L Lc d dn : Nat} {xp : List (Nat × Id)} {bn : Option Bx}
theorem renB_mu (h : Hand N g gr σ w L Lc d dn xp bn) {b : Bx} {k : Nat} (hb : g.μ b = some k) : renB Lc d dn b = b:=by
  obtain ⟨l,s,n⟩:=b
  simp only [renB]
  rw [if_neg]
  rintro rfl
  rw [h.hv.nz] at hb; cases hb
theorem ExpV.rel (h : Hand N g gr σ w L Lc d dn xp bn) {v r : AV} {u : Value} (he : ExpV σ L xp bn v r) (hr : RV g.μ g.G w v u) (ht : Top g v u) :
    RV gr.μ gr.G w (ren1 Lc d dn r) u ∧ (∀ n xs fl,ren1 Lc d dn r = .sl n xs fl→FlOK gr fl xs.length u) ∧ ∀ vs,ren1 Lc d dn r ≠ .tup vs:=by
  have rl : ∀ v u,lowA L v→RV g.μ g.G w v u→RV gr.μ gr.G w v u:=fun v u hl hr=>RV.relow (fun b k hb=>h.mu b k hb) h.G v u hl hr
  cases he with
  | low _ hl hf hb hn =>
    have h1:=rl _ _ hl hr
    cases v with
    | sl n xs fl =>
      cases fl with
      | bor=>exact ⟨by simpa only [ren1,RV] using h1,fun n xs fl e=>(by simp only [ren1,renF] at e; cases e; trivial),by simp [ren1]⟩
      | lit i=>exact ⟨by simpa only [ren1,RV] using h1,fun n xs fl e=>(by simp only [ren1,renF] at e; cases e; trivial),by simp [ren1]⟩
      | full=>exact absurd rfl (hb _ _)
      | own i z=>exact absurd rfl (hf _ _ _ _)
    | ptr b o =>
      have h2:=hr
      simp only [RV] at h2
      obtain ⟨k,hk,_⟩:=h2
      refine ⟨?_,by simp [ren1],by simp [ren1]⟩
      simp only [ren1]
      rw [renB_mu h hk]
      exact h1
    | view b o n c z =>
      have h2:=hr
      simp only [RV] at h2
      obtain ⟨k,_,_,hk,_⟩:=h2
      refine ⟨?_,by simp [ren1],by simp [ren1]⟩
      simp only [ren1]
      rw [renB_mu h hk]
      exact h1
    | tup vs=>exact absurd rfl (hn _)
    | _=>exact ⟨h1,(by simp [ren1]),(by simp [ren1])⟩
  | full n xs hl =>
    refine ⟨by simpa only [ren1,RV] using rl (.sl n xs .full) u hl hr,fun n' xs' fl e=>?_,by simp [ren1]⟩
    simp only [ren1,renF] at e
    cases e
    simp only [Top] at ht
    cases u <;> first | exact ht | (simp only [FlOK] at ht)
  | keep n xs i z hl hi hg =>
    refine ⟨by simpa only [ren1,RV] using rl (.sl n xs (.own i z)) u hl hr,fun n' xs' fl e=>?_,by simp [ren1]⟩
    simp only [ren1,renF] at e
    rw [if_neg hg] at e
    cases e
    simp only [Top] at ht
    cases u with
    | slice A n' c =>
      simp only [FlOK] at ht ⊢
      obtain ⟨h1,h2⟩:=ht
      refine ⟨h.mde i hi h1,?_⟩
      rcases h2 with h2 | h2 | ⟨k,o,lo,hi',e1,e2,e3,e4⟩
      · exact .inl (h.Dl i hi h2)
      · exact .inr (.inl h2)
      · cases hD : g.D i with
        | true=>exact .inl (h.Dl i hi hD)
        | false=>exact .inr (.inr ⟨k,o,lo,hi',e1,e2,h.T i _ hi hD e3,e4⟩)
    | _=>simp only [FlOK] at ht
  | give n xs i z c hl hc =>
    refine ⟨by simpa only [ren1,RV] using rl (.sl n xs (.own i z)) u hl hr,fun n' xs' fl e=>?_,by simp [ren1]⟩
    simp only [ren1,renF,if_true] at e
    cases e
    simp only [Top] at ht
    cases u with
    | slice A n' c' =>
      simp only [FlOK] at ht ⊢
      obtain ⟨h1,h2⟩:=ht
      refine ⟨h.mdx c,?_⟩
      rcases h2 with h2 | h2 | ⟨k,o,lo,hi',e1,e2,e3,e4⟩
      · rw [h.Dx c i hc] at h2; cases h2
      · exact .inr (.inl h2)
      · exact .inr (.inr ⟨k,o,lo,hi',e1,e2,by rw [h.Tx c i hc]; exact e3,e4⟩)
    | _=>simp only [FlOK] at ht
  | bor n xs fl hl =>
    refine ⟨by simpa only [ren1,RV] using rl (.sl n xs fl) u hl hr,fun n' xs' fl' e=>?_,by simp [ren1]⟩
    simp only [ren1,renF] at e
    cases e; trivial
  | nil c z =>
    simp only [RV] at hr
    subst hr
    refine ⟨by simp only [ren1,RV]; exact .inl ⟨⟨none,rfl⟩,by simp⟩,fun n' xs' fl' e=>?_,by simp [ren1]⟩
    simp only [ren1,renF,if_true] at e
    cases e
    simp only [FlOK]
    exact ⟨h.mdx c,.inr (.inl (by simp))⟩
  | nilb =>
    simp only [RV] at hr
    subst hr
    refine ⟨by simp only [ren1,RV]; exact .inl ⟨⟨none,rfl⟩,by simp⟩,fun n' xs' fl' e=>?_,by simp [ren1]⟩
    simp only [ren1,renF] at e
    cases e; trivial
  | any b =>
    simp only [RV] at hr
    exact ⟨by simp only [ren1,RV]; exact ⟨_,hr⟩,fun n' xs' fl' e=>(by cases e),fun vs e=>(by cases e)⟩
  | shut b off n c z xs hx hL hn hle hl =>
    refine ⟨?_,fun n' xs' fl' e=>(by simp only [ren1,renF] at e; cases e; trivial),by simp [ren1]⟩
    simp only [RV] at hr
    simp only [ren1,RV]
    obtain ⟨k,oo,c',hm,rfl,hcc,hnc,hoo⟩:=hr
    obtain ⟨us,h4,h5,_⟩:=h.hv.box_cells hm hx
    have hul:=h4.length
    right
    by_cases hc0 : c = 0
    · have hn0 : n = 0 := by omega
      subst hn0
      refine ⟨k,oo,c',[],rfl,Nat.zero_le _,?_,fun j hj=>by simp at hj⟩
      simp; exact RVs.nil
    · have : oo = off := by rcases hoo with h | h; · exact h
                            · exact absurd h hc0
      subst this
      refine ⟨k,oo,c',_,rfl,Nat.le_trans hnc hcc,RVs.relow (fun b k hb=>h.mu b k hb) h.G _ _ hl ((h4.drop oo).take (n * z)),fun j hj=>?_⟩
      rw [List.length_take,List.length_drop] at hj
      refine ⟨?_,h.Gl b xs k (oo + j) hL hn hm hx (by omega)⟩
      rw [List.getElem?_take,if_pos (by omega),List.getElem?_drop]
      exact h5 _ (by omega)
  | newp b o hb =>
    simp only [RV] at hr
    obtain ⟨k,hk,rfl⟩:=hr
    refine ⟨?_,by simp [ren1],by simp [ren1]⟩
    simp only [ren1,renB,if_true,RV]
    exact ⟨k,h.mub b k hb hk,rfl⟩
  | newv b o n c z hb =>
    simp only [RV] at hr
    obtain ⟨k,oo,c',hk,hu⟩:=hr
    refine ⟨?_,by simp [ren1],by simp [ren1]⟩
    simp only [ren1,renB,if_true,RV]
    exact ⟨k,oo,c',h.mub b k hb hk,hu⟩
theorem ExpL.rel (h : Hand N g gr σ w L Lc d dn xp bn) : ∀ {vs rs : List AV} {us : List Value},ExpL σ L xp bn vs rs → RVs g.μ g.G w vs us → (∀ (j n : Nat) (xs : List AV) (fl : Fl) (u : Value),vs[j]? = some (.sl n xs fl) → us[j]? = some u → FlOK g fl xs.length u) → (∀ (j : Nat) (ws : List AV),vs[j]? ≠ some (.tup ws)) →
    RVs gr.μ gr.G w (rs.map (ren1 Lc d dn)) us ∧ (∀ (j n : Nat) (xs : List AV) (fl : Fl) (u : Value),(rs.map (ren1 Lc d dn))[j]? = some (.sl n xs fl)→us[j]? = some u→FlOK gr fl xs.length u) ∧ (∀ (j : Nat) (ws : List AV),(rs.map (ren1 Lc d dn))[j]? ≠ some (.tup ws))
  | _,_,us,.nil,hr,_,_=>by
    simp only [RVs] at hr; subst hr
    exact ⟨RVs.nil,fun j n xs fl u hj=>by simp at hj,fun j ws hj=>by simp at hj⟩
  | _,_,us,.cons (x:=x) (y:=y) he hl,hr,ht,hn=>by
    simp only [RVs] at hr
    obtain ⟨u,us',rfl,h1,h2⟩:=hr
    obtain ⟨e1,e2,e3⟩:=he.rel h h1 (by
      cases x with
      | sl n xs fl=>exact ht 0 n xs fl u rfl rfl
      | tup ws=>exact absurd rfl (hn 0 ws)
      | _=>trivial)
    obtain ⟨f1,f2,f3⟩:=ExpL.rel h hl h2 (fun j n xs fl u hj hu=>ht (j + 1) n xs fl u (by simpa using hj) (by simpa using hu)) (fun j ws hj=>hn (j + 1) ws (by simpa using hj))
    refine ⟨by simp only [List.map_cons,RVs]; exact ⟨u,us',rfl,e1,f1⟩,fun j n xs fl u' hj hu=>?_,fun j ws hj=>?_⟩
    · cases j with
      | zero=>simp at hj hu; subst hu; exact e2 n xs fl hj
      | succ j=>exact f2 j n xs fl u' (by simpa using hj) (by simpa using hu)
    · cases j with
      | zero=>simp at hj; exact e3 ws hj
      | succ j=>exact f3 j ws (by simpa using hj)
theorem ExpV.ok (hd : dn ≠ 0) {v r : AV} (he : ExpV σ L xp bn v r) : (∀ n ys i z,ren1 Lc d dn r = .sl n ys (.own i z)→i.gen ≠ 0) ∧ ∀ vs,ren1 Lc d dn r ≠ .tup vs:=by
  cases he with
  | low _ hl hf hb hn =>
    cases v with
    | sl n xs fl =>
      cases fl with
      | own i z=>exact absurd rfl (hf _ _ _ _)
      | _=>exact ⟨by simp [ren1,renF],by simp [ren1]⟩
    | tup vs=>exact absurd rfl (hn _)
    | _=>exact ⟨by simp [ren1],by simp [ren1]⟩
  | keep n xs i z hl hi hg =>
    refine ⟨fun n' ys i' z' e=>?_,by simp [ren1]⟩
    simp only [ren1,renF] at e
    rw [if_neg hg] at e
    cases e; exact hg
  | give n xs i z c hl hc =>
    refine ⟨fun n' ys i' z' e=>?_,by simp [ren1]⟩
    simp only [ren1,renF,if_true] at e
    cases e; exact hd
  | nil c z =>
    refine ⟨fun n' ys i' z' e=>?_,by simp [ren1]⟩
    simp only [ren1,renF,if_true] at e
    cases e; exact hd
  | _=>exact ⟨by simp [ren1,renF],by simp [ren1]⟩
theorem ExpL.ok (hd : dn ≠ 0) : ∀ {vs rs : List AV},ExpL σ L xp bn vs rs → CellsOK (rs.map (ren1 Lc d dn))
  | _,_,.nil=>fun x hx=>by simp at hx
  | _,_,.cons h t=>fun x hx=>by
    rcases List.mem_cons.1 hx with rfl | hx
    · exact h.ok hd
    · exact ExpL.ok hd t x hx
end
end Go.Abs
namespace Go.Abs
set_option linter.unusedSimpArgs false
set_option linter.unusedVariables false
open Go Go.RowKit
theorem xp_find {xp : List (Nat × Id)} (hn : (xp.map (·.1)).Nodup) {c : Nat} {i : Id} (h : (c,i) ∈ xp) : xp.find? (fun q=>q.1 == c) = some (c,i):=lookup_of hn (c,i) h
theorem ExpL.notup {σ : AS} {L : Nat} {xp : List (Nat × Id)} {bn : Option Bx} {xs ys : List AV} (he : ExpL σ L xp bn xs ys) : ∀ (j : Nat) (ws : List AV),xs[j]? ≠ some (.tup ws):=by
  induction he with
  | nil=>intro j ws hj; simp at hj
  | cons hx _ ih =>
    intro j ws hj
    cases j with
    | zero =>
      simp at hj; subst hj
      cases hx with
      | low _ _ _ _ hn=>exact hn _ rfl
    | succ j=>exact ih j ws (by simpa using hj)
theorem SoundG.of {P : Program} {f : FuncId} {fn : Func} {c : Code} {gf : List AV → Boxes → (Id → Bool) → Option CR} (E : Env) (hE : EnvOK P E) (hf : P.funcs[f]? = some fn) (hb : fn.body = some c)
    (hcall : ∀ (args : Array Value) (w : World),(callFunc f args).run P w = .ok (.enter f args) w)
    (h : ∀ (args : List AV) (bx : Boxes) (us : Id → Bool) (cr : CR),gf args bx us = some cr → args.length ≤ fn.ntmps ∧
      ∀ N : Ent,N.N = fn.ntmps→(∀ b,(bx b).isSome→b.lvl < N.lvl ∧ ∀ l s n,renB l s n b = b)→(∀ i,us i = true→i.lvl < N.lvl)→(∀ b cs,bx b = some cs→lowL N.lvl cs ∧ ∀ x ∈ cs,(∀ n ys i z,x = .sl n ys (.own i z)→i.lvl < N.lvl ∧ i.gen ≠ 0) ∧ ∀ vs,x ≠ .tup vs)→EntOK E N→AW P N c (endGQ E.te fn.results.toList N.lvl bx us cr) (startG args bx us)) : SoundG P E.glob f gf:=by
  refine ⟨hcall,fun Nc gc box w hvc hglob args vals cr v d hargs htops hgf hcv=>?_⟩
  obtain ⟨hlen,hc⟩:=h args box gc.D cr hgf
  have hvl : vals.length = args.length:=hargs.length
  refine calls_of_wp hf hb ?_
  let N : Ent:={ lvl:=Nc.lvl + 1,N:=fn.ntmps,w0:=w,μ0:=gc.μ,G0:=gc.G,T0:=gc.T,D0:=gc.D,K0:=made gc }
  let g0 : Ghost:={ L:=Nc.lvl + 1,K:=made gc,μ:=gc.μ,G:=gc.G,T:=gc.T,U:=fun _=>0,D:=gc.D }
  have hmuL : ∀ b k,gc.μ b = some k→b.lvl ≤ Nc.lvl:=fun b k hb=>(hvc.lv b k hb).elim (fun h=>Nat.le_of_lt (hvc.low b k h).1) (fun h=>Nat.le_of_eq h.1)
  have hbx : ∀ b,(box b).isSome→b.lvl < N.lvl ∧ ∀ l s n,renB l s n b = b:=fun b hb=>by
    have:=hvc.dom b; rw [hb] at this
    obtain ⟨k,hk⟩:=Option.isSome_iff_exists.1 this.symm
    refine ⟨Nat.lt_succ_of_le (hmuL b k hk),fun l s n=>?_⟩
    obtain ⟨l',s',n'⟩:=b
    simp only [renB]
    rw [if_neg]
    rintro rfl
    rw [hvc.nz] at hk; cases hk
  have hus : ∀ i,gc.D i = true→i.lvl < N.lvl:=fun i hi=>Nat.lt_succ_of_le (hvc.madeLow (hvc.dgen i hi))
  have hbf : ∀ b cs,box b = some cs→lowL N.lvl cs ∧ ∀ x ∈ cs,(∀ n ys i z,x = .sl n ys (.own i z)→i.lvl < N.lvl ∧ i.gen ≠ 0) ∧ ∀ vs,x ≠ .tup vs:=fun b cs hb=>by
    have hd:=hvc.dom b
    rw [hb] at hd
    obtain ⟨k,hk⟩:=Option.isSome_iff_exists.1 hd.symm
    obtain ⟨us,h1,h2,_⟩:=hvc.box_cells hk hb
    refine ⟨RVs.low (fun b k h=>Nat.lt_succ_of_le (hmuL b k h)) cs us h1,fun x hx=>?_⟩
    obtain ⟨h3,h4⟩:=hvc.cok b cs hb x hx
    refine ⟨fun n ys i z e=>?_,h4⟩
    subst e
    refine ⟨?_,h3 n ys i z rfl⟩
    obtain ⟨j,hj⟩:=List.mem_iff_getElem?.1 hx
    have hjl : j < us.length:=by rw [h1.length]; exact (List.getElem?_eq_some_iff.1 hj).1
    have hfl:=hvc.ctop b k cs hk hb j n ys _ us[j] hj (by rw [h2 j hjl]; simp [hjl])
    have : made gc i:=by
      cases hu0 : us[j] <;> rw [hu0] at hfl <;> simp only [FlOK] at hfl
      exact hfl.1
    exact Nat.lt_succ_of_le (hvc.madeLow this)
  have hmk0 : ∀ i,made gc i→made g0 i:=fun i hi=>.inr (.inl hi)
  have hfl0 : ∀ fl m u,FlOK gc fl m u→FlOK g0 fl m u:=by
    intro fl m u hfl
    cases fl with
    | bor=>trivial
    | full=>cases u <;> first | exact hfl | (simp only [FlOK] at hfl)
    | own i z =>
      cases u with
      | slice A n c=>simp only [FlOK] at hfl ⊢; exact ⟨hmk0 i hfl.1,hfl.2⟩
      | _=>simp only [FlOK] at hfl
    | lit i =>
      cases u with
      | slice A n c=>simp only [FlOK] at hfl ⊢; exact ⟨hmk0 i hfl.1,hfl.2⟩
      | _=>simp only [FlOK] at hfl
  have hN : EntOK E N:=⟨hvc.cell,hglob⟩
  have hv0 : Valid N g0 box w :=
    { lev := rfl
      kn:=rfl
      klow:=fun i hi=>Nat.lt_succ_of_le (hvc.madeLow hi)
      chg:=⟨rfl,rfl,rfl,Nat.le_refl _,fun _ _ _=>rfl⟩
      sub:=fun _ _ h=>h
      keep:=fun _ _ _=>rfl
      old:=fun _ _ h _=>.inl h
      cell:=hvc.cell
      gmu:=hvc.gmu
      ext:=fun _ _ h=>h
      kext:=fun _ _ h=>nomatch h
      lv:=fun _ _ h=>.inl h
      low:=fun b k h=>⟨Nat.lt_succ_of_le (hmuL b k h),hvc.muLt h⟩
      nz:=hvc.nz
      fresh:=fun s n k hm=>by have h1 : Nc.lvl + 1 ≤ Nc.lvl:=hmuL _ _ hm; omega
      inj:=hvc.inj
      dom:=hvc.dom
      cont:=hvc.cont
      cok:=hvc.cok
      ctop:=fun b k xs hm hx j n ys fl u hj hu=>hfl0 _ _ _ (hvc.ctop b k xs hm hx j n ys fl u hj hu)
      tail:=fun i k lo hi ht=>by
        obtain ⟨t1,t2,t3,t4⟩:=hvc.tail i k lo hi ht
        exact ⟨.inr ⟨i,lo,hi,ht,Nat.le_refl _,Nat.le_refl _⟩,t2,hmk0 i t3,t4⟩
      tnew:=fun i r hr=>by
        obtain ⟨k,lo,hi⟩:=r
        exact .inr ⟨Nat.lt_succ_of_le (hvc.madeLow (hvc.tail i k lo hi hr).2.2.1),hr⟩
      tkeep:=fun _ _ h=>.inl h
      dgen:=fun i hi=>hmk0 i (hvc.dgen i hi)
      dkeep:=fun _ h=>h
      tinj:=hvc.tinj }
  have hs0 : Sim N (startG args box gc.D) { tmps:=vals.toArray ++ Array.replicate (fn.ntmps - vals.toArray.size) undef,defers:=[] } w:=by
    refine ⟨g0,hv0,rfl,rfl,?_,rfl,fun i=>?_⟩
    · show (vals.toArray ++ Array.replicate _ undef).size = fn.ntmps
      simp; omega
    · have : (vals.toArray ++ Array.replicate (fn.ntmps - vals.toArray.size) undef).getD i undef = vals[i]?.getD undef:=by
        rw [Array.getD_eq_getD_getElem?,Array.getElem?_append]
        split
        · simp
        · rename_i hge
          simp only [List.size_toArray,Nat.not_lt] at hge
          rw [List.getElem?_eq_none hge,Array.getElem?_replicate]
          split <;> rfl
      show RV _ _ _ _ ((vals.toArray ++ _).getD i undef) ∧ Top _ _ ((vals.toArray ++ _).getD i undef)
      rw [this]
      simp only [startG]
      cases ha : args[i]? with
      | none =>
        have : vals[i]? = none:=List.getElem?_eq_none (by rw [hvl]; simpa using ha)
        rw [this]
        exact ⟨by simp only [RV]; rfl,trivial⟩
      | some v =>
        obtain ⟨u,h1,h2⟩:=hargs.get i v ha
        have h3:=htops i v u ha h1
        rw [h1]
        cases v with
        | tup vs=>exact ⟨by simp only [RV],trivial⟩
        | sl n xs fl=>exact ⟨h2,hfl0 _ _ _ h3⟩
        | _=>exact ⟨h2,trivial⟩
  refine wp_mono (hc N rfl hbx hus hbf hN _ _ hs0) ?_
  rintro e a' w' ⟨x,σ,rfl,hq,hs⟩
  have hq' : EndG E.te fn.results.toList N.lvl box gc.D cr σ:=by cases x <;> first | exact hq | exact hq.elim
  obtain ⟨xp,bn,vs,rv,hvs,hrv,hcv',hnd1,hnd2,hxp,hbxs,hwl,hcont,hused,huse⟩:=hq'.ex
  obtain ⟨g,hv,hU,hD,hn,hdf,hsl⟩:=hs
  obtain ⟨us,r1,r2,r3⟩:=rawsRes_rel hE.te hv hsl hvs
  have hres : (results fn a'.tmps).run P w' = .ok (if h : us.length = 1 then us[0] else .tuple us.toArray) w':=by
    generalize hl : fn.results.toList = l at r1
    have hfr : fn.results = l.toArray:=by rw [← hl]
    unfold results
    rw [hfr,List.mapM_toArray,map_eq_pure_bind,Sem.run_bind,Sem.run_bind]
    erw [r1]
    simp only [Result.andThen_ok,Sem.run_pure,List.size_toArray]
    rfl
  -- names
  obtain ⟨dn,hdn⟩ : ∃ dn,dn = gc.U d + 1:=⟨_,rfl⟩
  obtain ⟨nb,hnb⟩ : ∃ nb,nb = Bx.own Nc.lvl d dn:=⟨_,rfl⟩
  have hnbμ : gc.μ nb = none:=by
    cases e : gc.μ nb with
    | none=>rfl
    | some k=>rw [hnb,hdn] at e; have:=hvc.fresh _ _ _ e; omega
  have hnbx : box nb = none:=by
    have:=hvc.dom nb
    rw [hnbμ] at this
    simpa using this
  have hnl : N.lvl = Nc.lvl + 1:=rfl
  have gmu0 : ∀ b k,b.lvl < N.lvl→g.μ b = some k→gc.μ b = some k:=fun b k hb hm=>(hv.lv b k hm).elim (fun h=>h) (fun h=>by omega)
  obtain ⟨kb,hkb⟩ : ∃ kb,kb = bn.bind g.μ:=⟨_,rfl⟩
  have hkb1 : ∀ k,kb = some k→∃ b,bn = some b ∧ b.lvl = N.lvl ∧ g.μ b = some k ∧ w.heap.size ≤ k:=by
    intro k hk
    rw [hkb] at hk
    cases hbn : bn with
    | none=>rw [hbn] at hk; cases hk
    | some b =>
      rw [hbn] at hk hcont
      simp only [Option.bind_some] at hk
      refine ⟨b,rfl,hcont.1,hk,(hv.lv b k hk).elim (fun h=>?_) (fun h=>h.2)⟩
      have:=(hv.low b k h).1
      rw [hcont.1] at this; omega
  let gr : Ghost :=
    { L := Nc.lvl
      K:=gc.K
      μ:=fun b=>if b = nb then kb else gc.μ b
      G:=fun k o=>g.G k o ∨ ∃ b xs,b.lvl = N.lvl ∧ some b ≠ bn ∧ g.μ b = some k ∧ σ.box b = some xs ∧ o < xs.length
      T:=fun i=>if i.lvl = Nc.lvl ∧ i.slot = d ∧ i.gen = dn then (xp.find? fun q=>q.1 == i.comp).bind fun q=>g.T q.2 else if g.D i = true then none else gc.T i
      U:=upd gc.U d dn
      D:=useL gc.D cr.use }
  have hmkr : ∀ i,made gc i→made gr i:=by
    intro i hi
    unfold made at hi ⊢
    rcases hi with ⟨h1,h2⟩ | h1 | ⟨h1,h2⟩
    · exact .inl ⟨h1,by rw [hvc.lev] at h2; exact h2⟩
    · exact .inr (.inl h1)
    · refine .inr (.inr ⟨by rw [hvc.lev] at h1; exact h1,?_⟩)
      show i.gen ≤ upd gc.U d dn i.slot
      unfold upd; split
      · rename_i e; rw [e] at h2; omega
      · exact h2
  have hmkn : ∀ c,made gr ⟨Nc.lvl,d,c,dn⟩:=fun c=>.inr (.inr ⟨rfl,by show dn ≤ upd gc.U d dn d; simp [upd]⟩)
  have hunm : ∀ c,¬ made gc ⟨Nc.lvl,d,c,dn⟩:=fun c=>hvc.unmade (by omega)
  have hDr : ∀ i,i.lvl < N.lvl→gr.D i = g.D i:=fun i hi=>by
    show useL gc.D cr.use i = _
    rw [← hused i hi,hD]
  have hDn : ∀ c,g.D ⟨Nc.lvl,d,c,dn⟩ = false:=fun c=>by
    cases e : g.D ⟨Nc.lvl,d,c,dn⟩ with
    | false=>rfl
    | true =>
      have hm:=hv.dgen _ e
      unfold made at hm
      rw [hv.lev,hv.kn] at hm
      rcases hm with ⟨h1,_⟩ | h1 | ⟨h1,_⟩
      · have h1 : dn = 0 := h1
        omega
      · exact absurd h1 (hunm c)
      · have h1 : Nc.lvl = Nc.lvl + 1 := h1
        omega
  have hgT : ∀ i r,i.lvl < N.lvl→g.D i = false→gc.T i = some r→gr.T i = some r:=by
    intro i r hi hd ht
    show (if _ then _ else _) = _
    rw [if_neg,if_neg (by rw [hd]; simp)]
    · exact ht
    · rintro ⟨e1,e2,e3⟩
      obtain ⟨l,s,c,n⟩:=i
      simp only at e1 e2 e3
      subst e1; subst e2; subst e3
      obtain ⟨k,lo,hi'⟩:=r
      exact hunm c (hvc.tail _ k lo hi' ht).2.2.1
  have hH : Hand N g gr σ w' N.lvl Nc.lvl d dn xp bn :=
    { hv := hv
      lvl:=rfl
      mu:=fun b k hb hm=>by
        show (if b = nb then kb else gc.μ b) = some k
        have:=gmu0 b k hb hm
        rw [if_neg (fun e=>by rw [e,hnbμ] at this; cases this)]
        exact this
      mub:=fun b k hb hm=>by
        show (if _ = nb then kb else _) = some k
        rw [if_pos hnb.symm,hkb,hb]; exact hm
      G:=fun k o h=>.inl h
      Gl:=fun b xs k o h1 h2 h3 h4 h5=>.inr ⟨b,xs,h1,h2,h3,h4,h5⟩
      T:=fun i r hi hd ht=>hgT i r hi hd ((hv.tnew i r ht).elim (fun h=>by omega) (fun h=>h.2))
      Tx:=fun c i hc=>by
        show (if _ then _ else _) = _
        rw [if_pos ⟨rfl,rfl,rfl⟩]
        simp only
        rw [xp_find hnd1 hc]; rfl
      Dl:=fun i hi hd=>by rw [hDr i hi]; exact hd
      Dx:=fun c i hc=>by rw [hD]; exact (hxp _ hc).2
      mde:=fun i hi hm=>by
        unfold made at hm
        rw [hv.lev,hv.kn] at hm
        rcases hm with ⟨h1,h2⟩ | h1 | ⟨h1,_⟩
        · exact .inl ⟨h1,by show i.lvl ≤ Nc.lvl; omega⟩
        · exact hmkr i h1
        · omega
      mdx:=hmkn
      ty:=hD }
  -- boxes
  obtain ⟨box',hbox'⟩ : ∃ box',box' = applyW (match (cr.gr Nc.lvl d dn v).cont with | some c=>updB box nb c | none=>box) (cr.gr Nc.lvl d dn v).wr:=⟨_,rfl⟩
  have hat : ∀ b,box' b = match wrAt cr.wr b with | some c=>some (c.map (ren1 Nc.lvl d dn)) | none=>if b = nb then cr.cont.map (·.map (ren1 Nc.lvl d dn)) else box b:=by
    intro b
    rw [hbox']
    simp only [CR.gr]
    rw [applyW_at cr.wr (fun xs=>xs.map (ren1 Nc.lvl d dn))]
    cases wrAt cr.wr b with
    | some c=>rfl
    | none =>
      cases cr.cont with
      | none =>
        simp only [Option.map_none]
        split
        · rename_i e; rw [e]; exact hnbx
        · rfl
      | some c=>simp only [Option.map_some,updB]
  have hwnb : wrAt cr.wr nb = none:=by
    cases e : wrAt cr.wr nb with
    | none=>rfl
    | some ys =>
      have:=hbxs nb (by rw [hnb]; exact Nat.lt_succ_self _)
      rw [e] at this
      rw [hnbx] at this; cases this.1
  have hlowbox : ∀ b k xs,gc.μ b = some k→box b = some xs→∃ us,lowL N.lvl xs ∧ RVs gc.μ gc.G w xs us:=by
    intro b k xs hm hx
    obtain ⟨us,h1,_⟩:=hvc.box_cells hm hx
    exact ⟨us,RVs.low (fun b k h=>Nat.lt_succ_of_le (hmuL b k h)) xs us h1,h1⟩
  -- a box that is handed over
  have hexp : ∀ b k xs ys,g.μ b = some k → σ.box b = some xs → ExpL σ N.lvl xp bn xs ys → (∀ (j : Nat) (ws : List AV),xs[j]? ≠ some (.tup ws)) → Holds gr.μ gr.G w' k (ys.map (ren1 Nc.lvl d dn)) ∧
      ∀ (j n : Nat) (zs : List AV) (fl : Fl) (u : Value),(ys.map (ren1 Nc.lvl d dn))[j]? = some (.sl n zs fl)→at_ w' k j = some u→FlOK gr fl zs.length u:=by
    intro b k xs ys hm hx he hnt
    obtain ⟨cs,el,us',h1,h2,h3,h4⟩:=hv.cont b k xs hm hx
    have hatj : ∀ j,j < us'.length→at_ w' k j = us'[j]?:=fun j hj=>by rw [at_row h1]; exact h3 j hj
    obtain ⟨e1,e2,_⟩:=ExpL.rel hH he h4 (fun j n zs fl u hj hu=>by
      have hjl:=(List.getElem?_eq_some_iff.1 hu).1
      exact hv.ctop b k xs hm hx j n zs fl u hj (by rw [hatj j hjl]; exact hu)) hnt
    refine ⟨⟨cs,el,us',h1,h2,h3,e1⟩,fun j n zs fl u hj hu=>e2 j n zs fl u hj ?_⟩
    have hjl : j < us'.length:=by rw [e1.length]; exact (List.getElem?_eq_some_iff.1 hj).1
    rw [← hatj j hjl]; exact hu
  have hnotup : ∀ b k xs,g.μ b = some k→σ.box b = some xs→∀ ys,ExpL σ N.lvl xp bn xs ys→∀ (j : Nat) (ws : List AV),xs[j]? ≠ some (.tup ws):=fun _ _ _ _ _ _ he=>he.notup
  have hvr : Valid Nc gr box' w' :=
    { lev := rfl
      kn:=hvc.kn
      klow:=hvc.klow
      chg:=by
        refine ⟨hv.chg.os.trans hvc.chg.os,hv.chg.tape.trans hvc.chg.tape,hv.chg.output.trans hvc.chg.output,Nat.le_trans hvc.chg.size hv.chg.size,fun i hi hn=>?_⟩
        refine (hv.chg.block i (Nat.lt_of_lt_of_le hi hvc.chg.size) ?_).trans (hvc.chg.block i hi hn)
        rintro (⟨b,hb⟩ | ⟨j,lo,hi',hj⟩)
        · rcases hvc.lv b i hb with h | ⟨_,h⟩
          · exact hn (.inl ⟨b,h⟩)
          · omega
        · rcases (hvc.tail j i lo hi' hj).1 with h | ⟨j',lo',hi'',h,_⟩
          · omega
          · exact hn (.inr ⟨j',lo',hi'',h⟩)
      sub:=fun k o h=>.inl (hv.sub k o (hvc.sub k o h))
      keep:=fun k o h=>(hv.keep k o (hvc.sub k o h)).trans (hvc.keep k o h)
      old:=by
        rintro k o (h | ⟨b,xs,h1,h2,h3,h4,h5⟩) hk
        · rcases hv.old k o h (Nat.lt_of_lt_of_le hk hvc.chg.size) with h | ⟨i,lo,hi,h,h1,h2⟩
          · exact hvc.old k o h hk
          · rcases (hvc.tail i k lo hi h).1 with h3 | ⟨j,lo',hi',h3,h4,h5⟩
            · omega
            · exact .inr ⟨j,lo',hi',h3,by omega,by omega⟩
        · rcases hv.lv b k h3 with h | ⟨_,h⟩
          · have:=(hv.low b k h).1; omega
          · have h : w.heap.size ≤ k := h
            have:=hvc.chg.size; omega
      cell:=by
        rintro k o (h | ⟨b,xs,h1,h2,h3,h4,h5⟩)
        · exact hv.cell k o h
        · obtain ⟨us2,h6,h7,_⟩ := hv.box_cells h3 h4
          rw [h7 o (by rw [h6.length]; exact h5)]
          have : o < us2.length:=by rw [h6.length]; exact h5
          simp [this]
      gmu:=by
        intro k o b hg hm
        change (if b = nb then kb else gc.μ b) = some k at hm
        have key : ∃ b',g.μ b' = some k ∧ (b'.lvl < N.lvl ∨ bn = some b'):=by
          split at hm
          · obtain ⟨b',h1,_,h3,_⟩ := hkb1 k hm
            exact ⟨b',h3,.inr h1⟩
          · exact ⟨b,hv.ext b k hm,.inl (Nat.lt_succ_of_le (hmuL b k hm))⟩
        obtain ⟨b',hb',hlow⟩:=key
        rcases hg with hg | ⟨b2,xs,h1,h2,h3,h4,h5⟩
        · exact hv.gmu k o b' hg hb'
        · have := hv.inj b2 b' k h3 hb'
          subst this
          rcases hlow with h | h
          · omega
          · exact h2 h.symm
      ext:=fun b k h=>by
        have h:=hvc.ext b k h
        show (if b = nb then kb else gc.μ b) = some k
        rw [if_neg (fun e=>by rw [e,hnbμ] at h; cases h)]; exact h
      kext:=fun b k h=>by
        have h:=hvc.kext b k h
        show (if b = nb then kb else gc.μ b) = some k
        rw [if_neg (fun e=>by rw [e,hnbμ] at h; cases h)]; exact h
      lv:=fun b k hm=>by
        change (if b = nb then kb else gc.μ b) = some k at hm
        split at hm
        · rename_i e
          obtain ⟨_,_,_,_,h⟩:=hkb1 k hm
          exact .inr ⟨by rw [e,hnb]; rfl,Nat.le_trans hvc.chg.size h⟩
        · exact hvc.lv b k hm
      low:=hvc.low
      nz:=fun l s=>by
        show (if _ = nb then kb else _) = none
        rw [if_neg (fun e=>by rw [hnb] at e; injection e; omega)]
        exact hvc.nz l s
      fresh:=fun s n k hm=>by
        change (if _ = nb then kb else _) = some k at hm
        show n ≤ upd gc.U d dn s
        split at hm
        · rename_i e; rw [hnb] at e; injection e with e1 e2 e3
          rw [e2,e3]; simp [upd]
        · have := hvc.fresh s n k hm
          unfold upd; split
          · rename_i e; rw [e] at this; omega
          · exact this
      inj:=fun b b' k hm hm'=>by
        change (if _ = nb then kb else _) = some k at hm
        change (if _ = nb then kb else _) = some k at hm'
        split at hm <;> split at hm'
        · rename_i e e'; rw [e,e']
        · obtain ⟨_,_,_,_,h⟩:=hkb1 k hm; have:=hvc.muLt hm'; omega
        · obtain ⟨_,_,_,_,h⟩:=hkb1 k hm'; have:=hvc.muLt hm; omega
        · exact hvc.inj b b' k hm hm'
      dom:=fun b=>by
        show (box' b).isSome = (if b = nb then kb else gc.μ b).isSome
        rw [hat b]
        by_cases e : b = nb
        · rw [e,hwnb]
          simp only [if_true]
          rw [hkb]
          cases hbn : bn with
          | none=>rw [hbn] at hcont; simp only at hcont; rw [hcont]; rfl
          | some b0 =>
            rw [hbn] at hcont
            obtain ⟨_,xs,ys,h1,h2,_⟩:=hcont
            have hd0:=hv.dom b0
            rw [h1] at hd0
            rw [h2]
            simp only [Option.map_some,Option.isSome_some,Option.bind_some]
            exact hd0
        · rw [if_neg e]
          cases hw : wrAt cr.wr b with
          | none=>simp only [if_neg e]; exact hvc.dom b
          | some ys =>
            have:=hbxs b (hwl b ys hw)
            rw [hw] at this
            rw [if_neg e,← hvc.dom b,this.1]; rfl
      cont:=fun b k xs hm hx=>by
        change (if b = nb then kb else gc.μ b) = some k at hm
        rw [hat b] at hx
        by_cases e : b = nb
        · rw [if_pos e] at hm
          obtain ⟨b0,h1,h2,h3,h4⟩:=hkb1 k hm
          rw [e,hwnb] at hx
          simp only [if_true] at hx
          rw [h1] at hcont
          obtain ⟨_,xs0,ys0,h5,h6,h7⟩:=hcont
          rw [h6] at hx
          simp only [Option.map_some,Option.some.injEq] at hx
          subst hx
          rw [← h1] at h7
          exact (hexp b0 k xs0 ys0 h3 h5 h7 (hnotup b0 k xs0 h3 h5 ys0 h7)).1
        · rw [if_neg e] at hm
          have hgm:=hv.ext b k hm
          have hbl : b.lvl < N.lvl:=Nat.lt_succ_of_le (hmuL b k hm)
          have hb0:=hbxs b hbl
          cases hw : wrAt cr.wr b with
          | none =>
            rw [hw] at hx hb0
            simp only [if_neg e] at hx
            simp only at hb0
            obtain ⟨cs,el,us',h1,h2,h3,h4⟩:=hv.cont b k xs hgm (by rw [hb0]; exact hx)
            obtain ⟨_,hlow,_⟩:=hlowbox b k xs hm hx
            exact ⟨cs,el,us',h1,h2,h3,RVs.relow (fun b k hb=>hH.mu b k hb) hH.G xs us' hlow h4⟩
          | some ys =>
            rw [hw] at hx hb0
            simp only [Option.some.injEq] at hx
            subst hx
            obtain ⟨_,xs0,h5,h7⟩:=hb0
            exact (hexp b k xs0 ys hgm h5 h7 (hnotup b k xs0 hgm h5 ys h7)).1
      cok:=fun b xs hx=>by
        rw [hat b] at hx
        by_cases e : b = nb
        · rw [e,hwnb] at hx
          simp only [if_true] at hx
          cases hbn : bn with
          | none=>rw [hbn] at hcont; simp only at hcont; rw [hcont] at hx; cases hx
          | some b0 =>
            have hcont':=hcont
            rw [hbn] at hcont'
            obtain ⟨_,xs0,ys0,h5,h6,h7⟩:=hcont'
            rw [h6] at hx
            simp only [Option.map_some,Option.some.injEq] at hx
            subst hx
            exact h7.ok (by omega)
        · cases hw : wrAt cr.wr b with
          | none=>rw [hw] at hx; simp only [if_neg e] at hx; exact hvc.cok b xs hx
          | some ys =>
            have hb0:=hbxs b (hwl b ys hw)
            rw [hw] at hx hb0
            simp only [Option.some.injEq] at hx
            subst hx
            obtain ⟨_,xs0,h5,h7⟩:=hb0
            exact h7.ok (by omega)
      ctop:=fun b k xs hm hx j n zs fl u hj hu=>by
        change (if b = nb then kb else gc.μ b) = some k at hm
        rw [hat b] at hx
        by_cases e : b = nb
        · rw [if_pos e] at hm
          obtain ⟨b0,h1,h2,h3,h4⟩:=hkb1 k hm
          rw [e,hwnb] at hx
          simp only [if_true] at hx
          rw [h1] at hcont
          obtain ⟨_,xs0,ys0,h5,h6,h7⟩:=hcont
          rw [h6] at hx
          simp only [Option.map_some,Option.some.injEq] at hx
          subst hx
          rw [← h1] at h7
          exact (hexp b0 k xs0 ys0 h3 h5 h7 (hnotup b0 k xs0 h3 h5 ys0 h7)).2 j n zs fl u hj hu
        · rw [if_neg e] at hm
          have hgm:=hv.ext b k hm
          have hbl : b.lvl < N.lvl:=Nat.lt_succ_of_le (hmuL b k hm)
          have hb0:=hbxs b hbl
          cases hw : wrAt cr.wr b with
          | none =>
            rw [hw] at hx hb0
            simp only [if_neg e] at hx
            simp only at hb0
            have hfl:=hv.ctop b k xs hgm (by rw [hb0]; exact hx) j n zs fl u hj hu
            obtain ⟨us0,h1,h2,_⟩:=hvc.box_cells hm hx
            have hjl : j < us0.length:=by rw [h1.length]; exact (List.getElem?_eq_some_iff.1 hj).1
            have hflc:=hvc.ctop b k xs hm hx j n zs fl us0[j] hj (by rw [h2 j hjl]; simp [hjl])
            cases fl with
            | bor=>trivial
            | full=>cases u <;> first | exact hfl | (simp only [FlOK] at hfl)
            | own i z =>
              have hml : made gc i:=by
                cases hu0 : us0[j] <;> rw [hu0] at hflc <;> simp only [FlOK] at hflc
                exact hflc.1
              have hil : i.lvl < N.lvl:=Nat.lt_succ_of_le (hvc.madeLow hml)
              cases u with
              | slice A n' c' =>
                simp only [FlOK] at hfl ⊢
                refine ⟨hmkr i hml,?_⟩
                rcases hfl.2 with h5 | h5 | ⟨k',o,lo,hi',e1,e2,e3,e4⟩
                · exact .inl (hH.Dl i hil h5)
                · exact .inr (.inl h5)
                · cases hDi : g.D i with
                  | true=>exact .inl (hH.Dl i hil hDi)
                  | false=>exact .inr (.inr ⟨k',o,lo,hi',e1,e2,hH.T i _ hil hDi e3,e4⟩)
              | _=>simp only [FlOK] at hfl
            | lit i =>
              have hml : made gc i:=by
                cases hu0 : us0[j] <;> rw [hu0] at hflc <;> simp only [FlOK] at hflc
                exact hflc.1
              have hil : i.lvl < N.lvl:=Nat.lt_succ_of_le (hvc.madeLow hml)
              cases u with
              | slice A n' c' =>
                simp only [FlOK] at hfl ⊢
                refine ⟨hmkr i hml,hfl.2.1,?_⟩
                rcases hfl.2.2 with h5 | ⟨k',o,lo,e1,e3⟩
                · exact .inl (hH.Dl i hil h5)
                · cases hDi : g.D i with
                  | true=>exact .inl (hH.Dl i hil hDi)
                  | false=>exact .inr ⟨k',o,lo,e1,hH.T i _ hil hDi e3⟩
              | _=>simp only [FlOK] at hfl
          | some ys =>
            rw [hw] at hx hb0
            simp only [Option.some.injEq] at hx
            subst hx
            obtain ⟨_,xs0,h5,h7⟩:=hb0
            exact (hexp b k xs0 ys hgm h5 h7 (hnotup b k xs0 hgm h5 ys h7)).2 j n zs fl u hj hu
      tail:=fun i k lo hi ht=>by
        have gG : ∀ i0,g.T i0 = some (k,lo,hi)→k < w'.heap.size ∧ lo ≤ hi ∧ (∀ o,lo ≤ o→o < hi→(at_ w' k o).isSome ∧ w'.frozen? ⟨k,o,none⟩ = false ∧ ¬ gr.G k o) ∧ (∀ b,gr.μ b ≠ some k) ∧ (Nc.w0.heap.size ≤ k ∨ ∃ j lo' hi',Nc.T0 j = some (k,lo',hi') ∧ lo' ≤ lo ∧ hi ≤ hi'):=by
          intro i0 h0
          obtain ⟨t1,t2,t3,t4,t5,t6,t7⟩:=hv.tail i0 k lo hi h0
          refine ⟨t2,t5,fun o h1 h2=>?_,fun b hm=>?_,?_⟩
          · obtain ⟨f1,f2,f3⟩ := t6 o h1 h2
            refine ⟨f1,f2,?_⟩
            rintro (h | ⟨b,xs,_,_,h3,_⟩)
            · exact f3 h
            · exact t7 b h3
          · change (if b = nb then kb else gc.μ b) = some k at hm
            split at hm
            · obtain ⟨b0,_,_,h3,_⟩ := hkb1 k hm
              exact t7 b0 h3
            · exact t7 b (hv.ext b k hm)
          · rcases t1 with t1 | ⟨j,lo',hi',h1,h2,h3⟩
            · exact .inl (Nat.le_trans hvc.chg.size t1)
            · rcases (hvc.tail j k lo' hi' h1).1 with h | ⟨j',lo'',hi'',h4,h5,h6⟩
              · exact .inl h
              · exact .inr ⟨j',lo'',hi'',h4,by omega,by omega⟩
        change (if _ then _ else _) = _ at ht
        split at ht
        · rename_i e
          simp only [Option.bind_eq_some_iff] at ht
          obtain ⟨q,hq,hqt⟩:=ht
          obtain ⟨s1,s2,s3,s4,s5⟩:=gG q.2 hqt
          obtain ⟨l,s,c,n⟩:=i
          obtain ⟨e1,e2,e3⟩:=e
          simp only at e1 e2 e3
          subst e1; subst e2; subst e3
          exact ⟨s5,s1,hmkn c,by rw [hDr _ (Nat.lt_succ_self _)]; exact hDn c,s2,s3,s4⟩
        · split at ht
          · cases ht
          · rename_i hd
            have hd : g.D i = false:=by simpa using hd
            have hml:=(hvc.tail i k lo hi ht).2.2.1
            have hil : i.lvl < N.lvl:=Nat.lt_succ_of_le (hvc.madeLow hml)
            have hgt : g.T i = some (k,lo,hi):=(hv.tkeep i _ ht).resolve_right (by rw [hd]; simp)
            obtain ⟨s1,s2,s3,s4,s5⟩:=gG i hgt
            exact ⟨s5,s1,hmkr i hml,by rw [hDr i hil]; exact hd,s2,s3,s4⟩
      tnew:=fun i r ht=>by
        change (if _ then _ else _) = _ at ht
        split at ht
        · rename_i e; exact .inl e.1
        · split at ht
          · cases ht
          · exact hvc.tnew i r ht
      tkeep:=fun i r hr=>by
        rcases hvc.tkeep i r hr with h | h
        · obtain ⟨k,lo,hi⟩ := r
          have hml:=(hvc.tail i k lo hi h).2.2.1
          have hil : i.lvl < N.lvl:=Nat.lt_succ_of_le (hvc.madeLow hml)
          cases hDi : g.D i with
          | true=>exact .inr (hH.Dl i hil hDi)
          | false=>exact .inl (hgT i _ hil hDi h)
        · exact .inr (useL_mono _ _ _ h)
      dgen:=fun i hi=>by
        rcases useL_mem _ _ _ hi with h | h
        · exact hmkr i (hvc.dgen i h)
        · have hil := huse i h
          have hgd : g.D i = true:=by rw [← hDr i hil]; exact hi
          exact hH.mde i hil (hv.dgen i hgd)
      dkeep:=fun i hi=>useL_mono _ _ _ (hvc.dkeep i hi)
      tinj:=fun i j k lo hi lo' hi' ht ht'=>by
        have back : ∀ i lo hi,gr.T i = some (k,lo,hi)→(∃ c i0,i = ⟨Nc.lvl,d,c,dn⟩ ∧ (c,i0) ∈ xp ∧ g.T i0 = some (k,lo,hi)) ∨ (g.T i = some (k,lo,hi) ∧ i.lvl < N.lvl):=by
          intro i lo hi ht
          change (if _ then _ else _) = _ at ht
          split at ht
          · rename_i e
            simp only [Option.bind_eq_some_iff] at ht
            obtain ⟨q,hq,hqt⟩:=ht
            have hm:=List.mem_of_find?_eq_some hq
            have hc : q.1 = i.comp:=by simpa using List.find?_some hq
            obtain ⟨l,s,c,n⟩:=i
            obtain ⟨e1,e2,e3⟩:=e
            simp only at e1 e2 e3 hc
            subst e1; subst e2; subst e3; subst hc
            exact .inl ⟨_,q.2,rfl,hm,hqt⟩
          · split at ht
            · cases ht
            · rename_i hd
              have hd : g.D i = false:=by simpa using hd
              have hml:=(hvc.tail i k lo hi ht).2.2.1
              exact .inr ⟨(hv.tkeep i _ ht).resolve_right (by rw [hd]; simp),Nat.lt_succ_of_le (hvc.madeLow hml)⟩
        rcases back i lo hi ht with ⟨c,i0,rfl,h1,h2⟩ | ⟨h1,h2⟩ <;> rcases back j lo' hi' ht' with ⟨c',j0,rfl,h3,h4⟩ | ⟨h3,h4⟩
        · have e := hv.tinj _ _ _ _ _ _ _ h2 h4
          have:=nodup_snd hnd2 _ h1 _ h3 e
          cases this; rfl
        · have e := hv.tinj _ _ _ _ _ _ _ h2 h3
          have:=(hxp _ h1).1
          rw [e] at this
          have this : j.lvl = N.lvl:=this
          omega
        · have e := hv.tinj _ _ _ _ _ _ _ h1 h4
          have:=(hxp _ h3).1
          rw [← e] at this
          have this : i.lvl = N.lvl:=this
          omega
        · exact hv.tinj _ _ _ _ _ _ _ h1 h3 }
  have hler : Le gc w gr w' :=
    { L := hvc.lev.symm
      K:=rfl
      mu:=fun b k h=>by
        show (if b = nb then kb else gc.μ b) = some k
        rw [if_neg (fun e=>by rw [e,hnbμ] at h; cases h)]; exact h
      G:=fun k o h=>.inl (hv.sub k o h)
      at':=fun k o h=>hv.keep k o h
      U:=fun s=>by
        show gc.U s ≤ upd gc.U d dn s
        unfold upd; split
        · rename_i e; rw [e]; omega
        · exact Nat.le_refl _
      D:=fun i h=>useL_mono _ _ _ h
      T:=fun i r h=>by
        obtain ⟨k,lo,hi⟩:=r
        have hml:=(hvc.tail i k lo hi h).2.2.1
        have hil : i.lvl < N.lvl:=Nat.lt_succ_of_le (hvc.madeLow hml)
        cases hDi : g.D i with
        | true=>exact .inr (hH.Dl i hil hDi)
        | false=>exact .inl (hgT i _ hil hDi h) }
  have hnt:=hrv.notup
  obtain ⟨e1,e2,e3⟩:=ExpL.rel hH hrv r2 (fun j n xs fl u hj hu=>r3 j _ u hj hu) hnt
  have hul:=e1.length
  have hfin : RV gr.μ gr.G w' (takeR Nc.lvl d dn v) (if h : us.length = 1 then us[0] else .tuple us.toArray) ∧ Top gr (takeR Nc.lvl d dn v) (if h : us.length = 1 then us[0] else .tuple us.toArray):=by
    rw [hcv] at hcv'
    injection hcv' with hcv'
    unfold tupOf at hcv'
    split at hcv'
    · rename_i v0
      subst hcv'
      rw [List.length_map] at hul
      simp only [List.map_cons,List.map_nil,RVs] at e1 e2 e3
      obtain ⟨u,us',rfl,h6,h7⟩:=e1
      cases h7
      have hv0 : ∀ vs',v ≠ .tup vs':=fun vs' e=>by subst e; exact e3 0 vs' (by simp [ren1])
      have htk : takeR Nc.lvl d dn v = ren1 Nc.lvl d dn v:=by
        cases v <;> first | rfl | exact absurd rfl (hv0 _)
      rw [htk]
      refine ⟨by simpa using h6,?_⟩
      cases hr0 : ren1 Nc.lvl d dn v with
      | sl n xs fl=>exact e2 0 n xs fl u (by simp [hr0]) (by simp)
      | tup ws=>exact absurd (by simp [hr0]) (e3 0 ws)
      | _=>trivial
    · rename_i hne
      subst hcv'
      have hne' : ¬ us.length = 1:=by
        rw [hul,List.length_map]
        intro hl
        obtain ⟨v0,hv1⟩:=List.length_eq_one_iff.1 hl
        exact hne v0 hv1
      rw [dif_neg hne']
      simp only [takeR]
      refine ⟨by simp only [RV]; exact ⟨us,rfl,e1⟩,?_⟩
      simp only [Top]
      exact ⟨us.toArray,rfl,fun j n xs fl u hj hu=>e2 j n xs fl u hj (by simpa using hu)⟩
  have done : a'.defers = [] ∧ ∃ u,(results fn a'.tmps).run P w' = .ok u w' ∧ ∃ u' gr,Ending.returned u = .returned u' ∧
        Valid Nc gr (applyW (match (cr.gr Nc.lvl d (gc.U d + 1) v).cont with | some c=>updB box (.own Nc.lvl d (gc.U d + 1)) c | none=>box) (cr.gr Nc.lvl d (gc.U d + 1) v).wr) w' ∧ Le gc w gr w' ∧
        gr.U = upd gc.U d (gc.U d + 1) ∧ gr.D = useL gc.D cr.use ∧ RV gr.μ gr.G w' (takeR Nc.lvl d (gc.U d + 1) v) u' ∧ Top gr (takeR Nc.lvl d (gc.U d + 1) v) u':=by
    refine ⟨hdf,_,hres,_,gr,rfl,?_,hler,by rw [← hdn],rfl,?_,?_⟩
    · rw [← hdn,← hnb,← hbox']; exact hvr
    · rw [← hdn]; exact hfin.1
    · rw [← hdn]; exact hfin.2
  cases x with
  | nrm=>exact done
  | ret=>exact done
  | exit i=>exact hq.elim
  | pan v=>exact hq.elim
theorem SoundG.walk {P : Program} {f : FuncId} {fn : Func} {c : Code} {gf : List AV → Boxes → (Id → Bool) → Option CR} (E : Env) (hE : EnvOK P E) (hP : P.follows .mixedOrders = true) (hf : P.funcs[f]? = some fn) (hb : fn.body = some c)
    (hcall : ∀ (args : Array Value) (w : World),(callFunc f args).run P w = .ok (.enter f args) w) (hc : confC E c = true)
    (h : ∀ (args : List AV) (bx : Boxes) (us : Id → Bool) (cr : CR),gf args bx us = some cr → args.length ≤ fn.ntmps ∧
      ∀ L : Nat,(∀ b,(bx b).isSome → b.lvl < L ∧ ∀ l s n,renB l s n b = b) → (∀ i,us i = true → i.lvl < L) → (∀ b cs,bx b = some cs → lowL L cs ∧ ∀ x ∈ cs,(∀ n ys i z,x = .sl n ys (.own i z) → i.lvl < L ∧ i.gen ≠ 0) ∧ ∀ vs,x ≠ .tup vs) →
        awpO E L fn.ntmps c (endGQ E.te fn.results.toList L bx us cr) (startG args bx us)) : SoundG P E.glob f gf :=
  SoundG.of E hE hf hb hcall fun args bx us cr hr=>⟨(h args bx us cr hr).1,fun N hn h1 h2 h3 hN=>by
    have:=(h args bx us cr hr).2 N.lvl h1 h2 h3
    rw [awpO_eq,← hn] at this
    exact awp_sound hE hN hP c _ _ hc this⟩
theorem wr_none {L : Nat} {σ : AS} {xp : List (Nat × Id)} {bn : Option Bx} {bx : Boxes} (h : ∀ b,b.lvl < L→σ.box b = bx b) : ∀ b,b.lvl < L→match wrAt [] b with | none=>σ.box b = bx b | some ys=>(bx b).isSome ∧ ∃ xs,σ.box b = some xs ∧ ExpL σ L xp bn xs ys:=fun b hb=>h b hb
theorem wr_one {L : Nat} {σ : AS} {xp : List (Nat × Id)} {bn : Option Bx} {bx : Boxes} {b0 : Bx} {ys : List AV} (h : ∀ b,b.lvl < L → b ≠ b0 → σ.box b = bx b) (h0 : (bx b0).isSome) (h1 : ∃ xs,σ.box b0 = some xs ∧ ExpL σ L xp bn xs ys) :
    ∀ b,b.lvl < L→match wrAt [(b0,ys)] b with | none=>σ.box b = bx b | some ys=>(bx b).isSome ∧ ∃ xs,σ.box b = some xs ∧ ExpL σ L xp bn xs ys:=by
  intro b hb
  simp only [wrAt]
  by_cases e : b = b0
  · subst e
    simp only [if_true]
    exact ⟨h0,h1⟩
  · simp only [if_neg e]
    exact h b hb e
theorem wl_none {L : Nat} : ∀ b ys,wrAt [] b = some ys→b.lvl < L:=fun _ _ h=>by cases h
theorem wl_one {L : Nat} {b0 : Bx} {zs : List AV} (h : b0.lvl < L) : ∀ b ys,wrAt [(b0,zs)] b = some ys→b.lvl < L:=by
  intro b ys hb
  simp only [wrAt] at hb
  split at hb
  · rename_i e; rw [e]; exact h
  · cases hb
theorem own_ne {L : Nat} {b : Bx} {s n : Nat} (h : b.lvl < L) : (b = .own L s n) = False:=by
  simp only [eq_iff_iff,iff_false]
  rintro rfl
  exact absurd h (Nat.lt_irrefl _)
theorem own_ne' {L : Nat} {b : Bx} {s n : Nat} (h : b.lvl < L) : (.own L s n = b) = False:=by
  simp only [eq_iff_iff,iff_false]
  rintro rfl
  exact absurd h (Nat.lt_irrefl _)
theorem ExpL.same {σ : AS} {L : Nat} {xp : List (Nat × Id)} {bn : Option Bx} : ∀ {xs : List AV},lowL L xs ∧ (∀ x ∈ xs,(∀ n ys i z,x = .sl n ys (.own i z) → i.lvl < L ∧ i.gen ≠ 0) ∧ ∀ vs,x ≠ .tup vs) → ExpL σ L xp bn xs xs
  | [],_=>.nil
  | x :: xs,⟨hl,h⟩=>by
    simp only [lowL] at hl
    refine .cons ?_ (ExpL.same ⟨hl.2,fun y hy=>h y (by simp [hy])⟩)
    obtain ⟨h1,h3⟩:=h x (by simp)
    cases x with
    | sl n ys fl =>
      cases fl with
      | own i z=>obtain ⟨h4,h5⟩:=h1 n ys i z rfl; exact .keep n ys i z (by simpa only [lowA] using hl.1) h4 h5
      | bor=>exact .bor n ys .bor (by simpa only [lowA] using hl.1)
      | full=>exact .full n ys (by simpa only [lowA] using hl.1)
      | lit i=>exact .low _ hl.1 (by simp) (by simp) (by simp)
    | tup vs=>exact absurd rfl (h3 _)
    | _=>exact .low _ hl.1 (by simp) (by simp) (by simp)
theorem ExpV.raw {σ : AS} {L : Nat} {xp : List (Nat × Id)} {bn : Option Bx} (v : Value) : ExpV σ L xp bn (.raw v) (.raw v):=.low _ trivial (by simp) (by simp) (by simp)
theorem ExpV.ptr {σ : AS} {L : Nat} {xp : List (Nat × Id)} {bn : Option Bx} {b : Bx} {o : Nat} (h : b.lvl < L) : ExpV σ L xp bn (.ptr b o) (.ptr b o):=.low _ h (by simp) (by simp) (by simp)
theorem ExpV.sl {σ : AS} {L : Nat} {xp : List (Nat × Id)} {bn : Option Bx} {n : Nat} {xs : List AV} {fl : Fl} (h : pureL xs = true) : ExpV σ L xp bn (.sl n xs fl) (.sl n xs .bor):=.bor _ _ _ (lowL_pure _ h)
theorem ExpL.one {σ : AS} {L : Nat} {xp : List (Nat × Id)} {bn : Option Bx} {v w : AV} (h : ExpV σ L xp bn v w) : ExpL σ L xp bn [v] [w]:=.cons h .nil
theorem ExpL.set {σ : AS} {L : Nat} {xp : List (Nat × Id)} {bn : Option Bx} : ∀ {xs ys : List AV} {j : Nat} {v w : AV},ExpL σ L xp bn xs ys → ExpV σ L xp bn v w → ExpL σ L xp bn (xs.set j v) (ys.set j w)
  | _,_,_,_,_,.nil,_=>.nil
  | _,_,0,_,_,.cons h t,hv=>.cons hv t
  | _,_,j + 1,_,_,.cons h t,hv=>.cons h (ExpL.set t hv)
theorem splice_one {xs : List AV} {j : Nat} {v : AV} (h : j < xs.length) : splice xs j [v] = xs.set j v:=by
  simp only [splice,List.length_singleton]
  rw [List.set_eq_take_append_cons_drop,if_pos h]
  simp
theorem updB_self {f : Boxes} {b : Bx} {v : List AV} : updB f b v b = some v:=if_pos rfl
theorem fillV'_cons {te : TypeId → Option TI} {k : TK} {cs : List AV} {i : Nat} {v : AV} {rest : List (Nat × AV)} : fillV' te k cs ((i,v) :: rest) =
    match place te k i with
    | none=>none
    | some (off,size) => match v.cells with
      | some ys=>if ys.length = size ∧ off + size ≤ cs.length then fillV' te k (splice cs off ys) rest else none
      | none=>none:=rfl
theorem fillV'_nil {te : TypeId→Option TI} {k : TK} {cs : List AV} : fillV' te k cs [] = some cs:=rfl
theorem renF_own {l d g z : Nat} {i : Id} : renF l d g (.own i z) = if i.gen = 0 then .own ⟨l,d,i.comp,g⟩ z else .own i z:=rfl
theorem renF_bor {l d g : Nat} : renF l d g .bor = .bor:=rfl
theorem renF_full {l d g : Nat} : renF l d g .full = .full:=rfl
theorem renB_own {l d g l' s n : Nat} : renB l d g (.own l' s n) = if n = 0 then .own l d g else .own l' s n:=rfl
theorem EndG.r0 {te : TypeId → Option TI} {rs : List ResultVar} {L : Nat} {bx : Boxes} {us : Id → Bool} {r : AV} {σ : AS} (vs rv : List AV) (h1 : rawsRes te σ rs = some vs) (h2 : ExpL σ L [] none vs rv) (h3 : r = tupOf rv)
    (hw : ∀ b,b.lvl < L→σ.box b = bx b) (hu : ∀ i,i.lvl < L→σ.used i = us i) : EndG te rs L bx us { v:=.ret r } σ :=
  ⟨⟨[],none,vs,rv,h1,h2,by rw [h3],by simp,by simp,by simp,wr_none (xp:=[]) (bn:=none) hw,wl_none,rfl,hu,by simp⟩⟩
theorem EndG.w1 {te : TypeId → Option TI} {rs : List ResultVar} {L : Nat} {bx : Boxes} {us : Id → Bool} {r : AV} {b : Bx} {xs ys : List AV} {σ : AS} (vs rv : List AV) (h1 : rawsRes te σ rs = some vs) (h2 : ExpL σ L [] none vs rv) (h3 : r = tupOf rv)
    (hl : b.lvl < L) (hb : (bx b).isSome) (hw : ∀ b',b'.lvl < L→b' ≠ b→σ.box b' = bx b') (hx : σ.box b = some xs) (hy : ExpL σ L [] none xs ys) (hu : ∀ i,i.lvl < L→σ.used i = us i) : EndG te rs L bx us { v:=.ret r,wr:=[(b,ys)] } σ :=
  ⟨⟨[],none,vs,rv,h1,h2,by rw [h3],by simp,by simp,by simp,wr_one hw hb ⟨_,hx,hy⟩,wl_one hl,rfl,hu,by simp⟩⟩
theorem EndG.new {te : TypeId → Option TI} {rs : List ResultVar} {L : Nat} {bx : Boxes} {us : Id → Bool} {r : AV} {b : Bx} {xs ys : List AV} {σ : AS} (vs rv : List AV) (h1 : rawsRes te σ rs = some vs) (h2 : ExpL σ L [] (some b) vs rv) (h3 : r = tupOf rv)
    (hl : b.lvl = L) (hw : ∀ b,b.lvl < L→σ.box b = bx b) (hx : σ.box b = some xs) (hy : ExpL σ L [] (some b) xs ys) (hu : ∀ i,i.lvl < L→σ.used i = us i) : EndG te rs L bx us { v:=.ret r,cont:=some ys } σ :=
  ⟨⟨[],some b,vs,rv,h1,h2,by rw [h3],by simp,by simp,by simp,wr_none (xp:=[]) (bn:=some b) hw,wl_none,⟨hl,xs,ys,hx,rfl,hy⟩,hu,by simp⟩⟩
end Go.Abs
namespace Go.Abs
set_option linter.unusedSimpArgs false
set_option linter.unusedVariables false
open Go
theorem wr_two {L : Nat} {σ : AS} {xp : List (Nat × Id)} {bn : Option Bx} {bx : Boxes} {b1 b2 : Bx} {ys zs : List AV} (hne : b1 ≠ b2) (h : ∀ b,b.lvl < L → b ≠ b1 → b ≠ b2 → σ.box b = bx b) (h1 : (bx b1).isSome) (h2 : (bx b2).isSome)
    (e1 : ∃ xs,σ.box b1 = some xs ∧ ExpL σ L xp bn xs ys) (e2 : ∃ xs,σ.box b2 = some xs ∧ ExpL σ L xp bn xs zs) :
    ∀ b,b.lvl < L→match wrAt [(b1,ys),(b2,zs)] b with | none=>σ.box b = bx b | some ys=>(bx b).isSome ∧ ∃ xs,σ.box b = some xs ∧ ExpL σ L xp bn xs ys:=by
  intro b hb
  simp only [wrAt]
  by_cases i2 : b = b2
  · subst i2
    simp only [if_true]
    exact ⟨h2,e2⟩
  · simp only [if_neg i2]
    by_cases i1 : b = b1
    · subst i1
      simp only [if_true]
      exact ⟨h1,e1⟩
    · simp only [if_neg i1]
      exact h b hb i1 i2
theorem wl_two {L : Nat} {b1 b2 : Bx} {ys zs : List AV} (h1 : b1.lvl < L) (h2 : b2.lvl < L) : ∀ b xs,wrAt [(b1,ys),(b2,zs)] b = some xs→b.lvl < L:=by
  intro b xs hb
  simp only [wrAt] at hb
  by_cases i2 : b = b2
  · rw [i2]; exact h2
  · simp only [if_neg i2] at hb
    by_cases i1 : b = b1
    · rw [i1]; exact h1
    · simp only [if_neg i1] at hb
      cases hb
theorem EndG.w2 {te : TypeId → Option TI} {rs : List ResultVar} {L : Nat} {bx : Boxes} {us : Id → Bool} {r : AV} {b1 b2 : Bx} {xs1 xs2 ys zs : List AV} {σ : AS} (vs rv : List AV) (h1 : rawsRes te σ rs = some vs) (h2 : ExpL σ L [] none vs rv) (h3 : r = tupOf rv)
    (hne : b1 ≠ b2) (l1 : b1.lvl < L) (l2 : b2.lvl < L) (s1 : (bx b1).isSome) (s2 : (bx b2).isSome) (hw : ∀ b',b'.lvl < L→b' ≠ b1→b' ≠ b2→σ.box b' = bx b') (x1 : σ.box b1 = some xs1) (x2 : σ.box b2 = some xs2) (e1 : ExpL σ L [] none xs1 ys) (e2 : ExpL σ L [] none xs2 zs) (hu : ∀ i,i.lvl < L→σ.used i = us i) : EndG te rs L bx us { v:=.ret r,wr:=[(b1,ys),(b2,zs)] } σ :=
  ⟨⟨[],none,vs,rv,h1,h2,by rw [h3],by simp,by simp,by simp,wr_two hne hw s1 s2 ⟨_,x1,e1⟩ ⟨_,x2,e2⟩,wl_two l1 l2,rfl,hu,by simp⟩⟩
end Go.Abs
namespace Go.Abs
set_option linter.unusedSimpArgs false
set_option linter.unusedVariables false
open Go Go.RowKit
section
variable {P : Program} {N : Ent} {E : Env} {ops : List Oper}
end
section
variable {E : Env} {ds : List (Nat × List (List Nat))} {lvl n : Nat} {Q : AX→AS→Prop} {σ : AS}
end
set_option linter.defProp false
end Go.Abs
namespace Go.Abs
set_option linter.unusedSimpArgs false
set_option linter.unusedVariables false
set_option linter.defProp false
open Go
def ev5:=(And.intro (And.intro (And.intro (And.intro @splice_one @List.getElem?_set.{0}) (And.intro @List.length_set.{0} (And.intro @List.contains_cons.{0} @List.contains_nil.{0}))) (And.intro (And.intro @Nat.zero_add @fullNil_own) (And.intro @fullNil_bor (And.intro @fullNil_nil @fullNil_full0)))) (And.intro (And.intro (And.intro @fullNil_full @fullNil_view) (And.intro @fillV'_cons (And.intro @fillV'_nil @List.set_cons_succ.{0}))) (And.intro (And.intro @List.set_cons_zero.{0} @renF_own) (And.intro @renF_bor (And.intro @renF_full @renB_own)))))
def lnB:=(And.intro (And.intro (And.intro @nums_len @ints_len) (And.intro @List.length_cons.{0} (And.intro @List.length_nil.{0} @List.length_append.{0}))) (And.intro (And.intro @List.length_take.{0} @List.length_drop.{0}) (And.intro @List.length_replicate.{0} (And.intro @List.length_set.{0} @List.length_map.{0,0}))))
def dsB:=(And.intro (And.intro @Bx.own.injEq (And.intro @and_true @true_and)) (And.intro (And.intro @and_false @false_and) (And.intro @if_true.{1} @if_false.{1})))
end Go.Abs
namespace Go.Abs
set_option linter.unusedSimpArgs false
set_option linter.unusedVariables false
open Go Go.ChangeShapes Go.WideShapes Go.ChangeAt Go.RowKit Go.Deep
section
variable {H : Type} {enc : TypeId × Value→H} {P : Program} {W : World} {base : Nat}
end
end Go.Abs
namespace Go.Abs
set_option linter.unusedSimpArgs false
set_option linter.unusedVariables false
open Go Go.ChangeShapes Go.WideShapes Go.ChangeAt Go.RowKit Go.Deep
section
variable {H : Type} {enc : TypeId × Value→H} {P : Program} {W : World} {base : Nat}
end
end Go.Abs
namespace Go.Abs
open Go
theorem SoundG.norm {P : Program} {glob : Nat→Option (List AV)} {f : FuncId} {gf : List AV→Boxes→(Id→Bool)→Option CR} (h : SoundG P glob f gf) : SoundG P glob f (fun args bx us=>gf (args.map Abs.norm) bx us):=by
  refine ⟨h.1,fun N g box w hv hg args vals cr v d hr ht hgf hcv=>h.2 N g box w hv hg (args.map Abs.norm) vals cr v d (norm_rels hr) (fun j x u hj hu=>?_) hgf hcv⟩
  rw [List.getElem?_map,Option.map_eq_some_iff] at hj
  obtain ⟨y,hy,rfl⟩:=hj
  have:=ht j y u hy hu
  unfold Abs.norm
  split
  · simp only [Top,FlOK]
  · exact this
end Go.Abs
