/- The abstract machine: code,walks,functions that see boxes. -/
import Derived.Test.YtddeffdgldjdjaaDoorM1
import Derived.Deep.LoopGhost
import Derived.Scope
import Derived.IntWalk
import Derived.Lib.EndianBits
namespace Go.Abs
set_option linter.unusedSimpArgs false
set_option linter.unusedVariables false
open Go Go.RowKit
inductive AX where
  | nrm | ret
  | exit (i : Nat)
  | pan (v : Value)
def AX.to : AX → Exit
  | .nrm=>.normal
  | .ret=>.ret
  | .exit i=>.exit i
  | .pan v=>.panic [{ v,recovered:=false }]
def thenQ (R : AS → Prop) (Q : AX → AS → Prop) : AX → AS → Prop
  | .nrm,σ=>R σ
  | x,σ=>Q x σ
def blockQ (id : Nat) (Q : AX → AS → Prop) : AX → AS → Prop
  | .exit i,σ=>if i = id then Q .nrm σ else Q (.exit i) σ
  | x,σ=>Q x σ
def AW (P : Program) (N : Ent) (c : Code) (Q : AX→AS→Prop) (σ : AS) : Prop :=
  ∀ a w,Sim N σ a w→c.wp P (fun e a' w'=>∃ x σ',e = AX.to x ∧ Q x σ' ∧ Sim N σ' a' w') a w
section
variable {P : Program} {N : Ent} {E : Env} {Q : AX→AS→Prop} {σ σ' : AS}
theorem wanted_rel {ops : List Oper} {o : Oper} {b : Bool} (h : wantedV ops σ o = some b) {a : Act} {g : Ghost} {w : World} (hs : Slots g w σ.slots a) : Region.wanted o (yielded ops.toArray a.tmps) = b:=by
  unfold wantedV at h
  unfold Region.wanted
  cases hg : o.guard with
  | none=>rw [hg] at h; cases h; rfl
  | some p =>
    obtain ⟨j,want⟩:=p
    rw [hg] at h
    simp only at h ⊢
    cases hj : (ops[j]?).bind (·.dst) with
    | none=>rw [hj] at h; cases h
    | some s =>
      rw [hj] at h
      simp only at h
      have hs1:=(hs s).1
      have hy : yielded ops.toArray a.tmps j = (match a.tmps[s]? with | some (.bool b)=>some b | _=>none):=by
        unfold yielded
        rw [List.getElem?_toArray,hj]; rfl
      rw [hy]
      split at h
      · rename_i bb hsl
        cases h
        rw [hsl] at hs1; simp only [RV] at hs1
        cases ht : a.tmps[s]? with
        | none=>simp [Array.getD_eq_getD_getElem?,ht,undef] at hs1
        | some v =>
          simp [Array.getD_eq_getD_getElem?,ht] at hs1
          subst hs1
          simp only
          cases bb <;> cases want <;> rfl
      · rename_i v hnb hsl
        cases h
        rw [hsl] at hs1; simp only [RV] at hs1
        cases ht : a.tmps[s]? with
        | none=>rfl
        | some v' =>
          simp [Array.getD_eq_getD_getElem?,ht] at hs1
          subst hs1
          cases v' <;> first | rfl | exact absurd rfl (hnb _)
      · cases h
theorem stepV_sound (hE : EnvOK P E) (hN : EntOK E N) {ops : List Oper} {o : Oper} (h : stepV E N.lvl N.N ops σ o = some σ') {a : Act} {w : World} (hs : Sim N σ a w) {K : Act → World → Prop} {Q' : Exit → Act → World → Prop}
    (hK : ∀ a' w',Sim N σ' a' w'→K a' w') : if Region.wanted o (yielded ops.toArray a.tmps) = true then o.wp P a w K Q' else K (a.put o.dst undef) w:=by
  obtain ⟨g,hv,hU,hD,hn,hdf,hsl⟩:=hs
  have hsl' : Slots g w σ.slots a:=hsl
  unfold stepV at h
  cases hw : wantedV ops σ o with
  | none=>rw [hw] at h; cases h
  | some b =>
    rw [hw] at h
    rw [wanted_rel hw hsl']
    cases b with
    | false =>
      simp only [Bool.false_eq_true,if_false] at h ⊢
      cases hd : o.dst with
      | none =>
        rw [hd] at h; cases h
        exact hK _ _ ⟨g,hv,hU,hD,hn,hdf,hsl⟩
      | some d =>
        rw [hd] at h
        simp only at h
        split at h
        · rename_i hlt
          cases h
          refine hK _ _ ⟨g,hv,hU,hD,by rw [put_size]; exact hn,by rw [put_defers]; exact hdf,?_⟩
          exact hsl'.put (by rw [hn]; exact hlt) (by simp only [RV]) trivial
        · cases h
    | true =>
      simp only [if_true] at h ⊢
      have hρ:=ev_rel hv hN hsl'
      split at h
      · -- it writes
        split at h
        · rename_i v b hwr
          obtain ⟨u,w',hrun,hv',hle,hr,ht⟩:=write_sound (o:=o) hE hv hρ hwr
          have fin : ∀ (a' : Act),a' = a.put o.dst u→K a' w':=by
            rintro a' rfl
            split at h
            · rename_i d hd
              split at h
              · rename_i hlt
                cases h
                rw [hd] at hK ⊢
                exact hK _ _ ⟨g,hv',hU,hD,by rw [put_size]; exact hn,by rw [put_defers]; exact hdf,(hsl'.le hle).put (by rw [hn]; exact hlt) hr ht⟩
              · cases h
            · rename_i hd
              cases h
              rw [hd]
              exact hK _ _ ⟨g,hv',hU,hD,hn,hdf,hsl'.le hle⟩
          unfold Oper.wp
          rcases hrun with hrun | ⟨hrun,rfl⟩
          · rw [hrun]; exact fin _ rfl
          · rw [hrun]; exact fin _ rfl
        · cases h
      · split at h
        · rename_i d hd
          split at h
          · rename_i hlt
            simp only [Option.map_eq_some_iff] at h
            obtain ⟨r,hr,rfl⟩:=h
            rw [← hU,← hD] at hr
            refine grow_sound hE hN hv hρ hr K Q' (fun u w' g' v1 l1 u1 d1 r1 t1=>?_)
            rw [hd]
            refine hK _ _ ⟨g',?_,?_,?_,by rw [put_size]; exact hn,by rw [put_defers]; exact hdf,(hsl'.le l1).put (by rw [hn]; exact hlt) r1 t1⟩
            · unfold AS.grown; rw [← hU]; exact v1
            · unfold AS.grown; rw [u1,hU]
            · unfold AS.grown; rw [d1,hD]; try rfl
          · cases h
        · rename_i hd
          split at h
          · simp only [Option.map_eq_some_iff] at h
            obtain ⟨r,hr,rfl⟩:=h
            rw [← hU,← hD] at hr
            refine grow_sound hE hN hv hρ hr K Q' (fun u w' g' v1 l1 u1 d1 r1 t1=>?_)
            rw [hd]
            refine hK _ _ ⟨g',?_,?_,?_,by rw [put_size]; exact hn,by rw [put_defers]; exact hdf,hsl'.le l1⟩
            · show Valid N g' (σ.grown N.lvl N.N r).box w'
              unfold AS.grown; rw [← hU]; exact v1
            · show g'.U = (σ.grown N.lvl N.N r).gen
              unfold AS.grown; rw [u1,hU]
            · show g'.D = (σ.grown N.lvl N.N r).used
              unfold AS.grown; rw [d1,hD]; try rfl
          · cases h
theorem regs_sound (hE : EnvOK P E) (hN : EntOK E N) {ops : List Oper} {Q' : Exit → Act → World → Prop} (hQ : ∀ a w,Sim N σ' a w → Q' .normal a w) :
    ∀ (l : List Oper) (k : Nat) (σ : AS) (a : Act) (w : World),(∀ j,l[j]? = ops[k + j]?)→regs E N.lvl N.N ops l σ = some σ'→Sim N σ a w→wpOps P ops.toArray Q' (List.range' k l.length) a w
  | [],k,σ,a,w,_,h,hs=>by simp only [regs,Option.some.injEq] at h; subst h; exact hQ a w hs
  | o :: l,k,σ,a,w,hl,h,hs=>by
    have h0 : ops.toArray[k]? = some o:=by simpa using (hl 0).symm
    unfold regs at h
    split at h
    · rename_i σ1 h1
      rw [List.length_cons,List.range'_succ,wpOps_cons]
      unfold wpOp
      simp only [h0]
      have:=stepV_sound (K:=wpOps P ops.toArray Q' (List.range' (k + 1) l.length)) (Q':=Q') hE hN h1 hs (fun a' w' hs'=>regs_sound hE hN hQ l (k + 1) σ1 a' w' (fun j=>by
        have:=hl (j + 1); simpa [Nat.add_assoc,Nat.add_comm 1 j] using this) h hs')
      split
      · rename_i hw; rw [if_pos hw] at this; exact .inl this
      · rename_i hw; rw [if_neg hw] at this; exact this
    · cases h
theorem AW_region (E : Env) (hE : EnvOK P E) (hN : EntOK E N) {id : Nat} {ops : List Oper} (σ' : AS) (h : regs E N.lvl N.N ops ops σ = some σ') (hQ : Q .nrm σ') : AW P N (.region id ops.toArray false) Q σ:=by
  intro a w hs
  refine wp_region ?_
  have:=regs_sound (Q':=fun e a' w'=>∃ x σ',e = AX.to x ∧ Q x σ' ∧ Sim N σ' a' w') hE hN (fun a w hs=>⟨.nrm,σ',rfl,hQ,hs⟩) ops 0 σ a w (by simp) h hs
  rw [List.size_toArray,List.range_eq_range']
  exact this
theorem AW_mono {c : Code} {Q' : AX→AS→Prop} (h : AW P N c Q σ) (hq : ∀ x σ,Q x σ→Q' x σ) : AW P N c Q' σ:=fun a w hs =>
  wp_mono (h a w hs) fun _ _ _ ⟨x,σ',h1,h2,h3⟩=>⟨x,σ',h1,hq _ _ h2,h3⟩
theorem AW_seq {a b : Code} (h : AW P N a (thenQ (AW P N b Q) Q) σ) : AW P N (.seq a b) Q σ:=by
  intro ac w hs
  refine wp_seq (wp_mono (h ac w hs) ?_)
  rintro e a' w' ⟨x,σ',rfl,h2,h3⟩
  cases x with
  | nrm=>exact h2 a' w' h3
  | ret=>exact ⟨.ret,σ',rfl,h2,h3⟩
  | exit i=>exact ⟨.exit i,σ',rfl,h2,h3⟩
  | pan v=>exact ⟨.pan v,σ',rfl,h2,h3⟩
theorem AW_skip (h : Q .nrm σ) : AW P N .skip Q σ:=fun _ _ hs=>wp_skip ⟨.nrm,σ,rfl,h,hs⟩
theorem AW_label {l : Nat} (h : Q .nrm σ) : AW P N (.label l) Q σ:=fun _ _ hs=>wp_label ⟨.nrm,σ,rfl,h,hs⟩
theorem AW_exit {i : Nat} (h : Q (.exit i) σ) : AW P N (.exit i) Q σ:=fun _ _ hs=>wp_exit ⟨.exit i,σ,rfl,h,hs⟩
theorem AW_ret (h : Q .ret σ) : AW P N .ret Q σ:=fun _ _ hs=>wp_ret ⟨.ret,σ,rfl,h,hs⟩
theorem AW_block {id : Nat} {c : Code} (h : AW P N c (blockQ id Q) σ) : AW P N (.block id c) Q σ:=by
  intro a w hs
  refine wp_block (wp_mono (h a w hs) ?_)
  rintro e a' w' ⟨x,σ',rfl,h2,h3⟩
  cases x with
  | nrm=>exact ⟨.nrm,σ',rfl,h2,h3⟩
  | ret=>exact ⟨.ret,σ',rfl,h2,h3⟩
  | pan v=>exact ⟨.pan v,σ',rfl,h2,h3⟩
  | exit i =>
    simp only [AX.to,Exit.inBlock]
    simp only [blockQ] at h2
    split
    · rw [if_pos ‹_›] at h2; exact ⟨.nrm,σ',rfl,h2,h3⟩
    · rw [if_neg ‹_›] at h2; exact ⟨.exit i,σ',rfl,h2,h3⟩
theorem AW_scope {c : Code} (h : AW P N c Q σ) : AW P N (.scope c) Q σ:=by
  intro a w hs
  refine wp_scope_straight (wp_mono (h a w hs) ?_)
  rintro e a' w' ⟨x,σ',rfl,h2,h3⟩
  cases x <;> exact ⟨_,σ',rfl,h2,h3⟩
theorem AW_cond {c : Operand} {x y : Code} {t : Bool} (E : Env) (hN : EntOK E N) (hc : ev E σ.slots c = .raw (.bool t)) (h : AW P N (if t then x else y) Q σ) : AW P N (.cond c x y) Q σ:=by
  intro a w hs
  have hs0:=hs
  obtain ⟨g,hv,hU,hD,hn,hdf,hsl⟩:=hs
  have:=(ev_rel hv hN hsl c).1
  rw [hc] at this; simp only [RV] at this
  exact wp_cond this (h a w hs0)
theorem AW_cond_any {c : Operand} {x y : Code} (E : Env) (hN : EntOK E N) (hc : ev E σ.slots c = .anyb) (h1 : AW P N x Q σ) (h2 : AW P N y Q σ) : AW P N (.cond c x y) Q σ:=by
  intro a w hs
  have hs0:=hs
  obtain ⟨g,hv,hU,hD,hn,hdf,hsl⟩:=hs
  have:=(ev_rel hv hN hsl c).1
  rw [hc] at this; simp only [RV] at this
  obtain ⟨b,hb⟩:=this
  refine wp_cond hb ?_
  cases b
  · exact h2 a w hs0
  · exact h1 a w hs0
theorem AW_loop {c : Code} (I : Nat→AS→Prop) (n : Nat) (h0 : I n σ) (round : ∀ n σ,I n σ→AW P N c (thenQ (fun σ'=>∃ m,m < n ∧ I m σ') Q) σ) : AW P N (.loop c) Q σ:=by
  intro a w hs
  refine wp_loop_ghost (fun n a w=>∃ σ,I n σ ∧ Sim N σ a w) n ⟨σ,h0,hs⟩ ?_
  rintro n a w ⟨σ,hI,hs⟩
  refine wp_mono (round n σ hI a w hs) ?_
  rintro e a' w' ⟨x,σ',rfl,h2,h3⟩
  cases x with
  | nrm=>obtain ⟨m,h4,h5⟩:=h2; exact ⟨m,h4,σ',h5,h3⟩
  | ret=>exact ⟨.ret,σ',rfl,h2,h3⟩
  | exit i=>exact ⟨.exit i,σ',rfl,h2,h3⟩
  | pan v=>exact ⟨.pan v,σ',rfl,h2,h3⟩
end
end Go.Abs
namespace Go.Abs
set_option linter.unusedSimpArgs false
set_option linter.unusedVariables false
open Go Go.RowKit
def rawRes (te : TypeId → Option TI) (σ : AS) : ResultVar → Option AV
  | .tmp t=>some (σ.slots t)
  | .cell a t=>loadV te σ.box t (σ.slots a)
def export1 (σ : AS) (c : Nat) : AV → Option (AV × Option Id)
  | .sl n xs (.own i z)=>if pureL xs = true then (if σ.used i then some (.sl n xs .bor,none) else some (.sl n xs (.own ⟨0,0,c,0⟩ z),some i)) else none
  | .sl n xs .bor=>if pureL xs = true then some (.sl n xs .bor,none) else none
  | .sl n xs .full=>if pureL xs = true then some (.sl n xs .bor,none) else none
  | .view b off n _ z=>(σ.box b).bind fun xs=>if off + n * z ≤ xs.length ∧ pureL ((xs.drop off).take (n * z)) = true then some (.sl n ((xs.drop off).take (n * z)) .bor,none) else none
  | .raw v=>some (.raw v,none)
  | .anyb=>some (.anyb,none)
  | .agg xs=>if pureL xs = true then some (.agg xs,none) else none
  | .fn f []=>some (.fn f [],none)
  | _=>none
def exports (σ : AS) : Nat → List AV → Option (List AV × List (Nat × Id))
  | _,[]=>some ([],[])
  | c,v :: vs=>(export1 σ c v).bind fun r=>(exports σ (c + 1) vs).bind fun rs=>some (r.1 :: rs.1,(match r.2 with | some i=>[(c,i)] | none=>[]) ++ rs.2)
def rawsRes (te : TypeId → Option TI) (σ : AS) : List ResultVar → Option (List AV)
  | []=>some []
  | r :: rs=>(rawRes te σ r).bind fun v=>(rawsRes te σ rs).map (v :: ·)
def resV (te : TypeId→Option TI) (rs : List ResultVar) (σ : AS) : Option AV :=
  (rawsRes te σ rs).bind fun vs=>(exports σ 0 vs).bind fun p =>
    if (p.2.map (·.2)).Nodup then (match p.1 with | [v]=>some v | vs=>some (.tup vs)) else none
section
variable {P : Program} {N : Ent} {E : Env} {g : Ghost} {σ : AS} {a : Act} {w : World}
theorem rawRes_rel (hte : TeOK P E.te) (hv : Valid N g σ.box w) (hs : Slots g w σ.slots a) {r : ResultVar} {v : AV} (h : rawRes E.te σ r = some v) :
    ∃ u,((match r with | .tmp t=>Pure.pure (a.tmps.getD t undef) | .cell x t=>do loadVar t (← asAddr (a.tmps.getD x undef)) : Sem Value)).run P w = .ok u w ∧ RV g.μ g.G w v u ∧ Top g v u:=by
  cases r with
  | tmp t=>simp only [rawRes,Option.some.injEq] at h; subst h; exact ⟨_,rfl,(hs t).1,(hs t).2⟩
  | cell x t =>
    simp only [rawRes] at h
    have hx:=(hs x).1
    unfold loadV at h
    split at h
    · rename_i b off e
      rw [e] at hx; simp only [RV] at hx
      obtain ⟨k,hk,he⟩:=hx
      simp only [Option.bind_eq_some_iff] at h
      obtain ⟨xs,hxs,h⟩:=h
      obtain ⟨u,hu,h6,h7⟩:=run_loadBox_rel (P:=P) hte hv hk hxs h
      refine ⟨u,?_,h6,h7⟩
      show (do loadVar t (← asAddr (a.tmps.getD x undef)) : Sem Value).run P w = _
      rw [he]; simpa [asAddr] using hu
    · rename_i xs e
      rw [e] at hx; simp only [RV] at hx
      obtain ⟨k,off,us,he,h4,h5⟩:=hx
      obtain ⟨u,hu,h6,h7⟩:=run_loadVar_rel (k:=k) (b:=off) hte h4 (fun j hj=>(h5 j hj).1) h
      refine ⟨u,?_,h6,h7⟩
      show (do loadVar t (← asAddr (a.tmps.getD x undef)) : Sem Value).run P w = _
      rw [he]; simpa [asAddr] using hu
    · cases h
theorem rawsRes_rel (hte : TeOK P E.te) (hv : Valid N g σ.box w) (hs : Slots g w σ.slots a) : ∀ {rs : List ResultVar} {vs : List AV},rawsRes E.te σ rs = some vs →
    ∃ us,(rs.mapM (m:=Sem) fun | .tmp t=>Pure.pure (a.tmps.getD t undef) | .cell x t=>do loadVar t (← asAddr (a.tmps.getD x undef))).run P w = .ok us w ∧ RVs g.μ g.G w vs us ∧ ∀ (j : Nat) v u,vs[j]? = some v→us[j]? = some u→Top g v u
  | [],vs,h=>by simp only [rawsRes,Option.some.injEq] at h; subst h; exact ⟨[],rfl,RVs.nil,fun j v u h=>by simp at h⟩
  | r :: rs,vs,h=>by
    simp only [rawsRes,Option.bind_eq_some_iff,Option.map_eq_some_iff] at h
    obtain ⟨v,h1,vs',h2,rfl⟩:=h
    obtain ⟨u,r1,r2,r3⟩:=rawRes_rel hte hv hs h1
    obtain ⟨us,s1,s2,s3⟩:=rawsRes_rel hte hv hs h2
    refine ⟨u :: us,?_,by simp only [RVs]; exact ⟨u,us,rfl,r2,s2⟩,fun j v' u' hv' hu'=>?_⟩
    · rw [List.mapM_cons,Sem.run_bind,r1]
      simp only [Result.andThen_ok,Sem.run_bind,s1,Sem.run_pure]
    · cases j with
      | zero=>simp at hv' hu'; subst hv'; subst hu'; exact r3
      | succ j=>exact s3 j v' u' (by simpa using hv') (by simpa using hu')
theorem export1_rel (hv : Valid N g σ.box w) (hD : g.D = σ.used) {v : AV} {u : Value} (hr : RV g.μ g.G w v u) (ht : Top g v u) {c : Nat} {v' : AV} {oi : Option Id} (h : export1 σ c v = some (v',oi)) :
    RV noMu (boxG g σ.box) w v' u ∧ (∀ i,oi = some i→∃ n xs z,v' = .sl n xs (.own ⟨0,0,c,0⟩ z) ∧ g.D i = false) ∧
    (∀ (T : Nat→Option (Nat × Nat × Nat)),(∀ i,oi = some i→T c = g.T i)→∀ n xs fl,v' = .sl n xs fl→FlOK (resG (boxG g σ.box) T) fl xs.length u) ∧ (∀ vs,v' ≠ .tup vs) ∧ ∀ xs,v' ≠ .nptr xs:=by
  have up : ∀ v u,pureA v = true→RV g.μ g.G w v u→RV noMu (boxG g σ.box) w v u:=fun v u hp h=>RV.mono (fun _ _ h=>h) (fun _ _ h=>.inl h) (fun _ _ _=>rfl) _ _ (RV.pure (μ':=noMu) v u hp h)
  unfold export1 at h
  split at h
  · rename_i n xs i z
    split at h
    · rename_i hp
      split at h
      · cases h
        refine ⟨?_,by simp,fun T _ n' xs' fl e=>by cases e; trivial,by simp,by simp⟩
        have:=up (.sl n xs (.own i z)) u (by simpa [pureA] using hp) hr
        simpa only [RV] using this
      · rename_i hu
        cases h
        have hDi : g.D i = false:=by rw [hD]; simpa using hu
        refine ⟨?_,fun i' e=>by cases e; exact ⟨n,xs,z,rfl,hDi⟩,fun T hT n' xs' fl e=>?_,by simp,by simp⟩
        · have := up (.sl n xs (.own i z)) u (by simpa [pureA] using hp) hr
          simpa only [RV] using this
        · cases e
          simp only [Top] at ht
          cases u with
          | slice A n' c' =>
            simp only [FlOK,resG] at ht ⊢
            refine ⟨.inl ⟨rfl,Nat.le_refl _⟩,?_⟩
            rcases ht.2 with h1 | h1 | ⟨k,o,lo,hi,e1,e2,e3,e4⟩
            · rw [hDi] at h1; cases h1
            · exact .inr (.inl h1)
            · exact .inr (.inr ⟨k,o,lo,hi,e1,e2,by simp only [and_self,if_true]; rw [hT i rfl]; exact e3,e4⟩)
          | _=>simp only [FlOK] at ht
    · cases h
  · rename_i n xs
    split at h
    · rename_i hp
      cases h
      exact ⟨up _ u (by simpa [pureA] using hp) hr,by simp,fun T _ n' xs' fl e=>by cases e; trivial,by simp,by simp⟩
    · cases h
  · rename_i n xs
    split at h
    · rename_i hp
      cases h
      refine ⟨?_,by simp,fun T _ n' xs' fl e=>by cases e; trivial,by simp,by simp⟩
      have:=up (.sl n xs .full) u (by simpa [pureA] using hp) hr
      simpa only [RV] using this
    · cases h
  · rename_i b off n c' z
    simp only [Option.bind_eq_some_iff] at h
    obtain ⟨xs,hx,h⟩:=h
    split at h
    · rename_i hc
      cases h
      refine ⟨?_,by simp,fun T _ n' xs' fl e=>by cases e; trivial,by simp,by simp⟩
      simp only [RV] at hr ⊢
      obtain ⟨k,oo,c'',hm,rfl,hcc,hnc,hoo⟩:=hr
      obtain ⟨us,h4,h5,_⟩:=hv.box_cells hm hx
      right
      by_cases hc0 : c' = 0
      · have hn0 : n = 0 := by omega
        subst hn0
        refine ⟨k,oo,c'',[],rfl,Nat.zero_le _,?_,fun j hj=>by simp at hj⟩
        simp; exact RVs.nil
      · have : oo = off := by rcases hoo with h | h; · exact h
                              · exact absurd h hc0
        subst this
        have hul:=h4.length
        refine ⟨k,oo,c'',_,rfl,Nat.le_trans hnc hcc,RVs.mono (fun _ _ h=>h) (fun _ _ h=>.inl h) (fun _ _ _=>rfl) _ _ (RVs.pure (μ':=noMu) _ _ hc.2 ((h4.drop oo).take (n * z))),fun j hj=>?_⟩
        rw [List.length_take,List.length_drop] at hj
        refine ⟨?_,.inr ⟨b,xs,hm,hx,by omega⟩⟩
        rw [List.getElem?_take,if_pos (by omega),List.getElem?_drop]
        exact h5 _ (by omega)
    · cases h
  · cases h; exact ⟨by simpa only [RV] using hr,by simp,fun T _ n' xs' fl e=>(by cases e),by simp,by simp⟩
  · cases h; exact ⟨by simpa only [RV] using hr,by simp,fun T _ n' xs' fl e=>(by cases e),by simp,by simp⟩
  · rename_i xs
    split at h
    · rename_i hp
      cases h
      exact ⟨up _ u (by simpa [pureA] using hp) hr,by simp,fun T _ n' xs' fl e=>(by cases e),by simp,by simp⟩
    · cases h
  · cases h; exact ⟨by simpa only [RV,RVs] using hr,by simp,fun T _ n' xs' fl e=>(by cases e),by simp,by simp⟩
  · cases h
theorem exports_rel (hv : Valid N g σ.box w) (hD : g.D = σ.used) : ∀ {vs : List AV} {us : List Value} {c : Nat} {p : List AV × List (Nat × Id)},exports σ c vs = some p → RVs g.μ g.G w vs us → (∀ (j : Nat) v u,vs[j]? = some v → us[j]? = some u → Top g v u) →
    RVs noMu (boxG g σ.box) w p.1 us ∧ (∀ q ∈ p.2,c ≤ q.1 ∧ g.D q.2 = false) ∧ (p.2.map (·.1)).Nodup ∧
    ∀ (T : Nat→Option (Nat × Nat × Nat)),(∀ q ∈ p.2,T q.1 = g.T q.2)→∀ (j : Nat) n xs fl u,p.1[j]? = some (.sl n xs fl)→us[j]? = some u→FlOK (resG (boxG g σ.box) T) fl xs.length u
  | [],us,c,p,h,hr,ht=>by
    simp only [exports,Option.some.injEq] at h; subst h
    simp only [RVs] at hr; subst hr
    exact ⟨RVs.nil,by simp,by simp,fun T _ j n xs fl u h=>by simp at h⟩
  | v :: vs,us,c,p,h,hr,ht=>by
    simp only [exports,Option.bind_eq_some_iff,Option.some.injEq] at h
    obtain ⟨⟨v',oi⟩,h1,rs,h2,rfl⟩:=h
    simp only [RVs] at hr
    obtain ⟨u,us',rfl,r1,r2⟩:=hr
    obtain ⟨e1,e2,e3,_⟩:=export1_rel hv hD r1 (ht 0 _ _ rfl rfl) h1
    obtain ⟨f1,f2,f3,f4⟩:=exports_rel hv hD h2 r2 (fun j v u hv hu=>ht (j + 1) v u (by simpa using hv) (by simpa using hu))
    refine ⟨by simp only [RVs]; exact ⟨u,us',rfl,e1,f1⟩,?_,?_,?_⟩
    · intro q hq
      simp only [List.mem_append] at hq
      rcases hq with hq | hq
      · cases oi with
        | none=>simp at hq
        | some i =>
          simp at hq; subst hq
          obtain ⟨_,_,_,_,hd⟩:=e2 i rfl
          exact ⟨Nat.le_refl _,hd⟩
      · exact ⟨by have:=(f2 q hq).1; omega,(f2 q hq).2⟩
    · cases oi with
      | none=>simpa using f3
      | some i =>
        simp only [List.map_append,List.map_cons,List.map_nil,List.singleton_append,List.nodup_cons]
        refine ⟨fun hm=>?_,f3⟩
        obtain ⟨q,hq,he⟩:=List.mem_map.1 hm
        have:=(f2 q hq).1
        omega
    · intro T hT j n xs fl u0 hj hu
      cases j with
      | zero =>
        simp at hj hu; subst hu
        exact e3 T (fun i hi=>hT (c,i) (by subst hi; simp)) n xs fl hj
      | succ j =>
        exact f4 T (fun q hq=>hT q (by simp only [List.mem_append]; exact .inr hq)) j n xs fl u0 (by simpa using hj) (by simpa using hu)
end
end Go.Abs
namespace Go.Abs
set_option linter.unusedSimpArgs false
set_option linter.unusedVariables false
open Go Go.RowKit
def start (args : List AV) : AS :=
  { slots := fun i => match args[i]? with | some v => strip v | none => .raw undef
    gen:=fun _=>0
    box:=fun _=>none
    used:=fun _=>false }
inductive Weak1 : Nat → AV → AV → Prop
  | same (c : Nat) (v : AV) : Weak1 c v v
  | nil (c z : Nat) : Weak1 c (.raw (.slice none 0 0)) (.sl 0 [] (.own ⟨0,0,c,0⟩ z))
  | nilb (c : Nat) : Weak1 c (.raw (.slice none 0 0)) (.sl 0 [] .bor)
  | bor (c n : Nat) (xs : List AV) (fl : Fl) : Weak1 c (.sl n xs fl) (.sl n xs .bor)
  | any (c : Nat) (b : Bool) : Weak1 c (.raw (.bool b)) .anyb
inductive Weak : AV → AV → Prop
  | one {v r : AV} (h : Weak1 0 v r) : Weak v r
  | tup {vs rs : List AV} (hl : vs.length = rs.length) (h : ∀ (j : Nat) (v r : AV),vs[j]? = some v→rs[j]? = some r→Weak1 j v r) : Weak (.tup vs) (.tup rs)
def ResQ (o : Option AV) (r : AV) : Prop:=∃ v,o = some v ∧ Weak v r
theorem ResQ.same {v r : AV} (h : v = r) : ResQ (some v) r:=⟨v,rfl,by rw [h]; exact .one (.same 0 r)⟩
theorem ResQ.nil (z : Nat) : ResQ (some (.raw (.slice none 0 0))) (.sl 0 [] (.own ⟨0,0,0,0⟩ z)):=⟨_,rfl,.one (.nil 0 z)⟩
theorem ResQ.nilb : ResQ (some (.raw (.slice none 0 0))) (.sl 0 [] .bor):=⟨_,rfl,.one (.nilb 0)⟩
theorem ResQ.bor {n : Nat} {xs : List AV} {fl : Fl} : ResQ (some (.sl n xs fl)) (.sl n xs .bor):=⟨_,rfl,.one (.bor 0 n xs fl)⟩
theorem ResQ.any (b : Bool) : ResQ (some (.raw (.bool b))) .anyb:=⟨_,rfl,.one (.any 0 b)⟩
theorem Weak1.rel {G : Nat→Nat→Prop} {w : World} {c : Nat} {v r : AV} {u : Value} (h : Weak1 c v r) (hv : RV noMu G w v u) : RV noMu G w r u:=by
  cases h with
  | same=>exact hv
  | nil=>simp only [RV] at hv ⊢; subst hv; exact .inl ⟨⟨none,rfl⟩,by simp⟩
  | nilb=>simp only [RV] at hv ⊢; subst hv; exact .inl ⟨⟨none,rfl⟩,by simp⟩
  | bor=>simpa only [RV] using hv
  | any=>simp only [RV] at hv ⊢; exact ⟨_,hv⟩
theorem Weak1.flok {G : Nat → Nat → Prop} {w : World} {T : Nat → Option (Nat × Nat × Nat)} {c : Nat} {v r : AV} {u : Value} (h : Weak1 c v r) (hv : RV noMu G w v u) (ht : ∀ n xs fl,v = .sl n xs fl → FlOK (resG G T) fl xs.length u) :
    ∀ n xs fl,r = .sl n xs fl→FlOK (resG G T) fl xs.length u:=by
  rintro n xs fl rfl
  cases h with
  | same=>exact ht _ _ _ rfl
  | nil=>simp only [RV] at hv; subst hv; simp [FlOK,resG,made]
  | nilb=>simp only [RV] at hv; subst hv; simp [FlOK]
  | bor=>simp [FlOK]
theorem PostV.weak {G : Nat→Nat→Prop} {w : World} {v r : AV} {u : Value} {G' : Nat→Nat→Prop} {w' : World} {T : Nat→Option (Nat × Nat × Nat)} (h : PostV G w v u G' w' T) (hw : Weak v r) : PostV G w r u G' w' T:=by
  refine { h with rel:=?_,top:=?_ }
  · cases hw with
    | one h1=>exact h1.rel h.rel
    | tup hl h1 =>
      have hr:=h.rel
      simp only [RV] at hr ⊢
      obtain ⟨us,h2,h3⟩:=hr
      refine ⟨us,h2,RVs.of_get (by rw [h3.length,hl]) fun j x u hx hu=>?_⟩
      rename_i vs rs
      have hj : j < vs.length:=by rw [hl]; exact (List.getElem?_eq_some_iff.1 hx).1
      obtain ⟨u',h5,h6⟩:=h3.get j vs[j] (List.getElem?_eq_getElem hj)
      rw [hu] at h5; cases h5
      exact (h1 j _ _ (List.getElem?_eq_getElem hj) hx).rel h6
  · cases hw with
    | one h1 =>
      have ht:=h.top
      have hr:=h.rel
      cases h1 with
      | same=>exact ht
      | nil=>simp only [RV] at hr; subst hr; simp [Top,FlOK,resG,made]
      | nilb=>simp only [RV] at hr; subst hr; simp [Top,FlOK]
      | bor=>simp [Top,FlOK]
      | any=>trivial
    | tup hl h1 =>
      have ht:=h.top
      have hr:=h.rel
      simp only [Top] at ht ⊢
      simp only [RV] at hr
      obtain ⟨us,h2,h3⟩:=hr
      obtain ⟨us',h4,h5⟩:=ht
      rw [h2] at h4
      cases h4
      refine ⟨_,h2,fun j n xs fl u hx hu=>?_⟩
      rename_i vs rs
      have hj : j < vs.length:=by rw [hl]; exact (List.getElem?_eq_some_iff.1 hx).1
      obtain ⟨u',h6,h7⟩:=h3.get j vs[j] (List.getElem?_eq_getElem hj)
      have hu' : us[j]? = some u:=by simpa using hu
      rw [hu'] at h6; cases h6
      exact (h1 j _ _ (List.getElem?_eq_getElem hj) hx).flok h7 (fun n xs fl e=>h5 j n xs fl u (by rw [List.getElem?_eq_getElem hj,e]) hu) n xs fl rfl
def endQ (te : TypeId → Option TI) (rs : List ResultVar) (r : AV) : AX → AS → Prop
  | .exit _,_=>False
  | .pan _,_=>False
  | _,σ=>ResQ (resV te rs σ) r
theorem lookup_of {β : Type} : ∀ {l : List (Nat × β)},(l.map (·.1)).Nodup → ∀ q ∈ l,l.find? (fun p => p.1 == q.1) = some q
  | [],_,q,h=>by cases h
  | p :: l,hn,q,h=>by
    simp only [List.map_cons,List.nodup_cons] at hn
    rcases List.mem_cons.1 h with rfl | h
    · simp
    · have : p.1 ≠ q.1 := fun e => hn.1 (by rw [e]; exact List.mem_map.2 ⟨q,h,rfl⟩)
      rw [List.find?_cons,show (p.1 == q.1) = false by simpa using this]
      exact lookup_of hn.2 q h
theorem nodup_snd {α β : Type} : ∀ {l : List (α × β)},(l.map (·.2)).Nodup → ∀ p ∈ l,∀ q ∈ l,p.2 = q.2 → p = q
  | [],_,p,h,_,_,_=>by cases h
  | x :: l,hn,p,hp,q,hq,e=>by
    simp only [List.map_cons,List.nodup_cons] at hn
    rcases List.mem_cons.1 hp with h1 | h1 <;> rcases List.mem_cons.1 hq with h2 | h2
    · rw [h1,h2]
    · exact absurd (List.mem_map.2 ⟨q,h2,by rw [← e,h1]⟩) hn.1
    · exact absurd (List.mem_map.2 ⟨p,h1,by rw [e,h2]⟩) hn.1
    · exact nodup_snd hn.2 p h1 q h2 e
theorem exports_notup {σ : AS} : ∀ {vs : List AV} {c : Nat} {p : List AV × List (Nat × Id)},exports σ c vs = some p → ∀ v ∈ p.1,∀ ws,v ≠ .tup ws
  | [],c,p,h,v,hv,ws=>by simp only [exports,Option.some.injEq] at h; subst h; cases hv
  | x :: vs,c,p,h,v,hv,ws=>by
    simp only [exports,Option.bind_eq_some_iff,Option.some.injEq] at h
    obtain ⟨⟨v',oi⟩,h1,rs,h2,rfl⟩:=h
    rcases List.mem_cons.1 hv with rfl | hv
    · rintro rfl
      unfold export1 at h1
      split at h1 <;> try split at h1
      all_goals (try split at h1)
      all_goals (try (simp only [Option.bind_eq_some_iff] at h1; obtain ⟨_,_,h1⟩:=h1; split at h1))
      all_goals cases h1
    · exact exports_notup h2 v hv ws
variable {P : Program} {E : Env}
theorem SoundV.of {f : FuncId} {fn : Func} {c : Code} {pf : List AV → Option AV} (E : Env) (hE : EnvOK P E) (hf : P.funcs[f]? = some fn) (hb : fn.body = some c)
    (hcall : ∀ (args : Array Value) (w : World),(callFunc f args).run P w = .ok (.enter f args) w)
    (h : ∀ (args : List AV) (r : AV),pf args = some r→args.length ≤ fn.ntmps ∧ ∀ N : Ent,N.N = fn.ntmps→N.lvl = 0→EntOK E N→AW P N c (endQ E.te fn.results.toList r) (start args)) : SoundV P E.glob f pf:=by
  refine ⟨hcall,fun args r hr G w vals hp=>?_⟩
  obtain ⟨hlen,hc⟩:=h args r hr
  have hvl : vals.length = args.length:=hp.args.length
  refine calls_of_wp hf hb ?_
  let N : Ent:={ lvl:=0,N:=fn.ntmps,w0:=w,μ0:=noMu,G0:=G,T0:=fun _=>none,D0:=fun _=>false,K0:=fun _=>False }
  let g : Ghost:={ L:=0,K:=fun _=>False,μ:=noMu,G:=G,T:=fun _=>none,U:=fun _=>0,D:=fun _=>false }
  have hN : EntOK E N:=⟨hp.cell,hp.glob⟩
  have hv0 : Valid N g (start args).box w :=
    { lev := rfl
      kn:=rfl
      klow:=fun _ h=>h.elim
      chg:=⟨rfl,rfl,rfl,Nat.le_refl _,fun _ _ _=>rfl⟩
      sub:=fun _ _ h=>h
      keep:=fun _ _ _=>rfl
      old:=fun _ _ h _=>.inl h
      cell:=hp.cell
      gmu:=fun _ _ _ _ h=>by cases h
      ext:=fun _ _ h=>h
      kext:=fun _ _ h=>nomatch h
      lv:=fun _ _ h=>by cases h
      low:=fun _ _ h=>by cases h
      nz:=fun _ _=>rfl
      fresh:=fun _ _ _ h=>by cases h
      inj:=fun _ _ _ h=>by cases h
      dom:=fun _=>rfl
      cont:=fun _ _ _ h=>by cases h
      cok:=fun _ _ h=>by cases h
      ctop:=fun _ _ _ h=>by cases h
      tail:=fun _ _ _ _ h=>by cases h
      tnew:=fun _ _ h=>by cases h
      tkeep:=fun _ _ h=>by cases h
      dgen:=fun _ h=>by cases h
      dkeep:=fun _ h=>by cases h
      tinj:=fun _ _ _ _ _ _ _ h=>by cases h }
  have hs0 : Sim N (start args) { tmps:=vals.toArray ++ Array.replicate (fn.ntmps - vals.toArray.size) undef,defers:=[] } w:=by
    refine ⟨g,hv0,rfl,rfl,?_,rfl,fun i=>?_⟩
    · show (vals.toArray ++ Array.replicate _ undef).size = fn.ntmps
      simp; omega
    · have : (vals.toArray ++ Array.replicate (fn.ntmps - vals.toArray.size) undef).getD i undef = vals[i]?.getD undef:=by
        rw [Array.getD_eq_getD_getElem?,Array.getElem?_append]
        split
        · simp
        · rename_i hge
          simp only [List.size_toArray,Nat.not_lt] at hge
          rw [List.getElem?_eq_none hge,Array.getElem?_replicate]
          split <;> rfl
      show RV _ _ _ _ ((vals.toArray ++ _).getD i undef) ∧ Top _ _ ((vals.toArray ++ _).getD i undef)
      rw [this]
      simp only [start]
      cases ha : args[i]? with
      | none =>
        have : vals[i]? = none:=List.getElem?_eq_none (by rw [hvl]; simpa using ha)
        rw [this]
        exact ⟨by simp only [RV]; rfl,trivial⟩
      | some v =>
        obtain ⟨u,h1,h2⟩:=hp.args.get i v ha
        rw [h1]
        exact ⟨h2.strip,Top.strip _ _⟩
  refine wp_mono (hc N rfl rfl hN _ _ hs0) ?_
  rintro e a' w' ⟨x,σ,rfl,hq,hs⟩
  obtain ⟨r',hq',hweak⟩ : ResQ (resV E.te fn.results.toList σ) r:=by cases x <;> first | exact hq | exact hq.elim
  suffices done' : a'.defers = [] ∧ ∃ v,(results fn a'.tmps).run P w' = .ok v w' ∧ ∃ u G' T,Ending.returned v = .returned u ∧ PostV G w r' u G' w' T by
    obtain ⟨d1,v,d2,u,G',T,d3,d4⟩:=done'
    have done : a'.defers = [] ∧ ∃ v,(results fn a'.tmps).run P w' = .ok v w' ∧ ∃ u G' T,Ending.returned v = .returned u ∧ PostV G w r u G' w' T:=⟨d1,v,d2,u,G',T,d3,d4.weak hweak⟩
    cases x with
    | nrm=>exact done
    | ret=>exact done
    | exit i=>exact hq.elim
    | pan v=>exact hq.elim
  clear hweak hq
  generalize r' = r at hq' ⊢
  have done : a'.defers = [] ∧ ∃ v,(results fn a'.tmps).run P w' = .ok v w' ∧ ∃ u G' T,Ending.returned v = .returned u ∧ PostV G w r u G' w' T:=by
    obtain ⟨g',hv,hU,hD,hn,hdf,hsl⟩:=hs
    refine ⟨hdf,?_⟩
    simp only [resV,Option.bind_eq_some_iff] at hq'
    obtain ⟨vs,h1,p,h2,h3⟩:=hq'
    split at h3
    · rename_i hnd
      obtain ⟨us,r1,r2,r3⟩:=rawsRes_rel hE.te hv hsl h1
      obtain ⟨e1,e2,e3,e4⟩:=exports_rel hv hD h2 r2 r3
      have hul:=e1.length
      let T : Nat→Option (Nat × Nat × Nat):=fun c=>(p.2.find? fun q=>q.1 == c).bind fun q=>g'.T q.2
      have hT : ∀ q ∈ p.2,T q.1 = g'.T q.2:=fun q hq=>by
        show (p.2.find? _).bind _ = _
        rw [lookup_of e3 q hq]; rfl
      have hTm : ∀ c t,T c = some t→∃ q ∈ p.2,q.1 = c ∧ g'.T q.2 = some t:=fun c t ht=>by
        simp only [T,Option.bind_eq_some_iff] at ht
        obtain ⟨q,h4,h5⟩:=ht
        exact ⟨q,List.mem_of_find?_eq_some h4,by simpa using List.find?_some h4,h5⟩
      have hres : (results fn a'.tmps).run P w' = .ok (if h : us.length = 1 then us[0] else .tuple us.toArray) w':=by
        generalize hl : fn.results.toList = l at r1
        have hfr : fn.results = l.toArray:=by rw [← hl]
        unfold results
        rw [hfr,List.mapM_toArray,map_eq_pure_bind,Sem.run_bind,Sem.run_bind]
        erw [r1]
        simp only [Result.andThen_ok,Sem.run_pure,List.size_toArray]
        rfl
      refine ⟨_,hres,_,boxG g' σ.box,T,rfl,?_⟩
      have hbelow : Below w.heap.size w w':=⟨hv.chg.os,hv.chg.tape,hv.chg.output,hv.chg.size,fun k hk=>hv.chg.block k hk (fun h=>h.elim (fun ⟨b,hb⟩=>by cases hb) (fun ⟨_,_,_,h⟩=>by cases h))⟩
      have hG0 : ∀ k o,boxG g' σ.box k o→(at_ w' k o).isSome:=by
        rintro k o (h | ⟨b,xs,h4,h5,h6⟩)
        · exact hv.cell k o h
        · obtain ⟨us,h7,h8,_⟩ := hv.box_cells h4 h5
          rw [h8 o (by rw [h7.length]; exact h6)]
          have : o < us.length:=by rw [h7.length]; exact h6
          simp [this]
      have hrt : RV noMu (boxG g' σ.box) w' r (if h : us.length = 1 then us[0] else .tuple us.toArray) ∧ Top (resG (boxG g' σ.box) T) r (if h : us.length = 1 then us[0] else .tuple us.toArray):=by
        split at h3
        · rename_i v hp1
          simp only [Option.some.injEq] at h3; subst h3
          rw [hp1] at e1 e4
          simp only [RVs] at e1
          obtain ⟨u,us',rfl,h6,h7⟩:=e1
          cases h7
          refine ⟨by simpa using h6,?_⟩
          have e5:=e4 T hT 0
          cases v with
          | sl n xs fl=>exact e5 n xs fl u (by simp) (by simp)
          | tup vs' =>
            exact absurd hp1 (by
              intro hp1
              have:=exports_notup h2 (.tup vs') (by rw [hp1]; simp)
              exact this _ rfl)
          | _=>trivial
        · rename_i vs' hp1
          simp only [Option.some.injEq] at h3; subst h3
          have hne : ¬ us.length = 1:=by
            rw [hul]
            intro hl
            obtain ⟨v,hv1⟩:=List.length_eq_one_iff.1 hl
            exact hp1 v hv1
          rw [dif_neg hne]
          refine ⟨by simp only [RV]; exact ⟨us,rfl,e1⟩,?_⟩
          simp only [Top]
          exact ⟨us.toArray,rfl,fun j n xs fl v hj hu=>e4 T hT j n xs fl v hj (by simpa using hu)⟩
      refine ⟨hbelow,fun k o h=>.inl (hv.sub k o h),?_,hG0,hrt.1,hrt.2,?_,?_⟩
      · rintro k o (h | ⟨b,xs,h4,h5,h6⟩) hk
        · exact (hv.old k o h hk).resolve_right (fun ⟨_,_,_,h,_⟩=>by cases h)
        · rcases hv.lv b k h4 with h | ⟨_,h⟩
          · cases h
          · exact absurd hk (Nat.not_lt.2 h)
      · intro c k lo hi ht
        obtain ⟨q,hq,rfl,hqt⟩:=hTm _ _ ht
        obtain ⟨t1,t2,t3,t4,t5,t6,t7⟩:=hv.tail _ _ _ _ hqt
        refine ⟨t1.resolve_right (fun ⟨_,_,_,h,_⟩=>by cases h),t2,t5,fun o h1 h2=>?_⟩
        obtain ⟨f1,f2,f3⟩:=t6 o h1 h2
        refine ⟨f1,f2,?_⟩
        rintro (h | ⟨b,xs,h4,h5,h6⟩)
        · exact f3 h
        · exact t7 b h4
      · intro c c' k lo hi lo' hi' ht ht'
        obtain ⟨q,hq,rfl,hqt⟩:=hTm _ _ ht
        obtain ⟨q',hq',rfl,hqt'⟩:=hTm _ _ ht'
        have:=hv.tinj _ _ _ _ _ _ _ hqt hqt'
        rw [nodup_snd hnd q hq q' hq' this]
    · cases h3
  exact done
end Go.Abs
namespace Go.Abs
set_option linter.unusedSimpArgs false
set_option linter.unusedVariables false
open Go Go.RowKit
mutual
def Men (p : Bx → Prop) : AV → Prop
  | .ptr b _=>p b
  | .view b _ _ _ _=>p b
  | .sl _ xs _=>MenL p xs
  | .agg xs=>MenL p xs
  | .tup xs=>MenL p xs
  | .fn _ xs=>MenL p xs
  | _=>True
def MenL (p : Bx → Prop) : List AV → Prop
  | []=>True
  | x :: xs=>Men p x ∧ MenL p xs
end
mutual
theorem RV.men {μ : Bx → Option Nat} {G : Nat → Nat → Prop} {w : World} {p : Bx → Prop} (hp : ∀ b k,μ b = some k → p b) : ∀ (v : AV) (u : Value),RV μ G w v u → Men p v
  | .dead,_,_=>trivial
  | .raw _,_,_=>trivial
  | .anyb,_,_=>trivial
  | .sl n xs fl,u,h=>by
    simp only [RV,Men] at h ⊢
    rcases h with ⟨_,_,h⟩ | ⟨k,o,c,us,_,_,h,_⟩
    · rw [h]; simp only [MenL]
    · exact RVs.men hp xs us h
  | .ptr b off,u,h=>by simp only [RV,Men] at h ⊢; obtain ⟨k,h,_⟩:=h; exact hp _ _ h
  | .iptr xs,_,_=>trivial
  | .view b off n c z,u,h=>by simp only [RV,Men] at h ⊢; obtain ⟨k,o,_,h,_⟩:=h; exact hp _ _ h
  | .agg xs,u,h=>by simp only [RV,Men] at h ⊢; obtain ⟨us,_,h⟩:=h; exact RVs.men hp xs us h
  | .tup xs,u,h=>by simp only [RV,Men] at h ⊢; obtain ⟨us,_,h⟩:=h; exact RVs.men hp xs us h
  | .fn f xs,u,h=>by simp only [RV,Men] at h ⊢; obtain ⟨us,_,h⟩:=h; exact RVs.men hp xs us h
  | .nptr _,_,_=>trivial
theorem RVs.men {μ : Bx → Option Nat} {G : Nat → Nat → Prop} {w : World} {p : Bx → Prop} (hp : ∀ b k,μ b = some k → p b) : ∀ (xs : List AV) (us : List Value),RVs μ G w xs us → MenL p xs
  | [],_,_=>trivial
  | x :: xs,us,h=>by
    simp only [RVs,MenL] at h ⊢
    obtain ⟨u,us',_,h1,h2⟩:=h
    exact ⟨RV.men hp x u h1,RVs.men hp xs us' h2⟩
end
section
variable {p : Bx→Prop} {bx bx' : Boxes}
mutual
theorem snap_box (hb : ∀ b,p b → bx b = bx' b) : ∀ v,Men p v → snap bx v = snap bx' v
  | .dead,_=>rfl
  | .raw _,_=>rfl
  | .anyb,_=>rfl
  | .sl n xs fl,h=>by simp only [snap,Men] at h ⊢; rw [snapL_box hb xs h]
  | .ptr b off,h=>by simp only [snap,Men] at h ⊢; rw [hb b h]
  | .iptr xs,_=>rfl
  | .view b off n c z,h=>by simp only [snap,Men] at h ⊢; rw [hb b h]
  | .agg xs,h=>by simp only [snap,Men] at h ⊢; rw [snapL_box hb xs h]
  | .tup xs,h=>by simp only [snap,Men] at h ⊢; rw [snapL_box hb xs h]
  | .fn _ _,_=>rfl
  | .nptr _,_=>rfl
theorem snapL_box (hb : ∀ b,p b → bx b = bx' b) : ∀ xs,MenL p xs → snapL bx xs = snapL bx' xs
  | [],_=>rfl
  | x :: xs,h=>by
    simp only [snapL,MenL] at h ⊢
    rw [snap_box hb x h.1,snapL_box hb xs h.2]
end
theorem snapAll_box (hb : ∀ b,p b → bx b = bx' b) : ∀ xs,(∀ x ∈ xs,Men p x) → snapAll bx xs = snapAll bx' xs
  | [],_=>rfl
  | x :: xs,h=>by
    simp only [snapAll]
    rw [snap_box hb x (h x (by simp)),snapAll_box hb xs (fun y hy=>h y (by simp [hy]))]
theorem slCells_box (hb : ∀ b,p b → bx b = bx' b) {sz : Nat} : ∀ v,Men p v → slCells bx sz v = slCells bx' sz v
  | .view b off n c z,h=>by simp only [slCells,Men] at h ⊢; rw [hb b h]
  | .dead,_=>rfl
  | .raw v,_=>by unfold slCells; split <;> first | rfl | simp_all
  | .anyb,_=>rfl
  | .sl n xs fl,_=>rfl
  | .ptr b off,_=>rfl
  | .iptr xs,_=>rfl
  | .agg xs,_=>rfl
  | .tup xs,_=>rfl
  | .fn _ _,_=>rfl
  | .nptr _,_=>rfl
theorem srcV_box (hb : ∀ b,p b→bx b = bx' b) {te : TypeId→Option TI} {ti : TI} {t : TypeId} {v : AV} (h : Men p v) : srcV te bx ti t v = srcV te bx' ti t v:=by
  unfold srcV
  split
  · rfl
  · exact slCells_box hb _ h
  · exact slCells_box hb _ h
  · rfl
theorem loadV_box (hb : ∀ b,p b→bx b = bx' b) {te : TypeId→Option TI} {t : TypeId} {v : AV} (h : Men p v) : loadV te bx t v = loadV te bx' t v:=by
  unfold loadV
  split
  · simp only [Men] at h; rw [hb _ h]
  · rfl
  · rfl
theorem convV_box (hb : ∀ b,p b→bx b = bx' b) {E : Env} {lvl d g : Nat} {s t : TypeId} {v : AV} (h : Men p v) : convV E lvl d g bx s t v = convV E lvl d g bx' s t v:=by
  unfold convV
  split
  · rfl
  · rfl
  · rfl
  · split
    · split
      · rfl
      · rw [slCells_box hb _ h]
    · rfl
  · rfl
theorem appendV_box (hb : ∀ b,p b→bx b = bx' b) {E : Env} {lvl d g : Nat} {used : Id→Bool} {ts : List TypeId} {s x : AV} (h1 : Men p s) (h2 : Men p x) : appendV E lvl d g bx used ts s x = appendV E lvl d g bx' used ts s x:=by
  unfold appendV
  split
  · split
    · simp only [slCells_box hb _ h1,srcV_box hb h2]
    · rfl
  · rfl
theorem MenL.all : ∀ {xs : List AV},MenL p xs → ∀ x ∈ xs,Men p x
  | [],_,x,h=>by cases h
  | y :: xs,hm,x,h=>by
    simp only [MenL] at hm
    rcases List.mem_cons.1 h with rfl | h
    · exact hm.1
    · exact MenL.all hm.2 x h
theorem grow_box (hb : ∀ b,p b→bx b = bx' b) {E : Env} {lvl d g : Nat} {used : Id→Bool} {ρ : Operand→AV} (op : Op) (hg : isGen E op = false) (h : ∀ x ∈ op.operands,Men p (ρ x)) : grow E lvl d g ρ bx used op = grow E lvl d g ρ bx' used op:=by
  cases op with
  | load t x =>
    by_cases hi : ipS E x = true
    · simp only [grow,hi,if_true]
    · simp only [grow,if_neg hi]; rw [loadV_box hb (h x (by simp [Op.operands]))]
  | convert s t x=>simp only [grow]; rw [convV_box hb (h x (by simp [Op.operands]))]
  | call c =>
    obtain ⟨callee,args,ts⟩:=c
    have ha : ∀ x ∈ args.toList,Men p (ρ x):=fun x hx=>h x (by simp [Op.operands,Call.operands]; exact .inr (by simpa using hx))
    cases callee with
    | builtin b =>
      cases b with
      | append =>
        simp only [grow]
        split
        · rename_i s x hs
          exact appendV_box hb (ha s (by rw [hs]; simp)) (ha x (by rw [hs]; simp))
        · rfl
      | _=>simp only [grow]
    | value f =>
      have hfm:=h f (by simp [Op.operands,Call.operands])
      simp only [grow]
      split
      · rename_i f' caps hf
        split
        · rw [hf] at hfm
          simp only [Men] at hfm
          rw [snapAll_box hb _ (fun y hy=>by
            rcases List.mem_append.1 hy with hy | hy
            · obtain ⟨x,hx,rfl⟩:=List.mem_map.1 hy; exact ha x hx
            · exact hfm.all y hy)]
        · rw [if_neg (by rw [hg]; simp),if_neg (by rw [hg]; simp)]
        · rfl
      · rfl
    | invoke r m=>simp only [grow]
  | _=>simp only [grow]
end
theorem grow_rho {E : Env} {lvl d g : Nat} {bx : Boxes} {used : Id→Bool} {ρ ρ' : Operand→AV} (op : Op) (h : ∀ x ∈ op.operands,ρ x = ρ' x) : grow E lvl d g ρ bx used op = grow E lvl d g ρ' bx used op:=by
  have pairs : ∀ ps : Array (Nat × Operand),(∀ x ∈ (ps.toList.map (·.2)).toArray,ρ x = ρ' x)→(ps.toList.map fun p=>(p.1,ρ p.2)) = (ps.toList.map fun p=>(p.1,ρ' p.2)):=fun ps hp =>
    List.map_congr_left fun p hm=>by rw [hp p.2 (by simpa using ⟨p.1,by simpa using hm⟩)]
  cases op with
  | build t ps=>simp only [grow]; rw [pairs ps (by simpa only [Op.operands] using h)]
  | buildSlice t n ps=>simp only [grow]; rw [pairs ps (by simpa only [Op.operands] using h)]
  | makeFunc fn first caps =>
    have : caps.toList.map ρ = caps.toList.map ρ':=List.map_congr_left fun x hx=>h x (by simp [Op.operands]; exact .inr (by simpa using hx))
    cases fn <;> simp only [grow]
    rw [this]
  | slice t x lo hi mx =>
    simp only [Op.operands] at h
    have h1 : ρ x = ρ' x:=h x (by simp)
    have h2 : lo.map ρ = lo.map ρ':=by cases lo with | none=>rfl | some y=>simp only [Option.map_some]; rw [h y (by simp)]
    have h3 : hi.map ρ = hi.map ρ':=by cases hi with | none=>rfl | some y=>simp only [Option.map_some]; rw [h y (by simp)]
    have h4 : mx.map ρ = mx.map ρ':=by cases mx with | none=>rfl | some y=>simp only [Option.map_some]; rw [h y (by simp)]
    simp only [grow,h1,h2,h3,h4]
  | call c =>
    obtain ⟨callee,args,ts⟩:=c
    have ha : ∀ x ∈ args.toList,ρ x = ρ' x:=fun x hx=>h x (by simp [Op.operands,Call.operands]; exact .inr (by simpa using hx))
    have hm : args.toList.map ρ = args.toList.map ρ':=List.map_congr_left ha
    cases callee with
    | builtin b =>
      cases b with
      | append =>
        simp only [grow]
        split
        · rename_i s x hs
          rw [ha s (by rw [hs]; simp),ha x (by rw [hs]; simp)]
        · rfl
      | len =>
        simp only [grow]
        split
        · rename_i x t ts' hx ht
          rw [ha x (by rw [hx]; simp)]
        · rfl
      | min =>
        simp only [grow]
        split
        · rename_i x y hs
          rw [ha x (by rw [hs]; simp),ha y (by rw [hs]; simp)]
        · rfl
      | _=>simp only [grow]
    | value f =>
      have hf : ρ f = ρ' f:=h f (by simp [Op.operands,Call.operands])
      simp only [grow,hf,hm]
    | invoke r m=>simp only [grow]
  | _=>(simp only [Op.operands] at h; first | (simp only [grow]; done) | (simp at h; simp only [grow,h]; done) | (simp at h; simp only [grow,h.1,h.2]; done) | (simp at h; simp only [grow,h.1,h.2.1,h.2.2]; done))
theorem room_used {sz m : Nat} {used used' : Id→Bool} {v : AV} {u : Option Id} (h : room sz m used v = some u) (hu : ∀ k,u = some k→used' k = false) : room sz m used' v = some u ∧ ∀ k,u = some k→used k = false:=by
  unfold room at h ⊢
  split at h
  · cases h; exact ⟨rfl,by simp⟩
  · split at h
    · cases h
    · cases h; simp [*]
  · split at h
    · rename_i i z hc
      cases h
      exact ⟨by rw [if_pos ⟨hu i rfl,hc.2⟩],fun k hk=>by cases hk; exact hc.1⟩
    · cases h
  · cases h
theorem grow_used {E : Env} {lvl d g : Nat} {bx : Boxes} {used used' : Id → Bool} {ρ : Operand → AV} {op : Op} {r : GR} (h : grow E lvl d g ρ bx used op = some r) (hg : isGen E op = false) (hu : ∀ k,r.use = some k → used' k = false) :
    grow E lvl d g ρ bx used' op = some r:=by
  cases op with
  | call c =>
    obtain ⟨callee,args,ts⟩:=c
    cases callee with
    | builtin b =>
      cases b with
      | append =>
        simp only [grow] at h ⊢
        split at h
        · unfold appendV at h ⊢
          split at h
          · split at h
            · simp only [Option.bind_eq_some_iff] at h ⊢
              obtain ⟨ti,h1,p,h2,q,h3,h⟩:=h
              refine ⟨ti,h1,p,h2,q,h3,?_⟩
              split at h
              · rename_i hf; rw [if_pos hf]; exact h
              rename_i hf
              rw [if_neg hf]
              simp only [Option.bind_eq_some_iff] at h ⊢
              obtain ⟨u,h4,h5⟩:=h
              split at h5
              · rename_i hc
                split at h5
                · rename_i hm
                  cases h5
                  exact ⟨u,(room_used h4 hu).1,by rw [if_pos hc,if_pos hm]⟩
                · rename_i hm
                  split at h5
                  · rename_i hq
                    cases h5
                    exact ⟨u,(room_used h4 (fun k hk=>by rw [hq.1] at hk; cases hk)).1,by rw [if_pos hc,if_neg hm,if_pos hq]⟩
                  · cases h5
              · cases h5
            · cases h
          · cases h
        · cases h
      | _=>first | exact h | (simp only [grow] at h ⊢; exact h)
    | value f =>
      simp only [grow] at h ⊢
      split at h
      · split at h
        · exact h
        · rw [if_neg (by rw [hg]; simp)] at h; cases h
        · cases h
      · cases h
    | _=>first | exact h | (simp only [grow] at h ⊢; exact h)
  | convert s t x =>
    simp only [grow] at h ⊢
    split at h
    · rename_i hs
      rw [if_pos hs]
      unfold convSelf at h ⊢
      split at h
      · split at h
        · split at h
          · split at h
            · rename_i hc
              cases h
              obtain ⟨rfl,h1,h2⟩:=hc
              have h3:=hu _ rfl
              simp [*]
            · cases h
          · cases h
        · cases h
      · split at h
        · split at h
          · split at h
            · rename_i hc
              cases h
              obtain ⟨rfl,h1,h2⟩:=hc
              have h3:=hu _ rfl
              simp [*]
            · cases h
          · cases h
        · cases h
      · cases h
    · rename_i hs
      rw [if_neg hs]; exact h
  | _=>first | exact h | (simp only [grow] at h ⊢; exact h)
theorem map_use {α : Type} {x : Option α} {f : α→GR} {r : GR} {k : Id} (h : x.map f = some r) (hk : r.use = some k) (hf : ∀ v,(f v).use = none) : False:=by
  obtain ⟨v,_,rfl⟩:=Option.map_eq_some_iff.1 h
  rw [hf] at hk; cases hk
theorem freshSl_use {E : Env} {lvl d g n sz : Nat} {xs : List AV} : (freshSl E lvl d g n sz xs).use = none:=by unfold freshSl; split <;> (try split) <;> rfl
theorem grow_use {E : Env} {lvl d g : Nat} {bx : Boxes} {used : Id→Bool} {ρ : Operand→AV} {op : Op} {r : GR} {k : Id} (h : grow E lvl d g ρ bx used op = some r) (hg : isGen E op = false) (hk : r.use = some k) : used k = false:=by
  cases op with
  | call c =>
    obtain ⟨callee,args,ts⟩:=c
    cases callee with
    | builtin b =>
      cases b with
      | append =>
        simp only [grow] at h
        split at h
        · unfold appendV at h
          split at h
          · split at h
            · simp only [Option.bind_eq_some_iff] at h
              obtain ⟨ti,h1,p,h2,q,h3,h⟩:=h
              split at h
              · cases h; cases hk
              simp only [Option.bind_eq_some_iff] at h
              obtain ⟨u,h4,h5⟩:=h
              split at h5
              · split at h5
                · cases h5
                  exact (room_used (used':=fun _=>false) h4 (fun _ _=>rfl)).2 k hk
                · split at h5
                  · cases h5; cases hk
                  · cases h5
              · cases h5
            · cases h
          · cases h
        · cases h
      | len =>
        simp only [grow] at h
        split at h
        · exact (map_use h hk fun _=>rfl).elim
        · cases h
      | min =>
        simp only [grow] at h
        split at h
        · exact (map_use h hk fun _=>rfl).elim
        · cases h
      | _=>simp only [grow] at h; cases h
    | value f =>
      simp only [grow] at h
      split at h
      · split at h
        · simp only [Option.bind_eq_some_iff] at h
          obtain ⟨_,_,_,_,h⟩:=h
          split at h
          · cases h; cases hk
          · cases h
        · rw [if_neg (by rw [hg]; simp)] at h; cases h
        · cases h
      · cases h
    | invoke x m=>simp only [grow] at h; cases h
  | move x=>simp only [grow] at h; cases h; cases hk
  | assign x=>simp only [grow] at h; cases h; cases hk
  | pick c x y =>
    simp only [grow] at h
    split at h
    · cases h; cases hk
    · cases h
  | alloc t=>simp only [grow] at h; exact (map_use h hk fun _=>rfl).elim
  | box t x =>
    simp only [grow,Option.bind_eq_some_iff] at h
    obtain ⟨ti,ht,cs,hc,h⟩:=h
    split at h
    · split at h
      · cases h; cases hk
      · cases h; cases hk
    · cases h
  | build t ps =>
    simp only [grow,Option.bind_eq_some_iff] at h
    obtain ⟨ti,ht,h⟩:=h
    split at h
    · exact (map_use h hk fun _=>rfl).elim
    · cases h
  | buildSlice t n ps =>
    simp only [grow] at h
    split at h
    · simp only [Option.bind_eq_some_iff] at h
      obtain ⟨ti,ht,h⟩:=h
      split at h
      · exact (map_use h hk fun _=>freshSl_use).elim
      · cases h
    · cases h
  | load t x=>simp only [grow] at h; exact (map_use h hk fun _=>rfl).elim
  | nilCheck x =>
    simp only [grow] at h
    split at h
    · cases h; cases hk
    · cases h; cases hk
    · cases h; cases hk
    · cases h
  | binOp op t x y ty=>simp only [grow] at h; exact (map_use h hk fun _=>rfl).elim
  | unOp op t x=>simp only [grow] at h; exact (map_use h hk fun _=>rfl).elim
  | convert s t x =>
    simp only [grow] at h
    split at h
    · unfold convSelf at h
      split at h
      · split at h
        · split at h
          · split at h
            · rename_i hc
              cases h; cases hk; exact hc.2.1
            · cases h
          · cases h
        · cases h
      · split at h
        · split at h
          · split at h
            · rename_i hc
              cases h; cases hk; exact hc.2.1
            · cases h
          · cases h
        · cases h
      · cases h
    unfold convV at h
    split at h
    · cases h; cases hk
    · cases h; cases hk
    · split at h
      · split at h
        · cases h
        · cases h; cases hk
      · cases h
    · split at h
      · split at h
        · cases h
        · simp only [Option.bind_eq_some_iff] at h
          obtain ⟨_,_,h⟩:=h
          exact (map_use h hk fun _=>rfl).elim
      · cases h
    · cases h
  | sliceToArrayPointer t x =>
    simp only [grow] at h
    split at h
    · split at h
      · cases h; cases hk
      · cases h
    · split at h
      · cases h; cases hk
      · cases h
    · cases h
  | makeFunc fn first caps =>
    simp only [grow] at h
    split at h
    · split at h
      · cases h; cases hk
      · cases h
    · cases h
  | makeSlice t l c =>
    simp only [grow,makeV] at h
    split at h
    · simp only [Option.bind_eq_some_iff] at h
      obtain ⟨_,_,h⟩:=h
      split at h
      · split at h
        · cases h; cases hk
        · cases h; cases hk
      · cases h
    · cases h
  | slice t x lo hi mx=>simp only [grow] at h; exact (map_use h hk fun _=>rfl).elim
  | fieldAddr s x f=>simp only [grow] at h; exact (map_use h hk fun _=>rfl).elim
  | field t x f=>simp only [grow] at h; exact (map_use h hk fun _=>rfl).elim
  | indexAddr t x i=>simp only [grow] at h; exact (map_use h hk fun _=>rfl).elim
  | index t x i=>simp only [grow] at h; exact (map_use h hk fun _=>rfl).elim
  | extract x i =>
    simp only [grow] at h
    split at h
    · split at h
      · cases h
      · cases h; cases hk
      · cases h
    · cases h
  | _=>simp only [grow] at h; cases h
end Go.Abs
namespace Go.Abs
set_option linter.unusedSimpArgs false
set_option linter.unusedVariables false
open Go Go.RowKit
def effV (E : Env) (lvl N : Nat) (ops : List Oper) (σ : AS) (o : Oper) : Option (Option (Nat × GR)) :=
  match wantedV ops σ o with
  | none=>none
  | some false => match o.dst with
    | some d=>if d < N then some (some (d,{ v:=.raw undef })) else none
    | none=>some none
  | some true => match o.dst with
    | some d=>if d < N then (grow E lvl d (σ.gen d + 1) (ev E σ.slots) σ.box σ.used o.op).map fun r=>some (d,r) else none
    | none=>none
def AS.grownP (σ : AS) (lvl d : Nat) (r : GR) : AS :=
  { slots := upd σ.slots d r.v
    gen:=if r.bump then upd σ.gen d (σ.gen d + 1) else σ.gen
    box:=match r.cont with | some c=>updB σ.box (.own lvl d (σ.gen d + 1)) c | none=>σ.box
    used:=match r.use with | some i=>updI σ.used i | none=>σ.used }
theorem grown_plain {σ : AS} {lvl d : Nat} {r : GR} (h : r.wr = [] ∧ r.uses = []) : σ.grown lvl d r = σ.grownP lvl d r:=by
  unfold AS.grown AS.grownP
  rw [h.1,h.2]
  rfl
def AS.app (lvl : Nat) (σ : AS) : Option (Nat × GR) → AS
  | none=>σ
  | some (d,r)=>σ.grownP lvl d r
section
variable {E : Env} {lvl N : Nat} {ops : List Oper} {σ σ' : AS} {o : Oper}
theorem stepV_eff (hw : isWrite o.op = false) (hg : isGen E o.op = false) : stepV E lvl N ops σ o = (effV E lvl N ops σ o).map (σ.app lvl):=by
  unfold stepV effV
  cases wantedV ops σ o with
  | none=>rfl
  | some b =>
    cases b with
    | false =>
      cases o.dst with
      | none=>rfl
      | some d =>
        simp only
        split
        · rfl
        · rfl
    | true =>
      simp only
      rw [if_neg (by simp [hw])]
      cases o.dst with
      | none=>simp only; rw [if_neg (by rw [hg]; simp)]; rfl
      | some d =>
        simp only
        split
        · cases e : grow E lvl d (σ.gen d + 1) (ev E σ.slots) σ.box σ.used o.op with
          | none=>rfl
          | some r=>simp only [Option.map_some]; rw [grown_plain (grow_plain e hg)]; rfl
        · rfl
theorem effV_dst {d : Nat} {r : GR} (h : effV E lvl N ops σ o = some (some (d,r))) : o.dst = some d:=by
  unfold effV at h
  split at h
  · cases h
  · split at h
    · split at h
      · cases h; assumption
      · cases h
    · cases h
  · split at h
    · split at h
      · simp only [Option.map_eq_some_iff] at h
        obtain ⟨_,_,h⟩:=h
        cases h; assumption
      · cases h
    · cases h
theorem effV_use {d : Nat} {r : GR} {k : Id} (hgn : isGen E o.op = false) (h : effV E lvl N ops σ o = some (some (d,r))) (hk : r.use = some k) : σ.used k = false:=by
  unfold effV at h
  split at h
  · cases h
  · split at h
    · split at h
      · cases h; cases hk
      · cases h
    · cases h
  · split at h
    · split at h
      · simp only [Option.map_eq_some_iff] at h
        obtain ⟨_,h1,h⟩:=h
        cases h
        exact grow_use h1 hgn hk
      · cases h
    · cases h
theorem effV_move {p : Bx → Prop} {e : Option (Nat × GR)} (hgn : isGen E o.op = false) (hw : wantedV ops σ' o = wantedV ops σ o) (hρ : ∀ u ∈ o.op.operands,ev E σ.slots u = ev E σ'.slots u) (hg : ∀ d,o.dst = some d → σ'.gen d = σ.gen d)
    (hb : ∀ b,p b→σ.box b = σ'.box b) (hm : ∀ u ∈ o.op.operands,Men p (ev E σ.slots u)) (hu : ∀ d r k,e = some (d,r)→r.use = some k→σ'.used k = false)
    (h : effV E lvl N ops σ o = some e) : effV E lvl N ops σ' o = some e:=by
  unfold effV at h ⊢
  rw [hw]
  split at h
  · cases h
  · exact h
  · split at h
    · rename_i d hd
      split at h
      · rename_i hlt
        rw [if_pos hlt,hg d hd]
        simp only [Option.map_eq_some_iff] at h ⊢
        obtain ⟨r,h1,rfl⟩:=h
        refine ⟨r,?_,rfl⟩
        rw [← grow_rho o.op hρ,← grow_box hb o.op hgn hm]
        exact grow_used h1 hgn (fun k hk=>hu d r k rfl hk)
      · cases h
    · cases h
theorem ev_upd {d : Nat} {v : AV} {sl : Nat→AV} {u : Operand} (h : u ≠ .tmp d) : ev E (upd sl d v) u = ev E sl u:=by
  cases u with
  | tmp t=>simp only [ev,upd]; rw [if_neg (fun e=>h (by rw [e]))]
  | _=>rfl
theorem ev_look {d : Nat} {v : AV} {sl : Nat→AV} (h : d ∉ o.looksAt ops.toArray) {u : Operand} (hu : u ∈ o.op.operands) : ev E (upd sl d v) u = ev E sl u :=
  ev_upd fun e=>h (by subst e; exact List.mem_append_left _ (List.mem_filterMap.2 ⟨.tmp d,by simpa using hu,rfl⟩))
theorem wantedV_look {d : Nat} {v : AV} (h : d ∉ o.looksAt ops.toArray) (hs : σ'.slots = upd σ.slots d v) : wantedV ops σ' o = wantedV ops σ o:=by
  unfold wantedV
  cases hg : o.guard with
  | none=>rfl
  | some p =>
    obtain ⟨j,want⟩:=p
    simp only
    cases hj : (ops[j]?).bind (·.dst) with
    | none=>rfl
    | some s =>
      have : s ≠ d:=fun e=>h (by subst e; simp [Oper.looksAt,hg,hj])
      simp only [hs,upd]
      rw [if_neg this]
theorem app_comm {d d' : Nat} {r r' : GR} (hd : d ≠ d') : (σ.grownP lvl d r).grownP lvl d' r' = (σ.grownP lvl d' r').grownP lvl d r:=by
  have hd' : ¬ d' = d:=fun e=>hd e.symm
  have h1 : upd (upd σ.slots d r.v) d' r'.v = upd (upd σ.slots d' r'.v) d r.v:=by
    funext i; unfold upd; split <;> split <;> first | rfl | omega
  have g1 : (σ.grownP lvl d r).gen d' = σ.gen d':=by
    simp only [AS.grownP]; split
    · simp only [upd]; rw [if_neg hd']
    · rfl
  have g2 : (σ.grownP lvl d' r').gen d = σ.gen d:=by
    simp only [AS.grownP]; split
    · simp only [upd]; rw [if_neg hd]
    · rfl
  have h2 : (if r'.bump then upd (σ.grownP lvl d r).gen d' (σ.gen d' + 1) else (σ.grownP lvl d r).gen) = (if r.bump then upd (σ.grownP lvl d' r').gen d (σ.gen d + 1) else (σ.grownP lvl d' r').gen):=by
    funext i; simp only [AS.grownP]
    cases r.bump <;> cases r'.bump <;> simp only [if_true,Bool.false_eq_true,if_false,upd]
    split <;> split <;> first | rfl | omega
  have h3 : (match r'.cont with | some c=>updB (σ.grownP lvl d r).box (.own lvl d' (σ.gen d' + 1)) c | none=>(σ.grownP lvl d r).box) = (match r.cont with | some c=>updB (σ.grownP lvl d' r').box (.own lvl d (σ.gen d + 1)) c | none=>(σ.grownP lvl d' r').box):=by
    simp only [AS.grownP]
    cases r.cont <;> cases r'.cont <;> simp only
    funext b; unfold updB
    split <;> split <;> first | rfl | (rename_i e1 e2; rw [e1] at e2; cases e2; exact absurd rfl hd)
  have h4 : (match r'.use with | some i=>updI (σ.grownP lvl d r).used i | none=>(σ.grownP lvl d r).used) = (match r.use with | some i=>updI (σ.grownP lvl d' r').used i | none=>(σ.grownP lvl d' r').used):=by
    simp only [AS.grownP]
    cases r.use <;> cases r'.use <;> simp only
    funext b; unfold updI
    split <;> split <;> rfl
  show AS.mk _ _ _ _ = AS.mk _ _ _ _
  rw [g1,g2]
  congr 1
structure Fresh (lvl : Nat) (σ : AS) : Prop where
  new : ∀ d n,σ.gen d < n→σ.box (.own lvl d n) = none
  men : ∀ i,Men (fun b=>(σ.box b).isSome) (σ.slots i)
theorem Fresh.ev (h : Fresh lvl σ) (u : Operand) : Men (fun b=>(σ.box b).isSome) (ev E σ.slots u):=by
  cases u with
  | tmp t=>exact h.men t
  | const v =>
    have raws : ∀ l : List Value,MenL (fun b=>(σ.box b).isSome) (l.map .raw):=fun l=>by
      induction l with
      | nil=>trivial
      | cons x xs ih=>exact ⟨trivial,ih⟩
    cases v <;> first | trivial | exact raws _
  | global g=>simp only [Abs.ev]; split <;> trivial
  | func f=>exact trivial
theorem swapV {x y : Oper} (hf : Fresh lvl σ) (hap : x.apart ops.toArray y = true) (hx : isWrite x.op = false) (hy : isWrite y.op = false) (gx : isGen E x.op = false) (gy : isGen E y.op = false) {σ1 σ2 : AS}
    (h1 : stepV E lvl N ops σ x = some σ1) (h2 : stepV E lvl N ops σ1 y = some σ2) : ∃ σ1',stepV E lvl N ops σ y = some σ1' ∧ stepV E lvl N ops σ1' x = some σ2:=by
  obtain ⟨a1,a2,a3⟩:=Oper.apart_spec hap
  rw [stepV_eff hx gx] at h1
  rw [stepV_eff hy gy] at h2
  simp only [Option.map_eq_some_iff] at h1 h2
  obtain ⟨ex,hex,rfl⟩:=h1
  obtain ⟨ey,hey,rfl⟩:=h2
  -- y,before x
  have boxOK : ∀ (e : Option (Nat × GR)) b,(σ.box b).isSome = true→(σ.app lvl e).box b = σ.box b:=by
    intro e b hb
    cases e with
    | none=>rfl
    | some p =>
      obtain ⟨d,r⟩:=p
      simp only [AS.app,AS.grownP]
      cases r.cont with
      | some c =>
        simp only [updB]
        split
        · rename_i e; rw [e,hf.new d _ (Nat.lt_succ_self _)] at hb; cases hb
        · rfl
      | none=>rfl
  have usedOK : ∀ (e : Option (Nat × GR)) k,(σ.app lvl e).used k = false→σ.used k = false ∧ ∀ d r,e = some (d,r)→r.use ≠ some k:=by
    intro e k hk
    cases e with
    | none=>exact ⟨hk,fun _ _ h=>by cases h⟩
    | some p =>
      obtain ⟨d,r⟩:=p
      simp only [AS.app,AS.grownP] at hk
      cases hi : r.use with
      | some i =>
        rw [hi] at hk
        simp only [updI] at hk
        split at hk
        · cases hk
        · rename_i hne
          refine ⟨hk,fun d' r' e' hu=>?_⟩
          cases e'
          rw [hi] at hu; cases hu; exact hne rfl
      | none =>
        rw [hi] at hk
        exact ⟨hk,fun d' r' e' hu=>by cases e'; rw [hi] at hu; cases hu⟩
  have slotOK : ∀ (e : Option (Nat × GR)) (z : Oper),(∀ d r,e = some (d,r) → d ∉ z.looksAt ops.toArray) →
      wantedV ops (σ.app lvl e) z = wantedV ops σ z ∧ ∀ u ∈ z.op.operands,ev E (σ.app lvl e).slots u = ev E σ.slots u:=by
    intro e z hz
    cases e with
    | none=>exact ⟨rfl,fun _ _=>rfl⟩
    | some p =>
      obtain ⟨d,r⟩:=p
      exact ⟨wantedV_look (hz d r rfl) rfl,fun u hu=>ev_look (hz d r rfl) hu⟩
  have genOK : ∀ (e : Option (Nat × GR)) d',(∀ d r,e = some (d,r)→d ≠ d')→(σ.app lvl e).gen d' = σ.gen d':=by
    intro e d' hd
    cases e with
    | none=>rfl
    | some p =>
      obtain ⟨d,r⟩:=p
      simp only [AS.app,AS.grownP]
      split
      · simp only [upd]; rw [if_neg (fun h=>hd d r rfl h.symm)]
      · rfl
  have dx : ∀ d r,ex = some (d,r)→x.dst = some d:=fun d r e=>effV_dst (by rw [← e]; exact hex)
  have dy : ∀ d r,ey = some (d,r)→y.dst = some d:=fun d r e=>effV_dst (by rw [← e]; exact hey)
  obtain ⟨sy1,sy2⟩:=slotOK ex y (fun d r e=>a1 d (dx d r e))
  have hey0 : effV E lvl N ops σ y = some ey:=by
    refine effV_move (p:=fun b=>(σ.box b).isSome) gy sy1.symm sy2 (fun d hd=>(genOK ex d (fun d' r e h=>a2 d' (dx d' r e) (by rw [hd,h]))).symm) (fun b hb=>boxOK ex b hb) (fun u hu=>by rw [sy2 u hu]; exact hf.ev u) ?_ hey
    intro d r k e hk
    exact (usedOK ex k (effV_use gy (by rw [← e]; exact hey) hk)).1
  obtain ⟨sx1,sx2⟩:=slotOK ey x (fun d r e=>a3 d (dy d r e))
  have hex1 : effV E lvl N ops (σ.app lvl ey) x = some ex:=by
    refine effV_move (p:=fun b=>(σ.box b).isSome) gx sx1 (fun u hu=>(sx2 u hu).symm) (fun d hd=>genOK ey d (fun d' r e h=>a2 d hd (by rw [dy d' r e,h]))) (fun b hb=>(boxOK ey b hb).symm) (fun u hu=>hf.ev u) ?_ hex
    intro d r k e hk
    have hk0 : σ.used k = false:=effV_use gx (by rw [← e]; exact hex) hk
    cases ey with
    | none=>exact hk0
    | some q =>
      obtain ⟨d',r'⟩:=q
      simp only [AS.app,AS.grownP]
      cases hi : r'.use with
      | some i =>
        have:=(usedOK ex i (effV_use (r:=r') gy hey hi)).2 d r e
        simp only [updI]
        split
        · rename_i e'; exact absurd (by rw [e'] at hk; exact hk) this
        · exact hk0
      | none=>exact hk0
  refine ⟨σ.app lvl ey,by rw [stepV_eff hy gy,hey0]; rfl,?_⟩
  rw [stepV_eff hx gx,hex1]
  simp only [Option.map_some,Option.some.injEq]
  cases ex with
  | none=>rfl
  | some p =>
    cases ey with
    | none=>rfl
    | some q =>
      obtain ⟨d,r⟩:=p
      obtain ⟨d',r'⟩:=q
      exact app_comm (fun e=>a2 d (dx d r rfl) (by have:=dy d' r' rfl; rw [this]; exact congrArg some e))
end
end Go.Abs
namespace Go.Abs
set_option linter.unusedSimpArgs false
set_option linter.unusedVariables false
open Go Go.RowKit
def plainOp (E : Env) : Op → Bool
  | .convert s t _ => match kd E.te s,kd E.te t with
    | .int _,.int _=>true
    | _,_=>false
  | .load _ a=>ipS E a
  | .move _ | .assign _ | .pick _ _ _ | .nilCheck _ | .binOp .. | .unOp .. | .slice .. | .fieldAddr .. | .field .. | .indexAddr .. | .index .. | .extract ..=>true
  | _=>false
def storeOp : Op → Bool
  | .store ..=>true
  | _=>false
def noBox : Boxes:=fun _=>none
def noUse : Id→Bool:=fun _=>false
section
variable {E : Env} {lvl N : Nat} {ops : List Oper} {σ σ' : AS} {o : Oper}
theorem conv_free {lvl d g : Nat} {bx : Boxes} {used : Id → Bool} {s t : TypeId} {x : Operand} {v : AV} (h : plainOp E (.convert s t x) = true) :
    (if isSelf E.te s t then convSelf E.te used s t v else convV E lvl d g bx s t v) = ((if isSelf E.te s t then convSelf E.te noUse s t v else convV E 0 0 0 noBox s t v).map fun r=>({ v:=r.v } : GR)):=by
  simp only [plainOp] at h
  cases hs : kd E.te s <;> rw [hs] at h <;> first | cases h | skip
  cases ht : kd E.te t <;> rw [ht] at h <;> first | cases h | skip
  have hi : isSelf E.te s t = false:=by simp only [isSelf,hs,ht]
  rw [hi]
  simp only [Bool.false_eq_true,if_false,convV,hs,ht]
  split <;> first | rfl | (exfalso; simp_all; done)
theorem grow_free {lvl d g : Nat} {ρ : Operand→AV} {bx : Boxes} {used : Id→Bool} {op : Op} (h : plainOp E op = true) : grow E lvl d g ρ bx used op = (grow E 0 0 0 ρ noBox noUse op).map fun r=>{ v:=r.v }:=by
  cases op
  case convert s t x=>exact conv_free (x:=x) h
  case load t x =>
    simp only [plainOp] at h
    simp only [grow,h,if_true,Option.map_map]
    rfl
  all_goals simp only [plainOp,Bool.false_eq_true] at h
  all_goals simp only [grow,Option.map_some,Option.map_map,Function.comp_def]
  all_goals first
    | rfl
    | (split <;> first | rfl | (split <;> first | rfl | (split <;> rfl)))
def AS.putE (σ : AS) : Option (Nat × AV) → AS
  | none=>σ
  | some (d,v)=>{ σ with slots:=upd σ.slots d v }
def plainV (E : Env) (N : Nat) (ops : List Oper) (σ : AS) (o : Oper) : Option (Option (Nat × AV)) :=
  match wantedV ops σ o with
  | none=>none
  | some false => match o.dst with
    | some d=>if d < N then some (some (d,.raw undef)) else none
    | none=>some none
  | some true => match o.dst with
    | some d=>if d < N then (grow E 0 0 0 (ev E σ.slots) noBox noUse o.op).map fun r=>some (d,r.v) else none
    | none=>none
theorem plain_gen {op : Op} (h : plainOp E op = true) : isGen E op = false ∧ isWrite op = false:=by
  cases op
  case convert s t x=>exact ⟨rfl,rfl⟩
  all_goals simp only [plainOp,Bool.false_eq_true] at h
  all_goals exact ⟨rfl,rfl⟩
theorem plain_step (h : plainOp E o.op = true) : stepV E lvl N ops σ o = (plainV E N ops σ o).map σ.putE:=by
  obtain ⟨hg,hw⟩:=plain_gen h
  unfold stepV plainV
  cases wantedV ops σ o with
  | none=>rfl
  | some b =>
    cases b with
    | false =>
      cases o.dst with
      | none=>rfl
      | some d=>simp only; split <;> rfl
    | true =>
      simp only
      rw [if_neg (by simp [hw])]
      cases o.dst with
      | none=>simp only; rw [if_neg (by rw [hg]; simp)]; rfl
      | some d =>
        simp only
        split
        · rw [grow_free h]
          cases grow E 0 0 0 (ev E σ.slots) noBox noUse o.op <;> rfl
        · rfl
def storeE (E : Env) (N : Nat) (ops : List Oper) (σ : AS) (o : Oper) : Option (Option (Nat × AV) × Boxes) :=
  match wantedV ops σ o with
  | none=>none
  | some false => match o.dst with
    | some d=>if d < N then some (some (d,.raw undef),σ.box) else none
    | none=>some (none,σ.box)
  | some true => match write E (ev E σ.slots) σ.box o.op with
    | some (v,b) => (match o.dst with
       | some d=>if d < N then some (some (d,v),b) else none
       | none=>some (none,b))
    | none=>none
theorem store_step (h : storeOp o.op = true) : stepV E lvl N ops σ o = (storeE E N ops σ o).map fun p=>{ σ.putE p.1 with box:=p.2 }:=by
  have hw : isWrite o.op = true:=by
    generalize o.op = op at h
    cases op <;> simp only [storeOp,Bool.false_eq_true] at h
    rfl
  unfold stepV storeE
  cases wantedV ops σ o with
  | none=>rfl
  | some b =>
    cases b with
    | false =>
      cases o.dst with
      | none=>rfl
      | some d=>simp only; split <;> rfl
    | true =>
      simp only
      rw [if_pos hw]
      cases write E (ev E σ.slots) σ.box o.op with
      | none=>rfl
      | some p =>
        simp only
        cases o.dst with
        | none=>rfl
        | some d=>simp only; split <;> rfl
theorem plainV_look (h : plainOp E o.op = true) {d : Nat} {v : AV} (hd : d ∉ o.looksAt ops.toArray) (hs : σ'.slots = upd σ.slots d v) : plainV E N ops σ' o = plainV E N ops σ o:=by
  unfold plainV
  rw [wantedV_look hd hs]
  have : grow E 0 0 0 (ev E σ'.slots) noBox noUse o.op = grow E 0 0 0 (ev E σ.slots) noBox noUse o.op:=grow_rho o.op fun x hx=>by rw [hs]; exact ev_look hd hx
  rw [this]
theorem plainV_same (hs : σ'.slots = σ.slots) : plainV E N ops σ' o = plainV E N ops σ o:=by
  unfold plainV wantedV
  rw [hs]
theorem storeE_look (h : storeOp o.op = true) {d : Nat} {v : AV} (hd : d ∉ o.looksAt ops.toArray) (hs : σ'.slots = upd σ.slots d v) (hb : σ'.box = σ.box) : storeE E N ops σ' o = storeE E N ops σ o:=by
  unfold storeE
  rw [wantedV_look hd hs,hb]
  have : write E (ev E σ'.slots) σ.box o.op = write E (ev E σ.slots) σ.box o.op:=by
    have he : ∀ x ∈ o.op.operands,ev E σ'.slots x = ev E σ.slots x:=fun x hx=>by rw [hs]; exact ev_look hd hx
    generalize o.op = op at h he
    cases op <;> simp only [storeOp,Bool.false_eq_true] at h
    rename_i t a x
    simp only [write]
    rw [he a (by simp [Op.operands]),he x (by simp [Op.operands])]
  rw [this]
theorem plainV_dst {d : Nat} {v : AV} (h : plainV E N ops σ o = some (some (d,v))) : o.dst = some d:=by
  unfold plainV at h
  split at h
  · cases h
  · split at h
    · rename_i d' e; split at h
      · cases h; exact e
      · cases h
    · cases h
  · split at h
    · rename_i d' e; split at h
      · simp only [Option.map_eq_some_iff] at h
        obtain ⟨r,_,h⟩:=h
        cases h; exact e
      · cases h
    · cases h
theorem storeE_dst {d : Nat} {v : AV} {b : Boxes} (h : storeE E N ops σ o = some (some (d,v),b)) : o.dst = some d:=by
  unfold storeE at h
  split at h
  · cases h
  · split at h
    · rename_i d' e; split at h
      · cases h; exact e
      · cases h
    · cases h
  · split at h
    · split at h
      · rename_i d' e; split at h
        · cases h; exact e
        · cases h
      · cases h
    · cases h
theorem putE_comm {e f : Option (Nat × AV)} (h : ∀ d v d' v',e = some (d,v)→f = some (d',v')→d ≠ d') {b : Boxes} : { (σ.putE e).putE f with box:=b } = ({ σ.putE f with box:=b } : AS).putE e:=by
  cases e with
  | none=>cases f <;> rfl
  | some p =>
    cases f with
    | none=>rfl
    | some q =>
      obtain ⟨d,v⟩:=p
      obtain ⟨d',v'⟩:=q
      have hd:=h d v d' v' rfl rfl
      simp only [AS.putE]
      congr 1
      funext i
      unfold upd
      by_cases h1 : i = d'
      · subst h1; rw [if_pos rfl,if_neg (Ne.symm hd),if_pos rfl]
      · rw [if_neg h1]
        by_cases h2 : i = d
        · rw [if_pos h2,if_pos h2]
        · rw [if_neg h2,if_neg h2,if_neg h1]
theorem swapP {x y : Oper} (hap : x.apart ops.toArray y = true) (hx : plainOp E x.op = true) (hy : storeOp y.op = true) {σ1 σ2 : AS}
    (h1 : stepV E lvl N ops σ x = some σ1) (h2 : stepV E lvl N ops σ1 y = some σ2) : ∃ σ1',stepV E lvl N ops σ y = some σ1' ∧ stepV E lvl N ops σ1' x = some σ2:=by
  obtain ⟨a1,a2,a3⟩:=Oper.apart_spec hap
  rw [plain_step hx] at h1
  rw [store_step hy] at h2
  simp only [Option.map_eq_some_iff] at h1 h2
  obtain ⟨e,he,rfl⟩:=h1
  obtain ⟨p,hp,rfl⟩:=h2
  obtain ⟨f,b⟩:=p
  have hp0 : storeE E N ops σ y = some (f,b):=by
    rw [← hp]
    cases e with
    | none=>rfl
    | some q=>obtain ⟨d,v⟩:=q; exact (storeE_look (σ:=σ) (σ':=σ.putE (some (d,v))) (v:=v) hy (a1 d (plainV_dst he)) rfl rfl).symm
  refine ⟨_,by rw [store_step hy,hp0]; rfl,?_⟩
  rw [plain_step hx]
  have he' : plainV E N ops ({ σ.putE f with box:=b } : AS) x = some e:=by
    rw [← he]
    cases f with
    | none=>exact plainV_same rfl
    | some q=>obtain ⟨d,v⟩:=q; exact plainV_look hx (a3 d (storeE_dst hp0)) rfl
  rw [he']
  simp only [Option.map_some,Option.some.injEq]
  exact (putE_comm fun d v d' v' h1 h2 hd=>a2 d (plainV_dst (by rw [he,h1])) (by rw [storeE_dst (by rw [hp0,h2]),hd])).symm
theorem swapS {x y : Oper} (hap : x.apart ops.toArray y = true) (hx : storeOp x.op = true) (hy : plainOp E y.op = true) {σ1 σ2 : AS}
    (h1 : stepV E lvl N ops σ x = some σ1) (h2 : stepV E lvl N ops σ1 y = some σ2) : ∃ σ1',stepV E lvl N ops σ y = some σ1' ∧ stepV E lvl N ops σ1' x = some σ2:=by
  obtain ⟨a1,a2,a3⟩:=Oper.apart_spec hap
  rw [store_step hx] at h1
  rw [plain_step hy] at h2
  simp only [Option.map_eq_some_iff] at h1 h2
  obtain ⟨p,hp,rfl⟩:=h1
  obtain ⟨e,he,rfl⟩:=h2
  obtain ⟨f,b⟩:=p
  have he0 : plainV E N ops σ y = some e:=by
    rw [← he]
    cases f with
    | none=>exact (plainV_same rfl).symm
    | some q=>obtain ⟨d,v⟩:=q; exact (plainV_look hy (a1 d (storeE_dst hp)) rfl).symm
  refine ⟨_,by rw [plain_step hy,he0]; rfl,?_⟩
  rw [store_step hx]
  have hp' : storeE E N ops (σ.putE e) x = some (f,b):=by
    rw [← hp]
    cases e with
    | none=>rfl
    | some q=>obtain ⟨d,v⟩:=q; exact storeE_look hx (a3 d (plainV_dst he0)) rfl rfl
  rw [hp']
  simp only [Option.map_some,Option.some.injEq]
  exact putE_comm fun d v d' v' h1 h2 hd=>a2 d' (storeE_dst (by rw [hp,h2])) (by rw [plainV_dst (by rw [he0,h1]),hd])
end
end Go.Abs
namespace Go.Abs
set_option linter.unusedSimpArgs false
set_option linter.unusedVariables false
open Go Go.RowKit
def maskOf (acc : List Nat) : List Edge → Nat
  | []=>0
  | e :: es=>(if Region.binds .any e then (acc[e.on]?.getD 0) ||| (1 <<< e.on) else 0) ||| maskOf acc es
def masks : List Oper → List Nat → List Nat
  | [],acc=>acc
  | o :: os,acc=>masks os (acc ++ [maskOf acc o.after.toList])
def indepB (E : Env) (ops : List Oper) (x y : Oper) : Bool:=x.apart ops.toArray y && ((!isWrite x.op && !isGen E x.op && !isWrite y.op && !isGen E y.op) || (plainOp E x.op && storeOp y.op) || (storeOp x.op && plainOp E y.op))
def pairB (E : Env) (ops : List Oper) (m : Nat) (y : Oper) : Nat → List Oper → Bool
  | _,[]=>true
  | 0,_=>true
  | k + 1,x :: xs=>(m.testBit (ops.length - (x :: xs).length) || indepB E ops x y) && pairB E ops m y k xs
def confAll (E : Env) (ops : List Oper) (ms : List Nat) : Nat → List Oper → Bool
  | _,[]=>true
  | i,y :: ys=>y.after.toList.all (fun e=>!Region.binds .any e || e.on < i) && pairB E ops (ms[i]?.getD 0) y i ops && confAll E ops ms (i + 1) ys
def confB (E : Env) (ops : List Oper) : Bool:=confAll E ops (masks ops []) 0 ops
def GoodM (ops : List Oper) (m : List Nat) : Prop :=
  ∀ (i mi j : Nat),m[i]? = some mi→mi.testBit j = true→∃ o,ops[i]? = some o ∧ ∃ e ∈ o.after.toList,Region.binds .any e = true ∧ (e.on = j ∨ ∃ mk : Nat,m[e.on]? = some mk ∧ mk.testBit j = true)
theorem maskOf_spec {acc : List Nat} {j : Nat} : ∀ {es : List Edge},(maskOf acc es).testBit j = true → ∃ e ∈ es,Region.binds .any e = true ∧ (e.on = j ∨ ∃ mk : Nat,acc[e.on]? = some mk ∧ mk.testBit j = true)
  | [],h=>by simp [maskOf] at h
  | e :: es,h=>by
    simp only [maskOf,Nat.testBit_or,Bool.or_eq_true] at h
    rcases h with h | h
    · split at h
      · rename_i hb
        simp only [Nat.testBit_or,Bool.or_eq_true] at h
        rcases h with h | h
        · cases ha : acc[e.on]? with
          | none=>rw [ha] at h; simp at h
          | some mk=>rw [ha] at h; exact ⟨e,by simp,hb,.inr ⟨mk,ha,h⟩⟩
        · rw [Nat.one_shiftLeft,Nat.testBit_two_pow] at h
          exact ⟨e,by simp,hb,.inl (by simpa using h)⟩
      · simp at h
    · obtain ⟨e',h1,h2⟩ := maskOf_spec h
      exact ⟨e',by simp [h1],h2⟩
theorem masks_good {ops : List Oper} : ∀ (os : List Oper) (acc : List Nat),(∀ j,os[j]? = ops[acc.length + j]?) → GoodM ops acc → GoodM ops (masks os acc)
  | [],acc,_,h=>h
  | o :: os,acc,hl,h=>by
    refine masks_good os _ (fun j=>?_) ?_
    · have := hl (j + 1)
      simp only [List.getElem?_cons_succ] at this
      rw [this]; simp only [List.length_append,List.length_singleton]; congr 1; omega
    · intro i mi j hi hj
      have up : ∀ (k mk : Nat),acc[k]? = some mk→(acc ++ [maskOf acc o.after.toList])[k]? = some mk:=fun k mk hk=>by
        rw [List.getElem?_append_left (List.getElem?_eq_some_iff.1 hk).1]; exact hk
      rcases Nat.lt_or_ge i acc.length with hlt | hge
      · rw [List.getElem?_append_left hlt] at hi
        obtain ⟨o',h1,e,h2,h3,h4⟩:=h i mi j hi hj
        refine ⟨o',h1,e,h2,h3,h4.imp id ?_⟩
        rintro ⟨mk,h5,h6⟩
        exact ⟨mk,up _ _ h5,h6⟩
      · rw [List.getElem?_append_right hge] at hi
        have h0 : i = acc.length:=by
          have:=(List.getElem?_eq_some_iff.1 hi).1
          simp at this; omega
        subst h0
        simp at hi; subst hi
        obtain ⟨e,h1,h2,h3⟩:=maskOf_spec hj
        refine ⟨o,by have:=hl 0; simpa using this.symm,e,h1,h2,h3.imp id ?_⟩
        rintro ⟨mk,h5,h6⟩
        exact ⟨mk,up _ _ h5,h6⟩
structure Conf (E : Env) (ops : List Oper) (ms : List Nat) : Prop where
  good : GoodM ops ms
  down : ∀ i o,ops[i]? = some o→∀ e ∈ o.after.toList,Region.binds .any e = true→e.on < i
  pair : ∀ i j x y,ops[j]? = some x→ops[i]? = some y→j < i→(ms[i]?.getD 0).testBit j = true ∨ indepB E ops x y = true
theorem pairB_spec {E : Env} {ops : List Oper} {m : Nat} {y : Oper} : ∀ (k : Nat) (xs : List Oper) (s : Nat),s + xs.length = ops.length → (∀ j,xs[j]? = ops[s + j]?) → pairB E ops m y k xs = true → ∀ j x,xs[j]? = some x → j < k → m.testBit (s + j) = true ∨ indepB E ops x y = true
  | _,[],_,_,_,_,j,x,h,_=>by simp at h
  | 0,x :: xs,_,_,_,_,j,x',_,h=>by omega
  | k + 1,x :: xs,s,hs,hl,h,j,x',hx,hj=>by
    simp only [pairB,Bool.and_eq_true,Bool.or_eq_true] at h
    cases j with
    | zero =>
      simp at hx; subst hx
      have : ops.length - (x :: xs).length = s:=by omega
      rw [this] at h
      simpa using h.1
    | succ j =>
      have:=pairB_spec k xs (s + 1) (by simp at hs; omega) (fun j=>by
        have:=hl (j + 1)
        simp only [List.getElem?_cons_succ] at this
        rw [this]; congr 1; omega) h.2 j x' (by simpa using hx) (by omega)
      rw [show s + (j + 1) = s + 1 + j by omega]; exact this
theorem confAll_spec {E : Env} {ops : List Oper} {ms : List Nat} : ∀ (ys : List Oper) (i : Nat),(∀ j,ys[j]? = ops[i + j]?) → confAll E ops ms i ys = true → ∀ j y,ys[j]? = some y →
    (∀ e ∈ y.after.toList,Region.binds .any e = true→e.on < i + j) ∧ pairB E ops (ms[i + j]?.getD 0) y (i + j) ops = true
  | [],_,_,_,j,y,h=>by simp at h
  | y :: ys,i,hl,h,j,y',hy=>by
    simp only [confAll,Bool.and_eq_true,List.all_eq_true] at h
    cases j with
    | zero =>
      simp at hy; subst hy
      refine ⟨fun e he hb=>?_,h.1.2⟩
      have:=h.1.1 e he
      simpa [hb] using this
    | succ j =>
      have:=confAll_spec ys (i + 1) (fun j=>by
        have:=hl (j + 1)
        simp only [List.getElem?_cons_succ] at this
        rw [this]; congr 1; omega) h.2 j y' (by simpa using hy)
      rw [show i + (j + 1) = i + 1 + j by omega]; exact this
theorem confB_spec {E : Env} {ops : List Oper} (h : confB E ops = true) : Conf E ops (masks ops []):=by
  have hg : GoodM ops (masks ops []):=masks_good ops [] (by simp) (fun i mi j h=>by simp at h)
  refine ⟨hg,fun i o ho e he hb=>?_,fun i j x y hx hy hj=>?_⟩
  · have := (confAll_spec ops 0 (by simp) h i o ho).1 e he hb
    omega
  · have := (confAll_spec ops 0 (by simp) h i y hy).2
    rw [Nat.zero_add] at this
    have:=pairB_spec i ops 0 (by simp) (by simp) this j x hx hj
    rwa [Nat.zero_add] at this
section
variable {P : Program} {N : Ent} {E : Env} {ops : List Oper} {σ σ' : AS}
def runI (E : Env) (lvl n : Nat) (ops : List Oper) : List Nat → AS → Option AS
  | [],σ=>some σ
  | i :: is,σ=>(ops[i]?).bind fun o=>(stepV E lvl n ops σ o).bind fun σ'=>runI E lvl n ops is σ'
theorem runI_regs {lvl n : Nat} : ∀ (l : List Oper) (k : Nat) (σ : AS),(∀ j,l[j]? = ops[k + j]?) → runI E lvl n ops (List.range' k l.length) σ = regs E lvl n ops l σ
  | [],k,σ,_=>rfl
  | o :: l,k,σ,hl=>by
    have h0 : ops[k]? = some o:=by simpa using (hl 0).symm
    rw [List.length_cons,List.range'_succ]
    simp only [runI,regs,h0,Option.bind_some]
    cases stepV E lvl n ops σ o with
    | none=>rfl
    | some σ1 =>
      exact runI_regs l (k + 1) σ1 (fun j=>by
        have:=hl (j + 1); simpa [Nat.add_assoc,Nat.add_comm 1 j] using this)
def Fits (N : Ent) (σ : AS) : Prop:=∃ a w,Sim N σ a w
theorem Fits.fresh (h : Fits N σ) : Fresh N.lvl σ:=by
  obtain ⟨a,w,g,hv,hU,hD,hn,hdf,hsl⟩:=h
  refine ⟨fun d n hlt=>?_,fun i=>RV.men (fun b k hk=>?_) _ _ (hsl i).1⟩
  · have hd := hv.dom (.own N.lvl d n)
    cases hm : g.μ (.own N.lvl d n) with
    | none=>rw [hm] at hd; simpa using hd
    | some k=>have:=hv.fresh d n k hm; rw [hU] at this; omega
  · have hd := hv.dom b
    rw [hk] at hd; simpa using hd
theorem Oper.wp_exists {o : Oper} {a : Act} {w : World} {K : Act→World→Prop} (h : o.wp P a w K (fun _ _ _=>False)) : ∃ a' w',K a' w':=by
  unfold Oper.wp at h
  generalize (execOp a.eval o).run P w = r at h
  cases r with
  | ok n w' =>
    cases n <;> simp only [Oper.upon] at h
    case value v=>exact ⟨_,_,h⟩
    case skip=>exact ⟨_,_,h⟩
    case defer d=>exact ⟨_,_,h⟩
    case enter f args =>
      obtain ⟨e,w'',fr,h,_⟩:=h []
      cases e with
      | returned v=>exact ⟨_,_,h⟩
      | panicked c=>exact h.elim
      | outgrown=>obtain ⟨_,_,h⟩:=h; exact h.elim
    case row row args =>
      obtain ⟨v,w'',h,_⟩:=h default []
      exact ⟨_,_,h⟩
  | halt x w'=>cases x <;> simp only [Oper.upon] at h
theorem Fits.step (hE : EnvOK P E) (hN : EntOK E N) {o : Oper} (hf : Fits N σ) (h : stepV E N.lvl N.N ops σ o = some σ') : Fits N σ':=by
  obtain ⟨a,w,hs⟩:=hf
  have:=stepV_sound (K:=fun a w=>Sim N σ' a w) (Q':=fun _ _ _=>False) hE hN h hs (fun a' w' h=>h)
  split at this
  · exact Oper.wp_exists this
  · exact ⟨_,_,this⟩
theorem bubble (hE : EnvOK P E) (hN : EntOK E N) {i : Nat} {y : Oper} (hy : ops[i]? = some y) {post : List Nat} {σ' : AS} : ∀ (pre : List Nat) (σ : AS),Fits N σ → (∀ j ∈ pre,∀ x,ops[j]? = some x → indepB E ops x y = true) →
    runI E N.lvl N.N ops (pre ++ i :: post) σ = some σ'→runI E N.lvl N.N ops (i :: (pre ++ post)) σ = some σ'
  | [],σ,_,_,h=>h
  | j :: pre,σ,hf,hi,h=>by
    rw [List.cons_append] at h
    simp only [runI,Option.bind_eq_some_iff] at h
    obtain ⟨x,hx,σ1,h1,h2⟩:=h
    have h3:=bubble hE hN hy pre σ1 (hf.step hE hN h1) (fun k hk=>hi k (by simp [hk])) h2
    simp only [runI,Option.bind_eq_some_iff] at h3
    obtain ⟨y',hy',σ2,h4,h5⟩:=h3
    rw [hy] at hy'; cases hy'
    have hin:=hi j (by simp) x hx
    simp only [indepB,Bool.and_eq_true,Bool.or_eq_true,Bool.not_eq_true'] at hin
    obtain ⟨σ1',h6,h7⟩ : ∃ σ1',stepV E N.lvl N.N ops σ y = some σ1' ∧ stepV E N.lvl N.N ops σ1' x = some σ2:=by
      rcases hin.2 with (h | h) | h
      · exact swapV hf.fresh hin.1 h.1.1.1 h.1.2 h.1.1.2 h.2 h1 h4
      · exact swapP hin.1 h.1 h.2 h1 h4
      · exact swapS hin.1 h.1 h.2 h1 h4
    simp only [runI,List.cons_append,Option.bind_eq_some_iff]
    exact ⟨y,hy,σ1',h6,x,hx,σ2,h7,h5⟩
def Closed (ops : List Oper) (listed : Array Bool) : Prop :=
  ∀ i o,ops[i]? = some o→listed.getD i false = true→∀ e ∈ o.after.toList,Region.binds .any e = true→listed.getD e.on false = true
theorem mask_listed {ms : List Nat} (hc : Conf E ops ms) {listed : Array Bool} (hcl : Closed ops listed) : ∀ (n i mi j : Nat),i < n → ms[i]? = some mi → mi.testBit j = true → (∀ o,ops[i]? = some o → ∀ e ∈ o.after.toList,Region.binds .any e = true → listed.getD e.on false = true) → listed.getD j false = true
  | 0,i,_,_,h,_,_,_=>by omega
  | n + 1,i,mi,j,hi,hmi,hj,hd=>by
    obtain ⟨o,ho,e,he,hb,h⟩:=hc.good i mi j hmi hj
    have hl:=hd o ho e he hb
    rcases h with rfl | ⟨mk,hk,hkj⟩
    · exact hl
    · exact mask_listed hc hcl n e.on mk j (by have:=hc.down i o ho e he hb; omega) hk hkj (fun o' ho' e' he' hb'=>hcl e.on o' ho' hl e' he' hb')
def remL (ops : List Oper) (listed : Array Bool) : List Nat:=(List.range ops.length).filter fun k=>!listed.getD k true
theorem getD_flip {listed : Array Bool} {k : Nat} (h : k < listed.size) : listed.getD k true = listed.getD k false:=by
  simp [h]
theorem any_sound (hE : EnvOK P E) (hN : EntOK E N) {ms : List Nat} (hc : Conf E ops ms) {Q' : Exit → Act → World → Prop} (hQ : ∀ a w,Sim N σ' a w → Q' .normal a w) :
    ∀ (fuel : Nat) (listed : Array Bool) (σ : AS) (a : Act) (w : World),listed.size = ops.length → Closed ops listed → (remL ops listed).length ≤ fuel → Sim N σ a w →
      runI E N.lvl N.N ops (remL ops listed) σ = some σ'→wpAny P .any ops.toArray Q' fuel listed a w:=by
  have mem : ∀ {listed : Array Bool} {k : Nat},listed.size = ops.length→k ∈ Region.ready .any ops.toArray listed→k ∈ remL ops listed ∧ k < ops.length ∧ ∀ o,ops[k]? = some o→∀ e ∈ o.after.toList,Region.binds .any e = true→listed.getD e.on false = true:=by
    intro listed k hs hk
    obtain ⟨h1,o,h2,h3⟩:=mem_ready.1 hk
    simp only [List.getElem?_toArray] at h2
    have hlt:=(List.getElem?_eq_some_iff.1 h2).1
    refine ⟨List.mem_filter.2 ⟨List.mem_range.2 hlt,by rw [h1]; rfl⟩,hlt,fun o' ho' e he hb=>?_⟩
    rw [h2] at ho'; cases ho'
    exact h3 e (by simpa using he) hb
  have nil : ∀ {listed : Array Bool},listed.size = ops.length→Region.ready .any ops.toArray listed = []→remL ops listed = []:=by
    intro listed hs hr
    have all : ∀ n k,k < n→k < ops.length→listed.getD k true = true:=by
      intro n
      induction n with
      | zero=>intro k h; omega
      | succ n ih =>
        intro k hk hlt
        cases hk0 : listed.getD k true with
        | true=>rfl
        | false =>
          exfalso
          have : k ∈ Region.ready .any ops.toArray listed:=by
            refine mem_ready.2 ⟨hk0,ops[k],by simp [hlt],fun e he hb=>?_⟩
            have hd:=hc.down k ops[k] (by simp [hlt]) e (by simpa using he) hb
            rw [← getD_flip (by omega)]
            exact ih e.on (by omega) (by omega)
          rw [hr] at this; cases this
    unfold remL
    rw [List.filter_eq_nil_iff]
    intro k hk
    rw [all (k + 1) k (by omega) (List.mem_range.1 hk)]
    simp
  intro fuel
  induction fuel with
  | zero =>
    intro listed σ a w hs hcl hle hsim hrun
    have hr0 : remL ops listed = []:=List.length_eq_zero_iff.1 (by omega)
    rw [hr0] at hrun
    simp only [runI,Option.some.injEq] at hrun; subst hrun
    refine ⟨?_,hQ a w hsim⟩
    cases hrd : Region.ready .any ops.toArray listed with
    | nil=>rfl
    | cons k ks =>
      have:=(mem hs (k:=k) (by rw [hrd]; simp)).1
      rw [hr0] at this; cases this
  | succ fuel ih =>
    intro listed σ a w hs hcl hle hsim hrun
    refine ⟨fun hr=>?_,fun i hi=>?_⟩
    · rw [nil hs hr] at hrun
      simp only [runI,Option.some.injEq] at hrun; subst hrun
      exact hQ a w hsim
    · obtain ⟨hm,hlt,hd⟩ := mem hs hi
      have hsort : (remL ops listed).Pairwise (· < ·):=List.Pairwise.filter _ List.pairwise_lt_range
      obtain ⟨pre,post,hpp⟩:=List.append_of_mem hm
      have hy : ops[i]? = some ops[i]:=by simp [hlt]
      rw [hpp] at hrun hsort
      have hb:=bubble hE hN hy pre σ ⟨a,w,hsim⟩ (fun j hj x hx=>by
        have hjm : j ∈ remL ops listed:=by rw [hpp]; simp [hj]
        have hjl : listed.getD j true = false:=by have:=(List.mem_filter.1 hjm).2; simpa using this
        have hji : j < i:=by
          rw [List.pairwise_append] at hsort
          exact hsort.2.2 j hj i (by simp)
        rcases hc.pair i j x ops[i] hx hy hji with h | h
        · exfalso
          cases hmi : ms[i]? with
          | none=>rw [hmi] at h; simp at h
          | some mi =>
            rw [hmi] at h
            have:=mask_listed hc hcl (i + 1) i mi j (by omega) hmi h hd
            have hjlt : j < listed.size:=by rw [hs]; exact List.mem_range.1 (List.mem_filter.1 hjm).1
            rw [← getD_flip hjlt,hjl] at this
            cases this
        · exact h) hrun
      simp only [runI,Option.bind_eq_some_iff] at hb
      obtain ⟨o,ho,σ1,h1,h2⟩:=hb
      have hrem : remL ops (listed.setIfInBounds i true) = pre ++ post:=by
        have : remL ops (listed.setIfInBounds i true) = (remL ops listed).filter fun k=>k != i:=by
          unfold remL
          rw [List.filter_filter]
          refine List.filter_congr fun k hk=>?_
          by_cases e : k = i
          · subst e
            have : k < listed.size:=by rw [hs]; exact hlt
            simp [this]
          · rw [getD_set_ne true (Ne.symm e)]
            simp [e]
        rw [this,hpp]
        rw [List.pairwise_append] at hsort
        obtain ⟨s1,s2,s3⟩:=hsort
        rw [List.pairwise_cons] at s2
        rw [List.filter_append,List.filter_cons]
        simp only [bne_self_eq_false,Bool.false_eq_true,if_false]
        rw [List.filter_eq_self.2,List.filter_eq_self.2]
        · intro k hk; have:=s2.1 k hk; simp; omega
        · intro k hk; have:=s3 k hk i (by simp); simp; omega
      have step:=stepV_sound (K:=wpAny P .any ops.toArray Q' fuel (listed.setIfInBounds i true)) (Q':=Q') hE hN h1 hsim (fun a' w' hs'=>by
        refine ih (listed.setIfInBounds i true) σ1 a' w' (by simp [hs]) ?_ ?_ hs' (by rw [hrem]; exact h2)
        · intro k o' ho' hk e he hb
          by_cases e' : k = i
          · subst e'; exact getD_set_true (hd o' ho' e he hb)
          · rw [getD_set_ne false (Ne.symm e')] at hk
            exact getD_set_true (hcl k o' ho' hk e he hb)
        · rw [hrem]
          rw [hpp] at hle
          simp at hle ⊢; omega)
      unfold wpOp
      have ho' : ops.toArray[i]? = some o:=by simpa using ho
      simp only [ho']
      split
      · rename_i hw; rw [if_pos hw] at step; exact .inl step
      · rename_i hw; rw [if_neg hw] at step; exact step
theorem Sim.drawn {a : Act} {w : World} (h : Sim N σ a w) : Sim N σ a { w with drawn:=w.drawn + 1 }:=by
  obtain ⟨g,hv,hU,hD,hn,hdf,hsl⟩:=h
  have hb : Below w.heap.size w { w with drawn:=w.drawn + 1 }:=⟨rfl,rfl,rfl,Nat.le_refl _,fun _ _=>rfl⟩
  exact ⟨g,hv.world hb,hU,hD,hn,hdf,Slots.le (hv.le_world hb) hsl⟩
theorem AW_draw {Q : AX→AS→Prop} (E : Env) (hE : EnvOK P E) (hN : EntOK E N) (hP : P.follows .mixedOrders = true) {id : Nat} {ops : List Oper} (σ' : AS) (hc : confB E ops = true) (h : regs E N.lvl N.N ops ops σ = some σ') (hQ : Q .nrm σ') : AW P N (.region id ops.toArray true) Q σ:=by
  intro a w hs
  refine wp_region_any hP ?_
  have hrem : remL ops (Array.replicate ops.toArray.size false) = List.range ops.length:=by
    unfold remL
    rw [List.filter_eq_self]
    intro k hk
    have:=List.mem_range.1 hk
    simp [this]
  refine any_sound (σ':=σ') hE hN (confB_spec hc) (fun a w h=>⟨.nrm,σ',rfl,hQ,h⟩) _ _ σ _ _ (by simp) ?_ ?_ hs.drawn ?_
  · intro i o ho hl
    exfalso
    rw [Array.getD_eq_getD_getElem?,Array.getElem?_replicate] at hl
    split at hl <;> simp at hl
  · rw [hrem]; simp
  · rw [hrem,List.range_eq_range',runI_regs ops 0 σ (by simp)]
    exact h
end
end Go.Abs
namespace Go.Abs
set_option linter.unusedSimpArgs false
set_option linter.unusedVariables false
open Go
def nums (k : IntKind) {w : Nat} (l : List (BitVec w)) : List AV:=l.map fun x=>.raw (.int k (x.toNat : Int))
def ints (k : IntKind) (l : List Int) : List AV:=l.map fun x=>.raw (.int k x)
section lists
variable {k : IntKind} {w : Nat}
theorem nums_len (l : List (BitVec w)) : (nums k l).length = l.length:=by simp [nums]
theorem nums_get (l : List (BitVec w)) (i : Nat) (h : i < l.length) : (nums k l)[i]? = some (.raw (.int k ((l.getD i 0#w).toNat : Int))):=by simp [nums,h]
theorem nums_get0 (l : List (BitVec w)) (h : 0 < l.length) : (nums k l)[0]? = some (.raw (.int k ((l.getD 0 0#w).toNat : Int))):=nums_get l 0 h
theorem nums_take (l : List (BitVec w)) (n : Nat) : (nums k l).take n = nums k (l.take n):=by simp [nums]
theorem nums_drop (l : List (BitVec w)) (n : Nat) : (nums k l).drop n = nums k (l.drop n):=by simp [nums]
theorem nums_app (l m : List (BitVec w)) : nums k l ++ nums k m = nums k (l ++ m):=by simp [nums]
theorem nums_nil_app (m : List (BitVec w)) : [] ++ nums k m = nums k m:=rfl
theorem nums_snoc (l : List (BitVec w)) (x : BitVec w) : nums k l ++ [.raw (.int k (x.toNat : Int))] = nums k (l ++ [x]):=by simp [nums]
theorem nums_set (l : List (BitVec w)) (i : Nat) (x : BitVec w) (h : i < l.length) : splice (nums k l) i [.raw (.int k (x.toNat : Int))] = nums k (l.set i x):=by
  simp only [splice,nums,List.length_singleton,← List.map_take,← List.map_drop]
  rw [List.set_eq_take_append_cons_drop,if_pos h]
  simp
theorem nums_one (l : List (BitVec w)) : (nums k l).all oneA = true:=by simp [nums,oneA]
theorem nums_zeros (n : Nat) : rep n [.raw (.int k 0)] = nums k (List.replicate n 0#w):=by
  induction n with
  | zero=>rfl
  | succ n ih=>simp only [rep,ih,List.replicate_succ]; simp [nums]
theorem nums_flat (l : List (BitVec w)) : flatL (nums k l) = some (nums k l):=by
  induction l with
  | nil=>rfl
  | cons x l ih=>simp only [nums,List.map_cons,flatL] at ih ⊢; rw [ih]; rfl
theorem nums_pure (l : List (BitVec w)) : pureL (nums k l) = true:=by
  induction l with
  | nil=>rfl
  | cons x l ih=>simp only [nums,List.map_cons,pureL,pureA] at ih ⊢; rw [ih]; rfl
theorem nums_snap (bx : Boxes) (l : List (BitVec w)) : snapL bx (nums k l) = some (nums k l):=by
  induction l with
  | nil=>rfl
  | cons x l ih=>simp only [nums,List.map_cons,snapL,snap] at ih ⊢; rw [ih]; rfl
theorem nums_noview (l : List (BitVec w)) : hasViewL (nums k l) = false:=by
  induction l with
  | nil=>rfl
  | cons x l ih=>simp only [nums,List.map_cons,hasViewL,hasView] at ih ⊢; rw [ih]; rfl
theorem nums_bytes (l : List (BitVec 8)) : asBytes (nums .u8 l) = some (l.map UInt8.ofBitVec):=by
  induction l with
  | nil=>rfl
  | cons x l ih =>
    simp only [nums,List.map_cons,asBytes] at ih ⊢; rw [ih]
    simp only [Option.map_some,Int.toNat_natCast]
    congr 2
    apply UInt8.eq_of_toBitVec_eq; simp
end lists
def deNums (k : IntKind) (w : Nat) : List AV → Option (List (BitVec w))
  | []=>some []
  | .raw (.int k' n) :: xs=>if k' = k ∧ 0 ≤ n ∧ n.toNat < 2 ^ w then (deNums k w xs).map (BitVec.ofNat w n.toNat :: ·) else none
  | _=>none
theorem deNums_of {k : IntKind} {w : Nat} : ∀ {xs : List AV} {l : List (BitVec w)},deNums k w xs = some l → xs = nums k l
  | [],l,h=>by simp [deNums] at h; subst h; rfl
  | x :: xs,l,h=>by
    unfold deNums at h
    split at h
    · rename_i e; cases e
    · rename_i k' n xs' e
      cases e
      split at h
      · rename_i hc
        simp only [Option.map_eq_some_iff] at h
        obtain ⟨l',h1,rfl⟩:=h
        rw [deNums_of h1,hc.1]
        simp only [nums,List.map_cons,BitVec.toNat_ofNat,Nat.mod_eq_of_lt hc.2.2]
        rw [Int.toNat_of_nonneg hc.2.1]
      · cases h
    · cases h
theorem deNums_nums (k : IntKind) {w : Nat} (l : List (BitVec w)) : deNums k w (nums k l) = some l:=by
  induction l with
  | nil=>rfl
  | cons x l ih =>
    simp only [nums,List.map_cons,deNums] at ih ⊢
    rw [if_pos ⟨trivial,by omega,by simpa using x.isLt⟩,ih]
    simp
theorem wrap_bv (k : IntKind) (hs : k.signed = false) (n : Int) : k.wrap n = ((BitVec.ofInt k.bits n).toNat : Int):=by
  simp only [IntKind.wrap,hs,Bool.false_and,Bool.false_eq_true,if_false,BitVec.toNat_ofInt]
  have hp : ((2 ^ k.bits : Nat) : Int) = (2:Int) ^ k.bits:=by simp
  have h0 : (0:Int) < ((2 ^ k.bits : Nat) : Int):=by exact_mod_cast Nat.two_pow_pos k.bits
  rw [← hp,Int.toNat_of_nonneg (Int.emod_nonneg _ (by omega))]
theorem wrap_u8 (n : Int) : IntKind.u8.wrap n = ((BitVec.ofInt 8 n).toNat : Int):=wrap_bv .u8 rfl n
theorem wrap_u16 (n : Int) : IntKind.u16.wrap n = ((BitVec.ofInt 16 n).toNat : Int):=wrap_bv .u16 rfl n
theorem wrap_u32 (n : Int) : IntKind.u32.wrap n = ((BitVec.ofInt 32 n).toNat : Int):=wrap_bv .u32 rfl n
theorem wrap_u64 (n : Int) : IntKind.u64.wrap n = ((BitVec.ofInt 64 n).toNat : Int):=wrap_bv .u64 rfl n
theorem bv_nat {w : Nat} (n : Nat) : BitVec.ofInt w (n : Int) = BitVec.ofNat w n:=by simp
theorem bv_back {w : Nat} (x : BitVec w) : BitVec.ofInt w (x.toNat : Int) = x:=by simp
theorem bvn_back {w : Nat} (x : BitVec w) : BitVec.ofNat w x.toNat = x:=by simp
theorem bv_add {w : Nat} (a b : Int) : BitVec.ofInt w (a + b) = BitVec.ofInt w a + BitVec.ofInt w b:=BitVec.ofInt_add ..
theorem bv_mul {w : Nat} (a b : Int) : BitVec.ofInt w (a * b) = BitVec.ofInt w a * BitVec.ofInt w b:=BitVec.ofInt_mul ..
theorem bv_sub {w : Nat} (a b : Int) : BitVec.ofInt w (a - b) = BitVec.ofInt w a - BitVec.ofInt w b:=by
  rw [BitVec.sub_eq_add_neg,Int.sub_eq_add_neg,BitVec.ofInt_add,BitVec.ofInt_neg]
def opBV {w : Nat} (op : BinOp) (x y : BitVec w) : Option (BitVec w) :=
  match op with
  | .add=>some (x + y)
  | .sub=>some (x - y)
  | .mul=>some (x * y)
  | .and=>some (x &&& y)
  | .or=>some (x ||| y)
  | .xor=>some (x ^^^ y)
  | .andNot=>some (x &&& ~~~y)
  | _=>none
theorem intV_bv (k : IntKind) (hs : k.signed = false) (op : BinOp) (a b : Int) {z : BitVec k.bits} (h : opBV op (BitVec.ofInt k.bits a) (BitVec.ofInt k.bits b) = some z) :
    intV op k a b = some (.raw (.int k (z.toNat : Int))):=by
  cases op <;> simp only [opBV,Option.some.injEq,reduceCtorEq] at h <;> subst h <;> simp only [intV,wrap_bv k hs,bv_add,bv_mul,bv_sub,bv_back]
theorem intV_u8 (op : BinOp) (a b : Int) {z : BitVec 8} (h : opBV op (BitVec.ofInt 8 a) (BitVec.ofInt 8 b) = some z) : intV op .u8 a b = some (.raw (.int .u8 (z.toNat : Int))):=intV_bv .u8 rfl op a b h
theorem intV_u32 (op : BinOp) (a b : Int) {z : BitVec 32} (h : opBV op (BitVec.ofInt 32 a) (BitVec.ofInt 32 b) = some z) : intV op .u32 a b = some (.raw (.int .u32 (z.toNat : Int))):=intV_bv .u32 rfl op a b h
theorem intV_u64 (op : BinOp) (a b : Int) {z : BitVec 64} (h : opBV op (BitVec.ofInt 64 a) (BitVec.ofInt 64 b) = some z) : intV op .u64 a b = some (.raw (.int .u64 (z.toNat : Int))):=intV_bv .u64 rfl op a b h
theorem add_u8 (a b : Int) : intV .add .u8 a b = some (.raw (.int .u8 ((BitVec.ofInt 8 a + BitVec.ofInt 8 b).toNat : Int))):=intV_u8 _ _ _ rfl
theorem sub_u8 (a b : Int) : intV .sub .u8 a b = some (.raw (.int .u8 ((BitVec.ofInt 8 a - BitVec.ofInt 8 b).toNat : Int))):=intV_u8 _ _ _ rfl
theorem mul_u8 (a b : Int) : intV .mul .u8 a b = some (.raw (.int .u8 ((BitVec.ofInt 8 a * BitVec.ofInt 8 b).toNat : Int))):=intV_u8 _ _ _ rfl
theorem and_u8 (a b : Int) : intV .and .u8 a b = some (.raw (.int .u8 ((BitVec.ofInt 8 a &&& BitVec.ofInt 8 b).toNat : Int))):=intV_u8 _ _ _ rfl
theorem or_u8 (a b : Int) : intV .or .u8 a b = some (.raw (.int .u8 ((BitVec.ofInt 8 a ||| BitVec.ofInt 8 b).toNat : Int))):=intV_u8 _ _ _ rfl
theorem xor_u8 (a b : Int) : intV .xor .u8 a b = some (.raw (.int .u8 ((BitVec.ofInt 8 a ^^^ BitVec.ofInt 8 b).toNat : Int))):=intV_u8 _ _ _ rfl
theorem add_u32 (a b : Int) : intV .add .u32 a b = some (.raw (.int .u32 ((BitVec.ofInt 32 a + BitVec.ofInt 32 b).toNat : Int))):=intV_u32 _ _ _ rfl
theorem sub_u32 (a b : Int) : intV .sub .u32 a b = some (.raw (.int .u32 ((BitVec.ofInt 32 a - BitVec.ofInt 32 b).toNat : Int))):=intV_u32 _ _ _ rfl
theorem mul_u32 (a b : Int) : intV .mul .u32 a b = some (.raw (.int .u32 ((BitVec.ofInt 32 a * BitVec.ofInt 32 b).toNat : Int))):=intV_u32 _ _ _ rfl
theorem and_u32 (a b : Int) : intV .and .u32 a b = some (.raw (.int .u32 ((BitVec.ofInt 32 a &&& BitVec.ofInt 32 b).toNat : Int))):=intV_u32 _ _ _ rfl
theorem or_u32 (a b : Int) : intV .or .u32 a b = some (.raw (.int .u32 ((BitVec.ofInt 32 a ||| BitVec.ofInt 32 b).toNat : Int))):=intV_u32 _ _ _ rfl
theorem xor_u32 (a b : Int) : intV .xor .u32 a b = some (.raw (.int .u32 ((BitVec.ofInt 32 a ^^^ BitVec.ofInt 32 b).toNat : Int))):=intV_u32 _ _ _ rfl
theorem add_u64 (a b : Int) : intV .add .u64 a b = some (.raw (.int .u64 ((BitVec.ofInt 64 a + BitVec.ofInt 64 b).toNat : Int))):=intV_u64 _ _ _ rfl
theorem sub_u64 (a b : Int) : intV .sub .u64 a b = some (.raw (.int .u64 ((BitVec.ofInt 64 a - BitVec.ofInt 64 b).toNat : Int))):=intV_u64 _ _ _ rfl
theorem mul_u64 (a b : Int) : intV .mul .u64 a b = some (.raw (.int .u64 ((BitVec.ofInt 64 a * BitVec.ofInt 64 b).toNat : Int))):=intV_u64 _ _ _ rfl
theorem and_u64 (a b : Int) : intV .and .u64 a b = some (.raw (.int .u64 ((BitVec.ofInt 64 a &&& BitVec.ofInt 64 b).toNat : Int))):=intV_u64 _ _ _ rfl
theorem or_u64 (a b : Int) : intV .or .u64 a b = some (.raw (.int .u64 ((BitVec.ofInt 64 a ||| BitVec.ofInt 64 b).toNat : Int))):=intV_u64 _ _ _ rfl
theorem xor_u64 (a b : Int) : intV .xor .u64 a b = some (.raw (.int .u64 ((BitVec.ofInt 64 a ^^^ BitVec.ofInt 64 b).toNat : Int))):=intV_u64 _ _ _ rfl
theorem shl_bv (k : IntKind) (hs : k.signed = false) (a y : Int) (h : 0 ≤ y) : shiftV .shl k a y = some (.raw (.int k ((BitVec.ofInt k.bits a <<< y.toNat).toNat : Int))):=by
  unfold shiftV
  rw [if_neg (by omega)]
  simp only [wrap_bv k hs,Option.some.injEq,AV.raw.injEq,Value.int.injEq,true_and,Int.natCast_inj]
  congr 1
  rw [BitVec.ofInt_mul]
  apply BitVec.eq_of_toNat_eq
  simp only [BitVec.toNat_mul,BitVec.toNat_shiftLeft,Nat.shiftLeft_eq]
  have e2 : (BitVec.ofInt k.bits ((2:Int) ^ min y.toNat k.bits)).toNat = 2 ^ min y.toNat k.bits % 2 ^ k.bits:=by
    have : ((2:Int) ^ min y.toNat k.bits) = ((2 ^ min y.toNat k.bits : Nat) : Int):=by simp
    rw [this]
    simp only [BitVec.ofInt_natCast,BitVec.toNat_ofNat]
  rw [e2]
  rcases Nat.le_total y.toNat k.bits with hle | hle
  · rw [Nat.min_eq_left hle]
    simp [Nat.mul_mod]
  · rw [Nat.min_eq_right hle,Nat.mod_self,Nat.mul_zero,Nat.zero_mod]
    obtain ⟨d,hd⟩:=Nat.exists_eq_add_of_le hle
    rw [hd,Nat.pow_add,Nat.mul_comm (2 ^ k.bits),← Nat.mul_assoc,Nat.mul_mod_left]
theorem shr_bv (k : IntKind) (hs : k.signed = false) (a y : Int) (h : 0 ≤ y) (h0 : 0 ≤ a) (h1 : a < 2 ^ k.bits) : shiftV .shr k a y = some (.raw (.int k ((BitVec.ofInt k.bits a >>> y.toNat).toNat : Int))):=by
  unfold shiftV
  rw [if_neg (by omega)]
  simp only [Option.some.injEq,AV.raw.injEq,Value.int.injEq,true_and]
  obtain ⟨n,rfl⟩:=Int.eq_ofNat_of_zero_le h0
  have hn : n < 2 ^ k.bits:=by exact_mod_cast h1
  simp only [BitVec.ofInt_natCast,BitVec.toNat_ushiftRight,BitVec.toNat_ofNat,Nat.mod_eq_of_lt hn,Nat.shiftRight_eq_div_pow]
  rw [show ((2:Int) ^ min y.toNat k.bits) = ((2 ^ min y.toNat k.bits : Nat) : Int) by simp]
  rw [Int.fdiv_eq_ediv_of_nonneg _ (by exact_mod_cast Nat.zero_le _),← Int.natCast_ediv]
  congr 1
  rcases Nat.le_total y.toNat k.bits with hle | hle
  · rw [Nat.min_eq_left hle]
  · rw [Nat.min_eq_right hle,Nat.div_eq_of_lt hn,Nat.div_eq_of_lt (Nat.lt_of_lt_of_le hn (Nat.pow_le_pow_right (by omega) hle))]
theorem shl_u8 (a y : Int) (h : 0 ≤ y) : shiftV .shl .u8 a y = some (.raw (.int .u8 ((BitVec.ofInt 8 a <<< y.toNat).toNat : Int))):=shl_bv .u8 rfl a y h
theorem shl_u32 (a y : Int) (h : 0 ≤ y) : shiftV .shl .u32 a y = some (.raw (.int .u32 ((BitVec.ofInt 32 a <<< y.toNat).toNat : Int))):=shl_bv .u32 rfl a y h
theorem shl_u64 (a y : Int) (h : 0 ≤ y) : shiftV .shl .u64 a y = some (.raw (.int .u64 ((BitVec.ofInt 64 a <<< y.toNat).toNat : Int))):=shl_bv .u64 rfl a y h
theorem shr_u8 (x : BitVec 8) (y : Int) (h : 0 ≤ y) : shiftV .shr .u8 (x.toNat : Int) y = some (.raw (.int .u8 ((x >>> y.toNat).toNat : Int))):=by
  have:=shr_bv .u8 rfl (x.toNat : Int) y h (by omega) (by have:=x.isLt; exact_mod_cast this)
  rw [this]
  show some (AV.raw (.int .u8 ((BitVec.ofInt 8 (x.toNat : Int) >>> y.toNat).toNat : Int))) = _
  rw [bv_back]
theorem shr_u32 (x : BitVec 32) (y : Int) (h : 0 ≤ y) : shiftV .shr .u32 (x.toNat : Int) y = some (.raw (.int .u32 ((x >>> y.toNat).toNat : Int))):=by
  have:=shr_bv .u32 rfl (x.toNat : Int) y h (by omega) (by have:=x.isLt; exact_mod_cast this)
  rw [this]
  show some (AV.raw (.int .u32 ((BitVec.ofInt 32 (x.toNat : Int) >>> y.toNat).toNat : Int))) = _
  rw [bv_back]
theorem shr_u64 (x : BitVec 64) (y : Int) (h : 0 ≤ y) : shiftV .shr .u64 (x.toNat : Int) y = some (.raw (.int .u64 ((x >>> y.toNat).toNat : Int))):=by
  have:=shr_bv .u64 rfl (x.toNat : Int) y h (by omega) (by have:=x.isLt; exact_mod_cast this)
  rw [this]
  show some (AV.raw (.int .u64 ((BitVec.ofInt 64 (x.toNat : Int) >>> y.toNat).toNat : Int))) = _
  rw [bv_back]
theorem not_u32 (x : BitVec 32) : unV .xor (.raw (.int .u32 (x.toNat : Int))) = some (.raw (.int .u32 ((~~~x).toNat : Int))):=by
  have e : (BitVec.ofInt (IntKind.bits .u32) (if IntKind.signed .u32 then -1 else IntKind.max .u32) ^^^ BitVec.ofInt (IntKind.bits .u32) (x.toNat : Int)) = (~~~x : BitVec 32):=by
    show (BitVec.ofInt 32 4294967295 ^^^ BitVec.ofInt 32 (x.toNat : Int)) = _
    rw [bv_back]
    exact BitVec.allOnes_xor
  show some (AV.raw (.int .u32 (IntKind.u32.wrap ((BitVec.ofInt (IntKind.bits .u32) (if IntKind.signed .u32 then -1 else IntKind.max .u32) ^^^ BitVec.ofInt (IntKind.bits .u32) (x.toNat : Int)).toNat : Int)))) = _
  rw [e,wrap_u32]
  show some (AV.raw (.int .u32 ((BitVec.ofInt 32 ((~~~x).toNat : Int)).toNat : Int))) = _
  rw [bv_back]
theorem i64_is (n : Int) (h : -9223372036854775808 ≤ n ∧ n ≤ 9223372036854775807) : IntKind.i64.wrap n = n:=IntWalk.i64_in n h
theorem toNat_add' (a b : Int) (ha : 0 ≤ a) (hb : 0 ≤ b) : (a + b).toNat = a.toNat + b.toNat:=by omega
theorem toNat_sub' (a b : Int) (hb : 0 ≤ b) : (a - b).toNat = a.toNat - b.toNat:=by omega
theorem toNat_mul' (a b : Int) (ha : 0 ≤ a) (hb : 0 ≤ b) : (a * b).toNat = a.toNat * b.toNat:=by
  obtain ⟨m,rfl⟩:=Int.eq_ofNat_of_zero_le ha
  obtain ⟨n,rfl⟩:=Int.eq_ofNat_of_zero_le hb
  exact Int.toNat_natCast (m * n)
theorem toNat_mod' (a b : Int) (ha : 0 ≤ a) (hb : 0 ≤ b) : (a % b).toNat = a.toNat % b.toNat:=by
  obtain ⟨m,rfl⟩:=Int.eq_ofNat_of_zero_le ha
  obtain ⟨n,rfl⟩:=Int.eq_ofNat_of_zero_le hb
  exact Int.toNat_natCast (m % n)
theorem toNat_div' (a b : Int) (ha : 0 ≤ a) (hb : 0 ≤ b) : (a / b).toNat = a.toNat / b.toNat:=by
  obtain ⟨m,rfl⟩:=Int.eq_ofNat_of_zero_le ha
  obtain ⟨n,rfl⟩:=Int.eq_ofNat_of_zero_le hb
  exact Int.toNat_natCast (m / n)
theorem rem_i64 (a b : Int) (ha : 0 ≤ a) (hb : 0 < b) : intV .rem .i64 a b = some (.raw (.int .i64 (a % b))):=by
  simp only [intV]
  rw [if_neg (by omega),Int.tmod_eq_emod_of_nonneg ha]
theorem quo_i64 (a b : Int) (ha : 0 ≤ a) (hb : 0 < b) (h : a ≤ 9223372036854775807) : intV .quo .i64 a b = some (.raw (.int .i64 (a / b))):=by
  simp only [intV]
  rw [if_neg (by omega),Int.tdiv_eq_ediv_of_nonneg ha,i64_is]
  have h1 : 0 ≤ a / b:=Int.ediv_nonneg ha (by omega)
  have h2 : a / b ≤ a:=Int.ediv_le_self _ ha
  omega
theorem shr_i64 (a y : Int) (h : 0 ≤ y) (hy : y < 64) : shiftV .shr .i64 a y = some (.raw (.int .i64 (a.fdiv (2 ^ y.toNat)))):=by
  unfold shiftV
  rw [if_neg (by omega),show min y.toNat (IntKind.bits .i64) = y.toNat by simp [IntKind.bits]; omega]
theorem rem_u64 (x : BitVec 64) (b : Int) (h0 : 0 < b) (h1 : b < 18446744073709551616) : intV .rem .u64 (x.toNat : Int) b = some (.raw (.int .u64 ((x % BitVec.ofInt 64 b).toNat : Int))):=by
  simp only [intV]
  rw [if_neg (by omega)]
  obtain ⟨n,rfl⟩:=Int.eq_ofNat_of_zero_le (Int.le_of_lt h0)
  rw [Int.tmod_eq_emod_of_nonneg (by omega),← Int.natCast_emod,bv_nat,BitVec.toNat_umod,BitVec.toNat_ofNat,Nat.mod_eq_of_lt (by omega : n < 2 ^ 64)]
theorem quo_u64 (x : BitVec 64) (b : Int) (h0 : 0 < b) (h1 : b < 18446744073709551616) : intV .quo .u64 (x.toNat : Int) b = some (.raw (.int .u64 ((x / BitVec.ofInt 64 b).toNat : Int))):=by
  simp only [intV]
  rw [if_neg (by omega)]
  obtain ⟨n,rfl⟩:=Int.eq_ofNat_of_zero_le (Int.le_of_lt h0)
  rw [Int.tdiv_eq_ediv_of_nonneg (by omega),← Int.natCast_ediv,bv_nat,BitVec.toNat_udiv,BitVec.toNat_ofNat,Nat.mod_eq_of_lt (by omega : n < 2 ^ 64),wrap_u64,bv_nat,BitVec.toNat_ofNat]
  rw [Nat.mod_eq_of_lt]
  exact Nat.lt_of_le_of_lt (Nat.div_le_self _ _) x.isLt
theorem cmp_i64_lss (k : IntKind) (a b : Int) : intV .lss k a b = some (.raw (.bool (decide (a < b)))):=rfl
theorem cmp_i64_leq (k : IntKind) (a b : Int) : intV .leq k a b = some (.raw (.bool (decide (a ≤ b)))):=rfl
theorem cmp_i64_gtr (k : IntKind) (a b : Int) : intV .gtr k a b = some (.raw (.bool (decide (a > b)))):=rfl
theorem cmp_i64_geq (k : IntKind) (a b : Int) : intV .geq k a b = some (.raw (.bool (decide (a ≥ b)))):=rfl
theorem cmp_eql (k : IntKind) (a b : Int) : intV .eql k a b = some (.raw (.bool (a == b))):=rfl
theorem cmp_neq (k : IntKind) (a b : Int) : intV .neq k a b = some (.raw (.bool (a != b))):=rfl
theorem add_i64 (a b : Int) (h : -9223372036854775808 ≤ a + b ∧ a + b ≤ 9223372036854775807) : intV .add .i64 a b = some (.raw (.int .i64 (a + b))):=by simp only [intV,i64_is _ h]
theorem sub_i64 (a b : Int) (h : -9223372036854775808 ≤ a - b ∧ a - b ≤ 9223372036854775807) : intV .sub .i64 a b = some (.raw (.int .i64 (a - b))):=by simp only [intV,i64_is _ h]
theorem mul_i64 (a b : Int) (h : -9223372036854775808 ≤ a * b ∧ a * b ≤ 9223372036854775807) : intV .mul .i64 a b = some (.raw (.int .i64 (a * b))):=by simp only [intV,i64_is _ h]
def fillC (te : TypeId → Option TI) (k : TK) : Nat → List (Nat × AV) → Option (List AV)
  | _,[]=>some []
  | o,(i,v) :: rest =>
    (place te k i).bind fun p=>v.cells.bind fun ys=>if p.1 = o ∧ ys.length = p.2 then (fillC te k (o + p.2) rest).map (ys ++ ·) else none
theorem fillC_spec {te : TypeId → Option TI} {k : TK} : ∀ (ps : List (Nat × AV)) (o : Nat) (cs ys : List AV),fillC te k o ps = some ys → o + ys.length ≤ cs.length → fillV te k cs ps = some (cs.take o ++ ys ++ cs.drop (o + ys.length))
  | [],o,cs,ys,h,hl=>by simp [fillC] at h; subst h; simp [fillV]
  | (i,v) :: rest,o,cs,ys,h,hl=>by
    simp only [fillC,Option.bind_eq_some_iff] at h
    obtain ⟨⟨off,size⟩,h1,zs,h2,h3⟩:=h
    split at h3
    · rename_i hc
      simp only [Option.map_eq_some_iff] at h3
      obtain ⟨ys',h4,rfl⟩:=h3
      simp only at hc
      obtain ⟨rfl,hs⟩:=hc
      simp only [List.length_append] at hl
      have hsp : (splice cs off zs).length = cs.length:=by simp [splice]; omega
      have:=fillC_spec rest (off + size) (splice cs off zs) ys' h4 (by rw [hsp]; omega)
      simp only [fillV,h1,h2]
      rw [if_pos ⟨hs,by omega⟩,this]
      simp only [Option.some.injEq]
      unfold splice
      subst hs
      rw [List.take_append_of_le_length (by simp; omega),List.take_append,List.drop_append]
      have e1 : (List.take off cs ++ zs).length = off + zs.length:=by simp; omega
      have e2 : (List.take off cs).length = off:=by simp; omega
      rw [e1,e2,List.take_of_length_le (l:=List.take off cs) (by simp; omega),List.take_of_length_le (l:=zs) (by omega)]
      rw [show List.drop (off + zs.length + ys'.length) (List.take off cs ++ zs) = [] from List.drop_eq_nil_of_le (by simp; omega)]
      rw [List.drop_drop,List.nil_append]
      simp only [List.append_assoc,List.length_append]
      congr 4
      omega
    · cases h3
def fillV' (te : TypeId→Option TI) (k : TK) (cs : List AV) (ps : List (Nat × AV)) : Option (List AV):=fillV te k cs ps
theorem fillV_go {te : TypeId → Option TI} {k : TK} {cs : List AV} {ps : List (Nat × AV)} :
    fillV te k cs ps = match fillC te k 0 ps with | some ys=>if ys.length ≤ cs.length then some (ys ++ cs.drop ys.length) else fillV' te k cs ps | none=>fillV' te k cs ps:=by
  split
  · rename_i ys h
    split
    · have := fillC_spec ps 0 cs ys h (by omega)
      simpa using this
    · rfl
  · rfl
theorem rep_u8 (n : Nat) : List.replicate n (AV.raw (.int .u8 0)) = nums .u8 (List.replicate n 0#8):=by simp [nums]
theorem rep_u32 (n : Nat) : List.replicate n (AV.raw (.int .u32 0)) = nums .u32 (List.replicate n 0#32):=by simp [nums]
theorem rep_u64 (n : Nat) : List.replicate n (AV.raw (.int .u64 0)) = nums .u64 (List.replicate n 0#64):=by simp [nums]
theorem zeros_u8 (n : Nat) : rep n [AV.raw (.int .u8 0)] = nums .u8 (List.replicate n 0#8):=nums_zeros n
theorem zeros_u32 (n : Nat) : rep n [AV.raw (.int .u32 0)] = nums .u32 (List.replicate n 0#32):=nums_zeros n
theorem zeros_u64 (n : Nat) : rep n [AV.raw (.int .u64 0)] = nums .u64 (List.replicate n 0#64):=nums_zeros n
theorem nums_nil {k : IntKind} {w : Nat} : nums k ([] : List (BitVec w)) = []:=rfl
theorem bind_go {α β : Type} (o : Option α) (f : α→Option β) : o.bind f = match o with | some a=>f a | none=>none:=by cases o <;> rfl
theorem map_go {α β : Type} (o : Option α) (f : α→β) : o.map f = match o with | some a=>some (f a) | none=>none:=by cases o <;> rfl
theorem getD_drop {α : Type} (l : List α) (k : Nat) (d : α) : (l.drop k).getD 0 d = l.getD k d:=by simp [List.getD_eq_getElem?_getD]
theorem splice_all {xs ys : List AV} (h : ys.length = xs.length) : splice xs 0 ys = ys:=by
  unfold splice
  rw [h]; simp
theorem upd_at {β : Type} (f : Nat→β) (i j : Nat) (v : β) : upd f i v j = if j = i then v else f j:=rfl
theorem updB_at (f : Boxes) (i j : Bx) (v : List AV) : updB f i v j = if j = i then some v else f j:=rfl
theorem updI_at (f : Id→Bool) (i j : Id) : updI f i j = if j = i then true else f j:=rfl
end Go.Abs
namespace Go.Abs
set_option linter.unusedSimpArgs false
set_option linter.unusedVariables false
open Go
def bindQ (o : Option AS) (R : AS→Prop) : Prop:=∃ σ,o = some σ ∧ R σ
def condQ (v : AV) (f g : AS→Prop) (σ : AS) : Prop:=(v = .raw (.bool true) ∧ f σ) ∨ (v = .raw (.bool false) ∧ g σ) ∨ (v = .anyb ∧ f σ ∧ g σ)
inductive WkV (lvl : Nat) : AV → AV → Prop
  | same (v : AV) : WkV lvl v v
  | nil (s z : Nat) : WkV lvl (.raw (.slice none 0 0)) (.sl 0 [] (.own ⟨lvl,s,0,0⟩ z))
  | nilb : WkV lvl (.raw (.slice none 0 0)) (.sl 0 [] .bor)
  | bor (n : Nat) (xs : List AV) (fl : Fl) : WkV lvl (.sl n xs fl) (.sl n xs .bor)
  | any (b : Bool) : WkV lvl (.raw (.bool b)) .anyb
structure Wk (lvl : Nat) (σ σ' : AS) : Prop where
  gen : σ'.gen = σ.gen
  box : σ'.box = σ.box
  used : σ'.used = σ.used
  slots : ∀ i,WkV lvl (σ.slots i) (σ'.slots i)
theorem Wk.refl {lvl : Nat} (σ : AS) : Wk lvl σ σ:=⟨rfl,rfl,rfl,fun i=>.same _⟩
theorem Wk.at {lvl : Nat} {σ : AS} {d : Nat} {v : AV} (h : WkV lvl (σ.slots d) v) : Wk lvl σ { σ with slots:=upd σ.slots d v } :=
  ⟨rfl,rfl,rfl,fun i=>by
    show WkV lvl _ (if i = d then v else σ.slots i)
    split
    · rename_i e; rw [e]; exact h
    · exact .same _⟩
theorem made_zero (g : Ghost) (s c : Nat) : made g ⟨g.L,s,c,0⟩:=.inl ⟨rfl,Nat.le_refl _⟩
theorem WkV.rel {g : Ghost} {w : World} {v r : AV} {u : Value} (h : WkV g.L v r) (hv : RV g.μ g.G w v u ∧ Top g v u) : RV g.μ g.G w r u ∧ Top g r u:=by
  cases h with
  | same=>exact hv
  | nil=>obtain ⟨h1,_⟩:=hv; simp only [RV] at h1 ⊢; subst h1; exact ⟨.inl ⟨⟨none,rfl⟩,by simp⟩,by simp [Top,FlOK,made_zero]⟩
  | nilb=>obtain ⟨h1,_⟩:=hv; simp only [RV] at h1 ⊢; subst h1; exact ⟨.inl ⟨⟨none,rfl⟩,by simp⟩,by simp [Top,FlOK]⟩
  | bor=>obtain ⟨h1,_⟩:=hv; exact ⟨by simpa only [RV] using h1,by simp [Top,FlOK]⟩
  | any=>obtain ⟨h1,_⟩:=hv; simp only [RV] at h1 ⊢; exact ⟨⟨_,h1⟩,trivial⟩
theorem Sim.wk {N : Ent} {σ σ' : AS} {a : Act} {w : World} (h : Sim N σ a w) (hw : Wk N.lvl σ σ') : Sim N σ' a w:=by
  obtain ⟨g,h1,h2,h3,h4,h5,h6⟩:=h
  exact ⟨g,by rw [hw.box]; exact h1,by rw [hw.gen]; exact h2,by rw [hw.used]; exact h3,h4,h5,fun i=>WkV.rel (by rw [h1.lev]; exact hw.slots i) (h6 i)⟩
def Made (lvl : Nat) (σ : AS) (i : Id) : Prop:=i.lvl < lvl ∨ (i.lvl = lvl ∧ i.gen ≤ σ.gen i.slot)
structure Fut (lvl : Nat) (σ : AS) : Prop where
  used : ∀ i,σ.used i = true→Made lvl σ i
  slot : ∀ (s n : Nat) (xs : List AV) (i : Id) (z : Nat),σ.slots s = .sl n xs (.own i z)→Made lvl σ i
  box : ∀ (b : Bx) (cs : List AV) (j n : Nat) (xs : List AV) (i : Id) (z : Nat),σ.box b = some cs→cs[j]? = some (.sl n xs (.own i z))→Made lvl σ i
theorem Valid.toMade {N : Ent} {g : Ghost} {box : Boxes} {w : World} (hv : Valid N g box w) {σ : AS} (hU : g.U = σ.gen) {i : Id} (h : made g i) : Made N.lvl σ i:=by
  unfold made at h
  rw [hv.lev,hv.kn,hU] at h
  rcases h with ⟨h1,h2⟩ | h | h
  · rcases Nat.lt_or_ge i.lvl N.lvl with h3 | h3
    · exact .inl h3
    · exact .inr ⟨Nat.le_antisymm h2 h3,by rw [h1]; exact Nat.zero_le _⟩
  · exact .inl (hv.klow _ h)
  · exact .inr h
theorem Sim.fut {N : Ent} {σ : AS} {a : Act} {w : World} (h : Sim N σ a w) : Fut N.lvl σ:=by
  obtain ⟨g,hv,hU,hD,hn,hdf,hsl⟩:=h
  have key : ∀ (i : Id) (z m : Nat) (u : Value),FlOK g (.own i z) m u→Made N.lvl σ i:=fun i z m u hf=>by
    cases u <;> simp only [FlOK] at hf
    exact hv.toMade hU hf.1
  refine ⟨fun i hi=>hv.toMade hU (hv.dgen i (by rw [hD]; exact hi)),fun s n xs i z hs=>?_,fun b cs j n xs i z hb hj=>?_⟩
  · have := (hsl s).2
    rw [hs] at this
    exact key i z _ _ this
  · have hd := hv.dom b
    rw [hb] at hd
    obtain ⟨k,hk⟩:=Option.isSome_iff_exists.1 hd.symm
    obtain ⟨us,h1,h2,_⟩:=hv.box_cells hk hb
    have hjl : j < us.length:=by rw [h1.length]; exact (List.getElem?_eq_some_iff.1 hj).1
    exact key i z _ _ (hv.ctop b k cs hk hb j n xs _ us[j] hj (by rw [h2 j hjl]; simp [hjl]))
def loopQ (lvl : Nat) (f : (AX→AS→Prop)→AS→Prop) (Q : AX→AS→Prop) (σ : AS) : Prop:=∃ (I : Nat→AS→Prop) (n : Nat) (σ' : AS),Wk lvl σ σ' ∧ I n σ' ∧ ∀ n σ,I n σ→Fut lvl σ→f (thenQ (fun σ'=>∃ m,m < n ∧ I m σ') Q) σ
def awp (E : Env) (lvl n : Nat) : Code → (AX → AS → Prop) → AS → Prop
  | .skip,Q,σ=>Q .nrm σ
  | .label _,Q,σ=>Q .nrm σ
  | .exit i,Q,σ=>Q (.exit i) σ
  | .ret,Q,σ=>Q .ret σ
  | .seq a b,Q,σ=>awp E lvl n a (thenQ (awp E lvl n b Q) Q) σ
  | .region _ ops _,Q,σ=>bindQ (regs E lvl n ops.toList ops.toList σ) (Q .nrm)
  | .cond c x y,Q,σ=>condQ (ev E σ.slots c) (awp E lvl n x Q) (awp E lvl n y Q) σ
  | .block id c,Q,σ=>awp E lvl n c (blockQ id Q) σ
  | .scope c,Q,σ=>awp E lvl n c Q σ
  | .loop c,Q,σ=>loopQ lvl (awp E lvl n c) Q σ
  | _,_,_=>False
noncomputable def regsO : Env→Nat→Nat→List Oper→List Oper→AS→Option AS:=Classical.choose (⟨regs,rfl⟩ : ∃ f,f = regs)
theorem regsO_eq : regsO = regs:=Classical.choose_spec (⟨regs,rfl⟩ : ∃ f,f = regs)
noncomputable def awpO : Env→Nat→Nat→Code→(AX→AS→Prop)→AS→Prop:=Classical.choose (⟨awp,rfl⟩ : ∃ f,f = awp)
theorem awpO_eq : awpO = awp:=Classical.choose_spec (⟨awp,rfl⟩ : ∃ f,f = awp)
noncomputable def stepO : Env→Nat→Nat→List Oper→AS→Oper→Option AS:=Classical.choose (⟨stepV,rfl⟩ : ∃ f,f = stepV)
theorem stepO_eq : stepO = stepV:=Classical.choose_spec (⟨stepV,rfl⟩ : ∃ f,f = stepV)
section
variable {E : Env} {lvl n : Nat} {Q R : AX→AS→Prop} {σ : AS}
theorem regsO_nil {ops : List Oper} : regsO E lvl n ops [] σ = some σ:=by rw [regsO_eq]; rfl
theorem regsO_cons {ops : List Oper} {o : Oper} {rest : List Oper} : regsO E lvl n ops (o :: rest) σ = match stepO E lvl n ops σ o with | some σ'=>regsO E lvl n ops rest σ' | none=>none:=by rw [regsO_eq,stepO_eq]; rfl
theorem stepO_go {ops : List Oper} {o : Oper} : stepO E lvl n ops σ o =
    match wantedV ops σ o with
    | none=>none
    | some false => match o.dst with
      | some d=>if d < n then some (σ.put (some d) (.raw undef)) else none
      | none=>some σ
    | some true =>
      if isWrite o.op then
        match write E (ev E σ.slots) σ.box o.op with
        | some (v,b) => (match o.dst with
           | some d=>if d < n then some { σ.put (some d) v with box:=b } else none
           | none=>some { σ with box:=b })
        | none=>none
      else
        match o.dst with
        | some d=>if d < n then (match grow E lvl d (σ.gen d + 1) (ev E σ.slots) σ.box σ.used o.op with | some r=>some (σ.grown lvl d r) | none=>none) else none
        | none=>if isGen E o.op = true then (match grow E lvl n (σ.gen n + 1) (ev E σ.slots) σ.box σ.used o.op with | some r=>some (σ.mute lvl n r) | none=>none) else none:=by
  rw [stepO_eq]
  unfold stepV
  cases wantedV ops σ o with
  | none=>rfl
  | some b =>
    cases b with
    | false=>cases o.dst <;> rfl
    | true =>
      simp only
      split
      · cases write E (ev E σ.slots) σ.box o.op with
        | none=>rfl
        | some p=>cases o.dst <;> rfl
      · cases o.dst with
        | none =>
          simp only
          split
          · cases grow E lvl n (σ.gen n + 1) (ev E σ.slots) σ.box σ.used o.op <;> rfl
          · rfl
        | some d =>
          simp only
          split
          · cases grow E lvl d (σ.gen d + 1) (ev E σ.slots) σ.box σ.used o.op <;> rfl
          · rfl
theorem awp_skip : awpO E lvl n .skip Q σ = Q .nrm σ:=by rw [awpO_eq]; rfl
theorem awp_label {l : Nat} : awpO E lvl n (.label l) Q σ = Q .nrm σ:=by rw [awpO_eq]; rfl
theorem awp_exit {i : Nat} : awpO E lvl n (.exit i) Q σ = Q (.exit i) σ:=by rw [awpO_eq]; rfl
theorem awp_ret : awpO E lvl n .ret Q σ = Q .ret σ:=by rw [awpO_eq]; rfl
theorem awp_seq {a b : Code} : awpO E lvl n (.seq a b) Q σ = awpO E lvl n a (thenQ (awpO E lvl n b Q) Q) σ:=by rw [awpO_eq]; rfl
theorem awp_region {i : Nat} {ops : Array Oper} {d : Bool} : awpO E lvl n (.region i ops d) Q σ = bindQ (regsO E lvl n ops.toList ops.toList σ) (Q .nrm):=by rw [awpO_eq,regsO_eq]; rfl
theorem awp_cond {c : Operand} {x y : Code} : awpO E lvl n (.cond c x y) Q σ = condQ (ev E σ.slots c) (awpO E lvl n x Q) (awpO E lvl n y Q) σ:=by rw [awpO_eq]; rfl
theorem awp_block {i : Nat} {c : Code} : awpO E lvl n (.block i c) Q σ = awpO E lvl n c (blockQ i Q) σ:=by rw [awpO_eq]; rfl
theorem awp_scope {c : Code} : awpO E lvl n (.scope c) Q σ = awpO E lvl n c Q σ:=by rw [awpO_eq]; rfl
theorem awp_loop {c : Code} : awpO E lvl n (.loop c) Q σ = loopQ lvl (awpO E lvl n c) Q σ:=by rw [awpO_eq]; rfl
theorem thenQ_nrm {T : AS→Prop} : thenQ T Q .nrm σ = T σ:=rfl
theorem thenQ_ret {T : AS→Prop} : thenQ T Q .ret σ = Q .ret σ:=rfl
theorem thenQ_exit {T : AS→Prop} {i : Nat} : thenQ T Q (.exit i) σ = Q (.exit i) σ:=rfl
theorem blockQ_nrm {i : Nat} : blockQ i Q .nrm σ = Q .nrm σ:=rfl
theorem blockQ_ret {i : Nat} : blockQ i Q .ret σ = Q .ret σ:=rfl
theorem blockQ_exit {i j : Nat} : blockQ i Q (.exit j) σ = if j = i then Q .nrm σ else Q (.exit j) σ:=rfl
end
def confC (E : Env) : Code → Bool
  | .region _ ops true=>confB E ops.toList
  | .seq a b=>confC E a && confC E b
  | .cond _ x y=>confC E x && confC E y
  | .block _ c=>confC E c
  | .scope c=>confC E c
  | .loop c=>confC E c
  | _=>true
section
variable {P : Program} {N : Ent} {E : Env}
theorem awp_sound (hE : EnvOK P E) (hN : EntOK E N) (hP : P.follows .mixedOrders = true) : ∀ (c : Code) (Q : AX → AS → Prop) (σ : AS),confC E c = true → awp E N.lvl N.N c Q σ → AW P N c Q σ
  | .skip,Q,σ,_,h=>AW_skip h
  | .label _,Q,σ,_,h=>AW_label h
  | .exit i,Q,σ,_,h=>AW_exit h
  | .ret,Q,σ,_,h=>AW_ret h
  | .seq a b,Q,σ,hc,h=>by
    simp only [confC,Bool.and_eq_true] at hc
    refine AW_seq (AW_mono (awp_sound hE hN hP a _ σ hc.1 h) ?_)
    intro x σ' hq
    cases x with
    | nrm=>exact awp_sound hE hN hP b Q σ' hc.2 hq
    | ret=>exact hq
    | exit i=>exact hq
    | pan v=>exact hq
  | .region id ops dr,Q,σ,hc,h=>by
    obtain ⟨σ',h1,h2⟩:=h
    cases dr with
    | false=>have:=AW_region (Q:=Q) (id:=id) E hE hN σ' h1 h2; simpa using this
    | true=>have:=AW_draw (Q:=Q) (id:=id) E hE hN hP σ' hc h1 h2; simpa using this
  | .cond c x y,Q,σ,hc,h=>by
    simp only [confC,Bool.and_eq_true] at hc
    rcases h with ⟨h1,h2⟩ | ⟨h1,h2⟩ | ⟨h1,h2,h3⟩
    · exact AW_cond E hN h1 (by rw [if_pos rfl]; exact awp_sound hE hN hP x Q σ hc.1 h2)
    · exact AW_cond E hN h1 (by rw [if_neg (by simp)]; exact awp_sound hE hN hP y Q σ hc.2 h2)
    · exact AW_cond_any E hN h1 (awp_sound hE hN hP x Q σ hc.1 h2) (awp_sound hE hN hP y Q σ hc.2 h3)
  | .block id c,Q,σ,hc,h=>AW_block (awp_sound hE hN hP c _ σ hc h)
  | .scope c,Q,σ,hc,h=>AW_scope (awp_sound hE hN hP c Q σ hc h)
  | .loop c,Q,σ,hc,h=>by
    obtain ⟨I,n,σ',hw,h0,h1⟩:=h
    have:=AW_loop (P:=P) (N:=N) I n h0 fun n σ hI=>fun a w hs=>awp_sound hE hN hP c _ σ hc (h1 n σ hI hs.fut) a w hs
    exact fun a w hs=>this a w (hs.wk hw)
end
theorem SoundV.walk {P : Program} {f : FuncId} {fn : Func} {c : Code} {pf : List AV → Option AV} (E : Env) (hE : EnvOK P E) (hP : P.follows .mixedOrders = true) (hf : P.funcs[f]? = some fn) (hb : fn.body = some c)
    (hcall : ∀ (args : Array Value) (w : World),(callFunc f args).run P w = .ok (.enter f args) w) (hc : confC E c = true)
    (h : ∀ (args : List AV) (r : AV),pf args = some r→args.length ≤ fn.ntmps ∧ awpO E 0 fn.ntmps c (endQ E.te fn.results.toList r) (start args)) : SoundV P E.glob f pf :=
  SoundV.of E hE hf hb hcall fun args r hr=>⟨(h args r hr).1,fun N hn hl hN=>by
    have:=(h args r hr).2
    rw [awpO_eq,← hn,← hl] at this
    exact awp_sound hE hN hP c _ _ hc this⟩
def Env.know (E : Env) (f : FuncId) (pf : List AV→Option AV) : Env:={ E with tbl:=fun i=>if i = f then some (.val pf) else E.tbl i }
theorem EnvOK.know {P : Program} {E : Env} (h : EnvOK P E) {f : FuncId} {pf : List AV→Option AV} (hs : SoundV P E.glob f pf) : EnvOK P (E.know f pf):=by
  refine ⟨h.te,fun i p hp=>?_,fun i p hp=>?_⟩
  change (if i = f then _ else _) = _ at hp
  split at hp
  · rename_i e; cases hp; rw [e]; exact hs
  · exact h.tbl i p hp
  · change (if i = f then _ else _) = _ at hp
    split at hp
    · cases hp
    · exact h.gen i p hp
def Env.knowG (E : Env) (f : FuncId) (gf : List AV→Boxes→(Id→Bool)→Option CR) : Env:={ E with tbl:=fun i=>if i = f then some (.gen gf) else E.tbl i,gs:=f :: E.gs }
theorem EnvOK.knowG {P : Program} {E : Env} (h : EnvOK P E) {f : FuncId} {gf : List AV→Boxes→(Id→Bool)→Option CR} (hs : SoundG P E.glob f gf) : EnvOK P (E.knowG f gf):=by
  refine ⟨h.te,fun i p hp=>?_,fun i p hp=>?_⟩
  · change (if i = f then _ else _) = _ at hp
    split at hp
    · cases hp
    · exact h.tbl i p hp
  · change (if i = f then _ else _) = _ at hp
    split at hp
    · rename_i e; cases hp; rw [e]; exact hs
    · exact h.gen i p hp
def Env.dynamic (E : Env) : Env:={ E with dyn:=true }
theorem EnvOK.dynamic {P : Program} {E : Env} (h : EnvOK P E) : EnvOK P E.dynamic:=⟨h.te,h.tbl,h.gen⟩
def Env.boxed (E : Env) (m : Nat→Bool) : Env:={ E with mu:=m }
theorem EnvOK.boxed {P : Program} {E : Env} (h : EnvOK P E) (m : Nat→Bool) : EnvOK P (E.boxed m):=⟨h.te,h.tbl,h.gen⟩
def stB (P : Program) (t : TypeId) (fs : List (Nat × TypeId)) : Bool :=
  match P.underlying t with
  | some (.struct fields)=>decide (fs = fields.toList.map fun f=>(f.offset,f.type))
  | _=>false
def stF (P : Program) (t : TypeId) : Bool :=
  match P.underlying t with
  | some (.struct fields) => (fields.toList.all fun f => (P.info? f.type).isSome) && (fields.toList.all fun f => f.name != "_") && !P.stoodInHeld t
  | _=>true
theorem st_under {P : Program} {t : TypeId} {fs : List (Nat × TypeId)} (h : stB P t fs = true) : ∃ d,P.underlying t = some d ∧ TKis (.st fs) d:=by
  unfold stB at h
  split at h
  · rename_i fields e
    exact ⟨_,e,fields,rfl,by simpa using h⟩
  · cases h
theorem ti_fields {P : Program} {t : TypeId} (h : stF P t = true) : ∀ fs, P.underlying t = some (.struct fs) → fs.toList.all (fun f => (P.info? f.type).isSome) = true ∧ fs.toList.all (fun f => f.name != "_") = true ∧ P.stoodInHeld t = false := by
  intro fs e
  unfold stF at h
  rw [e] at h
  simp only [Bool.and_eq_true,Bool.not_eq_true'] at h
  exact ⟨h.1.1,h.1.2,h.2⟩
theorem bindQ_some (σ : AS) (R : AS→Prop) : bindQ (some σ) R = R σ:=by simp [bindQ]
theorem condQ_true (f g : AS→Prop) (σ : AS) : condQ (.raw (.bool true)) f g σ = f σ:=by simp [condQ]
theorem condQ_false (f g : AS→Prop) (σ : AS) : condQ (.raw (.bool false)) f g σ = g σ:=by simp [condQ]
theorem condQ_any (f g : AS→Prop) (σ : AS) : condQ .anyb f g σ = (f σ ∧ g σ):=by simp [condQ]
theorem condQ_dec {p : Prop} [Decidable p] {f g : AS→Prop} {σ : AS} (h1 : p→f σ) (h2 : ¬p→g σ) : condQ (.raw (.bool (decide p))) f g σ:=by
  by_cases h : p <;> simp [condQ,h,h1,h2]
theorem condQ_bool {b : Bool} {f g : AS→Prop} {σ : AS} (h1 : b = true→f σ) (h2 : b = false→g σ) : condQ (.raw (.bool b)) f g σ:=by
  cases b <;> simp [condQ,h1,h2]
theorem loopQ_of {lvl : Nat} {f : (AX→AS→Prop)→AS→Prop} {Q : AX→AS→Prop} {σ : AS} (I : Nat→AS→Prop) (n : Nat) (h0 : I n σ) (h : ∀ n σ,I n σ→f (thenQ (fun σ'=>∃ m,m < n ∧ I m σ') Q) σ) : loopQ lvl f Q σ:=⟨I,n,σ,Wk.refl σ,h0,fun n σ hI _=>h n σ hI⟩
theorem loopQ_wk {lvl : Nat} {f : (AX→AS→Prop)→AS→Prop} {Q : AX→AS→Prop} {σ : AS} (σ' : AS) (hw : Wk lvl σ σ') (I : Nat→AS→Prop) (n : Nat) (h0 : I n σ') (h : ∀ n σ,I n σ→f (thenQ (fun σ'=>∃ m,m < n ∧ I m σ') Q) σ) : loopQ lvl f Q σ:=⟨I,n,σ',hw,h0,fun n σ hI _=>h n σ hI⟩
end Go.Abs
namespace Go.Abs
set_option linter.unusedSimpArgs false
set_option linter.unusedVariables false
open Go
section
variable {E : Env} {sl : Nat→AV}
theorem ev_tmp {t : Nat} : ev E sl (.tmp t) = sl t:=rfl
theorem ev_const {v : Value} : ev E sl (.const v) = ofV v:=rfl
theorem ev_global {g : Nat} : ev E sl (.global g) = match E.glob g with | some xs=>.iptr xs | none=>.dead:=rfl
theorem ev_func {f : FuncId} : ev E sl (.func f) = .fn f []:=rfl
end
theorem unV_not (b : Bool) : unV .not (.raw (.bool b)) = some (.raw (.bool !b)):=rfl
theorem unV_any : unV .not .anyb = some .anyb:=rfl
theorem unV_neg (k : IntKind) (n : Int) : unV .neg (.raw (.int k n)) = some (.raw (.int k (k.wrap (0 - n)))):=rfl
theorem bb_t (b : Bool) : (b == true) = b:=by cases b <;> rfl
theorem bb_f (b : Bool) : (b == false) = !b:=by cases b <;> rfl
section
variable {te : TypeId→Option TI} {op : BinOp} {t : TypeId}
theorem bin_int {k k' : IntKind} {a b : Int} : binV te op t (.raw (.int k a)) (.raw (.int k' b)) = match op with
    | .shl | .shr=>shiftV op k a b
    | _=>if k = k' then intV op k a b else none:=rfl
theorem bin_bool {a b : Bool} : binV te op t (.raw (.bool a)) (.raw (.bool b)) = match kd te t with
    | .bool=>eqNeg op (a == b)
    | _=>none:=rfl
theorem bin_str {a b : ByteArray} : binV te op t (.raw (.string a)) (.raw (.string b)) = match op with
    | .eql=>some (.raw (.bool (a.data.toList == b.data.toList)))
    | .neq=>some (.raw (.bool !(a.data.toList == b.data.toList)))
    | .add=>if a.size + b.size ≤ 9223372036854775807 then some (.raw (.string (a ++ b))) else none
    | _=>none:=rfl
theorem str_add (l m : List UInt8) : (⟨l.toArray⟩ : ByteArray) ++ ⟨m.toArray⟩ = ⟨(l ++ m).toArray⟩:=by
  apply ByteArray.ext
  simp
theorem str_size (l : List UInt8) : (⟨l.toArray⟩ : ByteArray).size = l.length:=rfl
theorem bin_nil : binV te op t (.raw (.slice none 0 0)) (.raw (.slice none 0 0)) = match kd te t with
    | .slice _=>eqNeg op true
    | _=>none:=rfl
theorem bin_sl {n : Nat} {xs : List AV} {fl : Fl} : binV te op t (.sl n xs fl) (.raw (.slice none 0 0)) = match kd te t,op with
    | .slice _,.eql=>some (if n = 0 then .anyb else .raw (.bool false))
    | .slice _,.neq=>some (if n = 0 then .anyb else .raw (.bool true))
    | _,_=>none:=rfl
theorem bin_view {b : Bx} {o n c z : Nat} : binV te op t (.view b o n c z) (.raw (.slice none 0 0)) = match kd te t with
    | .slice _=>eqNeg op false
    | _=>none:=rfl
theorem bin_ptr {b : Bx} {o : Nat} : binV te op t (.ptr b o) (.raw (.pointer none)) = match kd te t with
    | .ptr _=>eqNeg op false
    | _=>none:=rfl
theorem bin_iptr {xs : List AV} : binV te op t (.iptr xs) (.raw (.pointer none)) = match kd te t with
    | .ptr _=>eqNeg op false
    | _=>none:=rfl
theorem bin_np : binV te op t (.raw (.pointer none)) (.raw (.pointer none)) = match kd te t with
    | .ptr _=>eqNeg op true
    | _=>none:=rfl
end
section
variable {n m z : Nat} {xs : List AV} {i : Id}
theorem fullNil_own : fullNil (.sl n xs (.own i z)) m = false:=rfl
theorem fullNil_bor : fullNil (.sl n xs .bor) m = false:=rfl
theorem fullNil_nil : fullNil (.raw (.slice none 0 0)) m = false:=rfl
theorem fullNil_full0 : fullNil (.sl n xs .full) 0 = true:=rfl
theorem fullNil_full (h : m ≠ 0) : fullNil (.sl n xs .full) m = false:=by cases m <;> first | rfl | exact absurd rfl h
theorem fullNil_view {b : Bx} {o c : Nat} : fullNil (.view b o n c z) m = false:=rfl
end
def norm : AV → AV
  | .raw (.slice none 0 0)=>.sl 0 [] .bor
  | v=>v
theorem norm_nil : norm (.raw (.slice none 0 0)) = .sl 0 [] .bor:=rfl
theorem norm_sl {n : Nat} {xs : List AV} {fl : Fl} : norm (.sl n xs fl) = .sl n xs fl:=rfl
theorem norm_agg {xs : List AV} : norm (.agg xs) = .agg xs:=rfl
theorem norm_int {k : IntKind} {n : Int} : norm (.raw (.int k n)) = .raw (.int k n):=rfl
theorem norm_bool {b : Bool} : norm (.raw (.bool b)) = .raw (.bool b):=rfl
theorem norm_str {s : ByteArray} : norm (.raw (.string s)) = .raw (.string s):=rfl
theorem norm_rel {μ : Bx→Option Nat} {G : Nat→Nat→Prop} {w : World} {v : AV} {u : Value} (h : RV μ G w v u) : RV μ G w (norm v) u:=by
  unfold norm
  split
  · simp only [RV] at h ⊢; subst h; exact .inl ⟨⟨none,rfl⟩,by simp⟩
  · exact h
theorem norm_rels {μ : Bx → Option Nat} {G : Nat → Nat → Prop} {w : World} : ∀ {xs : List AV} {us : List Value},RVs μ G w xs us → RVs μ G w (xs.map norm) us
  | [],us,h=>by simpa only [RVs,List.map_nil] using h
  | x :: xs,us,h=>by
    simp only [RVs,List.map_cons] at h ⊢
    obtain ⟨u,us',rfl,h1,h2⟩:=h
    exact ⟨u,us',rfl,norm_rel h1,norm_rels h2⟩
theorem SoundV.norm {P : Program} {glob : Nat→Option (List AV)} {f : FuncId} {pf : List AV→Option AV} (h : SoundV P glob f pf) : SoundV P glob f (fun args=>pf (args.map norm)) :=
  ⟨h.1,fun args r hr G w vals hp=>h.2 (args.map Abs.norm) r hr G w vals ⟨hp.cell,hp.glob,norm_rels hp.args⟩⟩
def row? (k : IntKind) (w : Nat) : AV → Option (List (BitVec w))
  | .sl n xs _=>(deNums k w xs).bind fun m=>if n = m.length then some m else none
  | _=>none
theorem row?_of {k : IntKind} {w : Nat} {v : AV} {m : List (BitVec w)} (h : row? k w v = some m) : ∃ fl,v = .sl m.length (nums k m) fl:=by
  unfold row? at h
  split at h
  · simp only [Option.bind_eq_some_iff] at h
    obtain ⟨m',h1,h2⟩:=h
    split at h2
    · rename_i hn
      cases h2
      rw [deNums_of h1,hn]
      exact ⟨_,rfl⟩
    · cases h2
  · cases h
theorem row?_at {k : IntKind} {w n : Nat} {m : List (BitVec w)} {fl : Fl} (h : n = m.length) : row? k w (.sl n (nums k m) fl) = some m:=by
  simp [row?,deNums_nums,h]
def agg? (k : IntKind) (w l : Nat) : AV → Option (List (BitVec w))
  | .agg xs=>(deNums k w xs).bind fun m=>if m.length = l then some m else none
  | _=>none
theorem agg?_of {k : IntKind} {w l : Nat} {v : AV} {m : List (BitVec w)} (h : agg? k w l v = some m) : v = .agg (nums k m) ∧ m.length = l:=by
  unfold agg? at h
  split at h
  · simp only [Option.bind_eq_some_iff] at h
    obtain ⟨m',h1,h2⟩:=h
    split at h2
    · rename_i hn
      cases h2
      rw [deNums_of h1]
      exact ⟨rfl,hn⟩
    · cases h2
  · cases h
theorem agg?_at {k : IntKind} {w l : Nat} {m : List (BitVec w)} (h : m.length = l) : agg? k w l (.agg (nums k m)) = some m:=by
  simp [agg?,deNums_nums,h]
def num? (k : IntKind) (w : Nat) : AV → Option (BitVec w)
  | .raw (.int k' n)=>if k' = k ∧ 0 ≤ n ∧ n.toNat < 2 ^ w then some (BitVec.ofNat w n.toNat) else none
  | _=>none
def int? : AV → Option Int
  | .raw (.int .i64 n)=>some n
  | _=>none
def bool? : AV → Option Bool
  | .raw (.bool b)=>some b
  | _=>none
theorem num?_of {k : IntKind} {w : Nat} {v : AV} {x : BitVec w} (h : num? k w v = some x) : v = .raw (.int k (x.toNat : Int)):=by
  unfold num? at h
  split at h
  · split at h
    · rename_i hc
      cases h
      rw [BitVec.toNat_ofNat,Nat.mod_eq_of_lt hc.2.2,Int.toNat_of_nonneg hc.2.1,hc.1]
    · cases h
  · cases h
theorem num?_num (k : IntKind) {w : Nat} (x : BitVec w) : num? k w (.raw (.int k (x.toNat : Int))) = some x:=by
  simp [num?,x.isLt]
theorem int?_of {v : AV} {n : Int} (h : int? v = some n) : v = .raw (.int .i64 n):=by
  unfold int? at h
  split at h
  · cases h; rfl
  · cases h
theorem int?_at {n : Int} : int? (.raw (.int .i64 n)) = some n:=rfl
theorem bool?_of {v : AV} {b : Bool} (h : bool? v = some b) : v = .raw (.bool b):=by
  unfold bool? at h
  split at h
  · cases h; rfl
  · cases h
theorem bool?_at {b : Bool} : bool? (.raw (.bool b)) = some b:=rfl
def FreeL (l : Nat) (us : Id→Bool) (a d : Nat) (i : Id) : Prop:=us i = false ∧ (∀ g,a < g→us ⟨l,d,0,g⟩ = false) ∧ (i.lvl = l→i.slot = d→i.gen ≤ a)
theorem FreeL.now {l : Nat} {us : Id→Bool} {a d : Nat} {i : Id} (h : FreeL l us a d i) : us i = false:=h.1
theorem FreeL.go {l : Nat} {us : Id→Bool} {a d : Nat} {i : Id} (h : FreeL l us a d i) : FreeL l (updI us i) (a + 1) d ⟨l,d,0,a + 1⟩:=by
  obtain ⟨h1,h2,h3⟩:=h
  have hne : ∀ g,a < g→(⟨l,d,0,g⟩ : Id) ≠ i:=by
    rintro g hg rfl
    have:=h3 rfl rfl
    dsimp only at this
    omega
  refine ⟨?_,fun g hg=>?_,fun _ _=>Nat.le_refl _⟩
  · rw [updI_at,if_neg (hne _ (by omega))]; exact h2 _ (by omega)
  · rw [updI_at,if_neg (hne _ (by omega))]; exact h2 _ (by omega)
theorem FreeL.other {l : Nat} {us : Id→Bool} {a d b e : Nat} {i : Id} (h : FreeL l us a d i) (k : FreeL l us b e i) (hne : d ≠ e) : FreeL l (updI us i) b e ⟨l,d,0,a + 1⟩:=by
  refine ⟨h.go.1,fun g hg=>?_,fun _ h=>absurd h hne⟩
  rw [updI_at,if_neg]
  · exact k.2.1 g hg
  · rintro rfl
    have:=k.2.2 rfl rfl
    dsimp only at this
    omega
abbrev Free (us : Id→Bool) (a d : Nat) (i : Id) : Prop:=FreeL 0 us a d i
theorem Free.now {us : Id→Bool} {a d : Nat} {i : Id} (h : Free us a d i) : us i = false:=FreeL.now h
theorem Free.go {us : Id→Bool} {a d : Nat} {i : Id} (h : Free us a d i) : Free (updI us i) (a + 1) d ⟨0,d,0,a + 1⟩:=FreeL.go h
theorem Free.other {us : Id→Bool} {a d b e : Nat} {i : Id} (h : Free us a d i) (k : Free us b e i) (hne : d ≠ e) : Free (updI us i) b e ⟨0,d,0,a + 1⟩:=FreeL.other h k hne
end Go.Abs
namespace Go.Abs
set_option linter.unusedSimpArgs false
set_option linter.unusedVariables false
open Go
def norm2 : AV → AV
  | .sl n xs fl=>.sl n (xs.map norm) fl
  | v=>norm v
theorem norm2_sl {n : Nat} {xs : List AV} {fl : Fl} : norm2 (.sl n xs fl) = .sl n (xs.map norm) fl:=rfl
theorem norm2_rel {μ : Bx→Option Nat} {G : Nat→Nat→Prop} {w : World} {v : AV} {u : Value} (h : RV μ G w v u) : RV μ G w (norm2 v) u:=by
  unfold norm2
  split
  · rename_i n xs fl
    simp only [RV] at h ⊢
    rcases h with ⟨h1,h2,h3⟩ | ⟨k,o,c,us,h1,h2,h3,h4⟩
    · exact .inl ⟨h1,h2,by rw [h3]; rfl⟩
    · exact .inr ⟨k,o,c,us,h1,h2,norm_rels h3,h4⟩
  · exact norm_rel h
theorem norm2_rels {μ : Bx → Option Nat} {G : Nat → Nat → Prop} {w : World} : ∀ {xs : List AV} {us : List Value},RVs μ G w xs us → RVs μ G w (xs.map norm2) us
  | [],us,h=>by simpa only [RVs,List.map_nil] using h
  | x :: xs,us,h=>by
    simp only [RVs,List.map_cons] at h ⊢
    obtain ⟨u,us',rfl,h1,h2⟩:=h
    exact ⟨u,us',rfl,norm2_rel h1,norm2_rels h2⟩
theorem SoundV.norm2 {P : Program} {glob : Nat→Option (List AV)} {f : FuncId} {pf : List AV→Option AV} (h : SoundV P glob f pf) : SoundV P glob f (fun args=>pf (args.map norm2)) :=
  ⟨h.1,fun args r hr G w vals hp=>h.2 (args.map Abs.norm2) r hr G w vals ⟨hp.cell,hp.glob,norm2_rels hp.args⟩⟩
def rowsA (l : List (List (BitVec 8))) : List AV:=l.map fun a=>.sl a.length (nums .u8 a) .bor
theorem rowsA_len (l : List (List (BitVec 8))) : (rowsA l).length = l.length:=by simp [rowsA]
theorem i64_eq {k : IntKind} {a b : Int} (h : a = b) : AV.raw (.int k a) = .raw (.int k b):=by rw [h]
theorem row_eq {k : IntKind} {w l l' : Nat} {m m' : List (BitVec w)} {fl : Fl} (h1 : l = l') (h2 : m = m') : AV.sl l (nums k m) fl = .sl l' (nums k m') fl:=by rw [h1,h2]
theorem FreeL.keep {l : Nat} {us : Id→Bool} {a d : Nat} {i j : Id} (h : FreeL l us a d i) (hs : j.slot ≠ d) (hne : i ≠ j) : FreeL l (updI us j) a d i:=by
  refine ⟨?_,fun g hg=>?_,h.2.2⟩
  · rw [updI_at,if_neg hne]; exact h.1
  · rw [updI_at,if_neg (fun e=>hs (by rw [← e]))]; exact h.2.1 g hg
theorem Free.keep {us : Id→Bool} {a d : Nat} {i j : Id} (h : Free us a d i) (hs : j.slot ≠ d) (hne : i ≠ j) : Free (updI us j) a d i:=FreeL.keep h hs hne
theorem wrap_ofInt (n : Int) : IntKind.i64.wrap n = (BitVec.ofInt 64 n).toInt:=by
  rw [BitVec.toInt_ofInt,IntKind.wrap_i64]
  unfold Int.bmod
  simp only [Nat.reducePow,Int.cast_ofNat_Int]
  split <;> omega
theorem or_i64 (a b : Int) : intV .or .i64 a b = some (.raw (.int .i64 ((BitVec.ofInt 64 a ||| BitVec.ofInt 64 b).toInt))):=by
  have e : IntKind.i64.wrap ((BitVec.ofInt IntKind.i64.bits a ||| BitVec.ofInt IntKind.i64.bits b).toNat : Int) = (BitVec.ofInt 64 a ||| BitVec.ofInt 64 b).toInt:=by
    rw [wrap_ofInt]
    congr 1
    exact bv_back _
  simp only [intV,e]
theorem bv64_back (x : BitVec 64) : BitVec.ofInt 64 x.toInt = x:=by simp
theorem shl_i64 (x : BitVec 64) (y : Int) (h : 0 ≤ y) (hy : y < 64) : shiftV .shl .i64 x.toInt y = some (.raw (.int .i64 ((x <<< y.toNat).toInt))):=by
  have hb : IntKind.i64.bits = 64:=rfl
  have hm : min y.toNat IntKind.i64.bits = y.toNat:=by rw [hb]; omega
  have e : IntKind.i64.wrap (x.toInt * 2 ^ y.toNat) = (x <<< y.toNat).toInt:=by
    rw [wrap_ofInt,BitVec.ofInt_mul,bv64_back,BitVec.shiftLeft_eq_mul_twoPow]
    congr 2
    apply BitVec.eq_of_toNat_eq
    rw [BitVec.toNat_twoPow,BitVec.toNat_ofInt]
    have : ((2 : Int) ^ y.toNat) = ((2 ^ y.toNat : Nat) : Int):=by simp
    rw [this]
    omega
  simp only [shiftV,hm,e]
  rw [if_neg (by omega)]
set_option linter.defProp false
def ev0:=And.intro @awp_skip (And.intro @awp_label (And.intro @awp_exit (And.intro @awp_ret (And.intro @awp_seq (And.intro @awp_region (And.intro @awp_cond (And.intro @awp_block (And.intro @awp_scope (And.intro @awp_loop (And.intro @thenQ_nrm (And.intro @thenQ_ret (And.intro @thenQ_exit (And.intro @blockQ_nrm (And.intro @blockQ_ret (And.intro @blockQ_exit (And.intro @bindQ_some (And.intro @condQ_true (And.intro @condQ_false (And.intro @condQ_any (And.intro @regsO_nil (And.intro @regsO_cons (And.intro @stepO_go (And.intro @ev_tmp (And.intro @ev_const (And.intro @ev_global (And.intro @ev_func (And.intro @if_true.{1} (And.intro @if_false.{1} (And.intro @if_pos.{1} (And.intro @Bool.false_eq_true (And.intro @upd_at (And.intro @updB_at (And.intro @updI_at (And.intro @Bx.own.injEq (And.intro @Id.mk.injEq (And.intro @List.getElem?_cons_zero.{0} (And.intro @List.getElem?_cons_succ.{0} (And.intro @List.getElem?_nil.{0} (And.intro @List.toList_toArray.{0} (And.intro @List.map_cons.{0,0} (And.intro @List.map_nil.{0,0} (And.intro @and_self (And.intro @and_true (And.intro @true_and (And.intro @false_and (And.intro @and_false (And.intro @or_false (And.intro @or_true (And.intro @false_or (And.intro @true_or (And.intro @not_true_eq_false (And.intro @not_false_eq_true (And.intro @Nat.zero_add (And.intro @Nat.add_zero (And.intro @Nat.mul_one (And.intro @Nat.one_mul (And.intro @Nat.zero_mul (And.intro @Nat.sub_zero (And.intro @Nat.one_ne_zero (And.intro @Nat.sub_self (And.intro @Nat.le_refl (And.intro @Nat.zero_ne_one (And.intro @beq_self_eq_true.{0} (And.intro @List.nodup_nil.{0} (And.intro @List.nodup_cons.{0} (And.intro @List.not_mem_nil.{0} (And.intro @List.nil_append.{0} (And.intro @List.cons_append.{0} (@Option.isSome_some.{0})))))))))))))))))))))))))))))))))))))))))))))))))))))))))))))))))))))
def ev1:=And.intro @Option.isSome_none.{0} (And.intro @Option.some.injEq.{0} (And.intro @List.append_nil.{0} (And.intro @Bool.and_self (And.intro @Bool.and_true (And.intro @Bool.true_and (And.intro @bb_t (And.intro @bb_f (And.intro @Bool.false_or (And.intro @Bool.or_false (And.intro @bin_int (And.intro @bin_bool (And.intro @bin_str (And.intro @bin_nil (And.intro @bin_sl (And.intro @bin_view (And.intro @bin_ptr (And.intro @bin_iptr (And.intro @bin_np (And.intro @unV_not (And.intro @unV_any (And.intro @unV_neg (And.intro @fillV_go (And.intro @List.all_cons.{0} (And.intro @List.all_nil.{0} (And.intro @List.length_cons.{0} (And.intro @List.length_nil.{0} (And.intro @add_u8 (And.intro @sub_u8 (And.intro @mul_u8 (And.intro @and_u8 (And.intro @or_u8 (And.intro @xor_u8 (And.intro @add_u32 (And.intro @sub_u32 (And.intro @mul_u32 (And.intro @and_u32 (And.intro @or_u32 (And.intro @xor_u32 (And.intro @add_u64 (And.intro @sub_u64 (And.intro @mul_u64 (And.intro @and_u64 (And.intro @or_u64 (And.intro @xor_u64 (And.intro @shl_u8 (And.intro @shl_u32 (And.intro @shl_u64 (And.intro @shr_u8 (And.intro @shr_u32 (And.intro @shr_u64 (And.intro @not_u32 (And.intro @rem_i64 (And.intro @quo_i64 (And.intro @shr_i64 (And.intro @rem_u64 (And.intro @quo_u64 (And.intro @add_i64 (And.intro @sub_i64 (And.intro @mul_i64 (And.intro @cmp_i64_lss (And.intro @cmp_i64_leq (And.intro @cmp_i64_gtr (And.intro @cmp_i64_geq (And.intro @cmp_eql (And.intro @cmp_neq (And.intro @wrap_u8 (And.intro @wrap_u16 (And.intro @wrap_u32 (@wrap_u64)))))))))))))))))))))))))))))))))))))))))))))))))))))))))))))))))))))
def ev2:=And.intro @i64_is (And.intro @bv_back (And.intro @bvn_back (And.intro @bv_nat (And.intro @Int.toNat_natCast (And.intro @toNat_add' (And.intro @toNat_sub' (And.intro @toNat_mul' (And.intro @toNat_mod' (And.intro @toNat_div' (And.intro @Int.natCast_inj (And.intro @Int.toNat_zero (And.intro @Int.toNat_one (And.intro @decide_true (And.intro @decide_false (And.intro @decide_eq_true_eq (And.intro @Bool.not_true (And.intro @Bool.not_false (And.intro @nums_len (And.intro @nums_get (And.intro @nums_get0 (And.intro @nums_take (And.intro @nums_drop (And.intro @nums_app (And.intro @nums_nil_app (And.intro @nums_snoc (And.intro @nums_set (And.intro @splice_all (And.intro @getD_drop (And.intro @nums_one (And.intro @nums_flat (And.intro @nums_pure (And.intro @nums_snap (And.intro @nums_noview (And.intro @nums_bytes (And.intro @rep_u8 (And.intro @rep_u32 (And.intro @rep_u64 (And.intro @zeros_u8 (And.intro @zeros_u32 (And.intro @zeros_u64 (And.intro @nums_nil (And.intro @List.map_replicate.{0,0} (And.intro @List.drop_replicate.{0} (And.intro @List.replicate_zero.{0} (And.intro @List.drop_zero.{0} (And.intro @List.take_zero.{0} (And.intro @List.take_of_length_le.{0} (And.intro @List.take_succ_cons.{0} (And.intro @List.drop_succ_cons.{0} (And.intro @List.length_append.{0} (And.intro @List.length_take.{0} (And.intro @List.length_drop.{0} (And.intro @List.length_replicate.{0} (And.intro @List.length_set.{0} (And.intro @List.length_map.{0,0} (And.intro @norm_nil (And.intro @norm_sl (And.intro @norm_agg (And.intro @norm_int (And.intro @norm_bool (@norm_str)))))))))))))))))))))))))))))))))))))))))))))))))))))))))))))
def ev3:=And.intro @or_i64 (And.intro @shl_i64 (And.intro @bv64_back (And.intro @str_add (And.intro @str_size (And.intro @norm2_sl @rowsA_len)))))
end Go.Abs
