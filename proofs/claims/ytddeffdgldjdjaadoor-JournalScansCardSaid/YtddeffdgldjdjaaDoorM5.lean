/- The abstract machine: functions that may panic. -/
import Derived.Test.YtddeffdgldjdjaaDoorM3
import Derived.Test.YtddeffdgldjdjaaDoorM4
import Derived.WideLaws
import Derived.Recover
namespace Go.Abs
set_option linter.unusedSimpArgs false
set_option linter.unusedVariables false
open Go Go.RowKit
def PostX (Nc : Ent) (gc : Ghost) (box : Boxes) (w : World) (cr : CR) (d : Nat) (e : Ending) (w' : World) : Prop :=
  ∃ gr : Ghost,((∃ v u,cr.v = .ret v ∧ e = .returned u ∧ RV gr.μ gr.G w' (takeR Nc.lvl d (gc.U d + 1) v) u ∧ Top gr (takeR Nc.lvl d (gc.U d + 1) v) u) ∨ (∃ pv,cr.v = .pan (.raw pv) ∧ e = .panicked [{ v := pv,recovered := false }])) ∧
    Valid Nc gr (applyW (match (cr.gr Nc.lvl d (gc.U d + 1) .dead).cont with | some c => updB box (.own Nc.lvl d (gc.U d + 1)) c | none => box) (cr.gr Nc.lvl d (gc.U d + 1) .dead).wr) w' ∧ Le gc w gr w' ∧
      gr.U = upd gc.U d (gc.U d + 1) ∧ gr.D = useL gc.D cr.use
def SoundX (P : Program) (glob : Nat→Option (List AV)) (f : FuncId) (gf : List AV→Boxes→(Id→Bool)→Option CR) : Prop :=
  (∀ (args : Array Value) (w : World),(callFunc f args).run P w = .ok (.enter f args) w) ∧
  ∀ (N : Ent) (g : Ghost) (box : Boxes) (w : World),Valid N g box w → (∀ gi xs,glob gi = some xs → RV noMu g.G w (.iptr xs) (.pointer (some ⟨gi,0,none⟩))) →
    ∀ (args : List AV) (vals : List Value) (cr : CR) (d : Nat),RVs g.μ g.G w args vals → (∀ (j : Nat) v u,args[j]? = some v → vals[j]? = some u → Top g v u) → gf args box g.D = some cr →
      Calls P f vals.toArray w (PostX N g box w cr d)
theorem SoundX.toG {P : Program} {glob : Nat→Option (List AV)} {f : FuncId} {gf : List AV→Boxes→(Id→Bool)→Option CR} (h : SoundX P glob f gf) : SoundG P glob f gf :=
  ⟨h.1,fun N g box w hv hg args vals cr v d hr ht hgf hcv=>(h.2 N g box w hv hg args vals cr d hr ht hgf).mono fun e w' hq=>by
    obtain ⟨gr,h1,h2,h3,h4,h5⟩:=hq
    rcases h1 with ⟨v',u,e1,e2,e3,e4⟩ | ⟨pv,e1,_⟩
    · rw [hcv] at e1; cases e1
      exact ⟨u,gr,e2,h2,h3,h4,h5,e3,e4⟩
    · rw [hcv] at e1; cases e1⟩
def endXQ (te : TypeId → Option TI) (rs : List ResultVar) (L : Nat) (bx : Boxes) (us : Id → Bool) (cr : CR) : AX → AS → Prop
  | .exit _,_=>False
  | .pan pv,σ=>cr.v = .pan (.raw pv) ∧ EndG te [] L bx us { cr with v:=.ret (.tup []) } σ
  | _,σ=>∃ v,cr.v = .ret v ∧ EndG te rs L bx us { cr with v:=.ret v } σ
def entG (Nc : Ent) (gc : Ghost) (n : Nat) (w : World) : Ent:={ lvl:=Nc.lvl + 1,N:=n,w0:=w,μ0:=gc.μ,G0:=gc.G,T0:=gc.T,D0:=gc.D,K0:=made gc }
theorem SoundX.enter {P : Program} {fn : Func} {Nc : Ent} {gc : Ghost} {box : Boxes} {w : World} (E : Env) (hvc : Valid Nc gc box w) (hglob : ∀ gi xs,E.glob gi = some xs → RV noMu gc.G w (.iptr xs) (.pointer (some ⟨gi,0,none⟩))) {args : List AV} {vals : List Value} (hargs : RVs gc.μ gc.G w args vals) (htops : ∀ (j : Nat) v u,args[j]? = some v → vals[j]? = some u → Top gc v u) (hlen : args.length ≤ fn.ntmps) :
    (∀ b,(box b).isSome → b.lvl < (entG Nc gc fn.ntmps w).lvl ∧ ∀ l s n,renB l s n b = b) ∧ (∀ i,gc.D i = true → i.lvl < (entG Nc gc fn.ntmps w).lvl) ∧ (∀ b cs,box b = some cs → lowL (entG Nc gc fn.ntmps w).lvl cs ∧ ∀ x ∈ cs,(∀ n ys i z,x = .sl n ys (.own i z) → i.lvl < (entG Nc gc fn.ntmps w).lvl ∧ i.gen ≠ 0) ∧ ∀ vs,x ≠ .tup vs) ∧ EntOK E (entG Nc gc fn.ntmps w) ∧
      Sim (entG Nc gc fn.ntmps w) (startG args box gc.D) { tmps:=vals.toArray ++ Array.replicate (fn.ntmps - vals.toArray.size) undef,defers:=[] } w:=by
  have hvl : vals.length = args.length:=hargs.length
  let N : Ent:={ lvl:=Nc.lvl + 1,N:=fn.ntmps,w0:=w,μ0:=gc.μ,G0:=gc.G,T0:=gc.T,D0:=gc.D,K0:=made gc }
  let g0 : Ghost:={ L:=Nc.lvl + 1,K:=made gc,μ:=gc.μ,G:=gc.G,T:=gc.T,U:=fun _=>0,D:=gc.D }
  have hmuL : ∀ b k,gc.μ b = some k→b.lvl ≤ Nc.lvl:=fun b k hb=>(hvc.lv b k hb).elim (fun h=>Nat.le_of_lt (hvc.low b k h).1) (fun h=>Nat.le_of_eq h.1)
  have hbx : ∀ b,(box b).isSome→b.lvl < N.lvl ∧ ∀ l s n,renB l s n b = b:=fun b hb=>by
    have:=hvc.dom b; rw [hb] at this
    obtain ⟨k,hk⟩:=Option.isSome_iff_exists.1 this.symm
    refine ⟨Nat.lt_succ_of_le (hmuL b k hk),fun l s n=>?_⟩
    obtain ⟨l',s',n'⟩:=b
    simp only [renB]
    rw [if_neg]
    rintro rfl
    rw [hvc.nz] at hk; cases hk
  have hus : ∀ i,gc.D i = true→i.lvl < N.lvl:=fun i hi=>Nat.lt_succ_of_le (hvc.madeLow (hvc.dgen i hi))
  have hbf : ∀ b cs,box b = some cs→lowL N.lvl cs ∧ ∀ x ∈ cs,(∀ n ys i z,x = .sl n ys (.own i z)→i.lvl < N.lvl ∧ i.gen ≠ 0) ∧ ∀ vs,x ≠ .tup vs:=fun b cs hb=>by
    have hd:=hvc.dom b
    rw [hb] at hd
    obtain ⟨k,hk⟩:=Option.isSome_iff_exists.1 hd.symm
    obtain ⟨us,h1,h2,_⟩:=hvc.box_cells hk hb
    refine ⟨RVs.low (fun b k h=>Nat.lt_succ_of_le (hmuL b k h)) cs us h1,fun x hx=>?_⟩
    obtain ⟨h3,h4⟩:=hvc.cok b cs hb x hx
    refine ⟨fun n ys i z e=>?_,h4⟩
    subst e
    refine ⟨?_,h3 n ys i z rfl⟩
    obtain ⟨j,hj⟩:=List.mem_iff_getElem?.1 hx
    have hjl : j < us.length:=by rw [h1.length]; exact (List.getElem?_eq_some_iff.1 hj).1
    have hfl:=hvc.ctop b k cs hk hb j n ys _ us[j] hj (by rw [h2 j hjl]; simp [hjl])
    have : made gc i:=by
      cases hu0 : us[j] <;> rw [hu0] at hfl <;> simp only [FlOK] at hfl
      exact hfl.1
    exact Nat.lt_succ_of_le (hvc.madeLow this)
  have hmk0 : ∀ i,made gc i→made g0 i:=fun i hi=>.inr (.inl hi)
  have hfl0 : ∀ fl m u,FlOK gc fl m u→FlOK g0 fl m u:=by
    intro fl m u hfl
    cases fl with
    | bor=>trivial
    | full=>cases u <;> first | exact hfl | (simp only [FlOK] at hfl)
    | own i z =>
      cases u with
      | slice A n c=>simp only [FlOK] at hfl ⊢; exact ⟨hmk0 i hfl.1,hfl.2⟩
      | _=>simp only [FlOK] at hfl
    | lit i =>
      cases u with
      | slice A n c=>simp only [FlOK] at hfl ⊢; exact ⟨hmk0 i hfl.1,hfl.2⟩
      | _=>simp only [FlOK] at hfl
  have hN : EntOK E N:=⟨hvc.cell,hglob⟩
  have hv0 : Valid N g0 box w :=
    { lev := rfl
      kn:=rfl
      klow:=fun i hi=>Nat.lt_succ_of_le (hvc.madeLow hi)
      chg:=⟨rfl,rfl,rfl,Nat.le_refl _,fun _ _ _=>rfl⟩
      sub:=fun _ _ h=>h
      keep:=fun _ _ _=>rfl
      old:=fun _ _ h _=>.inl h
      cell:=hvc.cell
      gmu:=hvc.gmu
      ext:=fun _ _ h=>h
      kext:=fun _ _ h=>nomatch h
      lv:=fun _ _ h=>.inl h
      low:=fun b k h=>⟨Nat.lt_succ_of_le (hmuL b k h),hvc.muLt h⟩
      nz:=hvc.nz
      fresh:=fun s n k hm=>by have h1 : Nc.lvl + 1 ≤ Nc.lvl:=hmuL _ _ hm; omega
      inj:=hvc.inj
      dom:=hvc.dom
      cont:=hvc.cont
      cok:=hvc.cok
      ctop:=fun b k xs hm hx j n ys fl u hj hu=>hfl0 _ _ _ (hvc.ctop b k xs hm hx j n ys fl u hj hu)
      tail:=fun i k lo hi ht=>by
        obtain ⟨t1,t2,t3,t4⟩:=hvc.tail i k lo hi ht
        exact ⟨.inr ⟨i,lo,hi,ht,Nat.le_refl _,Nat.le_refl _⟩,t2,hmk0 i t3,t4⟩
      tnew:=fun i r hr=>by
        obtain ⟨k,lo,hi⟩:=r
        exact .inr ⟨Nat.lt_succ_of_le (hvc.madeLow (hvc.tail i k lo hi hr).2.2.1),hr⟩
      tkeep:=fun _ _ h=>.inl h
      dgen:=fun i hi=>hmk0 i (hvc.dgen i hi)
      dkeep:=fun _ h=>h
      tinj:=hvc.tinj }
  have hs0 : Sim N (startG args box gc.D) { tmps:=vals.toArray ++ Array.replicate (fn.ntmps - vals.toArray.size) undef,defers:=[] } w:=by
    refine ⟨g0,hv0,rfl,rfl,?_,rfl,fun i=>?_⟩
    · show (vals.toArray ++ Array.replicate _ undef).size = fn.ntmps
      simp; omega
    · have : (vals.toArray ++ Array.replicate (fn.ntmps - vals.toArray.size) undef).getD i undef = vals[i]?.getD undef:=by
        rw [Array.getD_eq_getD_getElem?,Array.getElem?_append]
        split
        · simp
        · rename_i hge
          simp only [List.size_toArray,Nat.not_lt] at hge
          rw [List.getElem?_eq_none hge,Array.getElem?_replicate]
          split <;> rfl
      show RV _ _ _ _ ((vals.toArray ++ _).getD i undef) ∧ Top _ _ ((vals.toArray ++ _).getD i undef)
      rw [this]
      simp only [startG]
      cases ha : args[i]? with
      | none =>
        have : vals[i]? = none:=List.getElem?_eq_none (by rw [hvl]; simpa using ha)
        rw [this]
        exact ⟨by simp only [RV]; rfl,trivial⟩
      | some v =>
        obtain ⟨u,h1,h2⟩:=hargs.get i v ha
        have h3:=htops i v u ha h1
        rw [h1]
        cases v with
        | tup vs=>exact ⟨by simp only [RV],trivial⟩
        | sl n xs fl=>exact ⟨h2,hfl0 _ _ _ h3⟩
        | _=>exact ⟨h2,trivial⟩
  exact ⟨hbx,hus,hbf,hN,hs0⟩
theorem SoundX.ends {P : Program} {fn : Func} {Nc : Ent} {gc : Ghost} {box : Boxes} {w : World} (E : Env) (hvc : Valid Nc gc box w) (hglob : ∀ gi xs,E.glob gi = some xs → RV noMu gc.G w (.iptr xs) (.pointer (some ⟨gi,0,none⟩))) (hE : EnvOK P E) (cr : CR) (d : Nat) {x : AX} {σ : AS} {a' : Act} {w' : World} (hq : endXQ E.te fn.results.toList (entG Nc gc fn.ntmps w).lvl box gc.D cr x σ) (hs : Sim (entG Nc gc fn.ntmps w) σ a' w') :
    bodyPost P fn (PostX Nc gc box w cr d) (AX.to x) a' w':=by
  let N : Ent:={ lvl:=Nc.lvl + 1,N:=fn.ntmps,w0:=w,μ0:=gc.μ,G0:=gc.G,T0:=gc.T,D0:=gc.D,K0:=made gc }
  have hs : Sim N σ a' w':=hs
  have hq : endXQ E.te fn.results.toList N.lvl box gc.D cr x σ:=hq
  let g0 : Ghost:={ L:=Nc.lvl + 1,K:=made gc,μ:=gc.μ,G:=gc.G,T:=gc.T,U:=fun _=>0,D:=gc.D }
  have hmuL : ∀ b k,gc.μ b = some k→b.lvl ≤ Nc.lvl:=fun b k hb=>(hvc.lv b k hb).elim (fun h=>Nat.le_of_lt (hvc.low b k h).1) (fun h=>Nat.le_of_eq h.1)
  have hbx : ∀ b,(box b).isSome→b.lvl < N.lvl ∧ ∀ l s n,renB l s n b = b:=fun b hb=>by
    have:=hvc.dom b; rw [hb] at this
    obtain ⟨k,hk⟩:=Option.isSome_iff_exists.1 this.symm
    refine ⟨Nat.lt_succ_of_le (hmuL b k hk),fun l s n=>?_⟩
    obtain ⟨l',s',n'⟩:=b
    simp only [renB]
    rw [if_neg]
    rintro rfl
    rw [hvc.nz] at hk; cases hk
  have hus : ∀ i,gc.D i = true→i.lvl < N.lvl:=fun i hi=>Nat.lt_succ_of_le (hvc.madeLow (hvc.dgen i hi))
  have hbf : ∀ b cs,box b = some cs→lowL N.lvl cs ∧ ∀ x ∈ cs,(∀ n ys i z,x = .sl n ys (.own i z)→i.lvl < N.lvl ∧ i.gen ≠ 0) ∧ ∀ vs,x ≠ .tup vs:=fun b cs hb=>by
    have hd:=hvc.dom b
    rw [hb] at hd
    obtain ⟨k,hk⟩:=Option.isSome_iff_exists.1 hd.symm
    obtain ⟨us,h1,h2,_⟩:=hvc.box_cells hk hb
    refine ⟨RVs.low (fun b k h=>Nat.lt_succ_of_le (hmuL b k h)) cs us h1,fun x hx=>?_⟩
    obtain ⟨h3,h4⟩:=hvc.cok b cs hb x hx
    refine ⟨fun n ys i z e=>?_,h4⟩
    subst e
    refine ⟨?_,h3 n ys i z rfl⟩
    obtain ⟨j,hj⟩:=List.mem_iff_getElem?.1 hx
    have hjl : j < us.length:=by rw [h1.length]; exact (List.getElem?_eq_some_iff.1 hj).1
    have hfl:=hvc.ctop b k cs hk hb j n ys _ us[j] hj (by rw [h2 j hjl]; simp [hjl])
    have : made gc i:=by
      cases hu0 : us[j] <;> rw [hu0] at hfl <;> simp only [FlOK] at hfl
      exact hfl.1
    exact Nat.lt_succ_of_le (hvc.madeLow this)
  have hmk0 : ∀ i,made gc i→made g0 i:=fun i hi=>.inr (.inl hi)
  have hfl0 : ∀ fl m u,FlOK gc fl m u→FlOK g0 fl m u:=by
    intro fl m u hfl
    cases fl with
    | bor=>trivial
    | full=>cases u <;> first | exact hfl | (simp only [FlOK] at hfl)
    | own i z =>
      cases u with
      | slice A n c=>simp only [FlOK] at hfl ⊢; exact ⟨hmk0 i hfl.1,hfl.2⟩
      | _=>simp only [FlOK] at hfl
    | lit i =>
      cases u with
      | slice A n c=>simp only [FlOK] at hfl ⊢; exact ⟨hmk0 i hfl.1,hfl.2⟩
      | _=>simp only [FlOK] at hfl
  have hN : EntOK E N:=⟨hvc.cell,hglob⟩
  have hv0 : Valid N g0 box w :=
    { lev := rfl
      kn:=rfl
      klow:=fun i hi=>Nat.lt_succ_of_le (hvc.madeLow hi)
      chg:=⟨rfl,rfl,rfl,Nat.le_refl _,fun _ _ _=>rfl⟩
      sub:=fun _ _ h=>h
      keep:=fun _ _ _=>rfl
      old:=fun _ _ h _=>.inl h
      cell:=hvc.cell
      gmu:=hvc.gmu
      ext:=fun _ _ h=>h
      kext:=fun _ _ h=>nomatch h
      lv:=fun _ _ h=>.inl h
      low:=fun b k h=>⟨Nat.lt_succ_of_le (hmuL b k h),hvc.muLt h⟩
      nz:=hvc.nz
      fresh:=fun s n k hm=>by have h1 : Nc.lvl + 1 ≤ Nc.lvl:=hmuL _ _ hm; omega
      inj:=hvc.inj
      dom:=hvc.dom
      cont:=hvc.cont
      cok:=hvc.cok
      ctop:=fun b k xs hm hx j n ys fl u hj hu=>hfl0 _ _ _ (hvc.ctop b k xs hm hx j n ys fl u hj hu)
      tail:=fun i k lo hi ht=>by
        obtain ⟨t1,t2,t3,t4⟩:=hvc.tail i k lo hi ht
        exact ⟨.inr ⟨i,lo,hi,ht,Nat.le_refl _,Nat.le_refl _⟩,t2,hmk0 i t3,t4⟩
      tnew:=fun i r hr=>by
        obtain ⟨k,lo,hi⟩:=r
        exact .inr ⟨Nat.lt_succ_of_le (hvc.madeLow (hvc.tail i k lo hi hr).2.2.1),hr⟩
      tkeep:=fun _ _ h=>.inl h
      dgen:=fun i hi=>hmk0 i (hvc.dgen i hi)
      dkeep:=fun _ h=>h
      tinj:=hvc.tinj }
  obtain ⟨rs',v,hq',hnr,hpn,hex⟩ : ∃ (rs' : List ResultVar) (v : AV),EndG E.te rs' N.lvl box gc.D { cr with v:=.ret v } σ ∧ ((x = .nrm ∨ x = .ret)→rs' = fn.results.toList ∧ cr.v = .ret v) ∧ (∀ pv,x = .pan pv→cr.v = .pan (.raw pv)) ∧ (∀ i,x ≠ .exit i):=by
    cases x with
    | nrm=>obtain ⟨v,hv,h⟩:=hq; exact ⟨_,v,h,fun _=>⟨rfl,hv⟩,(fun _ h=>by cases h),(fun _ h=>by cases h)⟩
    | ret=>obtain ⟨v,hv,h⟩:=hq; exact ⟨_,v,h,fun _=>⟨rfl,hv⟩,(fun _ h=>by cases h),(fun _ h=>by cases h)⟩
    | pan pv=>exact ⟨[],.tup [],hq.2,(fun h=>by rcases h with h | h <;> cases h),(fun pv' h=>by cases h; exact hq.1),(fun _ h=>by cases h)⟩
    | exit i=>exact hq.elim
  obtain ⟨xp,bn,vs,rv,hvs,hrv,hcv',hnd1,hnd2,hxp,hbxs,hwl,hcont,hused,huse⟩:=hq'.ex
  obtain ⟨g,hv,hU,hD,hn,hdf,hsl⟩:=hs
  obtain ⟨us,r1,r2,r3⟩:=rawsRes_rel hE.te hv hsl hvs
  have hres : rs' = fn.results.toList→(results fn a'.tmps).run P w' = .ok (if h : us.length = 1 then us[0] else .tuple us.toArray) w':=by
    intro hrs
    rw [hrs] at r1
    generalize hl : fn.results.toList = l at r1
    have hfr : fn.results = l.toArray:=by rw [← hl]
    unfold results
    rw [hfr,List.mapM_toArray,map_eq_pure_bind,Sem.run_bind,Sem.run_bind]
    erw [r1]
    simp only [Result.andThen_ok,Sem.run_pure,List.size_toArray]
    rfl
  -- names
  obtain ⟨dn,hdn⟩ : ∃ dn,dn = gc.U d + 1:=⟨_,rfl⟩
  obtain ⟨nb,hnb⟩ : ∃ nb,nb = Bx.own Nc.lvl d dn:=⟨_,rfl⟩
  have hnbμ : gc.μ nb = none:=by
    cases e : gc.μ nb with
    | none=>rfl
    | some k=>rw [hnb,hdn] at e; have:=hvc.fresh _ _ _ e; omega
  have hnbx : box nb = none:=by
    have:=hvc.dom nb
    rw [hnbμ] at this
    simpa using this
  have hnl : N.lvl = Nc.lvl + 1:=rfl
  have gmu0 : ∀ b k,b.lvl < N.lvl→g.μ b = some k→gc.μ b = some k:=fun b k hb hm=>(hv.lv b k hm).elim (fun h=>h) (fun h=>by omega)
  obtain ⟨kb,hkb⟩ : ∃ kb,kb = bn.bind g.μ:=⟨_,rfl⟩
  have hkb1 : ∀ k,kb = some k→∃ b,bn = some b ∧ b.lvl = N.lvl ∧ g.μ b = some k ∧ w.heap.size ≤ k:=by
    intro k hk
    rw [hkb] at hk
    cases hbn : bn with
    | none=>rw [hbn] at hk; cases hk
    | some b =>
      rw [hbn] at hk hcont
      simp only [Option.bind_some] at hk
      refine ⟨b,rfl,hcont.1,hk,(hv.lv b k hk).elim (fun h=>?_) (fun h=>h.2)⟩
      have:=(hv.low b k h).1
      rw [hcont.1] at this; omega
  let gr : Ghost :=
    { L := Nc.lvl
      K:=gc.K
      μ:=fun b=>if b = nb then kb else gc.μ b
      G:=fun k o=>g.G k o ∨ ∃ b xs,b.lvl = N.lvl ∧ some b ≠ bn ∧ g.μ b = some k ∧ σ.box b = some xs ∧ o < xs.length
      T:=fun i=>if i.lvl = Nc.lvl ∧ i.slot = d ∧ i.gen = dn then (xp.find? fun q=>q.1 == i.comp).bind fun q=>g.T q.2 else if g.D i = true then none else gc.T i
      U:=upd gc.U d dn
      D:=useL gc.D cr.use }
  have hmkr : ∀ i,made gc i→made gr i:=by
    intro i hi
    unfold made at hi ⊢
    rcases hi with ⟨h1,h2⟩ | h1 | ⟨h1,h2⟩
    · exact .inl ⟨h1,by rw [hvc.lev] at h2; exact h2⟩
    · exact .inr (.inl h1)
    · refine .inr (.inr ⟨by rw [hvc.lev] at h1; exact h1,?_⟩)
      show i.gen ≤ upd gc.U d dn i.slot
      unfold upd; split
      · rename_i e; rw [e] at h2; omega
      · exact h2
  have hmkn : ∀ c,made gr ⟨Nc.lvl,d,c,dn⟩:=fun c=>.inr (.inr ⟨rfl,by show dn ≤ upd gc.U d dn d; simp [upd]⟩)
  have hunm : ∀ c,¬ made gc ⟨Nc.lvl,d,c,dn⟩:=fun c=>hvc.unmade (by omega)
  have hDr : ∀ i,i.lvl < N.lvl→gr.D i = g.D i:=fun i hi=>by
    show useL gc.D cr.use i = _
    rw [← hused i hi,hD]
  have hDn : ∀ c,g.D ⟨Nc.lvl,d,c,dn⟩ = false:=fun c=>by
    cases e : g.D ⟨Nc.lvl,d,c,dn⟩ with
    | false=>rfl
    | true =>
      have hm:=hv.dgen _ e
      unfold made at hm
      rw [hv.lev,hv.kn] at hm
      rcases hm with ⟨h1,_⟩ | h1 | ⟨h1,_⟩
      · have h1 : dn = 0 := h1
        omega
      · exact absurd h1 (hunm c)
      · have h1 : Nc.lvl = Nc.lvl + 1 := h1
        omega
  have hgT : ∀ i r,i.lvl < N.lvl→g.D i = false→gc.T i = some r→gr.T i = some r:=by
    intro i r hi hd ht
    show (if _ then _ else _) = _
    rw [if_neg,if_neg (by rw [hd]; simp)]
    · exact ht
    · rintro ⟨e1,e2,e3⟩
      obtain ⟨l,s,c,n⟩:=i
      simp only at e1 e2 e3
      subst e1; subst e2; subst e3
      obtain ⟨k,lo,hi'⟩:=r
      exact hunm c (hvc.tail _ k lo hi' ht).2.2.1
  have hH : Hand N g gr σ w' N.lvl Nc.lvl d dn xp bn :=
    { hv := hv
      lvl:=rfl
      mu:=fun b k hb hm=>by
        show (if b = nb then kb else gc.μ b) = some k
        have:=gmu0 b k hb hm
        rw [if_neg (fun e=>by rw [e,hnbμ] at this; cases this)]
        exact this
      mub:=fun b k hb hm=>by
        show (if _ = nb then kb else _) = some k
        rw [if_pos hnb.symm,hkb,hb]; exact hm
      G:=fun k o h=>.inl h
      Gl:=fun b xs k o h1 h2 h3 h4 h5=>.inr ⟨b,xs,h1,h2,h3,h4,h5⟩
      T:=fun i r hi hd ht=>hgT i r hi hd ((hv.tnew i r ht).elim (fun h=>by omega) (fun h=>h.2))
      Tx:=fun c i hc=>by
        show (if _ then _ else _) = _
        rw [if_pos ⟨rfl,rfl,rfl⟩]
        simp only
        rw [xp_find hnd1 hc]; rfl
      Dl:=fun i hi hd=>by rw [hDr i hi]; exact hd
      Dx:=fun c i hc=>by rw [hD]; exact (hxp _ hc).2
      mde:=fun i hi hm=>by
        unfold made at hm
        rw [hv.lev,hv.kn] at hm
        rcases hm with ⟨h1,h2⟩ | h1 | ⟨h1,_⟩
        · exact .inl ⟨h1,by show i.lvl ≤ Nc.lvl; omega⟩
        · exact hmkr i h1
        · omega
      mdx:=hmkn
      ty:=hD }
  -- boxes
  obtain ⟨box',hbox'⟩ : ∃ box',box' = applyW (match (cr.gr Nc.lvl d dn v).cont with | some c=>updB box nb c | none=>box) (cr.gr Nc.lvl d dn v).wr:=⟨_,rfl⟩
  have hat : ∀ b,box' b = match wrAt cr.wr b with | some c=>some (c.map (ren1 Nc.lvl d dn)) | none=>if b = nb then cr.cont.map (·.map (ren1 Nc.lvl d dn)) else box b:=by
    intro b
    rw [hbox']
    simp only [CR.gr]
    rw [applyW_at cr.wr (fun xs=>xs.map (ren1 Nc.lvl d dn))]
    cases wrAt cr.wr b with
    | some c=>rfl
    | none =>
      cases cr.cont with
      | none =>
        simp only [Option.map_none]
        split
        · rename_i e; rw [e]; exact hnbx
        · rfl
      | some c=>simp only [Option.map_some,updB]
  have hwnb : wrAt cr.wr nb = none:=by
    cases e : wrAt cr.wr nb with
    | none=>rfl
    | some ys =>
      have:=hbxs nb (by rw [hnb]; exact Nat.lt_succ_self _)
      rw [e] at this
      rw [hnbx] at this; cases this.1
  have hlowbox : ∀ b k xs,gc.μ b = some k→box b = some xs→∃ us,lowL N.lvl xs ∧ RVs gc.μ gc.G w xs us:=by
    intro b k xs hm hx
    obtain ⟨us,h1,_⟩:=hvc.box_cells hm hx
    exact ⟨us,RVs.low (fun b k h=>Nat.lt_succ_of_le (hmuL b k h)) xs us h1,h1⟩
  -- a box that is handed over
  have hexp : ∀ b k xs ys,g.μ b = some k → σ.box b = some xs → ExpL σ N.lvl xp bn xs ys → (∀ (j : Nat) (ws : List AV),xs[j]? ≠ some (.tup ws)) → Holds gr.μ gr.G w' k (ys.map (ren1 Nc.lvl d dn)) ∧
      ∀ (j n : Nat) (zs : List AV) (fl : Fl) (u : Value),(ys.map (ren1 Nc.lvl d dn))[j]? = some (.sl n zs fl)→at_ w' k j = some u→FlOK gr fl zs.length u:=by
    intro b k xs ys hm hx he hnt
    obtain ⟨cs,el,us',h1,h2,h3,h4⟩:=hv.cont b k xs hm hx
    have hatj : ∀ j,j < us'.length→at_ w' k j = us'[j]?:=fun j hj=>by rw [at_row h1]; exact h3 j hj
    obtain ⟨e1,e2,_⟩:=ExpL.rel hH he h4 (fun j n zs fl u hj hu=>by
      have hjl:=(List.getElem?_eq_some_iff.1 hu).1
      exact hv.ctop b k xs hm hx j n zs fl u hj (by rw [hatj j hjl]; exact hu)) hnt
    refine ⟨⟨cs,el,us',h1,h2,h3,e1⟩,fun j n zs fl u hj hu=>e2 j n zs fl u hj ?_⟩
    have hjl : j < us'.length:=by rw [e1.length]; exact (List.getElem?_eq_some_iff.1 hj).1
    rw [← hatj j hjl]; exact hu
  have hnotup : ∀ b k xs,g.μ b = some k→σ.box b = some xs→∀ ys,ExpL σ N.lvl xp bn xs ys→∀ (j : Nat) (ws : List AV),xs[j]? ≠ some (.tup ws):=fun _ _ _ _ _ _ he=>he.notup
  have hvr : Valid Nc gr box' w' :=
    { lev := rfl
      kn:=hvc.kn
      klow:=hvc.klow
      chg:=by
        refine ⟨hv.chg.os.trans hvc.chg.os,hv.chg.tape.trans hvc.chg.tape,hv.chg.output.trans hvc.chg.output,Nat.le_trans hvc.chg.size hv.chg.size,fun i hi hn=>?_⟩
        refine (hv.chg.block i (Nat.lt_of_lt_of_le hi hvc.chg.size) ?_).trans (hvc.chg.block i hi hn)
        rintro (⟨b,hb⟩ | ⟨j,lo,hi',hj⟩)
        · rcases hvc.lv b i hb with h | ⟨_,h⟩
          · exact hn (.inl ⟨b,h⟩)
          · omega
        · rcases (hvc.tail j i lo hi' hj).1 with h | ⟨j',lo',hi'',h,_⟩
          · omega
          · exact hn (.inr ⟨j',lo',hi'',h⟩)
      sub:=fun k o h=>.inl (hv.sub k o (hvc.sub k o h))
      keep:=fun k o h=>(hv.keep k o (hvc.sub k o h)).trans (hvc.keep k o h)
      old:=by
        rintro k o (h | ⟨b,xs,h1,h2,h3,h4,h5⟩) hk
        · rcases hv.old k o h (Nat.lt_of_lt_of_le hk hvc.chg.size) with h | ⟨i,lo,hi,h,h1,h2⟩
          · exact hvc.old k o h hk
          · rcases (hvc.tail i k lo hi h).1 with h3 | ⟨j,lo',hi',h3,h4,h5⟩
            · omega
            · exact .inr ⟨j,lo',hi',h3,by omega,by omega⟩
        · rcases hv.lv b k h3 with h | ⟨_,h⟩
          · have:=(hv.low b k h).1; omega
          · have h : w.heap.size ≤ k := h
            have:=hvc.chg.size; omega
      cell:=by
        rintro k o (h | ⟨b,xs,h1,h2,h3,h4,h5⟩)
        · exact hv.cell k o h
        · obtain ⟨us2,h6,h7,_⟩ := hv.box_cells h3 h4
          rw [h7 o (by rw [h6.length]; exact h5)]
          have : o < us2.length:=by rw [h6.length]; exact h5
          simp [this]
      gmu:=by
        intro k o b hg hm
        change (if b = nb then kb else gc.μ b) = some k at hm
        have key : ∃ b',g.μ b' = some k ∧ (b'.lvl < N.lvl ∨ bn = some b'):=by
          split at hm
          · obtain ⟨b',h1,_,h3,_⟩ := hkb1 k hm
            exact ⟨b',h3,.inr h1⟩
          · exact ⟨b,hv.ext b k hm,.inl (Nat.lt_succ_of_le (hmuL b k hm))⟩
        obtain ⟨b',hb',hlow⟩:=key
        rcases hg with hg | ⟨b2,xs,h1,h2,h3,h4,h5⟩
        · exact hv.gmu k o b' hg hb'
        · have := hv.inj b2 b' k h3 hb'
          subst this
          rcases hlow with h | h
          · omega
          · exact h2 h.symm
      ext:=fun b k h=>by
        have h:=hvc.ext b k h
        show (if b = nb then kb else gc.μ b) = some k
        rw [if_neg (fun e=>by rw [e,hnbμ] at h; cases h)]; exact h
      kext:=fun b k h=>by
        have h:=hvc.kext b k h
        show (if b = nb then kb else gc.μ b) = some k
        rw [if_neg (fun e=>by rw [e,hnbμ] at h; cases h)]; exact h
      lv:=fun b k hm=>by
        change (if b = nb then kb else gc.μ b) = some k at hm
        split at hm
        · rename_i e
          obtain ⟨_,_,_,_,h⟩:=hkb1 k hm
          exact .inr ⟨by rw [e,hnb]; rfl,Nat.le_trans hvc.chg.size h⟩
        · exact hvc.lv b k hm
      low:=hvc.low
      nz:=fun l s=>by
        show (if _ = nb then kb else _) = none
        rw [if_neg (fun e=>by rw [hnb] at e; injection e; omega)]
        exact hvc.nz l s
      fresh:=fun s n k hm=>by
        change (if _ = nb then kb else _) = some k at hm
        show n ≤ upd gc.U d dn s
        split at hm
        · rename_i e; rw [hnb] at e; injection e with e1 e2 e3
          rw [e2,e3]; simp [upd]
        · have := hvc.fresh s n k hm
          unfold upd; split
          · rename_i e; rw [e] at this; omega
          · exact this
      inj:=fun b b' k hm hm'=>by
        change (if _ = nb then kb else _) = some k at hm
        change (if _ = nb then kb else _) = some k at hm'
        split at hm <;> split at hm'
        · rename_i e e'; rw [e,e']
        · obtain ⟨_,_,_,_,h⟩:=hkb1 k hm; have:=hvc.muLt hm'; omega
        · obtain ⟨_,_,_,_,h⟩:=hkb1 k hm'; have:=hvc.muLt hm; omega
        · exact hvc.inj b b' k hm hm'
      dom:=fun b=>by
        show (box' b).isSome = (if b = nb then kb else gc.μ b).isSome
        rw [hat b]
        by_cases e : b = nb
        · rw [e,hwnb]
          simp only [if_true]
          rw [hkb]
          cases hbn : bn with
          | none=>rw [hbn] at hcont; simp only at hcont; rw [hcont]; rfl
          | some b0 =>
            rw [hbn] at hcont
            obtain ⟨_,xs,ys,h1,h2,_⟩:=hcont
            have hd0:=hv.dom b0
            rw [h1] at hd0
            rw [h2]
            simp only [Option.map_some,Option.isSome_some,Option.bind_some]
            exact hd0
        · rw [if_neg e]
          cases hw : wrAt cr.wr b with
          | none=>simp only [if_neg e]; exact hvc.dom b
          | some ys =>
            have:=hbxs b (hwl b ys hw)
            rw [hw] at this
            rw [if_neg e,← hvc.dom b,this.1]; rfl
      cont:=fun b k xs hm hx=>by
        change (if b = nb then kb else gc.μ b) = some k at hm
        rw [hat b] at hx
        by_cases e : b = nb
        · rw [if_pos e] at hm
          obtain ⟨b0,h1,h2,h3,h4⟩:=hkb1 k hm
          rw [e,hwnb] at hx
          simp only [if_true] at hx
          rw [h1] at hcont
          obtain ⟨_,xs0,ys0,h5,h6,h7⟩:=hcont
          rw [h6] at hx
          simp only [Option.map_some,Option.some.injEq] at hx
          subst hx
          rw [← h1] at h7
          exact (hexp b0 k xs0 ys0 h3 h5 h7 (hnotup b0 k xs0 h3 h5 ys0 h7)).1
        · rw [if_neg e] at hm
          have hgm:=hv.ext b k hm
          have hbl : b.lvl < N.lvl:=Nat.lt_succ_of_le (hmuL b k hm)
          have hb0:=hbxs b hbl
          cases hw : wrAt cr.wr b with
          | none =>
            rw [hw] at hx hb0
            simp only [if_neg e] at hx
            simp only at hb0
            obtain ⟨cs,el,us',h1,h2,h3,h4⟩:=hv.cont b k xs hgm (by rw [hb0]; exact hx)
            obtain ⟨_,hlow,_⟩:=hlowbox b k xs hm hx
            exact ⟨cs,el,us',h1,h2,h3,RVs.relow (fun b k hb=>hH.mu b k hb) hH.G xs us' hlow h4⟩
          | some ys =>
            rw [hw] at hx hb0
            simp only [Option.some.injEq] at hx
            subst hx
            obtain ⟨_,xs0,h5,h7⟩:=hb0
            exact (hexp b k xs0 ys hgm h5 h7 (hnotup b k xs0 hgm h5 ys h7)).1
      cok:=fun b xs hx=>by
        rw [hat b] at hx
        by_cases e : b = nb
        · rw [e,hwnb] at hx
          simp only [if_true] at hx
          cases hbn : bn with
          | none=>rw [hbn] at hcont; simp only at hcont; rw [hcont] at hx; cases hx
          | some b0 =>
            have hcont':=hcont
            rw [hbn] at hcont'
            obtain ⟨_,xs0,ys0,h5,h6,h7⟩:=hcont'
            rw [h6] at hx
            simp only [Option.map_some,Option.some.injEq] at hx
            subst hx
            exact h7.ok (by omega)
        · cases hw : wrAt cr.wr b with
          | none=>rw [hw] at hx; simp only [if_neg e] at hx; exact hvc.cok b xs hx
          | some ys =>
            have hb0:=hbxs b (hwl b ys hw)
            rw [hw] at hx hb0
            simp only [Option.some.injEq] at hx
            subst hx
            obtain ⟨_,xs0,h5,h7⟩:=hb0
            exact h7.ok (by omega)
      ctop:=fun b k xs hm hx j n zs fl u hj hu=>by
        change (if b = nb then kb else gc.μ b) = some k at hm
        rw [hat b] at hx
        by_cases e : b = nb
        · rw [if_pos e] at hm
          obtain ⟨b0,h1,h2,h3,h4⟩:=hkb1 k hm
          rw [e,hwnb] at hx
          simp only [if_true] at hx
          rw [h1] at hcont
          obtain ⟨_,xs0,ys0,h5,h6,h7⟩:=hcont
          rw [h6] at hx
          simp only [Option.map_some,Option.some.injEq] at hx
          subst hx
          rw [← h1] at h7
          exact (hexp b0 k xs0 ys0 h3 h5 h7 (hnotup b0 k xs0 h3 h5 ys0 h7)).2 j n zs fl u hj hu
        · rw [if_neg e] at hm
          have hgm:=hv.ext b k hm
          have hbl : b.lvl < N.lvl:=Nat.lt_succ_of_le (hmuL b k hm)
          have hb0:=hbxs b hbl
          cases hw : wrAt cr.wr b with
          | none =>
            rw [hw] at hx hb0
            simp only [if_neg e] at hx
            simp only at hb0
            have hfl:=hv.ctop b k xs hgm (by rw [hb0]; exact hx) j n zs fl u hj hu
            obtain ⟨us0,h1,h2,_⟩:=hvc.box_cells hm hx
            have hjl : j < us0.length:=by rw [h1.length]; exact (List.getElem?_eq_some_iff.1 hj).1
            have hflc:=hvc.ctop b k xs hm hx j n zs fl us0[j] hj (by rw [h2 j hjl]; simp [hjl])
            cases fl with
            | bor=>trivial
            | full=>cases u <;> first | exact hfl | (simp only [FlOK] at hfl)
            | own i z =>
              have hml : made gc i:=by
                cases hu0 : us0[j] <;> rw [hu0] at hflc <;> simp only [FlOK] at hflc
                exact hflc.1
              have hil : i.lvl < N.lvl:=Nat.lt_succ_of_le (hvc.madeLow hml)
              cases u with
              | slice A n' c' =>
                simp only [FlOK] at hfl ⊢
                refine ⟨hmkr i hml,?_⟩
                rcases hfl.2 with h5 | h5 | ⟨k',o,lo,hi',e1,e2,e3,e4⟩
                · exact .inl (hH.Dl i hil h5)
                · exact .inr (.inl h5)
                · cases hDi : g.D i with
                  | true=>exact .inl (hH.Dl i hil hDi)
                  | false=>exact .inr (.inr ⟨k',o,lo,hi',e1,e2,hH.T i _ hil hDi e3,e4⟩)
              | _=>simp only [FlOK] at hfl
            | lit i =>
              have hml : made gc i:=by
                cases hu0 : us0[j] <;> rw [hu0] at hflc <;> simp only [FlOK] at hflc
                exact hflc.1
              have hil : i.lvl < N.lvl:=Nat.lt_succ_of_le (hvc.madeLow hml)
              cases u with
              | slice A n' c' =>
                simp only [FlOK] at hfl ⊢
                refine ⟨hmkr i hml,hfl.2.1,?_⟩
                rcases hfl.2.2 with h5 | ⟨k',o,lo,e1,e3⟩
                · exact .inl (hH.Dl i hil h5)
                · cases hDi : g.D i with
                  | true=>exact .inl (hH.Dl i hil hDi)
                  | false=>exact .inr ⟨k',o,lo,e1,hH.T i _ hil hDi e3⟩
              | _=>simp only [FlOK] at hfl
          | some ys =>
            rw [hw] at hx hb0
            simp only [Option.some.injEq] at hx
            subst hx
            obtain ⟨_,xs0,h5,h7⟩:=hb0
            exact (hexp b k xs0 ys hgm h5 h7 (hnotup b k xs0 hgm h5 ys h7)).2 j n zs fl u hj hu
      tail:=fun i k lo hi ht=>by
        have gG : ∀ i0,g.T i0 = some (k,lo,hi)→k < w'.heap.size ∧ lo ≤ hi ∧ (∀ o,lo ≤ o→o < hi→(at_ w' k o).isSome ∧ w'.frozen? ⟨k,o,none⟩ = false ∧ ¬ gr.G k o) ∧ (∀ b,gr.μ b ≠ some k) ∧ (Nc.w0.heap.size ≤ k ∨ ∃ j lo' hi',Nc.T0 j = some (k,lo',hi') ∧ lo' ≤ lo ∧ hi ≤ hi'):=by
          intro i0 h0
          obtain ⟨t1,t2,t3,t4,t5,t6,t7⟩:=hv.tail i0 k lo hi h0
          refine ⟨t2,t5,fun o h1 h2=>?_,fun b hm=>?_,?_⟩
          · obtain ⟨f1,f2,f3⟩ := t6 o h1 h2
            refine ⟨f1,f2,?_⟩
            rintro (h | ⟨b,xs,_,_,h3,_⟩)
            · exact f3 h
            · exact t7 b h3
          · change (if b = nb then kb else gc.μ b) = some k at hm
            split at hm
            · obtain ⟨b0,_,_,h3,_⟩ := hkb1 k hm
              exact t7 b0 h3
            · exact t7 b (hv.ext b k hm)
          · rcases t1 with t1 | ⟨j,lo',hi',h1,h2,h3⟩
            · exact .inl (Nat.le_trans hvc.chg.size t1)
            · rcases (hvc.tail j k lo' hi' h1).1 with h | ⟨j',lo'',hi'',h4,h5,h6⟩
              · exact .inl h
              · exact .inr ⟨j',lo'',hi'',h4,by omega,by omega⟩
        change (if _ then _ else _) = _ at ht
        split at ht
        · rename_i e
          simp only [Option.bind_eq_some_iff] at ht
          obtain ⟨q,hq,hqt⟩:=ht
          obtain ⟨s1,s2,s3,s4,s5⟩:=gG q.2 hqt
          obtain ⟨l,s,c,n⟩:=i
          obtain ⟨e1,e2,e3⟩:=e
          simp only at e1 e2 e3
          subst e1; subst e2; subst e3
          exact ⟨s5,s1,hmkn c,by rw [hDr _ (Nat.lt_succ_self _)]; exact hDn c,s2,s3,s4⟩
        · split at ht
          · cases ht
          · rename_i hd
            have hd : g.D i = false:=by simpa using hd
            have hml:=(hvc.tail i k lo hi ht).2.2.1
            have hil : i.lvl < N.lvl:=Nat.lt_succ_of_le (hvc.madeLow hml)
            have hgt : g.T i = some (k,lo,hi):=(hv.tkeep i _ ht).resolve_right (by rw [hd]; simp)
            obtain ⟨s1,s2,s3,s4,s5⟩:=gG i hgt
            exact ⟨s5,s1,hmkr i hml,by rw [hDr i hil]; exact hd,s2,s3,s4⟩
      tnew:=fun i r ht=>by
        change (if _ then _ else _) = _ at ht
        split at ht
        · rename_i e; exact .inl e.1
        · split at ht
          · cases ht
          · exact hvc.tnew i r ht
      tkeep:=fun i r hr=>by
        rcases hvc.tkeep i r hr with h | h
        · obtain ⟨k,lo,hi⟩ := r
          have hml:=(hvc.tail i k lo hi h).2.2.1
          have hil : i.lvl < N.lvl:=Nat.lt_succ_of_le (hvc.madeLow hml)
          cases hDi : g.D i with
          | true=>exact .inr (hH.Dl i hil hDi)
          | false=>exact .inl (hgT i _ hil hDi h)
        · exact .inr (useL_mono _ _ _ h)
      dgen:=fun i hi=>by
        rcases useL_mem _ _ _ hi with h | h
        · exact hmkr i (hvc.dgen i h)
        · have hil := huse i h
          have hgd : g.D i = true:=by rw [← hDr i hil]; exact hi
          exact hH.mde i hil (hv.dgen i hgd)
      dkeep:=fun i hi=>useL_mono _ _ _ (hvc.dkeep i hi)
      tinj:=fun i j k lo hi lo' hi' ht ht'=>by
        have back : ∀ i lo hi,gr.T i = some (k,lo,hi)→(∃ c i0,i = ⟨Nc.lvl,d,c,dn⟩ ∧ (c,i0) ∈ xp ∧ g.T i0 = some (k,lo,hi)) ∨ (g.T i = some (k,lo,hi) ∧ i.lvl < N.lvl):=by
          intro i lo hi ht
          change (if _ then _ else _) = _ at ht
          split at ht
          · rename_i e
            simp only [Option.bind_eq_some_iff] at ht
            obtain ⟨q,hq,hqt⟩:=ht
            have hm:=List.mem_of_find?_eq_some hq
            have hc : q.1 = i.comp:=by simpa using List.find?_some hq
            obtain ⟨l,s,c,n⟩:=i
            obtain ⟨e1,e2,e3⟩:=e
            simp only at e1 e2 e3 hc
            subst e1; subst e2; subst e3; subst hc
            exact .inl ⟨_,q.2,rfl,hm,hqt⟩
          · split at ht
            · cases ht
            · rename_i hd
              have hd : g.D i = false:=by simpa using hd
              have hml:=(hvc.tail i k lo hi ht).2.2.1
              exact .inr ⟨(hv.tkeep i _ ht).resolve_right (by rw [hd]; simp),Nat.lt_succ_of_le (hvc.madeLow hml)⟩
        rcases back i lo hi ht with ⟨c,i0,rfl,h1,h2⟩ | ⟨h1,h2⟩ <;> rcases back j lo' hi' ht' with ⟨c',j0,rfl,h3,h4⟩ | ⟨h3,h4⟩
        · have e := hv.tinj _ _ _ _ _ _ _ h2 h4
          have:=nodup_snd hnd2 _ h1 _ h3 e
          cases this; rfl
        · have e := hv.tinj _ _ _ _ _ _ _ h2 h3
          have:=(hxp _ h1).1
          rw [e] at this
          have this : j.lvl = N.lvl:=this
          omega
        · have e := hv.tinj _ _ _ _ _ _ _ h1 h4
          have:=(hxp _ h3).1
          rw [← e] at this
          have this : i.lvl = N.lvl:=this
          omega
        · exact hv.tinj _ _ _ _ _ _ _ h1 h3 }
  have hler : Le gc w gr w' :=
    { L := hvc.lev.symm
      K:=rfl
      mu:=fun b k h=>by
        show (if b = nb then kb else gc.μ b) = some k
        rw [if_neg (fun e=>by rw [e,hnbμ] at h; cases h)]; exact h
      G:=fun k o h=>.inl (hv.sub k o h)
      at':=fun k o h=>hv.keep k o h
      U:=fun s=>by
        show gc.U s ≤ upd gc.U d dn s
        unfold upd; split
        · rename_i e; rw [e]; omega
        · exact Nat.le_refl _
      D:=fun i h=>useL_mono _ _ _ h
      T:=fun i r h=>by
        obtain ⟨k,lo,hi⟩:=r
        have hml:=(hvc.tail i k lo hi h).2.2.1
        have hil : i.lvl < N.lvl:=Nat.lt_succ_of_le (hvc.madeLow hml)
        cases hDi : g.D i with
        | true=>exact .inr (hH.Dl i hil hDi)
        | false=>exact .inl (hgT i _ hil hDi h) }
  have hnt:=hrv.notup
  obtain ⟨e1,e2,e3⟩:=ExpL.rel hH hrv r2 (fun j n xs fl u hj hu=>r3 j _ u hj hu) hnt
  have hul:=e1.length
  have hfin : RV gr.μ gr.G w' (takeR Nc.lvl d dn v) (if h : us.length = 1 then us[0] else .tuple us.toArray) ∧ Top gr (takeR Nc.lvl d dn v) (if h : us.length = 1 then us[0] else .tuple us.toArray):=by
    have hcv' : v = tupOf (rv):=by injection hcv'
    unfold tupOf at hcv'
    split at hcv'
    · rename_i v0
      subst hcv'
      rw [List.length_map] at hul
      simp only [List.map_cons,List.map_nil,RVs] at e1 e2 e3
      obtain ⟨u,us',rfl,h6,h7⟩:=e1
      cases h7
      have hv0 : ∀ vs',v ≠ .tup vs':=fun vs' e=>by subst e; exact e3 0 vs' (by simp [ren1])
      have htk : takeR Nc.lvl d dn v = ren1 Nc.lvl d dn v:=by
        cases v <;> first | rfl | exact absurd rfl (hv0 _)
      rw [htk]
      refine ⟨by simpa using h6,?_⟩
      cases hr0 : ren1 Nc.lvl d dn v with
      | sl n xs fl=>exact e2 0 n xs fl u (by simp [hr0]) (by simp)
      | tup ws=>exact absurd (by simp [hr0]) (e3 0 ws)
      | _=>trivial
    · rename_i hne
      subst hcv'
      have hne' : ¬ us.length = 1:=by
        rw [hul,List.length_map]
        intro hl
        obtain ⟨v0,hv1⟩:=List.length_eq_one_iff.1 hl
        exact hne v0 hv1
      rw [dif_neg hne']
      simp only [takeR]
      refine ⟨by simp only [RV]; exact ⟨us,rfl,e1⟩,?_⟩
      simp only [Top]
      exact ⟨us.toArray,rfl,fun j n xs fl u hj hu=>e2 j n xs fl u hj (by simpa using hu)⟩
  have done : Valid Nc gr (applyW (match (cr.gr Nc.lvl d (gc.U d + 1) v).cont with | some c => updB box (.own Nc.lvl d (gc.U d + 1)) c | none => box) (cr.gr Nc.lvl d (gc.U d + 1) v).wr) w' ∧ Le gc w gr w' ∧
        gr.U = upd gc.U d (gc.U d + 1) ∧ gr.D = useL gc.D cr.use:=by
    refine ⟨?_,hler,by rw [← hdn],rfl⟩
    rw [← hdn,← hnb,← hbox']; exact hvr
  have hret : (x = .nrm ∨ x = .ret)→bodyPost P fn (PostX Nc gc box w cr d) .normal a' w':=fun hx=>by
    obtain ⟨hrs,hcv⟩:=hnr hx
    exact ⟨hdf,_,hres hrs,gr,.inl ⟨v,_,hcv,rfl,by rw [← hdn]; exact hfin.1,by rw [← hdn]; exact hfin.2⟩,done⟩
  cases x with
  | nrm=>exact hret (.inl rfl)
  | ret=>exact hret (.inr rfl)
  | exit i=>exact absurd rfl (hex i)
  | pan pv=>exact ⟨hdf,gr,.inr ⟨pv,hpn pv rfl,rfl⟩,done⟩
theorem SoundX.core {P : Program} {fn : Func} {Nc : Ent} {gc : Ghost} {box : Boxes} {w : World} (E : Env) (hvc : Valid Nc gc box w) (hglob : ∀ gi xs,E.glob gi = some xs → RV noMu gc.G w (.iptr xs) (.pointer (some ⟨gi,0,none⟩))) (hE : EnvOK P E) (c : Code) (cr : CR) (d : Nat) {σ0 : AS} {a0 : Act} {w1 : World} (hs0 : Sim (entG Nc gc fn.ntmps w) σ0 a0 w1) (hc : AW P (entG Nc gc fn.ntmps w) c (endXQ E.te fn.results.toList (entG Nc gc fn.ntmps w).lvl box gc.D cr) σ0) :
    c.wp P (bodyPost P fn (PostX Nc gc box w cr d)) a0 w1 :=
  wp_mono (hc _ _ hs0) fun e a' w' ⟨x,σ,he,hq,hs⟩=>by
    subst he
    exact SoundX.ends E hvc hglob hE cr d hq hs
theorem SoundX.of {P : Program} {f : FuncId} {fn : Func} {c : Code} {gf : List AV → Boxes → (Id → Bool) → Option CR} (E : Env) (hE : EnvOK P E) (hf : P.funcs[f]? = some fn) (hb : fn.body = some c)
    (hcall : ∀ (args : Array Value) (w : World),(callFunc f args).run P w = .ok (.enter f args) w)
    (h : ∀ (args : List AV) (bx : Boxes) (us : Id → Bool) (cr : CR),gf args bx us = some cr → args.length ≤ fn.ntmps ∧
      ∀ N : Ent,N.N = fn.ntmps→(∀ b,(bx b).isSome→b.lvl < N.lvl ∧ ∀ l s n,renB l s n b = b)→(∀ i,us i = true→i.lvl < N.lvl)→(∀ b cs,bx b = some cs→lowL N.lvl cs ∧ ∀ x ∈ cs,(∀ n ys i z,x = .sl n ys (.own i z)→i.lvl < N.lvl ∧ i.gen ≠ 0) ∧ ∀ vs,x ≠ .tup vs)→EntOK E N→AW P N c (endXQ E.te fn.results.toList N.lvl bx us cr) (startG args bx us)) : SoundX P E.glob f gf:=by
  refine ⟨hcall,fun Nc gc box w hvc hglob args vals cr d hargs htops hgf=>?_⟩
  obtain ⟨hlen,hc⟩:=h args box gc.D cr hgf
  refine calls_of_wp hf hb ?_
  obtain ⟨hbx,hus,hbf,hN,hs0⟩:=SoundX.enter (P:=P) (fn:=fn) E hvc hglob hargs htops hlen
  exact SoundX.core (P:=P) (fn:=fn) E hvc hglob hE c cr d hs0 (hc (entG Nc gc fn.ntmps w) rfl hbx hus hbf hN)
end Go.Abs
namespace Go.Abs
set_option linter.unusedSimpArgs false
set_option linter.unusedVariables false
open Go Go.RowKit
def rawsOf : List AV → Option (List Value)
  | []=>some []
  | .raw v :: xs=>(rawsOf xs).map (v :: ·)
  | _=>none
def rawOf : AV → Option Value
  | .raw v=>some v
  | .agg xs=>(rawsOf xs).map fun l=>.agg l.toArray
  | _=>none
theorem rawsOf_rel {μ : Bx → Option Nat} {G : Nat → Nat → Prop} {w : World} : ∀ {xs : List AV} {us l : List Value},RVs μ G w xs us → rawsOf xs = some l → us = l
  | [],us,l,hr,h=>by simp only [RVs] at hr; simp only [rawsOf,Option.some.injEq] at h; rw [hr,← h]
  | x :: xs,us,l,hr,h=>by
    simp only [RVs] at hr
    obtain ⟨u,us',rfl,h1,h2⟩:=hr
    unfold rawsOf at h
    split at h
    · rename_i heq; cases heq
    · rename_i v xs' heq
      cases heq
      simp only [Option.map_eq_some_iff] at h
      obtain ⟨l',h3,rfl⟩:=h
      simp only [RV] at h1
      rw [h1,rawsOf_rel h2 h3]
    · cases h
theorem rawOf_rel {μ : Bx→Option Nat} {G : Nat→Nat→Prop} {w : World} {v : AV} {u x : Value} (hr : RV μ G w v u) (h : rawOf v = some x) : u = x:=by
  unfold rawOf at h
  split at h
  · cases h; simpa only [RV] using hr
  · rename_i xs
    simp only [Option.map_eq_some_iff] at h
    obtain ⟨l,h1,rfl⟩:=h
    simp only [RV] at hr
    obtain ⟨us,rfl,h2⟩:=hr
    rw [rawsOf_rel h2 h1]
  · cases h
def panV (E : Env) (ps : List FuncId) (lvl N : Nat) (σ : AS) (o : Oper) : Option (Value × AS) :=
  match o.guard with
  | some _=>none
  | none => match o.op with
    | .panic x => match ev E σ.slots x with
      | .raw (.iface t v)=>some (.iface t v,σ)
      | _=>none
    | .call { callee := .value f,args,argTypes := _ } => match ev E σ.slots f with
      | .fn f' caps => if ps.contains f' = true then match E.tbl f' with
          | some (.gen gf) => match gf (args.toList.map (ev E σ.slots) ++ caps.map strip) σ.box σ.used with
            | some cr => match cr.v with
              | .pan (.raw pv)=>some (pv,σ.mute lvl (o.dst.getD N) (cr.gr lvl (o.dst.getD N) (σ.gen (o.dst.getD N) + 1) .dead))
              | _=>none
            | none=>none
          | _=>none
        else none
      | _=>none
    | _=>none
structure PP where
  fs : List FuncId:=[]
  is : List TypeId:=[]
def ifcV (E : Env) (X : PP) (σ : AS) (op : Op) : Option AV :=
  match op with
  | .makeInterface t x => match kd E.te t,rawOf (ev E σ.slots x) with
    | .st _,some v=>some (.raw (.iface t v))
    | _,_=>none
  | .binOp .eql t x (.const .nilIface) _ => if X.is.contains t = true then match ev E σ.slots x with
      | .raw (.iface _ _)=>some (.raw (.bool false))
      | .raw .nilIface=>some (.raw (.bool true))
      | _=>none
    else none
  | .typeAssert x _ t true => match kd E.te t,ev E σ.slots x with
    | .st _,.raw (.iface t' v)=>if t' = t then some (.tup [ofV v,.raw (.bool true)]) else none
    | _,_=>none
  | _=>none
def stepP (E : Env) (X : PP) (lvl N : Nat) (ops : List Oper) (σ : AS) (o : Oper) : Option AS :=
  match o.guard,o.dst,ifcV E X σ o.op with
  | none,some d,some v=>if d < N then some (σ.put (some d) v) else none
  | _,_,_=>stepV E lvl N ops σ o
def regsQ (E : Env) (X : PP) (lvl N : Nat) (ops : List Oper) : List Oper → (AX → AS → Prop) → AS → Prop
  | [],Q,σ=>Q .nrm σ
  | o :: rest,Q,σ => match panV E X.fs lvl N σ o with
    | some p=>Q (.pan p.1) p.2
    | none=>bindQ (stepP E X lvl N ops σ o) (regsQ E X lvl N ops rest Q)
structure EnvP (P : Program) (E : Env) (X : PP) : Prop where
  ok : EnvOK P E
  pan : ∀ f gf,E.tbl f = some (.gen gf)→X.fs.contains f = true→SoundX P E.glob f gf
  ifc : ∀ t,X.is.contains t = true→P.underlying t = some (.interface (P.methodsAt t))
section
variable {P : Program} {N : Ent} {E : Env} {X : PP} {Q : AX→AS→Prop} {σ σ' : AS}
theorem panV_sound (hE : EnvP P E X) (hN : EntOK E N) {o : Oper} {pv : Value} (h : panV E X.fs N.lvl N.N σ o = some (pv,σ')) {a : Act} {w : World} (hs : Sim N σ a w) {K : Act → World → Prop} {Q' : Exit → Act → World → Prop}
    (hQ : ∀ w',Sim N σ' a w'→Q' (.panic [{ v:=pv,recovered:=false }]) a w') : o.guard = none ∧ o.wp P a w K Q':=by
  obtain ⟨g,hv,hU,hD,hn,hdf,hsl⟩:=hs
  have hρ:=ev_rel hv hN hsl
  unfold panV at h
  split at h
  · cases h
  · rename_i hg
    refine ⟨hg,?_⟩
    split at h
    · rename_i x hop
      split at h
      · rename_i t v he
        cases h
        have hx:=(hρ x).1
        rw [he] at hx; simp only [RV] at hx
        have : (execOp a.eval o).run P w = .halt (.panic (.iface t v)) w:=by
          unfold execOp; rw [hop]
          simp only [hx]
          rfl
        unfold Oper.wp
        rw [this,Oper.upon_panic]
        exact hQ w ⟨g,hv,hU,hD,hn,hdf,hsl⟩
      · cases h
    · rename_i f args ts hop
      split at h
      · rename_i f' caps hf
        split at h
        · rename_i hp
          split at h
          · rename_i gf ht
            split at h
            · rename_i cr hcr
              split at h
              · rename_i pv' hcv
                cases h
                have hX:=hE.pan f' gf ht hp
                obtain ⟨vals,hargs,htops,hrun⟩:=run_call hv hρ f args ts hop hf hX.1
                unfold Oper.wp
                rw [hrun,Oper.upon_enter]
                have hargs' : RVs g.μ g.G w (args.toList.map (ev E σ.slots) ++ caps.map strip) vals:=RVs.of_get (by rw [hargs.length]; simp) fun j v u hj hu=>by
                  by_cases hlt : j < (args.toList.map (ev E σ.slots)).length
                  · rw [List.getElem?_append_left hlt] at hj
                    obtain ⟨u',h1,h2⟩:=hargs.get j v (by rw [List.getElem?_append_left hlt]; exact hj)
                    rw [hu] at h1; cases h1; exact h2
                  · rw [List.getElem?_append_right (by omega),List.getElem?_map,Option.map_eq_some_iff] at hj
                    obtain ⟨y,hy,rfl⟩:=hj
                    obtain ⟨u',h1,h2⟩:=hargs.get j y (by rw [List.getElem?_append_right (by omega)]; exact hy)
                    rw [hu] at h1; cases h1; exact h2.strip
                rw [← hD] at hcr
                have hcall:=hX.2 N g σ.box w hv (hv.globs hN) _ vals cr (o.dst.getD N.N) hargs' (fun j v u hj hu=>by
                  by_cases hlt : j < (args.toList.map (ev E σ.slots)).length
                  · rw [List.getElem?_append_left hlt] at hj
                    exact htops j v u hj hu
                  · rw [List.getElem?_append_right (by omega),List.getElem?_map,Option.map_eq_some_iff] at hj
                    obtain ⟨y,hy,rfl⟩:=hj
                    exact Top.strip _ _) hcr
                refine hcall.mono ?_
                rintro e w' ⟨gr,h1,h2,h3,h4,h5⟩
                rcases h1 with ⟨v,u,e1,_⟩ | ⟨pv2,e1,rfl⟩
                · rw [hcv] at e1; cases e1
                · rw [hcv] at e1; cases e1
                  refine hQ w' ⟨gr,?_,?_,?_,hn,hdf,fun i=>⟨RV.le h3 (hsl i).1,Top.le h3 (hsl i).2⟩⟩
                  · unfold AS.mute AS.grown; rw [← hU]; exact h2
                  · unfold AS.mute AS.grown; rw [h4,hU]; rfl
                  · unfold AS.mute AS.grown; rw [h5,hD]; rfl
              · cases h
            · cases h
          · cases h
        · cases h
      · cases h
    · cases h
theorem ifcV_sound (hE : EnvP P E X) {g : Ghost} {a : Act} {w : World} {o : Oper} {v : AV} (hv : Valid N g σ.box w) (hρ : Rel g w a (ev E σ.slots)) (h : ifcV E X σ o.op = some v) :
    ∃ u,(execOp a.eval o).run P w = .ok (.value u) w ∧ RV g.μ g.G w v u ∧ Top g v u:=by
  unfold ifcV at h
  split at h
  · rename_i t x hop
    split at h
    · rename_i fs v' hk hr
      cases h
      have hx:=rawOf_rel (hρ x).1 hr
      obtain ⟨_,_,_,dd,hd2,hk2⟩:=kd_some hE.ok.te hk (by simp)
      obtain ⟨fields,rfl,_⟩:=hk2
      refine ⟨.iface t v',run_value (s:=Instr.makeInterface t (a.eval x)) ?_ (by unfold execOp; rw [hop]),by simp only [RV],trivial⟩
      rw [hx]
      simp [Instr.makeInterface,run_underlying hd2]
    · cases h
  · rename_i t x ty hop
    split at h
    · rename_i ht
      have hi:=hE.ifc t ht
      have hx:=(hρ x).1
      split at h
      · rename_i t' v' e1
        cases h
        rw [e1] at hx; simp only [RV] at hx
        refine ⟨.bool false,run_binop_plain hop hx rfl ?_ ?_,by simp only [RV],trivial⟩
        · simp [eqGuard,Act.eval]
        · simp only [Act.eval,binOp,Sem.run_bind,run_equal_held_nil w t t' v' hi,Result.andThen_ok,Sem.run_pure]
      · rename_i e1
        cases h
        rw [e1] at hx; simp only [RV] at hx
        refine ⟨.bool true,run_binop_plain hop hx rfl ?_ ?_,by simp only [RV],trivial⟩
        · simp [eqGuard,Act.eval]
        · simp only [Act.eval,binOp,Sem.run_bind,run_equal_nil_nil w t hi,Result.andThen_ok,Sem.run_pure]
      · cases h
    · cases h
  · rename_i x xT t hop
    split at h
    · rename_i fs t' v' hk e1
      split at h
      · rename_i htt
        cases h
        subst htt
        have hx:=(hρ x).1
        rw [e1] at hx; simp only [RV] at hx
        obtain ⟨_,_,_,dd,hd2,hk2⟩:=kd_some hE.ok.te hk (by simp)
        obtain ⟨fields,rfl,_⟩:=hk2
        refine ⟨.tuple #[v',.bool true],run_value (s:=Instr.typeAssert (a.eval x) xT t' true) ?_ (by unfold execOp; rw [hop]),?_,?_⟩
        · rw [hx]
          simp [Instr.typeAssert,run_underlying hd2]
        · simp only [RV,RVs]
          exact ⟨[v',.bool true],rfl,_,_,rfl,RV.ofV v',_,_,rfl,rfl,rfl⟩
        · simp only [Top]
          refine ⟨_,rfl,fun j n xs fl v hj hu=>?_⟩
          match j with
          | 0=>simp at hj; cases v' <;> simp [ofV] at hj
          | 1=>simp at hj
          | j + 2=>simp at hj
      · cases h
    · cases h
  · cases h
theorem stepP_sound (hE : EnvP P E X) (hN : EntOK E N) {ops : List Oper} {o : Oper} (h : stepP E X N.lvl N.N ops σ o = some σ') {a : Act} {w : World} (hs : Sim N σ a w) {K : Act → World → Prop} {Q' : Exit → Act → World → Prop}
    (hK : ∀ a' w',Sim N σ' a' w'→K a' w') : if Region.wanted o (yielded ops.toArray a.tmps) = true then o.wp P a w K Q' else K (a.put o.dst undef) w:=by
  unfold stepP at h
  split at h
  · rename_i d v hg hd hv'
    split at h
    · rename_i hlt
      cases h
      obtain ⟨g,hv,hU,hD,hn,hdf,hsl⟩:=hs
      have hsl' : Slots g w σ.slots a:=hsl
      have hρ:=ev_rel hv hN hsl
      obtain ⟨u,hrun,hr,ht⟩:=ifcV_sound hE hv hρ hv'
      have hw : Region.wanted o (yielded ops.toArray a.tmps) = true:=by unfold Region.wanted; rw [hg]
      rw [if_pos hw]
      unfold Oper.wp
      rw [hrun,Oper.upon_value,hd]
      exact hK _ _ ⟨g,hv,hU,hD,by rw [put_size]; exact hn,by rw [put_defers]; exact hdf,hsl'.put (by rw [hn]; exact hlt) hr ht⟩
    · cases h
  · exact stepV_sound hE.ok hN h hs hK
theorem regsQ_sound (hE : EnvP P E X) (hN : EntOK E N) {ops : List Oper} {Q' : Exit → Act → World → Prop} (hQ : ∀ x σ' a w,Q x σ' → Sim N σ' a w → Q' (AX.to x) a w) :
    ∀ (l : List Oper) (k : Nat) (σ : AS) (a : Act) (w : World),(∀ j,l[j]? = ops[k + j]?)→regsQ E X N.lvl N.N ops l Q σ→Sim N σ a w→wpOps P ops.toArray Q' (List.range' k l.length) a w
  | [],k,σ,a,w,_,h,hs=>hQ .nrm σ a w h hs
  | o :: l,k,σ,a,w,hl,h,hs=>by
    have h0 : ops.toArray[k]? = some o:=by simpa using (hl 0).symm
    rw [List.length_cons,List.range'_succ,wpOps_cons]
    unfold wpOp
    simp only [h0]
    unfold regsQ at h
    split at h
    · rename_i p hp
      obtain ⟨pv,σ1⟩:=p
      have:=panV_sound (K:=wpOps P ops.toArray Q' (List.range' (k + 1) l.length)) (Q':=Q') hE hN hp hs (fun w' hs'=>hQ (.pan pv) σ1 a w' h hs')
      have hw : Region.wanted o (yielded ops.toArray a.tmps) = true:=by unfold Region.wanted; rw [this.1]
      rw [if_pos hw]
      exact .inl this.2
    · obtain ⟨σ1,h1,h2⟩ := h
      have:=stepP_sound (K:=wpOps P ops.toArray Q' (List.range' (k + 1) l.length)) (Q':=Q') hE hN h1 hs (fun a' w' hs'=>regsQ_sound hE hN hQ l (k + 1) σ1 a' w' (fun j=>by
        have:=hl (j + 1); simpa [Nat.add_assoc,Nat.add_comm 1 j] using this) h2 hs')
      split
      · rename_i hw; rw [if_pos hw] at this; exact .inl this
      · rename_i hw; rw [if_neg hw] at this; exact this
theorem AW_regionQ (hE : EnvP P E X) (hN : EntOK E N) {id : Nat} {ops : List Oper} (h : regsQ E X N.lvl N.N ops ops Q σ) : AW P N (.region id ops.toArray false) Q σ:=by
  intro a w hs
  refine wp_region ?_
  have:=regsQ_sound (Q':=fun e a' w'=>∃ x σ',e = AX.to x ∧ Q x σ' ∧ Sim N σ' a' w') hE hN (fun x σ' a w hq hs=>⟨x,σ',rfl,hq,hs⟩) ops 0 σ a w (by simp) h hs
  simpa [List.range_eq_range'] using this
end
def awpP (E : Env) (X : PP) (lvl n : Nat) : Code → (AX → AS → Prop) → AS → Prop
  | .skip,Q,σ=>Q .nrm σ
  | .label _,Q,σ=>Q .nrm σ
  | .exit i,Q,σ=>Q (.exit i) σ
  | .ret,Q,σ=>Q .ret σ
  | .seq a b,Q,σ=>awpP E X lvl n a (thenQ (awpP E X lvl n b Q) Q) σ
  | .region _ ops true,Q,σ=>bindQ (regs E lvl n ops.toList ops.toList σ) (Q .nrm)
  | .region _ ops false,Q,σ=>regsQ E X lvl n ops.toList ops.toList Q σ
  | .cond c x y,Q,σ=>condQ (ev E σ.slots c) (awpP E X lvl n x Q) (awpP E X lvl n y Q) σ
  | .block id c,Q,σ=>awpP E X lvl n c (blockQ id Q) σ
  | .scope c,Q,σ=>awpP E X lvl n c Q σ
  | .loop c,Q,σ=>loopQ lvl (awpP E X lvl n c) Q σ
  | _,_,_=>False
theorem awpP_sound {P : Program} {N : Ent} {E : Env} {X : PP} (hE : EnvP P E X) (hN : EntOK E N) (hP : P.follows .mixedOrders = true) : ∀ (c : Code) (Q : AX → AS → Prop) (σ : AS),confC E c = true → awpP E X N.lvl N.N c Q σ → AW P N c Q σ
  | .skip,Q,σ,_,h=>AW_skip h
  | .label _,Q,σ,_,h=>AW_label h
  | .exit i,Q,σ,_,h=>AW_exit h
  | .ret,Q,σ,_,h=>AW_ret h
  | .seq a b,Q,σ,hc,h=>by
    simp only [confC,Bool.and_eq_true] at hc
    refine AW_seq (AW_mono (awpP_sound hE hN hP a _ σ hc.1 h) ?_)
    intro x σ' hq
    cases x with
    | nrm=>exact awpP_sound hE hN hP b Q σ' hc.2 hq
    | ret=>exact hq
    | exit i=>exact hq
    | pan v=>exact hq
  | .region id ops true,Q,σ,hc,h=>by
    obtain ⟨σ',h1,h2⟩:=h
    have:=AW_draw (Q:=Q) (id:=id) E hE.ok hN hP σ' hc h1 h2
    simpa using this
  | .region id ops false,Q,σ,hc,h=>by
    have:=AW_regionQ (Q:=Q) (id:=id) hE hN h
    simpa using this
  | .cond c x y,Q,σ,hc,h=>by
    simp only [confC,Bool.and_eq_true] at hc
    rcases h with ⟨h1,h2⟩ | ⟨h1,h2⟩ | ⟨h1,h2,h3⟩
    · exact AW_cond E hN h1 (by rw [if_pos rfl]; exact awpP_sound hE hN hP x Q σ hc.1 h2)
    · exact AW_cond E hN h1 (by rw [if_neg (by simp)]; exact awpP_sound hE hN hP y Q σ hc.2 h2)
    · exact AW_cond_any E hN h1 (awpP_sound hE hN hP x Q σ hc.1 h2) (awpP_sound hE hN hP y Q σ hc.2 h3)
  | .block id c,Q,σ,hc,h=>AW_block (awpP_sound hE hN hP c _ σ hc h)
  | .scope c,Q,σ,hc,h=>AW_scope (awpP_sound hE hN hP c Q σ hc h)
  | .loop c,Q,σ,hc,h=>by
    obtain ⟨I,n,σ',hw,h0,h1⟩:=h
    have:=AW_loop (P:=P) (N:=N) I n h0 fun n σ hI=>fun a w hs=>awpP_sound hE hN hP c _ σ hc (h1 n σ hI hs.fut) a w hs
    exact fun a w hs=>this a w (hs.wk hw)
  | .rangeFunc ..,_,_,_,h=>h.elim
  | .goto _,_,_,_,h=>h.elim
  | .refuse _,_,_,_,h=>h.elim
noncomputable def awpPO : Env→PP→Nat→Nat→Code→(AX→AS→Prop)→AS→Prop:=Classical.choose (⟨awpP,rfl⟩ : ∃ f,f = awpP)
theorem awpPO_eq : awpPO = awpP:=Classical.choose_spec (⟨awpP,rfl⟩ : ∃ f,f = awpP)
noncomputable def regsQO : Env→PP→Nat→Nat→List Oper→List Oper→(AX→AS→Prop)→AS→Prop:=Classical.choose (⟨regsQ,rfl⟩ : ∃ f,f = regsQ)
theorem regsQO_eq : regsQO = regsQ:=Classical.choose_spec (⟨regsQ,rfl⟩ : ∃ f,f = regsQ)
section
variable {E : Env} {X : PP} {lvl n : Nat} {Q R : AX→AS→Prop} {σ : AS}
theorem awpP_skip : awpPO E X lvl n .skip Q σ = Q .nrm σ:=by rw [awpPO_eq]; rfl
theorem awpP_label {l : Nat} : awpPO E X lvl n (.label l) Q σ = Q .nrm σ:=by rw [awpPO_eq]; rfl
theorem awpP_exit {i : Nat} : awpPO E X lvl n (.exit i) Q σ = Q (.exit i) σ:=by rw [awpPO_eq]; rfl
theorem awpP_ret : awpPO E X lvl n .ret Q σ = Q .ret σ:=by rw [awpPO_eq]; rfl
theorem awpP_seq {a b : Code} : awpPO E X lvl n (.seq a b) Q σ = awpPO E X lvl n a (thenQ (awpPO E X lvl n b Q) Q) σ:=by rw [awpPO_eq]; rfl
theorem awpP_draw {i : Nat} {ops : Array Oper} : awpPO E X lvl n (.region i ops true) Q σ = bindQ (regsO E lvl n ops.toList ops.toList σ) (Q .nrm):=by rw [awpPO_eq,regsO_eq]; rfl
theorem awpP_region {i : Nat} {ops : Array Oper} : awpPO E X lvl n (.region i ops false) Q σ = regsQO E X lvl n ops.toList ops.toList Q σ:=by rw [awpPO_eq,regsQO_eq]; rfl
theorem awpP_cond {c : Operand} {x y : Code} : awpPO E X lvl n (.cond c x y) Q σ = condQ (ev E σ.slots c) (awpPO E X lvl n x Q) (awpPO E X lvl n y Q) σ:=by rw [awpPO_eq]; rfl
theorem awpP_block {i : Nat} {c : Code} : awpPO E X lvl n (.block i c) Q σ = awpPO E X lvl n c (blockQ i Q) σ:=by rw [awpPO_eq]; rfl
theorem awpP_scope {c : Code} : awpPO E X lvl n (.scope c) Q σ = awpPO E X lvl n c Q σ:=by rw [awpPO_eq]; rfl
theorem awpP_loop {c : Code} : awpPO E X lvl n (.loop c) Q σ = loopQ lvl (awpPO E X lvl n c) Q σ:=by rw [awpPO_eq]; rfl
theorem thenQ_pan {T : AS→Prop} {v : Value} : thenQ T Q (.pan v) σ = Q (.pan v) σ:=rfl
theorem blockQ_pan {i : Nat} {v : Value} : blockQ i Q (.pan v) σ = Q (.pan v) σ:=rfl
theorem regsQO_nil {ops : List Oper} : regsQO E X lvl n ops [] Q σ = Q .nrm σ:=by rw [regsQO_eq]; rfl
theorem regsQO_cons {ops : List Oper} {o : Oper} {rest : List Oper} : regsQO E X lvl n ops (o :: rest) Q σ = match panV E X.fs lvl n σ o with | some p=>Q (.pan p.1) p.2 | none=>bindQ (stepP E X lvl n ops σ o) (regsQO E X lvl n ops rest Q):=by rw [regsQO_eq]; rfl
end
theorem SoundX.walk {P : Program} {f : FuncId} {fn : Func} {c : Code} {gf : List AV → Boxes → (Id → Bool) → Option CR} (E : Env) (X : PP) (hE : EnvP P E X) (hP : P.follows .mixedOrders = true) (hf : P.funcs[f]? = some fn) (hb : fn.body = some c)
    (hcall : ∀ (args : Array Value) (w : World),(callFunc f args).run P w = .ok (.enter f args) w) (hc : confC E c = true)
    (h : ∀ (args : List AV) (bx : Boxes) (us : Id → Bool) (cr : CR),gf args bx us = some cr → args.length ≤ fn.ntmps ∧
      ∀ L : Nat,(∀ b,(bx b).isSome → b.lvl < L ∧ ∀ l s n,renB l s n b = b) → (∀ i,us i = true → i.lvl < L) → (∀ b cs,bx b = some cs → lowL L cs ∧ ∀ x ∈ cs,(∀ n ys i z,x = .sl n ys (.own i z) → i.lvl < L ∧ i.gen ≠ 0) ∧ ∀ vs,x ≠ .tup vs) →
        awpPO E X L fn.ntmps c (endXQ E.te fn.results.toList L bx us cr) (startG args bx us)) : SoundX P E.glob f gf :=
  SoundX.of E hE.ok hf hb hcall fun args bx us cr hr=>⟨(h args bx us cr hr).1,fun N hn h1 h2 h3 hN=>by
    have:=(h args bx us cr hr).2 N.lvl h1 h2 h3
    rw [awpPO_eq,← hn] at this
    exact awpP_sound hE hN hP c _ _ hc this⟩
end Go.Abs
namespace Go.Abs
set_option linter.unusedSimpArgs false
set_option linter.unusedVariables false
open Go Go.RowKit
def Ent.off (N : Ent) (ds : List Deferred) (μ : Bx→Option Nat) : Ent:={ N with df:=ds,kmu:=μ }
theorem Valid.off {N : Ent} {g : Ghost} {box : Boxes} {w : World} {ds0 : List Deferred} {μ0 : Bx→Option Nat} (h : Valid (N.off ds0 μ0) g box w) (ds : List Deferred) (μ : Bx→Option Nat) (hk : ∀ b k,μ b = some k→g.μ b = some k) : Valid (N.off ds μ) g box w :=
  ⟨h.lev,h.kn,h.klow,h.chg,h.sub,h.keep,h.old,h.cell,h.gmu,h.ext,hk,h.lv,h.low,h.nz,h.fresh,h.inj,h.dom,h.cont,h.cok,h.ctop,h.tail,h.tnew,h.tkeep,h.dgen,h.dkeep,h.tinj⟩
theorem Valid.on {N : Ent} {g : Ghost} {box : Boxes} {w : World} {ds0 : List Deferred} {μ0 : Bx→Option Nat} (h : Valid (N.off ds0 μ0) g box w) (hk : ∀ b k,N.kmu b = some k→g.μ b = some k) : Valid N g box w :=
  ⟨h.lev,h.kn,h.klow,h.chg,h.sub,h.keep,h.old,h.cell,h.gmu,h.ext,hk,h.lv,h.low,h.nz,h.fresh,h.inj,h.dom,h.cont,h.cok,h.ctop,h.tail,h.tnew,h.tkeep,h.dgen,h.dkeep,h.tinj⟩
def PtR (μ : Bx → Option Nat) : List AV → List Value → Prop
  | [],us=>us = []
  | .ptr b o :: xs,us=>∃ k us',μ b = some k ∧ us = .pointer (some ⟨k,o,none⟩) :: us' ∧ PtR μ xs us'
  | _ :: _,_=>False
def ptrsB : List AV → Bool
  | []=>true
  | .ptr _ _ :: xs=>ptrsB xs
  | _ :: _=>false
theorem PtR.of {μ : Bx → Option Nat} {G : Nat → Nat → Prop} {w : World} : ∀ {xs : List AV} {us : List Value},ptrsB xs = true → RVs μ G w xs us → PtR μ xs us
  | [],us,_,h=>by simpa only [RVs,PtR] using h
  | x :: xs,us,hb,h=>by
    cases x <;> simp only [ptrsB] at hb <;> first | (exact absurd hb (by decide)) | skip
    simp only [RVs,RV] at h
    obtain ⟨u,us',rfl,⟨k,h1,rfl⟩,h2⟩:=h
    exact ⟨k,us',h1,rfl,PtR.of hb h2⟩
theorem PtR.rvs {μ μ' : Bx → Option Nat} {G : Nat → Nat → Prop} {w : World} (hm : ∀ b k,μ b = some k → μ' b = some k) : ∀ {xs : List AV} {us : List Value},PtR μ xs us → RVs μ' G w xs us
  | [],us,h=>by simpa only [RVs,PtR] using h
  | x :: xs,us,h=>by
    cases x <;> simp only [PtR] at h
    obtain ⟨k,us',h1,rfl,h2⟩:=h
    simp only [RVs,RV]
    exact ⟨_,us',rfl,⟨k,hm _ _ h1,rfl⟩,PtR.rvs hm h2⟩
theorem PtR.mono {μ μ' : Bx → Option Nat} (hm : ∀ b k,μ b = some k → μ' b = some k) : ∀ {xs : List AV} {us : List Value},PtR μ xs us → PtR μ' xs us
  | [],us,h=>h
  | x :: xs,us,h=>by
    cases x <;> simp only [PtR] at h
    obtain ⟨k,us',h1,rfl,h2⟩:=h
    exact ⟨k,us',hm _ _ h1,rfl,PtR.mono hm h2⟩
theorem PtR.tops {μ : Bx → Option Nat} {g : Ghost} : ∀ {xs : List AV} {us : List Value},PtR μ xs us → ∀ (j : Nat) v u,xs[j]? = some v → us[j]? = some u → Top g v u
  | [],us,h,j,v,u,hv,_=>by simp at hv
  | x :: xs,us,h,j,v,u,hv,hu=>by
    cases x <;> simp only [PtR] at h
    obtain ⟨k,us',h1,rfl,h2⟩:=h
    cases j with
    | zero=>simp at hv; subst hv; trivial
    | succ j=>exact PtR.tops h2 j v u (by simpa using hv) (by simpa using hu)
inductive DfR (μ : Bx → Option Nat) : List Deferred → List (FuncId × List AV) → Prop
  | nil : DfR μ [] []
  | cons {f : FuncId} {us1 us2 : List Value} {xs : List AV} {ds : List Deferred} {l : List (FuncId × List AV)} (h : PtR μ xs (us2 ++ us1)) (t : DfR μ ds l) : DfR μ ({ target:=.fn (.func f) us1.toArray,args:=us2.toArray } :: ds) ((f,xs) :: l)
theorem DfR.mono {μ μ' : Bx→Option Nat} (hm : ∀ b k,μ b = some k→μ' b = some k) {ds : List Deferred} {l : List (FuncId × List AV)} (h : DfR μ ds l) : DfR μ' ds l:=by
  induction h with
  | nil=>exact .nil
  | cons h _ ih=>exact .cons (h.mono hm) ih
def AWD (P : Program) (N : Ent) (c : Code) (Q : List (FuncId × List AV)→AX→AS→Prop) (l : List (FuncId × List AV)) (σ : AS) : Prop :=
  ∀ ds μ,DfR μ ds l→∀ a w,Sim (N.off ds μ) σ a w→c.wp P (fun e a' w'=>∃ ds' μ' l' x σ',e = AX.to x ∧ DfR μ' ds' l' ∧ Q l' x σ' ∧ Sim (N.off ds' μ') σ' a' w') a w
section
variable {P : Program} {N : Ent} {E : Env} {X : PP} {Q : List (FuncId × List AV)→AX→AS→Prop} {l : List (FuncId × List AV)} {σ : AS}
theorem EntOK.off (hN : EntOK E N) (ds : List Deferred) (μ : Bx→Option Nat) : EntOK E (N.off ds μ):=⟨hN.cell,hN.glob⟩
theorem AWD_of (hE : EnvP P E X) (hN : EntOK E N) (hP : P.follows .mixedOrders = true) {c : Code} (hc : confC E c = true) (h : awpPO E X N.lvl N.N c (Q l) σ) : AWD P N c Q l σ:=fun ds μ hd a w hs=>by
  rw [awpPO_eq] at h
  exact wp_mono (awpP_sound (N:=N.off ds μ) hE (hN.off ds μ) hP c (Q l) σ hc h a w hs) fun e a' w' ⟨x,σ',he,hq,hs'⟩=>⟨ds,μ,l,x,σ',he,hd,hq,hs'⟩
def thenD (T : List (FuncId × List AV) → AS → Prop) (Q : List (FuncId × List AV) → AX → AS → Prop) : List (FuncId × List AV) → AX → AS → Prop
  | l,.nrm,σ=>T l σ
  | l,x,σ=>Q l x σ
theorem AWD_seq {a b : Code} (h : AWD P N a (thenD (fun l σ=>AWD P N b Q l σ) Q) l σ) : AWD P N (.seq a b) Q l σ:=by
  intro ds μ hd ac w hs
  refine wp_seq (wp_mono (h ds μ hd ac w hs) ?_)
  rintro e a' w' ⟨ds',μ',l',x,σ',rfl,hd',h2,h3⟩
  cases x with
  | nrm=>exact h2 ds' μ' hd' a' w' h3
  | ret=>exact ⟨ds',μ',l',.ret,σ',rfl,hd',h2,h3⟩
  | exit i=>exact ⟨ds',μ',l',.exit i,σ',rfl,hd',h2,h3⟩
  | pan v=>exact ⟨ds',μ',l',.pan v,σ',rfl,hd',h2,h3⟩
theorem run_defer {o : Oper} {a : Act} {w : World} {f : Operand} {as : Array Operand} {ts : Array TypeId} {fid : FuncId} {us : Array Value} (ho : o.op = .defer { callee := .value f,args := as,argTypes := ts }) (hf : a.eval f = .func (.func fid) #[] us) :
    (execOp a.eval o).run P w = .ok (.defer { target:=.fn (.func fid) us,args:=as.map a.eval }) w:=by
  unfold execOp; rw [ho]
  simp only [resolve,hf,Deferred.ofValue,Sem.run_bind,Sem.run_pure,Result.andThen_ok]
  simp
theorem wpOps_defer (hE : EnvOK P E) (hN : EntOK E N) {ops : List Oper} {df : Oper} {f : Operand} {as : Array Operand} {ts : Array TypeId} (ho : df.op = .defer { callee := .value f,args := as,argTypes := ts }) (hg : df.guard = none) (hd : df.dst = none)
    {fid : FuncId} {caps : List AV} {ds : List Deferred} {μ : Bx → Option Nat} (hdf : DfR μ ds l) : ∀ (rest : List Oper) (i : Nat),ops.drop i = rest ++ [df] → ∀ (σ : AS) {σ2 : AS},regs E N.lvl N.N ops rest σ = some σ2 → ev E σ2.slots f = .fn fid caps → ptrsB (as.toList.map (ev E σ2.slots) ++ caps) = true →
      ∀ {a : Act} {w : World} {Q : Exit → Act → World → Prop},Sim (N.off ds μ) σ a w → (∀ ds' μ' a' w',DfR μ' ds' ((fid,as.toList.map (ev E σ2.slots) ++ caps) :: l) → Sim (N.off ds' μ') σ2 a' w' → Q .normal a' w') →
        wpOps P ops.toArray Q ((List.range' i (ops.length - i))) a w
  | [],i,hi,σ,σ2,hr,hf,hp,a,w,Q,hs,hQ=>by
    simp only [regs,Option.some.injEq] at hr
    subst hr
    have hlen : ops.length - i = 1:=by have:=congrArg List.length hi; simpa using this
    have hget : ops.toArray[i]? = some df:=by
      have:=congrArg (fun l=>l[0]?) hi
      simpa [List.getElem?_drop] using this
    rw [hlen]
    show wpOps P ops.toArray Q [i] a w
    rw [wpOps_cons]
    unfold wpOp
    simp only [hget]
    have hw2 : Region.wanted df (yielded ops.toArray a.tmps) = true:=by unfold Region.wanted; rw [hg]
    rw [if_pos hw2]
    refine .inl ?_
    obtain ⟨g2,hv,hU,hD,hn,hdf2,hsl⟩:=hs
    have hrel:=ev_rel (E:=E) hv (hN.off ds μ) hsl
    have hx:=(hrel f).1
    rw [hf] at hx
    simp only [RV] at hx
    obtain ⟨us,hx,hr⟩:=hx
    unfold Oper.wp
    rw [run_defer ho hx,Oper.upon_defer,hd]
    show wpOps P ops.toArray Q [] { a with defers:=_ :: a.defers } w
    have hargs : RVs g2.μ g2.G w (as.toList.map (ev E σ.slots)) (as.toList.map a.eval):=RVs.of_get (by simp) fun j v u hj hu=>by
      rw [List.getElem?_map,Option.map_eq_some_iff] at hj hu
      obtain ⟨y,hy,rfl⟩:=hj
      obtain ⟨z,hz,rfl⟩:=hu
      rw [hy] at hz; cases hz
      exact (hrel y).1
    have hall : PtR g2.μ (as.toList.map (ev E σ.slots) ++ caps) (as.toList.map a.eval ++ us):=PtR.of hp (hargs.append hr)
    refine hQ _ g2.μ _ w (.cons (us1:=us) (us2:=as.toList.map a.eval) hall (hdf.mono hv.kext)) ?_
    refine ⟨g2,hv.off _ _ (fun _ _ h=>h),hU,hD,hn,?_,hsl⟩
    show ({ target:=.fn (.func fid) us.toArray,args:=as.map a.eval } : Deferred) :: a.defers = _
    rw [hdf2,show (List.map a.eval as.toList).toArray = as.map a.eval by rw [← Array.toList_map,Array.toArray_toList]]
    rfl
  | o :: rest,i,hi,σ,σ2,hr,hf,hp,a,w,Q,hs,hQ=>by
    have hlen : ops.length - i = rest.length + 2:=by have:=congrArg List.length hi; simpa using this
    have hget : ops.toArray[i]? = some o:=by
      have:=congrArg (fun l=>l[0]?) hi
      simpa [List.getElem?_drop] using this
    have hi' : ops.drop (i + 1) = rest ++ [df]:=by
      have:=congrArg List.tail hi
      simpa [List.tail_drop] using this
    rw [hlen,List.range'_succ,wpOps_cons]
    unfold wpOp
    simp only [hget]
    simp only [regs] at hr
    cases hst : stepV E N.lvl N.N ops σ o with
    | none=>rw [hst] at hr; cases hr
    | some σ' =>
      rw [hst] at hr
      simp only [Option.bind_some] at hr
      have hgo:=stepV_sound (N:=N.off ds μ) (ops:=ops) (K:=wpOps P ops.toArray Q (List.range' (i + 1) (rest.length + 1))) (Q':=Q) hE (hN.off ds μ) hst hs (fun a2 w2 hs2=>by
        have:=wpOps_defer hE hN ho hg hd hdf rest (i + 1) hi' σ' hr hf hp hs2 hQ
        rwa [show ops.length - (i + 1) = rest.length + 1 by omega] at this)
      by_cases hw : Region.wanted o (yielded ops.toArray a.tmps) = true
      · rw [if_pos hw] at hgo ⊢; exact .inl hgo
      · rw [if_neg hw] at hgo ⊢; exact hgo
theorem AWD_defer (hE : EnvOK P E) (hN : EntOK E N) {id : Nat} {pre : List Oper} {ops : Array Oper} {df : Oper} {f : Operand} {as : Array Operand} {ts : Array TypeId} (hops : ops.toList = pre ++ [df]) (ho : df.op = .defer { callee := .value f,args := as,argTypes := ts }) (hg : df.guard = none) (hd : df.dst = none)
    {fid : FuncId} {caps : List AV} {σ2 : AS} (hr : regsO E N.lvl N.N ops.toList pre σ = some σ2) (hf : ev E σ2.slots f = .fn fid caps) (hp : ptrsB (as.toList.map (ev E σ2.slots) ++ caps) = true) (hQ : Q ((fid,as.toList.map (ev E σ2.slots) ++ caps) :: l) .nrm σ2) : AWD P N (.region id ops false) Q l σ:=by
  intro ds μ hdf a w hs
  rw [regsO_eq] at hr
  refine wp_region ?_
  have:=wpOps_defer (ops:=ops.toList) hE hN ho hg hd hdf pre 0 (by simpa using hops) σ hr hf hp hs (Q:=fun e a' w'=>∃ ds' μ' l' x σ',e = AX.to x ∧ DfR μ' ds' l' ∧ Q l' x σ' ∧ Sim (N.off ds' μ') σ' a' w') (fun ds' μ' a' w' h1 h2=>⟨ds',μ',_,.nrm,σ2,rfl,h1,hQ,h2⟩)
  rw [List.range_eq_range']
  simpa using this
end
def modeOf : Option Value → FrameMode
  | none=>.returning
  | some v=>.panicking [{ v:=v,recovered:=false }]
theorem callsD_recover {P : Program} {f : FuncId} {fn : Func} {rest : Code} {rid dr : Nat} {ro : Oper} {ts : Array TypeId} (hf : P.funcs[f]? = some fn) (hb : fn.body = some (.seq (.region rid #[ro] false) rest))
    (hro : ro.op = .call { callee:=.builtin .recover,args:=#[],argTypes:=ts }) (hg : ro.guard = none) (hd : ro.dst = some dr) {args : Array Value} {w : World} {m : Option Value} {R : Ending→World→Prop}
    (h : rest.wp P (bodyPost P fn R) (({ tmps:=args ++ Array.replicate (fn.ntmps - args.size) undef,defers:=[] } : Act).put (some dr) (m.getD .nilIface)) w) :
    CallsD P f args (modeOf m) w (fun e u' w'=>settle u' = .returning ∧ R e w'):=by
  refine callsD_of_wpS hf hb fun c₀ cs hu=>wpS_seq (wpS_region ?_)
  show wpOpsS P #[ro] _ [0] _ (c₀ :: cs) w
  have hw : ∀ y,Region.wanted ro y = true:=fun y=>by unfold Region.wanted; rw [hg]
  have hrun : ∀ a : Act,(execOp a.eval ro).run P w = .ok .recover w:=fun a=>by unfold execOp; rw [hro]; rfl
  simp only [wpOpsS,show (#[ro] : Array Oper)[0]? = some ro from rfl,hw,if_true,hrun]
  cases m with
  | some pv =>
    have hrec : recoverD (c₀ :: cs) = some (pv,{ c₀ with mode:=.panicking [{ v:=pv,recovered:=true }] } :: cs):=by
      simp only [recoverD,hu,modeOf]
    rw [hrec,hd]
    refine wpS_of_wp (wp_mono h ?_)
    intro e a' w' hq
    have hst : settle (.panicking [{ v:=pv,recovered:=true }]) = .returning:=rfl
    cases e with
    | normal=>exact ⟨hq.1,_,rfl,hq.2.choose,hq.2.choose_spec.1,hst,hq.2.choose_spec.2⟩
    | ret=>exact ⟨hq.1,_,rfl,hq.2.choose,hq.2.choose_spec.1,hst,hq.2.choose_spec.2⟩
    | panic ch=>exact ⟨hq.1,_,rfl,hst,hq.2⟩
    | outgrown=>exact ⟨.returning,rfl,hq⟩
    | exit i=>exact hq.elim
    | goto l=>exact hq.elim
  | none =>
    have hrec : recoverD (c₀ :: cs) = none:=by
      simp only [recoverD,hu,modeOf]
    rw [hrec,hd]
    have hc : c₀ = { c₀ with mode:=.returning }:=by rw [show FrameMode.returning = modeOf none from rfl,← hu]
    have hst : settle .returning = .returning:=rfl
    refine wpS_of_wp (wp_mono h ?_)
    intro e a' w' hq
    cases e with
    | normal=>exact ⟨hq.1,.returning,by rw [← hc],hq.2.choose,hq.2.choose_spec.1,hst,hq.2.choose_spec.2⟩
    | ret=>exact ⟨hq.1,.returning,by rw [← hc],hq.2.choose,hq.2.choose_spec.1,hst,hq.2.choose_spec.2⟩
    | panic ch=>exact ⟨hq.1,.returning,by rw [← hc],hst,hq.2⟩
    | outgrown=>exact ⟨.returning,hst,hq⟩
    | exit i=>exact hq.elim
    | goto l=>exact hq.elim
def SoundD (P : Program) (glob : Nat→Option (List AV)) (f : FuncId) (gd : Option Value→List AV→Boxes→(Id→Bool)→Option (CR × Option Value)) : Prop :=
  (∀ (args : Array Value) (w : World),(callFunc f args).run P w = .ok (.enter f args) w) ∧
  ∀ (N : Ent) (g : Ghost) (box : Boxes) (w : World),Valid N g box w → (∀ gi xs,glob gi = some xs → RV noMu g.G w (.iptr xs) (.pointer (some ⟨gi,0,none⟩))) →
    ∀ (m : Option Value) (args : List AV) (vals : List Value) (cr : CR) (m' : Option Value) (d : Nat) (v : AV),RVs g.μ g.G w args vals → (∀ (j : Nat) v u,args[j]? = some v → vals[j]? = some u → Top g v u) → gd m args box g.D = some (cr,m') → cr.v = .ret v →
      CallsD P f vals.toArray (modeOf m) w (fun e u' w'=>(∃ u,e = .returned u) ∧ settle u' = modeOf m' ∧ PostX N g box w cr d e w')
theorem PostX.ret {N : Ent} {g : Ghost} {box : Boxes} {w : World} {cr : CR} {d : Nat} {e : Ending} {w' : World} (h : PostX N g box w cr d e w') {v : AV} (hv : cr.v = .ret v) : ∃ u,e = .returned u:=by
  obtain ⟨gr,h1 | h1,_⟩:=h
  · obtain ⟨_,u,_,h2,_⟩:=h1; exact ⟨u,h2⟩
  · obtain ⟨pv,h2,_⟩:=h1; rw [hv] at h2; cases h2
theorem Sim.put {N : Ent} {σ : AS} {a : Act} {w : World} (h : Sim N σ a w) {d : Nat} (hd : d < N.N) (v : Value) : Sim N (σ.put (some d) (.raw v)) (a.put (some d) v) w:=by
  obtain ⟨g,hv,hU,hD,hn,hdf,hsl⟩:=h
  exact ⟨g,hv,hU,hD,by rw [put_size]; exact hn,by rw [put_defers]; exact hdf,Slots.put hsl (by rw [hn]; exact hd) (by simp only [RV]) trivial⟩
theorem SoundD.rec {P : Program} {f : FuncId} {fn : Func} {rest : Code} {rid dr : Nat} {ro : Oper} {ts : Array TypeId} (E : Env) (X : PP) (hE : EnvP P E X) (hP : P.follows .mixedOrders = true) (hf : P.funcs[f]? = some fn) (hb : fn.body = some (.seq (.region rid #[ro] false) rest))
    (hro : ro.op = .call { callee:=.builtin .recover,args:=#[],argTypes:=ts }) (hg : ro.guard = none) (hd : ro.dst = some dr) (hdr : dr < fn.ntmps)
    (hcall : ∀ (args : Array Value) (w : World),(callFunc f args).run P w = .ok (.enter f args) w) (hc : confC E rest = true) (gd : Option Value→List AV→Boxes→(Id→Bool)→Option (CR × Option Value))
    (h : ∀ (m : Option Value) (args : List AV) (bx : Boxes) (us : Id → Bool) (cr : CR) (m' : Option Value),gd m args bx us = some (cr,m') → m' = none ∧ args.length ≤ fn.ntmps ∧
      ∀ L : Nat,(∀ b,(bx b).isSome → b.lvl < L ∧ ∀ l s n,renB l s n b = b) → (∀ i,us i = true → i.lvl < L) → (∀ b cs,bx b = some cs → lowL L cs ∧ ∀ x ∈ cs,(∀ n ys i z,x = .sl n ys (.own i z) → i.lvl < L ∧ i.gen ≠ 0) ∧ ∀ vs,x ≠ .tup vs) →
        awpPO E X L fn.ntmps rest (endXQ E.te fn.results.toList L bx us cr) ((startG args bx us).put (some dr) (.raw (m.getD .nilIface)))) : SoundD P E.glob f gd:=by
  refine ⟨hcall,fun Nc gc box w hvc hglob m args vals cr m' d v hargs htops hgd hcv=>?_⟩
  obtain ⟨hm,hlen,hw⟩:=h m args box gc.D cr m' hgd
  subst hm
  obtain ⟨hbx,hus,hbf,hN,hs0⟩:=SoundX.enter (P:=P) (fn:=fn) E hvc hglob hargs htops hlen
  have hw:=hw (entG Nc gc fn.ntmps w).lvl hbx hus hbf
  rw [awpPO_eq] at hw
  have hs1:=hs0.put (d:=dr) hdr (m.getD .nilIface)
  refine (callsD_recover (m:=m) (args:=vals.toArray) hf hb hro hg hd (SoundX.core (P:=P) (fn:=fn) E hvc hglob hE.ok rest cr d hs1 (awpP_sound (N:=entG Nc gc fn.ntmps w) hE hN hP rest _ _ hc hw))).mono ?_
  rintro e u' w' ⟨h1,h2⟩
  exact ⟨h2.ret hcv,h1,h2⟩
theorem SoundD.walk {P : Program} {f : FuncId} {fn : Func} {c : Code} (E : Env) (X : PP) (hE : EnvP P E X) (hP : P.follows .mixedOrders = true) (hf : P.funcs[f]? = some fn) (hb : fn.body = some c)
    (hcall : ∀ (args : Array Value) (w : World),(callFunc f args).run P w = .ok (.enter f args) w) (hc : confC E c = true) (gd : Option Value→List AV→Boxes→(Id→Bool)→Option (CR × Option Value))
    (h : ∀ (m : Option Value) (args : List AV) (bx : Boxes) (us : Id → Bool) (cr : CR) (m' : Option Value),gd m args bx us = some (cr,m') → m' = m ∧ args.length ≤ fn.ntmps ∧
      ∀ L : Nat,(∀ b,(bx b).isSome → b.lvl < L ∧ ∀ l s n,renB l s n b = b) → (∀ i,us i = true → i.lvl < L) → (∀ b cs,bx b = some cs → lowL L cs ∧ ∀ x ∈ cs,(∀ n ys i z,x = .sl n ys (.own i z) → i.lvl < L ∧ i.gen ≠ 0) ∧ ∀ vs,x ≠ .tup vs) →
        awpPO E X L fn.ntmps c (endXQ E.te fn.results.toList L bx us cr) (startG args bx us)) : SoundD P E.glob f gd:=by
  refine ⟨hcall,fun Nc gc box w hvc hglob m args vals cr m' d v hargs htops hgd hcv=>?_⟩
  obtain ⟨hm,hlen,hw⟩:=h m args box gc.D cr m' hgd
  subst hm
  obtain ⟨hbx,hus,hbf,hN,hs0⟩:=SoundX.enter (P:=P) (fn:=fn) E hvc hglob hargs htops hlen
  have hw:=hw (entG Nc gc fn.ntmps w).lvl hbx hus hbf
  rw [awpPO_eq] at hw
  refine (callsD_of_wp (u:=modeOf m') (args:=vals.toArray) hf hb (SoundX.core (P:=P) (fn:=fn) E hvc hglob hE.ok c cr d hs0 (awpP_sound (N:=entG Nc gc fn.ntmps w) hE hN hP c _ _ hc hw))).mono ?_
  rintro e u' w' ⟨rfl,h2⟩
  exact ⟨h2.ret hcv,(by cases m' <;> rfl),h2⟩
abbrev DTab:=FuncId→Option (Option Value→List AV→Boxes→(Id→Bool)→Option (CR × Option Value))
def offQ (D : DTab) (te : TypeId → Option TI) (rs : List ResultVar) (L : Nat) (bx : Boxes) (us : Id → Bool) (cr : CR) : List (FuncId × List AV) → Option Value → AS → Prop
  | [],m,σ=>endXQ te rs L bx us cr (match m with | none=>.ret | some pv=>.pan pv) σ
  | (f,xs) :: l,m,σ => ∃ gd cr' m' v,D f = some gd ∧ gd m xs σ.box σ.used = some (cr',m') ∧ cr'.v = .ret v ∧
      offQ D te rs L bx us cr l m' { slots:=σ.slots,gen:=upd σ.gen 0 (σ.gen 0 + 1),box:=applyW (match (cr'.gr L 0 (σ.gen 0 + 1) .dead).cont with | some c=>updB σ.box (.own L 0 (σ.gen 0 + 1)) c | none=>σ.box) (cr'.gr L 0 (σ.gen 0 + 1) .dead).wr,used:=useL σ.used cr'.use }
def endD (D : DTab) (te : TypeId → Option TI) (rs : List ResultVar) (L : Nat) (bx : Boxes) (us : Id → Bool) (cr : CR) : List (FuncId × List AV) → AX → AS → Prop
  | _,.exit _,_=>False
  | l,.pan pv,σ=>offQ D te rs L bx us cr l (some pv) σ
  | l,_,σ=>offQ D te rs L bx us cr l none σ
theorem leaves_off {P : Program} {fn : Func} {Nc : Ent} {gc : Ghost} {box : Boxes} {w : World} (E : Env) (hvc : Valid Nc gc box w) (hglob : ∀ gi xs,E.glob gi = some xs → RV noMu gc.G w (.iptr xs) (.pointer (some ⟨gi,0,none⟩))) (hE : EnvOK P E) (D : DTab) (hD : ∀ f gd,D f = some gd → SoundD P E.glob f gd) (cr : CR) (d : Nat)
    (hN : EntOK E (entG Nc gc fn.ntmps w)) : ∀ (l : List (FuncId × List AV)) (ds : List Deferred) (μ : Bx → Option Nat) (m : Option Value) (σ : AS) (a : Act) (w' : World),DfR μ ds l → Sim ((entG Nc gc fn.ntmps w).off ds μ) σ a w' → offQ D E.te fn.results.toList (entG Nc gc fn.ntmps w).lvl box gc.D cr l m σ →
      Leaves P fn a.tmps (PostX Nc gc box w cr d) ds (modeOf m) w'
  | [],ds,μ,m,σ,a,w',hd,hs,hq=>by
    cases hd
    obtain ⟨g,hv,hU,hDu,hn,hdf,hsl⟩:=hs
    have hs' : Sim (entG Nc gc fn.ntmps w) σ a w':=⟨g,hv.on (fun _ _ h=>nomatch h),hU,hDu,hn,hdf,hsl⟩
    have:=SoundX.ends (P:=P) (fn:=fn) E hvc hglob hE cr d hq hs'
    cases m with
    | none=>exact this.2
    | some pv=>exact this.2
  | (f,xs) :: l,ds,μ,m,σ,a,w',hd,hs,hq=>by
    cases hd with
    | @cons _ us1 us2 _ ds _ hp ht =>
    obtain ⟨gd,cr',m',v,h1,h2,h3,h4⟩:=hq
    obtain ⟨g,hv,hU,hDu,hn,hdf,hsl⟩:=hs
    have hv' : Valid ((entG Nc gc fn.ntmps w).off ds g.μ) g σ.box w':=hv.off _ _ fun _ _ h=>h
    have hS:=hD f gd h1
    refine leaves_cons (f:=f) (args:=(us2 ++ us1).toArray) (by cases m <;> simp [modeOf]) ?_ ?_
    · have : (invoke (.fn (.func f) us1.toArray) us2.toArray) = callFunc f ((us2 ++ us1).toArray) := by simp [invoke]
      rw [this]; exact hS.1 _ _
    · refine (hS.2 _ g σ.box w' hv' (hv'.globs (hN.off _ _)) m xs (us2 ++ us1) cr' m' 0 v (hp.rvs hv.kext) hp.tops (by rw [hDu]; exact h2) h3).mono ?_
      rintro e u' w'' ⟨⟨u,rfl⟩,hst,gr,_,hvr,hle,hUr,hDr⟩
      show Leaves P fn a.tmps _ ds (settle u') w''
      rw [hst]
      have ih:=leaves_off E hvc hglob hE D hD cr d hN l ds g.μ m' _ { a with defers:=ds } w'' (ht.mono hv.kext) ?_ h4
      · exact ih
      · refine ⟨gr,?_,?_,?_,hn,rfl,?_⟩
        · rw [← hU]; exact hvr
        · rw [hUr,hU]
        · rw [hDr,hDu]
        · exact Slots.le (a:=a) hle hsl
theorem SoundX.offs {P : Program} {f : FuncId} {fn : Func} {c : Code} {gf : List AV → Boxes → (Id → Bool) → Option CR} (E : Env) (hE : EnvOK P E) (D : DTab) (hD : ∀ f gd,D f = some gd → SoundD P E.glob f gd) (hf : P.funcs[f]? = some fn) (hb : fn.body = some c)
    (hcall : ∀ (args : Array Value) (w : World),(callFunc f args).run P w = .ok (.enter f args) w)
    (h : ∀ (args : List AV) (bx : Boxes) (us : Id → Bool) (cr : CR),gf args bx us = some cr → args.length ≤ fn.ntmps ∧
      ∀ N : Ent,N.N = fn.ntmps→(∀ b,(bx b).isSome→b.lvl < N.lvl ∧ ∀ l s n,renB l s n b = b)→(∀ i,us i = true→i.lvl < N.lvl)→(∀ b cs,bx b = some cs→lowL N.lvl cs ∧ ∀ x ∈ cs,(∀ n ys i z,x = .sl n ys (.own i z)→i.lvl < N.lvl ∧ i.gen ≠ 0) ∧ ∀ vs,x ≠ .tup vs)→EntOK E N→AWD P N c (endD D E.te fn.results.toList N.lvl bx us cr) [] (startG args bx us)) : SoundX P E.glob f gf:=by
  refine ⟨hcall,fun Nc gc box w hvc hglob args vals cr d hargs htops hgf=>?_⟩
  obtain ⟨hlen,hc⟩:=h args box gc.D cr hgf
  refine calls_of_wp_defers hf hb ?_
  obtain ⟨hbx,hus,hbf,hN,hs0⟩:=SoundX.enter (P:=P) (fn:=fn) E hvc hglob hargs htops hlen
  have hgo:=hc (entG Nc gc fn.ntmps w) rfl hbx hus hbf hN [] (fun _=>none) .nil _ w hs0
  refine wp_mono hgo ?_
  rintro e a' w' ⟨ds',μ',l',x,σ',rfl,hd,hq,hs⟩
  have hdf : a'.defers = ds':=by obtain ⟨g,_,_,_,_,hdf,_⟩:=hs; exact hdf
  subst hdf
  cases x with
  | nrm=>exact leaves_off E hvc hglob hE D hD cr d hN l' _ μ' none σ' a' w' hd hs hq
  | ret=>exact leaves_off E hvc hglob hE D hD cr d hN l' _ μ' none σ' a' w' hd hs hq
  | pan pv=>exact leaves_off E hvc hglob hE D hD cr d hN l' _ μ' (some pv) σ' a' w' hd hs hq
  | exit i=>exact hq.elim
end Go.Abs
namespace Go.Abs
set_option linter.unusedSimpArgs false
set_option linter.unusedVariables false
open Go Go.RowKit
theorem thenQ_mono {R R' : AS→Prop} {Q Q' : AX→AS→Prop} (h : ∀ s,R s→R' s) (hq : ∀ x s,Q x s→Q' x s) : ∀ x s,thenQ R Q x s→thenQ R' Q' x s:=fun x s hh=>by
  cases x with
  | nrm=>exact h s hh
  | ret=>exact hq _ s hh
  | exit i=>exact hq _ s hh
  | pan v=>exact hq _ s hh
theorem blockQ_mono {id : Nat} {Q Q' : AX→AS→Prop} (hq : ∀ x s,Q x s→Q' x s) : ∀ x s,blockQ id Q x s→blockQ id Q' x s:=fun x s hh=>by
  cases x with
  | nrm=>exact hq _ s hh
  | ret=>exact hq _ s hh
  | exit i =>
    simp only [blockQ_exit] at hh ⊢
    split
    · rename_i h; rw [if_pos h] at hh; exact hq _ s hh
    · rename_i h; rw [if_neg h] at hh; exact hq _ s hh
  | pan v=>exact hq _ s hh
theorem bindQ_mono {o : Option AS} {R R' : AS→Prop} (h : ∀ s,R s→R' s) (hb : bindQ o R) : bindQ o R':=by
  obtain ⟨σ,h1,h2⟩:=hb; exact ⟨σ,h1,h _ h2⟩
theorem condQ_mono {v : AV} {f g f' g' : AS→Prop} {σ : AS} (hf : f σ→f' σ) (hg : g σ→g' σ) (h : condQ v f g σ) : condQ v f' g' σ:=by
  rcases h with ⟨h1,h2⟩ | ⟨h1,h2⟩ | ⟨h1,h2,h3⟩
  · exact .inl ⟨h1,hf h2⟩
  · exact .inr (.inl ⟨h1,hg h2⟩)
  · exact .inr (.inr ⟨h1,hf h2,hg h3⟩)
theorem loopQ_mono {lvl : Nat} {f : (AX→AS→Prop)→AS→Prop} {Q Q' : AX→AS→Prop} {σ : AS} (hf : ∀ Q Q' σ,(∀ x s,Q x s→Q' x s)→f Q σ→f Q' σ) (hq : ∀ x s,Q x s→Q' x s) (h : loopQ lvl f Q σ) : loopQ lvl f Q' σ:=by
  obtain ⟨I,n,σ',hw,h0,h1⟩:=h
  exact ⟨I,n,σ',hw,h0,fun n σ hI hfu=>hf _ _ _ (thenQ_mono (fun _ h=>h) hq) (h1 n σ hI hfu)⟩
section
variable {E : Env} {X : PP} {lvl n : Nat}
theorem awp_mono : ∀ (c : Code) (Q Q' : AX → AS → Prop) (σ : AS),(∀ x s,Q x s → Q' x s) → awp E lvl n c Q σ → awp E lvl n c Q' σ
  | .skip,_,_,_,hq,h=>hq _ _ h
  | .label _,_,_,_,hq,h=>hq _ _ h
  | .exit _,_,_,_,hq,h=>hq _ _ h
  | .ret,_,_,_,hq,h=>hq _ _ h
  | .seq a b,_,_,_,hq,h=>awp_mono a _ _ _ (thenQ_mono (fun s=>awp_mono b _ _ s hq) hq) h
  | .region _ _ _,_,_,_,hq,h=>bindQ_mono (hq _) h
  | .cond _ x y,_,_,_,hq,h=>condQ_mono (awp_mono x _ _ _ hq) (awp_mono y _ _ _ hq) h
  | .block _ c,_,_,_,hq,h=>awp_mono c _ _ _ (blockQ_mono hq) h
  | .scope c,_,_,_,hq,h=>awp_mono c _ _ _ hq h
  | .loop c,_,_,_,hq,h=>loopQ_mono (fun Q Q' σ=>awp_mono c Q Q' σ) hq h
  | .rangeFunc ..,_,_,_,_,h=>h.elim
  | .goto _,_,_,_,_,h=>h.elim
  | .refuse _,_,_,_,_,h=>h.elim
theorem awp_cut {a b : Code} {Q : AX→AS→Prop} {σ : AS} (R : AS→Prop) (h1 : awpO E lvl n a (fun x s=>x = .nrm ∧ R s) σ) (h2 : ∀ s,R s→awpO E lvl n b Q s) : awpO E lvl n (.seq a b) Q σ:=by
  rw [awpO_eq] at *
  exact awp_mono a _ _ _ (fun x s h=>by obtain ⟨rfl,h⟩:=h; exact h2 s h) h1
end
end Go.Abs
