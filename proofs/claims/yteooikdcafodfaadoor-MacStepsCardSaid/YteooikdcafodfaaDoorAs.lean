/- A function's promise out of its body. -/
import Derived.Test.YteooikdcafodfaaDoorAr
namespace Go.Abs
set_option linter.unusedSimpArgs false
set_option linter.unusedVariables false
open Go Go.RowKit

/-- how a function begins -/
def start (args : List AV) : AS :=
  { slots := fun i => match args[i]? with | some v => strip v | none => .raw undef
    gen := fun _ => 0
    box := fun _ => none
    used := fun _ => false }

/-- told less of -/
inductive Weak1 : Nat → AV → AV → Prop
  | same (c : Nat) (v : AV) : Weak1 c v v
  | nil (c z : Nat) : Weak1 c (.raw (.slice none 0 0)) (.sl 0 [] (.own ⟨0, c, 0⟩ z))
  | nilb (c : Nat) : Weak1 c (.raw (.slice none 0 0)) (.sl 0 [] .bor)
  | bor (c n : Nat) (xs : List AV) (fl : Fl) : Weak1 c (.sl n xs fl) (.sl n xs .bor)
  | any (c : Nat) (b : Bool) : Weak1 c (.raw (.bool b)) .anyb
inductive Weak : AV → AV → Prop
  | one {v r : AV} (h : Weak1 0 v r) : Weak v r
  | tup {vs rs : List AV} (hl : vs.length = rs.length) (h : ∀ (j : Nat) (v r : AV), vs[j]? = some v → rs[j]? = some r → Weak1 j v r) : Weak (.tup vs) (.tup rs)
def ResQ (o : Option AV) (r : AV) : Prop := ∃ v, o = some v ∧ Weak v r
theorem ResQ.same {v r : AV} (h : v = r) : ResQ (some v) r := ⟨v, rfl, by rw [h]; exact .one (.same 0 r)⟩
theorem ResQ.nil (z : Nat) : ResQ (some (.raw (.slice none 0 0))) (.sl 0 [] (.own ⟨0, 0, 0⟩ z)) := ⟨_, rfl, .one (.nil 0 z)⟩
theorem ResQ.nilb : ResQ (some (.raw (.slice none 0 0))) (.sl 0 [] .bor) := ⟨_, rfl, .one (.nilb 0)⟩
theorem ResQ.bor {n : Nat} {xs : List AV} {fl : Fl} : ResQ (some (.sl n xs fl)) (.sl n xs .bor) := ⟨_, rfl, .one (.bor 0 n xs fl)⟩
theorem ResQ.any (b : Bool) : ResQ (some (.raw (.bool b))) .anyb := ⟨_, rfl, .one (.any 0 b)⟩

theorem Weak1.rel {G : Nat → Nat → Prop} {w : World} {c : Nat} {v r : AV} {u : Value} (h : Weak1 c v r) (hv : RV noMu G w v u) : RV noMu G w r u := by
  cases h with
  | same => exact hv
  | nil => simp only [RV] at hv ⊢; exact .inl (by simpa using hv)
  | nilb => simp only [RV] at hv ⊢; exact .inl (by simpa using hv)
  | bor => simpa only [RV] using hv
  | any => simp only [RV] at hv ⊢; exact ⟨_, hv⟩
theorem Weak1.flok {G : Nat → Nat → Prop} {w : World} {T : Nat → Option (Nat × Nat × Nat)} {c : Nat} {v r : AV} {u : Value} (h : Weak1 c v r) (hv : RV noMu G w v u) (ht : ∀ n xs fl, v = .sl n xs fl → FlOK (resG G T) fl xs.length u) :
    ∀ n xs fl, r = .sl n xs fl → FlOK (resG G T) fl xs.length u := by
  rintro n xs fl rfl
  cases h with
  | same => exact ht _ _ _ rfl
  | nil => simp only [RV] at hv; subst hv; simp [FlOK, resG]
  | nilb => simp only [RV] at hv; subst hv; simp [FlOK]
  | bor => simp [FlOK]
theorem PostV.weak {G : Nat → Nat → Prop} {w : World} {v r : AV} {u : Value} {G' : Nat → Nat → Prop} {w' : World} {T : Nat → Option (Nat × Nat × Nat)} (h : PostV G w v u G' w' T) (hw : Weak v r) : PostV G w r u G' w' T := by
  refine { h with rel := ?_, top := ?_ }
  · cases hw with
    | one h1 => exact h1.rel h.rel
    | tup hl h1 =>
      have hr := h.rel
      simp only [RV] at hr ⊢
      obtain ⟨us, h2, h3⟩ := hr
      refine ⟨us, h2, RVs.of_get (by rw [h3.length, hl]) fun j x u hx hu => ?_⟩
      rename_i vs rs
      have hj : j < vs.length := by rw [hl]; exact (List.getElem?_eq_some_iff.1 hx).1
      obtain ⟨u', h5, h6⟩ := h3.get j vs[j] (List.getElem?_eq_getElem hj)
      rw [hu] at h5; cases h5
      exact (h1 j _ _ (List.getElem?_eq_getElem hj) hx).rel h6
  · cases hw with
    | one h1 =>
      have ht := h.top
      have hr := h.rel
      cases h1 with
      | same => exact ht
      | nil => simp only [RV] at hr; subst hr; simp [Top, FlOK, resG]
      | nilb => simp only [RV] at hr; subst hr; simp [Top, FlOK]
      | bor => simp [Top, FlOK]
      | any => trivial
    | tup hl h1 =>
      have ht := h.top
      have hr := h.rel
      simp only [Top] at ht ⊢
      simp only [RV] at hr
      obtain ⟨us, h2, h3⟩ := hr
      obtain ⟨us', h4, h5⟩ := ht
      rw [h2] at h4
      cases h4
      refine ⟨_, h2, fun j n xs fl u hx hu => ?_⟩
      rename_i vs rs
      have hj : j < vs.length := by rw [hl]; exact (List.getElem?_eq_some_iff.1 hx).1
      obtain ⟨u', h6, h7⟩ := h3.get j vs[j] (List.getElem?_eq_getElem hj)
      have hu' : us[j]? = some u := by simpa using hu
      rw [hu'] at h6; cases h6
      exact (h1 j _ _ (List.getElem?_eq_getElem hj) hx).flok h7 (fun n xs fl e => h5 j n xs fl u (by rw [List.getElem?_eq_getElem hj, e]) hu) n xs fl rfl

/-- how a function ends -/
def endQ (te : TypeId → Option TI) (rs : List ResultVar) (r : AV) : AX → AS → Prop
  | .exit _, _ => False
  | _, σ => ResQ (resV te rs σ) r

theorem lookup_of {β : Type} : ∀ {l : List (Nat × β)}, (l.map (·.1)).Nodup → ∀ q ∈ l, l.find? (fun p => p.1 == q.1) = some q
  | [], _, q, h => by cases h
  | p :: l, hn, q, h => by
    simp only [List.map_cons, List.nodup_cons] at hn
    rcases List.mem_cons.1 h with rfl | h
    · simp
    · have : p.1 ≠ q.1 := fun e => hn.1 (by rw [e]; exact List.mem_map.2 ⟨q, h, rfl⟩)
      rw [List.find?_cons, show (p.1 == q.1) = false by simpa using this]
      exact lookup_of hn.2 q h

theorem nodup_snd {α β : Type} : ∀ {l : List (α × β)}, (l.map (·.2)).Nodup → ∀ p ∈ l, ∀ q ∈ l, p.2 = q.2 → p = q
  | [], _, p, h, _, _, _ => by cases h
  | x :: l, hn, p, hp, q, hq, e => by
    simp only [List.map_cons, List.nodup_cons] at hn
    rcases List.mem_cons.1 hp with h1 | h1 <;> rcases List.mem_cons.1 hq with h2 | h2
    · rw [h1, h2]
    · exact absurd (List.mem_map.2 ⟨q, h2, by rw [← e, h1]⟩) hn.1
    · exact absurd (List.mem_map.2 ⟨p, h1, by rw [e, h2]⟩) hn.1
    · exact nodup_snd hn.2 p h1 q h2 e

theorem exports_notup {σ : AS} : ∀ {vs : List AV} {c : Nat} {p : List AV × List (Nat × Id)}, exports σ c vs = some p → ∀ v ∈ p.1, ∀ ws, v ≠ .tup ws
  | [], c, p, h, v, hv, ws => by simp only [exports, Option.some.injEq] at h; subst h; cases hv
  | x :: vs, c, p, h, v, hv, ws => by
    simp only [exports, Option.bind_eq_some_iff, Option.some.injEq] at h
    obtain ⟨⟨v', oi⟩, h1, rs, h2, rfl⟩ := h
    rcases List.mem_cons.1 hv with rfl | hv
    · rintro rfl
      unfold export1 at h1
      split at h1 <;> try split at h1
      all_goals (try split at h1)
      all_goals (try (simp only [Option.bind_eq_some_iff] at h1; obtain ⟨_, _, h1⟩ := h1; split at h1))
      all_goals cases h1
    · exact exports_notup h2 v hv ws

variable {P : Program} {E : Env}

theorem SoundV.of {f : FuncId} {fn : Func} {c : Code} {pf : List AV → Option AV} (E : Env) (hE : EnvOK P E) (hf : P.funcs[f]? = some fn) (hb : fn.body = some c)
    (hcall : ∀ (args : Array Value) (w : World), (callFunc f args).run P w = .ok (.enter f args) w)
    (h : ∀ (args : List AV) (r : AV), pf args = some r → args.length ≤ fn.ntmps ∧ ∀ N : Ent, N.N = fn.ntmps → N.lvl = 0 → EntOK E N → AW P N c (endQ E.te fn.results.toList r) (start args)) : SoundV P E.glob f pf := by
  refine ⟨hcall, fun args r hr G w vals hp => ?_⟩
  obtain ⟨hlen, hc⟩ := h args r hr
  have hvl : vals.length = args.length := hp.args.length
  refine calls_of_wp hf hb ?_
  let N : Ent := { lvl := 0, N := fn.ntmps, w0 := w, μ0 := noMu, G0 := G }
  let g : Ghost := { μ := noMu, G := G, T := fun _ => none, U := fun _ => 0, D := fun _ => false }
  have hN : EntOK E N := ⟨hp.cell, hp.glob⟩
  have hv0 : Valid N g (start args).box w :=
    { chg := ⟨rfl, rfl, rfl, Nat.le_refl _, fun _ _ _ => rfl⟩
      sub := fun _ _ h => h
      old := fun _ _ h _ => h
      cell := hp.cell
      gmu := fun _ _ _ _ h => by cases h
      ext := fun _ _ h => h
      lv := fun _ _ h => by cases h
      low := fun _ _ h => by cases h
      fresh := fun _ _ _ h => by cases h
      inj := fun _ _ _ h => by cases h
      dom := fun _ => rfl
      cont := fun _ _ _ h => by cases h
      tail := fun _ _ _ _ h => by cases h
      dgen := fun _ h => by cases h
      tinj := fun _ _ _ _ _ _ _ h => by cases h }
  have hs0 : Sim N (start args) { tmps := vals.toArray ++ Array.replicate (fn.ntmps - vals.toArray.size) undef, defers := [] } w := by
    refine ⟨g, hv0, rfl, rfl, ?_, rfl, fun i => ?_⟩
    · show (vals.toArray ++ Array.replicate _ undef).size = fn.ntmps
      simp; omega
    · have : (vals.toArray ++ Array.replicate (fn.ntmps - vals.toArray.size) undef).getD i undef = vals[i]?.getD undef := by
        rw [Array.getD_eq_getD_getElem?, Array.getElem?_append]
        split
        · simp
        · rename_i hge
          simp only [List.size_toArray, Nat.not_lt] at hge
          rw [List.getElem?_eq_none hge, Array.getElem?_replicate]
          split <;> rfl
      show RV _ _ _ _ ((vals.toArray ++ _).getD i undef) ∧ Top _ _ ((vals.toArray ++ _).getD i undef)
      rw [this]
      simp only [start]
      cases ha : args[i]? with
      | none =>
        have : vals[i]? = none := List.getElem?_eq_none (by rw [hvl]; simpa using ha)
        rw [this]
        exact ⟨by simp only [RV]; rfl, trivial⟩
      | some v =>
        obtain ⟨u, h1, h2⟩ := hp.args.get i v ha
        rw [h1]
        exact ⟨h2.strip, Top.strip _ _⟩
  refine wp_mono (hc N rfl rfl hN _ _ hs0) ?_
  rintro e a' w' ⟨x, σ, rfl, hq, hs⟩
  obtain ⟨r', hq', hweak⟩ : ResQ (resV E.te fn.results.toList σ) r := by cases x <;> first | exact hq | exact hq.elim
  suffices done' : a'.defers = [] ∧ ∃ v, (results fn a'.tmps).run P w' = .ok v w' ∧ ∃ u G' T, Ending.returned v = .returned u ∧ PostV G w r' u G' w' T by
    obtain ⟨d1, v, d2, u, G', T, d3, d4⟩ := done'
    have done : a'.defers = [] ∧ ∃ v, (results fn a'.tmps).run P w' = .ok v w' ∧ ∃ u G' T, Ending.returned v = .returned u ∧ PostV G w r u G' w' T := ⟨d1, v, d2, u, G', T, d3, d4.weak hweak⟩
    cases x with
    | nrm => exact done
    | ret => exact done
    | exit i => exact hq.elim
  clear hweak hq
  generalize r' = r at hq' ⊢
  have done : a'.defers = [] ∧ ∃ v, (results fn a'.tmps).run P w' = .ok v w' ∧ ∃ u G' T, Ending.returned v = .returned u ∧ PostV G w r u G' w' T := by
    obtain ⟨g', hv, hU, hD, hn, hdf, hsl⟩ := hs
    refine ⟨hdf, ?_⟩
    simp only [resV, Option.bind_eq_some_iff] at hq'
    obtain ⟨vs, h1, p, h2, h3⟩ := hq'
    split at h3
    · rename_i hnd
      obtain ⟨us, r1, r2, r3⟩ := rawsRes_rel hE.te hv hsl h1
      obtain ⟨e1, e2, e3, e4⟩ := exports_rel hv hD h2 r2 r3
      have hul := e1.length
      let T : Nat → Option (Nat × Nat × Nat) := fun c => (p.2.find? fun q => q.1 == c).bind fun q => g'.T q.2
      have hT : ∀ q ∈ p.2, T q.1 = g'.T q.2 := fun q hq => by
        show (p.2.find? _).bind _ = _
        rw [lookup_of e3 q hq]; rfl
      have hTm : ∀ c t, T c = some t → ∃ q ∈ p.2, q.1 = c ∧ g'.T q.2 = some t := fun c t ht => by
        simp only [T, Option.bind_eq_some_iff] at ht
        obtain ⟨q, h4, h5⟩ := ht
        exact ⟨q, List.mem_of_find?_eq_some h4, by simpa using List.find?_some h4, h5⟩
      have hres : (results fn a'.tmps).run P w' = .ok (if h : us.length = 1 then us[0] else .tuple us.toArray) w' := by
        generalize hl : fn.results.toList = l at r1
        have hfr : fn.results = l.toArray := by rw [← hl]
        unfold results
        rw [hfr, List.mapM_toArray, map_eq_pure_bind, Sem.run_bind, Sem.run_bind]
        erw [r1]
        simp only [Result.andThen_ok, Sem.run_pure, List.size_toArray]
        rfl
      refine ⟨_, hres, _, boxG g' σ.box, T, rfl, ?_⟩
      have hbelow : Below w.heap.size w w' := ⟨hv.chg.os, hv.chg.tape, hv.chg.output, hv.chg.size, fun k hk => hv.chg.block k hk (fun ⟨b, hb⟩ => by cases hb)⟩
      have hG0 : ∀ k o, boxG g' σ.box k o → (at_ w' k o).isSome := by
        rintro k o (h | ⟨b, xs, h4, h5, h6⟩)
        · exact hv.cell k o h
        · obtain ⟨us, h7, h8, _⟩ := hv.box_cells h4 h5
          rw [h8 o (by rw [h7.length]; exact h6)]
          have : o < us.length := by rw [h7.length]; exact h6
          simp [this]
      have hrt : RV noMu (boxG g' σ.box) w' r (if h : us.length = 1 then us[0] else .tuple us.toArray) ∧ Top (resG (boxG g' σ.box) T) r (if h : us.length = 1 then us[0] else .tuple us.toArray) := by
        split at h3
        · rename_i v hp1
          simp only [Option.some.injEq] at h3; subst h3
          rw [hp1] at e1 e4
          simp only [RVs] at e1
          obtain ⟨u, us', rfl, h6, h7⟩ := e1
          cases h7
          refine ⟨by simpa using h6, ?_⟩
          have e5 := e4 T hT 0
          cases v with
          | sl n xs fl => exact e5 n xs fl u (by simp) (by simp)
          | tup vs' =>
            exact absurd hp1 (by
              intro hp1
              have := exports_notup h2 (.tup vs') (by rw [hp1]; simp)
              exact this _ rfl)
          | _ => trivial
        · rename_i vs' hp1
          simp only [Option.some.injEq] at h3; subst h3
          have hne : ¬ us.length = 1 := by
            rw [hul]
            intro hl
            obtain ⟨v, hv1⟩ := List.length_eq_one_iff.1 hl
            exact hp1 v hv1
          rw [dif_neg hne]
          refine ⟨by simp only [RV]; exact ⟨us, rfl, e1⟩, ?_⟩
          simp only [Top]
          exact ⟨us.toArray, rfl, fun j n xs fl v hj hu => e4 T hT j n xs fl v hj (by simpa using hu)⟩
      refine ⟨hbelow, fun k o h => .inl (hv.sub k o h), ?_, hG0, hrt.1, hrt.2, ?_, ?_⟩
      · rintro k o (h | ⟨b, xs, h4, h5, h6⟩) hk
        · exact hv.old k o h hk
        · rcases hv.lv b k h4 with h | ⟨_, h⟩
          · cases h
          · exact absurd hk (Nat.not_lt.2 h)
      · intro c k lo hi ht
        obtain ⟨q, hq, rfl, hqt⟩ := hTm _ _ ht
        obtain ⟨t1, t2, t3, t4, t5, t6, t7⟩ := hv.tail _ _ _ _ hqt
        refine ⟨t1, t2, t5, fun o h1 h2 => ?_⟩
        obtain ⟨f1, f2, f3⟩ := t6 o h1 h2
        refine ⟨f1, f2, ?_⟩
        rintro (h | ⟨b, xs, h4, h5, h6⟩)
        · exact f3 h
        · exact t7 b h4
      · intro c c' k lo hi lo' hi' ht ht'
        obtain ⟨q, hq, rfl, hqt⟩ := hTm _ _ ht
        obtain ⟨q', hq', rfl, hqt'⟩ := hTm _ _ ht'
        have := hv.tinj _ _ _ _ _ _ _ hqt hqt'
        rw [nodup_snd hnd q hq q' hq' this]
    · cases h3
  exact done
end Go.Abs
