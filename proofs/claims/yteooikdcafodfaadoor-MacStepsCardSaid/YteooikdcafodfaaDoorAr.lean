/- What a function hands back; a function's promise out of its body. -/
import Derived.Test.YteooikdcafodfaaDoorAq
namespace Go.Abs
set_option linter.unusedSimpArgs false
set_option linter.unusedVariables false
open Go Go.RowKit

mutual
/-- a value that leads to no box -/
def pureA : AV → Bool
  | .dead => true
  | .raw _ => true
  | .anyb => true
  | .sl _ xs _ => pureL xs
  | .agg xs => pureL xs
  | .tup xs => pureL xs
  | .fn _ cs => pureL cs
  | .iptr xs => pureL xs
  | .ptr _ _ => false
  | .view .. => false
  | .nptr _ => false
def pureL : List AV → Bool
  | [] => true
  | x :: xs => pureA x && pureL xs
end

mutual
theorem RV.pure {μ μ' : Bx → Option Nat} {G : Nat → Nat → Prop} {w : World} : ∀ (v : AV) (u : Value), pureA v = true → RV μ G w v u → RV μ' G w v u
  | .dead, _, _, _ => by simp only [RV]
  | .raw _, _, _, h => by simpa only [RV] using h
  | .anyb, _, _, h => by simpa only [RV] using h
  | .sl n xs fl, u, hp, h => by
    simp only [RV, pureA] at h hp ⊢
    rcases h with h | ⟨k, o, c, us, h1, h2, h3, h4⟩
    · exact .inl h
    · exact .inr ⟨k, o, c, us, h1, h2, RVs.pure xs us hp h3, h4⟩
  | .iptr xs, u, hp, h => by
    simp only [RV, pureA] at h hp ⊢
    obtain ⟨k, o, us, h1, h3, h4⟩ := h
    exact ⟨k, o, us, h1, RVs.pure xs us hp h3, h4⟩
  | .agg xs, u, hp, h => by
    simp only [RV, pureA] at h hp ⊢
    obtain ⟨us, h1, h2⟩ := h
    exact ⟨us, h1, RVs.pure xs us hp h2⟩
  | .tup xs, u, hp, h => by
    simp only [RV, pureA] at h hp ⊢
    obtain ⟨us, h1, h2⟩ := h
    exact ⟨us, h1, RVs.pure xs us hp h2⟩
  | .fn f xs, u, hp, h => by
    simp only [RV, pureA] at h hp ⊢
    obtain ⟨us, h1, h2⟩ := h
    exact ⟨us, h1, RVs.pure xs us hp h2⟩
  | .ptr _ _, _, hp, _ => by simp [pureA] at hp
  | .view .., _, hp, _ => by simp [pureA] at hp
  | .nptr _, _, hp, _ => by simp [pureA] at hp
theorem RVs.pure {μ μ' : Bx → Option Nat} {G : Nat → Nat → Prop} {w : World} : ∀ (xs : List AV) (us : List Value), pureL xs = true → RVs μ G w xs us → RVs μ' G w xs us
  | [], _, _, h => by simpa only [RVs] using h
  | x :: xs, us, hp, h => by
    simp only [RVs, pureL, Bool.and_eq_true] at h hp ⊢
    obtain ⟨u, us', h1, h2, h3⟩ := h
    exact ⟨u, us', h1, RV.pure x u hp.1 h2, RVs.pure xs us' hp.2 h3⟩
end

/-- a result slot or variable -/
def rawRes (te : TypeId → Option TI) (σ : AS) : ResultVar → Option AV
  | .tmp t => some (σ.slots t)
  | .cell a t => loadV te σ.box t (σ.slots a)

/-- a result as the caller gets it, and whose room it takes along -/
def export1 (σ : AS) (c : Nat) : AV → Option (AV × Option Id)
  | .sl n xs (.own i z) => if pureL xs = true then (if σ.used i then some (.sl n xs .bor, none) else some (.sl n xs (.own ⟨0, c, 0⟩ z), some i)) else none
  | .sl n xs .bor => if pureL xs = true then some (.sl n xs .bor, none) else none
  | .sl n xs .full => if pureL xs = true then some (.sl n xs .bor, none) else none
  | .view b off n _ z => (σ.box b).bind fun xs => if off + n * z ≤ xs.length ∧ pureL ((xs.drop off).take (n * z)) = true then some (.sl n ((xs.drop off).take (n * z)) .bor, none) else none
  | .raw v => some (.raw v, none)
  | .anyb => some (.anyb, none)
  | .agg xs => if pureL xs = true then some (.agg xs, none) else none
  | .fn f [] => some (.fn f [], none)
  | _ => none

def exports (σ : AS) : Nat → List AV → Option (List AV × List (Nat × Id))
  | _, [] => some ([], [])
  | c, v :: vs => (export1 σ c v).bind fun r => (exports σ (c + 1) vs).bind fun rs => some (r.1 :: rs.1, (match r.2 with | some i => [(c, i)] | none => []) ++ rs.2)

def rawsRes (te : TypeId → Option TI) (σ : AS) : List ResultVar → Option (List AV)
  | [] => some []
  | r :: rs => (rawRes te σ r).bind fun v => (rawsRes te σ rs).map (v :: ·)

/-- what a function's frame comes to -/
def resV (te : TypeId → Option TI) (rs : List ResultVar) (σ : AS) : Option AV :=
  (rawsRes te σ rs).bind fun vs => (exports σ 0 vs).bind fun p =>
    if (p.2.map (·.2)).Nodup then (match p.1 with | [v] => some v | vs => some (.tup vs)) else none

section
variable {P : Program} {N : Ent} {E : Env} {g : Ghost} {σ : AS} {a : Act} {w : World}

theorem rawRes_rel (hte : TeOK P E.te) (hv : Valid N g σ.box w) (hs : Slots g w σ.slots a) {r : ResultVar} {v : AV} (h : rawRes E.te σ r = some v) :
    ∃ u, ((match r with | .tmp t => Pure.pure (a.tmps.getD t undef) | .cell x t => do loadVar t (← asAddr (a.tmps.getD x undef)) : Sem Value)).run P w = .ok u w ∧ RV g.μ g.G w v u ∧ Top g v u := by
  cases r with
  | tmp t => simp only [rawRes, Option.some.injEq] at h; subst h; exact ⟨_, rfl, (hs t).1, (hs t).2⟩
  | cell x t =>
    simp only [rawRes] at h
    have hx := (hs x).1
    unfold loadV at h
    split at h
    · rename_i b off e
      rw [e] at hx; simp only [RV] at hx
      obtain ⟨k, hk, he⟩ := hx
      simp only [Option.bind_eq_some_iff] at h
      obtain ⟨xs, hxs, h⟩ := h
      obtain ⟨us, h4, h5, _⟩ := hv.box_cells hk hxs
      obtain ⟨u, hu, h6, h7⟩ := run_loadVar_rel (k := k) (b := 0) hte h4 (by simpa using h5) h
      refine ⟨u, ?_, h6, h7⟩
      show (do loadVar t (← asAddr (a.tmps.getD x undef)) : Sem Value).run P w = _
      rw [he]; simpa [asAddr] using hu
    · rename_i xs e
      rw [e] at hx; simp only [RV] at hx
      obtain ⟨k, off, us, he, h4, h5⟩ := hx
      obtain ⟨u, hu, h6, h7⟩ := run_loadVar_rel (k := k) (b := off) hte h4 (fun j hj => (h5 j hj).1) h
      refine ⟨u, ?_, h6, h7⟩
      show (do loadVar t (← asAddr (a.tmps.getD x undef)) : Sem Value).run P w = _
      rw [he]; simpa [asAddr] using hu
    · cases h

theorem rawsRes_rel (hte : TeOK P E.te) (hv : Valid N g σ.box w) (hs : Slots g w σ.slots a) : ∀ {rs : List ResultVar} {vs : List AV}, rawsRes E.te σ rs = some vs →
    ∃ us, (rs.mapM (m := Sem) fun | .tmp t => Pure.pure (a.tmps.getD t undef) | .cell x t => do loadVar t (← asAddr (a.tmps.getD x undef))).run P w = .ok us w ∧ RVs g.μ g.G w vs us ∧ ∀ (j : Nat) v u, vs[j]? = some v → us[j]? = some u → Top g v u
  | [], vs, h => by simp only [rawsRes, Option.some.injEq] at h; subst h; exact ⟨[], rfl, RVs.nil, fun j v u h => by simp at h⟩
  | r :: rs, vs, h => by
    simp only [rawsRes, Option.bind_eq_some_iff, Option.map_eq_some_iff] at h
    obtain ⟨v, h1, vs', h2, rfl⟩ := h
    obtain ⟨u, r1, r2, r3⟩ := rawRes_rel hte hv hs h1
    obtain ⟨us, s1, s2, s3⟩ := rawsRes_rel hte hv hs h2
    refine ⟨u :: us, ?_, by simp only [RVs]; exact ⟨u, us, rfl, r2, s2⟩, fun j v' u' hv' hu' => ?_⟩
    · rw [List.mapM_cons, Sem.run_bind, r1]
      simp only [Result.andThen_ok, Sem.run_bind, s1, Sem.run_pure]
    · cases j with
      | zero => simp at hv' hu'; subst hv'; subst hu'; exact r3
      | succ j => exact s3 j v' u' (by simpa using hv') (by simpa using hu')

/-- a result handed over -/
theorem export1_rel (hv : Valid N g σ.box w) (hD : g.D = σ.used) {v : AV} {u : Value} (hr : RV g.μ g.G w v u) (ht : Top g v u) {c : Nat} {v' : AV} {oi : Option Id} (h : export1 σ c v = some (v', oi)) :
    RV noMu (boxG g σ.box) w v' u ∧ (∀ i, oi = some i → ∃ n xs z, v' = .sl n xs (.own ⟨0, c, 0⟩ z) ∧ g.D i = false) ∧
    (∀ (T : Nat → Option (Nat × Nat × Nat)), (∀ i, oi = some i → T c = g.T i) → ∀ n xs fl, v' = .sl n xs fl → FlOK (resG (boxG g σ.box) T) fl xs.length u) ∧ (∀ vs, v' ≠ .tup vs) ∧ ∀ xs, v' ≠ .nptr xs := by
  have up : ∀ v u, pureA v = true → RV g.μ g.G w v u → RV noMu (boxG g σ.box) w v u := fun v u hp h => RV.mono (fun _ _ h => h) (fun _ _ h => .inl h) (fun _ _ _ => rfl) _ _ (RV.pure (μ' := noMu) v u hp h)
  unfold export1 at h
  split at h
  · rename_i n xs i z
    split at h
    · rename_i hp
      split at h
      · cases h
        refine ⟨?_, by simp, fun T _ n' xs' fl e => by cases e; trivial, by simp, by simp⟩
        have := up (.sl n xs (.own i z)) u (by simpa [pureA] using hp) hr
        simpa only [RV] using this
      · rename_i hu
        cases h
        have hDi : g.D i = false := by rw [hD]; simpa using hu
        refine ⟨?_, fun i' e => by cases e; exact ⟨n, xs, z, rfl, hDi⟩, fun T hT n' xs' fl e => ?_, by simp, by simp⟩
        · have := up (.sl n xs (.own i z)) u (by simpa [pureA] using hp) hr
          simpa only [RV] using this
        · cases e
          simp only [Top] at ht
          cases u with
          | slice A n' c' =>
            simp only [FlOK, resG] at ht ⊢
            refine ⟨Nat.le_refl _, ?_⟩
            rcases ht.2 with h1 | h1 | ⟨k, o, lo, hi, e1, e2, e3, e4⟩
            · rw [hDi] at h1; cases h1
            · exact .inr (.inl h1)
            · exact .inr (.inr ⟨k, o, lo, hi, e1, e2, by simp only [and_self, if_true]; rw [hT i rfl]; exact e3, e4⟩)
          | _ => simp only [FlOK] at ht
    · cases h
  · rename_i n xs
    split at h
    · rename_i hp
      cases h
      exact ⟨up _ u (by simpa [pureA] using hp) hr, by simp, fun T _ n' xs' fl e => by cases e; trivial, by simp, by simp⟩
    · cases h
  · rename_i n xs
    split at h
    · rename_i hp
      cases h
      refine ⟨?_, by simp, fun T _ n' xs' fl e => by cases e; trivial, by simp, by simp⟩
      have := up (.sl n xs .full) u (by simpa [pureA] using hp) hr
      simpa only [RV] using this
    · cases h
  · rename_i b off n c' z
    simp only [Option.bind_eq_some_iff] at h
    obtain ⟨xs, hx, h⟩ := h
    split at h
    · rename_i hc
      cases h
      refine ⟨?_, by simp, fun T _ n' xs' fl e => by cases e; trivial, by simp, by simp⟩
      simp only [RV] at hr ⊢
      obtain ⟨k, oo, hm, rfl, hnc, hoo⟩ := hr
      obtain ⟨us, h4, h5, _⟩ := hv.box_cells hm hx
      right
      by_cases hc0 : c' = 0
      · have hn0 : n = 0 := by omega
        subst hn0
        refine ⟨k, oo, c', [], rfl, hnc, ?_, fun j hj => by simp at hj⟩
        simp; exact RVs.nil
      · have : oo = off := by rcases hoo with h | h; · exact h
                              · exact absurd h hc0
        subst this
        have hul := h4.length
        refine ⟨k, oo, c', _, rfl, hnc, RVs.mono (fun _ _ h => h) (fun _ _ h => .inl h) (fun _ _ _ => rfl) _ _ (RVs.pure (μ' := noMu) _ _ hc.2 ((h4.drop oo).take (n * z))), fun j hj => ?_⟩
        rw [List.length_take, List.length_drop] at hj
        refine ⟨?_, .inr ⟨b, xs, hm, hx, by omega⟩⟩
        rw [List.getElem?_take, if_pos (by omega), List.getElem?_drop]
        exact h5 _ (by omega)
    · cases h
  · cases h; exact ⟨by simpa only [RV] using hr, by simp, fun T _ n' xs' fl e => (by cases e), by simp, by simp⟩
  · cases h; exact ⟨by simpa only [RV] using hr, by simp, fun T _ n' xs' fl e => (by cases e), by simp, by simp⟩
  · rename_i xs
    split at h
    · rename_i hp
      cases h
      exact ⟨up _ u (by simpa [pureA] using hp) hr, by simp, fun T _ n' xs' fl e => (by cases e), by simp, by simp⟩
    · cases h
  · cases h; exact ⟨by simpa only [RV, RVs] using hr, by simp, fun T _ n' xs' fl e => (by cases e), by simp, by simp⟩
  · cases h

theorem exports_rel (hv : Valid N g σ.box w) (hD : g.D = σ.used) : ∀ {vs : List AV} {us : List Value} {c : Nat} {p : List AV × List (Nat × Id)}, exports σ c vs = some p → RVs g.μ g.G w vs us → (∀ (j : Nat) v u, vs[j]? = some v → us[j]? = some u → Top g v u) →
    RVs noMu (boxG g σ.box) w p.1 us ∧ (∀ q ∈ p.2, c ≤ q.1 ∧ g.D q.2 = false) ∧ (p.2.map (·.1)).Nodup ∧
    ∀ (T : Nat → Option (Nat × Nat × Nat)), (∀ q ∈ p.2, T q.1 = g.T q.2) → ∀ (j : Nat) n xs fl u, p.1[j]? = some (.sl n xs fl) → us[j]? = some u → FlOK (resG (boxG g σ.box) T) fl xs.length u
  | [], us, c, p, h, hr, ht => by
    simp only [exports, Option.some.injEq] at h; subst h
    simp only [RVs] at hr; subst hr
    exact ⟨RVs.nil, by simp, by simp, fun T _ j n xs fl u h => by simp at h⟩
  | v :: vs, us, c, p, h, hr, ht => by
    simp only [exports, Option.bind_eq_some_iff, Option.some.injEq] at h
    obtain ⟨⟨v', oi⟩, h1, rs, h2, rfl⟩ := h
    simp only [RVs] at hr
    obtain ⟨u, us', rfl, r1, r2⟩ := hr
    obtain ⟨e1, e2, e3, _⟩ := export1_rel hv hD r1 (ht 0 _ _ rfl rfl) h1
    obtain ⟨f1, f2, f3, f4⟩ := exports_rel hv hD h2 r2 (fun j v u hv hu => ht (j + 1) v u (by simpa using hv) (by simpa using hu))
    refine ⟨by simp only [RVs]; exact ⟨u, us', rfl, e1, f1⟩, ?_, ?_, ?_⟩
    · intro q hq
      simp only [List.mem_append] at hq
      rcases hq with hq | hq
      · cases oi with
        | none => simp at hq
        | some i =>
          simp at hq; subst hq
          obtain ⟨_, _, _, _, hd⟩ := e2 i rfl
          exact ⟨Nat.le_refl _, hd⟩
      · exact ⟨by have := (f2 q hq).1; omega, (f2 q hq).2⟩
    · cases oi with
      | none => simpa using f3
      | some i =>
        simp only [List.map_append, List.map_cons, List.map_nil, List.singleton_append, List.nodup_cons]
        refine ⟨fun hm => ?_, f3⟩
        obtain ⟨q, hq, he⟩ := List.mem_map.1 hm
        have := (f2 q hq).1
        omega
    · intro T hT j n xs fl u0 hj hu
      cases j with
      | zero =>
        simp at hj hu; subst hu
        exact e3 T (fun i hi => hT (c, i) (by subst hi; simp)) n xs fl hj
      | succ j =>
        exact f4 T (fun q hq => hT q (by simp only [List.mem_append]; exact .inr hq)) j n xs fl u0 (by simpa using hj) (by simpa using hu)
end
end Go.Abs
