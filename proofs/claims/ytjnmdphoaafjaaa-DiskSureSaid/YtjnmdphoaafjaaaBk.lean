/- What holds of a disk all along, whatever is called. -/
import Derived.Test.YtjnmdphoaafjaaaBi
namespace Go.Proofs.Ytjnmdphoaafjaaa
set_option linter.unusedSimpArgs false
set_option linter.unusedVariables false
set_option linter.defProp false
open Go Go.Abs
set_option maxHeartbeats 4000000
/-- whose room is behind what was done since -/
def nmS : Sc → Option Abs.Id
  | .sl _ (.own i 3) => some i
  | _ => none
def scOK (s : Sc) : Prop := s = .nil ∨ ∃ l i, s = .sl l (.own i 3)
structure FI (us : Abs.Id → Bool) (m : Nat) (x : Fs) : Prop where
  nf : x.nf = .bor
  sf : x.sf = .bor
  sc : scOK x.sc
  us : ∀ i, nmS x.sc = some i → us i = false
  now : x.now.length ≤ m
  sure : x.sure.length ≤ m
  len : x.sc.l.length ≤ m
  wf : wfS x.sure x.sc.l
  fold : x.sc.l.foldl doesN x.sure = x.now
  mid : ∀ j, ((x.sc.l.take j).foldl doesN x.sure).length ≤ m
structure DI (us : Abs.Id → Bool) (m : Nat) (d : Dk) : Prop where
  len : d.fs.length = 4
  ok : okD 1 d
  f : ∀ k, k < 4 → FI us m (d.f k)
  ne : ∀ k j i, k < 4 → j < 4 → k ≠ j → nmS (d.f k).sc = some i → nmS (d.f j).sc ≠ some i
  steps : 0 ≤ d.steps ∧ d.steps ≤ m
  left : (d.burns = true → 0 ≤ d.left) ∧ -9223372036854775807 ≤ d.left ∧ d.left ≤ 9223372036854775807
theorem FI.mono {us : Abs.Id → Bool} {m n : Nat} {x : Fs} (h : FI us m x) (hn : m ≤ n) : FI us n x :=
  ⟨h.nf, h.sf, h.sc, h.us, Nat.le_trans h.now hn, Nat.le_trans h.sure hn, Nat.le_trans h.len hn, h.wf, h.fold, fun j => Nat.le_trans (h.mid j) hn⟩
theorem DI.mono {us : Abs.Id → Bool} {m n : Nat} {d : Dk} (h : DI us m d) (hn : m ≤ n) : DI us n d :=
  ⟨h.len, h.ok, fun k hk => (h.f k hk).mono hn, h.ne, ⟨h.steps.1, by have := h.steps.2; omega⟩, h.left⟩
theorem DI.okN {us : Abs.Id → Bool} {m : Nat} {d : Dk} (h : DI us m d) (hm : m ≤ 1000000) {k : Nat} (hk : k < 4) : okN d k := by
  have h1 := h.steps
  have h2 := h.left.2
  have h3 := (h.f k hk).now
  have h4 := (h.f k hk).len
  refine ⟨?_, ?_, by omega, by omega⟩ <;> (rw [i64ok_is]; omega)
theorem DI.new (us : Abs.Id → Bool) : DI us 0 newD := by
  have hf : ∀ k, k < 4 → newD.f k = f0 := fun k hk => by
    match k, hk with
    | 0, _ => rfl
    | 1, _ => rfl
    | 2, _ => rfl
    | 3, _ => rfl
  refine ⟨rfl, newD_okD 1, fun k hk => ?_, fun k j i hk _ _ h => ?_, ⟨by decide, by decide⟩, ⟨fun h => (by cases h), by decide, by decide⟩⟩
  · rw [hf k hk]
    exact ⟨rfl, rfl, .inl rfl, fun i h => (by cases h), Nat.le_refl _, Nat.le_refl _, Nat.le_refl _, trivial, rfl, fun j => by cases j <;> exact Nat.le_refl _⟩
  · rw [hf k hk] at h; cases h
theorem DI.power {us : Abs.Id → Bool} {m : Nat} {d : Dk} (h : DI us m d) : DI us m (powerD d) := ⟨h.len, powerD_okD h.ok, h.f, h.ne, h.steps, h.left⟩
theorem power_on {d : Dk} (h : (powerD d).off = false) : d.off = false ∧ (d.burns = true → d.left ≠ 0) := by
  simp only [powerD, Bool.or_eq_false_iff, Bool.and_eq_false_iff, beq_eq_false_iff_ne] at h
  refine ⟨h.1, fun hb => ?_⟩
  rcases h.2 with h | h
  · rw [hb] at h; cases h
  · exact h
theorem DI.step {us : Abs.Id → Bool} {m : Nat} {d : Dk} (h : DI us m d) (ho : (powerD d).off = false) : DI us (m + 1) (stepD (powerD d)) := by
  have hp := power_on ho
  have h1 := h.steps
  have h2 := h.left
  refine ⟨h.len, stepD_okD (powerD_okD h.ok), fun k hk => (h.f k hk).mono (by omega), h.ne, ?_, ?_⟩
  · show 0 ≤ d.steps + 1 ∧ d.steps + 1 ≤ ((m + 1 : Nat) : Int)
    omega
  · show (d.burns = true → 0 ≤ if d.burns then d.left - 1 else d.left) ∧ _ ≤ (if d.burns then d.left - 1 else d.left) ∧ (if d.burns then d.left - 1 else d.left) ≤ _
    cases hb : d.burns
    · refine ⟨fun h => (by cases h), ?_⟩
      simp only [Bool.false_eq_true, if_false]
      exact h2.2
    · have h3 := hp.2 hb
      have h4 := h2.1 hb
      simp only [if_true]
      exact ⟨fun _ => by omega, by omega, by omega⟩
/-- a file is another one -/
theorem DI.setF {us us' : Abs.Id → Bool} {m : Nat} {d : Dk} (h : DI us m d) {k : Nat} (hk : k < 4) {x : Fs} (hx : FI us' m x) (hok : okFs 1 x) (hu : ∀ i, us' i = true → us i = true ∨ nmS (d.f k).sc = some i)
    (hne : ∀ j i, j < 4 → j ≠ k → nmS x.sc = some i → nmS (d.f j).sc ≠ some i) : DI us' m (d.setF k x) := by
  have hf : ∀ j, j < 4 → j ≠ k → (d.setF k x).f j = d.f j := fun j _ hj => setF_ne d (Ne.symm hj) x
  have hs : (d.setF k x).f k = x := setF_at h.len hk x
  refine ⟨setF_len h.len k x, h.ok.setF k hok, fun j hj => ?_, fun j l i hj hl hjl hn => ?_, h.steps, h.left⟩
  · by_cases e : j = k
    · subst e; rw [hs]; exact hx
    · rw [hf j hj e]
      have hF := h.f j hj
      refine ⟨hF.nf, hF.sf, hF.sc, fun i hi => ?_, hF.now, hF.sure, hF.len, hF.wf, hF.fold, hF.mid⟩
      cases hq : us' i with
      | false => rfl
      | true =>
        rcases hu i hq with h1 | h1
        · rw [hF.us i hi] at h1; cases h1
        · exact absurd hi (h.ne k j i hk hj (Ne.symm e) h1)
  · by_cases e : j = k
    · subst e
      rw [hs] at hn
      rw [hf l hl (Ne.symm hjl)]
      exact hne l i hl (Ne.symm hjl) hn
    · rw [hf j hj e] at hn
      by_cases e2 : l = k
      · subst e2
        rw [hs]
        exact fun h2 => hne j i hj e h2 hn
      · rw [hf l hl e2]
        exact h.ne j l i hj hl hjl hn
theorem sinceI_ok {us : Abs.Id → Bool} {s : Sc} (h : scOK s) (hu : ∀ i, nmS s = some i → us i = false) : ∃ u, sinceI us s = some u ∧ ∀ i, useL us u i = true → us i = true ∨ nmS s = some i := by
  rcases h with rfl | ⟨l, i, rfl⟩
  · exact ⟨[], rfl, fun i h => .inl h⟩
  · refine ⟨[i], sinceI_at (hu i rfl), fun j hj => ?_⟩
    simp only [useL, updI] at hj
    split at hj
    · rename_i e; subst e; exact .inr rfl
    · exact .inl hj
theorem wfS_app : ∀ {l : List Ch} {s : List (BitVec 8)} {c : Ch}, wfS s l → doesOK (l.foldl doesN s) c → wfS s (l ++ [c])
  | [], s, c, _, h => ⟨h, trivial⟩
  | a :: l, s, c, h1, h => ⟨h1.1, wfS_app h1.2 h⟩
/-- one that is done to a file -/
theorem DI.does {us : Abs.Id → Bool} {m n : Nat} {d : Dk} (h : DI us m d) {k : Nat} (hk : k < 4) {c : Ch} (hc : doesOK (d.f k).now c) (hl : (doesN (d.f k).now c).length ≤ m + n) (ho : (powerD d).off = false) :
    ∃ u, sinceI us (d.f k).sc = some u ∧ ∀ i : Abs.Id, i.lvl = 0 → i.gen ≠ 0 → us i = false → (∀ j, j < 4 → nmS (d.f j).sc ≠ some i) →
      DI (useL us u) (m + n + 1) ((stepD (powerD d)).setF k { d.f k with now := doesN (d.f k).now c, nf := .bor, sc := .sl ((d.f k).sc.l ++ [c]) (.own i 3) }) := by
  have hF := h.f k hk
  obtain ⟨u, h1, h2⟩ := sinceI_ok hF.sc hF.us
  refine ⟨u, h1, fun i hl0 hg hi hn => ?_⟩
  have hstep := (h.step ho).mono (show m + 1 ≤ m + n + 1 by omega)
  refine hstep.setF hk ⟨rfl, hF.sf, .inr ⟨_, _, rfl⟩, fun j hj => ?_, by show (doesN _ c).length ≤ _; omega, by have := hF.sure; show (d.f k).sure.length ≤ _; omega, ?_, ?_, ?_, fun j => ?_⟩ ⟨okF_bor 1, (h.ok.f h.len hk).2.1, okS_own (by omega) hg⟩ (fun j hj => h2 j hj) (fun j i' hj _ hi' => ?_)
  · cases hj
    cases hq : useL us u i with
    | false => rfl
    | true =>
      rcases h2 i hq with h3 | h3
      · rw [hi] at h3; cases h3
      · exact absurd h3 (hn k hk)
  · have := hF.len
    show ((d.f k).sc.l ++ [c]).length ≤ _
    rw [List.length_append, List.length_singleton]; omega
  · exact wfS_app hF.wf (by rw [hF.fold]; exact hc)
  · show ((d.f k).sc.l ++ [c]).foldl doesN (d.f k).sure = doesN (d.f k).now c
    rw [List.foldl_append, hF.fold]; rfl
  · show ((((d.f k).sc.l ++ [c]).take j).foldl doesN (d.f k).sure).length ≤ _
    by_cases hj : j ≤ (d.f k).sc.l.length
    · rw [List.take_append_of_le_length hj]
      have := hF.mid j
      omega
    · rw [List.take_of_length_le (by rw [List.length_append, List.length_singleton]; omega), List.foldl_append, hF.fold]
      show (doesN (d.f k).now c).length ≤ _
      omega
  · cases hi'
    exact hn j hj
theorem DI.ap {us : Abs.Id → Bool} {m n : Nat} {d : Dk} (h : DI us m d) {k : Nat} (hk : k < 4) {t : List (BitVec 8)} (ht : t.length ≤ n) (hm : m + n ≤ 1000000) (ho : (powerD d).off = false) :
    ∃ u, sinceI us (d.f k).sc = some u ∧ ∀ i : Abs.Id, i.lvl = 0 → i.gen ≠ 0 → us i = false → (∀ j, j < 4 → nmS (d.f j).sc ≠ some i) → DI (useL us u) (m + n + 1) (apD d k t i) := by
  have := (h.f k hk).now
  exact h.does hk (c := .lay t) (by rw [doesOK_lay]; omega) (by rw [doesN_lay, List.length_append]; omega) ho
theorem DI.cut {us : Abs.Id → Bool} {m : Nat} {d : Dk} (h : DI us m d) {k : Nat} (hk : k < 4) {z : Int} (hz : 0 ≤ z ∧ z ≤ ((d.f k).now.length : Int)) (hm : m ≤ 1000000) (ho : (powerD d).off = false) :
    ∃ u, sinceI us (d.f k).sc = some u ∧ ∀ i : Abs.Id, i.lvl = 0 → i.gen ≠ 0 → us i = false → (∀ j, j < 4 → nmS (d.f j).sc ≠ some i) → DI (useL us u) (m + 1) (cutD d k z i) := by
  have := (h.f k hk).now
  exact h.does (n := 0) hk (c := .cut z) (by rw [doesOK_cut]; omega) (by rw [doesN_cut, List.length_take]; omega) ho
theorem DI.sync {us : Abs.Id → Bool} {m : Nat} {d : Dk} (h : DI us m d) {k : Nat} (hk : k < 4) (ho : (powerD d).off = false) : DI us (m + 1) (syncD d k) := by
  have hF := h.f k hk
  refine (h.step ho).setF hk ⟨hF.nf, rfl, .inl rfl, fun i hi => (by cases hi), by have := hF.now; show (d.f k).now.length ≤ _; omega, by have := hF.now; show (d.f k).now.length ≤ _; omega, Nat.zero_le _, trivial, rfl, fun j => by have := hF.now; cases j <;> (show (d.f k).now.length ≤ _; omega)⟩ ⟨(h.ok.f h.len hk).1, okF_bor 1, okS_nil 1⟩ (fun i hi => .inl hi) (fun j i _ _ hi => (by cases hi))
theorem DI.fuse {us : Abs.Id → Bool} {m : Nat} {d : Dk} (h : DI us m d) {n : Int} (hn : -9223372036854775807 ≤ n ∧ n ≤ 9223372036854775807) : DI us m (fuseD d n) :=
  ⟨h.len, fuseD_okD h.ok, h.f, h.ne, h.steps, ⟨fun hb => by simpa [fuseD] using hb, hn⟩⟩
theorem bootN_len {us : Abs.Id → Bool} {m : Nat} {x : Fs} (h : FI us m x) (l : List Int) (f : Nat) : (bootN l f x).length ≤ m := by
  rw [bootN]
  have h1 := h.mid (kF l f x.sc.l.length)
  cases hc : x.sc.l[kF l f x.sc.l.length]? with
  | none => exact h1
  | some c =>
    cases c with
    | cut z => exact h1
    | lay b =>
      have h2 := h.mid (kF l f x.sc.l.length + 1)
      have hlt := (List.getElem?_eq_some_iff.1 hc).1
      have he := (List.getElem?_eq_some_iff.1 hc).2
      rw [fold_next hlt, he, doesN_lay, List.length_append] at h2
      show (_ ++ torn b _ _).length ≤ m
      rw [List.length_append]
      have h3 : (torn b (kF l (4 + f) b.length) (pickF l (8 + f))).length ≤ b.length := by
        unfold torn
        split
        · exact Nat.zero_le _
        · rw [List.length_set, List.length_take]; omega
      omega
theorem bootTo_get {d : Dk} (h : d.fs.length = 4) (l : List Int) : ∀ n, n ≤ 4 → ∀ k, k < n → (bootTo d l n).f k = bootX l k (d.f k)
  | 0, _, k, hk => absurd hk (Nat.not_lt_zero _)
  | n + 1, hn, k, hk => by
    rw [bootTo]
    by_cases e : k = n
    · subst e; rw [setF_at (bootTo_len h l k) (by omega)]
    · rw [setF_ne _ (Ne.symm e), bootTo_get h l n (by omega) k (by omega)]
theorem boot_f {d : Dk} (h : d.fs.length = 4) (l : List Int) {k : Nat} (hk : k < 4) : (bootD d l).f k = bootX l k (d.f k) := bootTo_get h l 4 (Nat.le_refl _) k hk
theorem bootTo_steps (d : Dk) (l : List Int) : ∀ n, (bootTo d l n).steps = d.steps ∧ (bootTo d l n).left = d.left
  | 0 => ⟨rfl, rfl⟩
  | n + 1 => bootTo_steps d l n
theorem DI.boot {us : Abs.Id → Bool} {m : Nat} {d : Dk} (h : DI us m d) (l : List Int) : DI us m (bootD d l) := by
  have hs : (bootD d l).steps = d.steps := (bootTo_steps d l 4).1
  have hl : (bootD d l).left = d.left := (bootTo_steps d l 4).2
  refine ⟨bootD_len h.len, bootD_okD h.ok, fun k hk => ?_, fun k j i hk hj _ hi => ?_, by rw [hs]; exact h.steps, ⟨fun hb => (by cases hb), by rw [hl]; exact h.left.2⟩⟩
  · rw [boot_f h.len l hk]
    have := bootN_len (h.f k hk) l k
    exact ⟨rfl, rfl, .inl rfl, fun i hi => (by cases hi), this, this, Nat.zero_le _, trivial, rfl, fun j => by cases j <;> exact this⟩
  · rw [boot_f h.len l hk] at hi
    cases hi
theorem DI.bootOK {us : Abs.Id → Bool} {m : Nat} {d : Dk} (h : DI us m d) (hm : m ≤ 1000000) : bootOK d := fun k hk => by
  have hF := h.f k hk
  exact ⟨hF.wf, hF.sf, by have := hF.len; omega, by have := hF.sure; omega⟩
theorem doesN_len (s : List (BitVec 8)) : ∀ c, ∀ m n : Nat, s.length ≤ m → (∀ b, c = .lay b → b.length ≤ n) → (doesN s c).length ≤ m + n
  | .lay b, m, n, h, hb => by rw [doesN_lay, List.length_append]; have := hb b rfl; omega
  | .cut z, m, n, h, _ => by rw [doesN_cut, List.length_take]; omega
theorem chNm {L : Nat} {s : Sc} {i : Abs.Id} (h : nmS s = some i) : ∃ l, s = .sl l (.own i 3) := by
  unfold nmS at h
  split at h
  · cases h; exact ⟨_, rfl⟩
  · cases h
/-- a name that is not yet given -/
theorem DI.fresh {us : Abs.Id → Bool} {m : Nat} {d : Dk} (h : DI us m d) {σ : AS} (hf : Fut 0 σ) {b : Bx} (hb : σ.box b = some (enc d)) {s g : Nat} (hg : σ.gen s < g) : σ.used ⟨0, s, 0, g⟩ = false ∧ ∀ j, j < 4 → nmS (d.f j).sc ≠ some ⟨0, s, 0, g⟩ := by
  have no : ¬ Made 0 σ ⟨0, s, 0, g⟩ := by
    rintro (h | ⟨_, h⟩)
    · exact absurd h (Nat.not_lt_zero _)
    · have h : g ≤ σ.gen s := h
      omega
  refine ⟨?_, fun j hj hn => ?_⟩
  · cases hq : σ.used ⟨0, s, 0, g⟩ with
    | false => rfl
    | true => exact absurd (hf.used _ hq) no
  · obtain ⟨l, hl⟩ := chNm (L := 0) hn
    have := enc_since h.len hj
    rw [hl, scA_sl] at this
    exact no (hf.box b _ _ _ _ _ _ hb this)
end Go.Proofs.Ytjnmdphoaafjaaa
