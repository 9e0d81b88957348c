/- One operation; a region in the order of the text; a function's body. -/
import Derived.Test.YteooikdcafodfaaDoorAo
namespace Go.Abs
set_option linter.unusedSimpArgs false
set_option linter.unusedVariables false
open Go Go.RowKit

/-- the environment says of the program what is so -/
structure EnvOK (P : Program) (E : Env) : Prop where
  te : TeOK P E.te
  tbl : ∀ f pf, E.tbl f = some (.val pf) → SoundV P E.glob f pf

/-- a function's entry: its globals are there -/
structure EntOK (E : Env) (N : Ent) : Prop where
  cell : ∀ k o, N.G0 k o → (at_ N.w0 k o).isSome
  glob : ∀ gi xs, E.glob gi = some xs → RV noMu N.G0 N.w0 (.iptr xs) (.pointer (some ⟨gi, 0, none⟩))

section
variable {P : Program} {N : Ent} {g : Ghost} {box : Boxes} {w : World} {o : Oper} {a : Act} {d : Nat} {ρ : Operand → AV} {E : Env}

theorem Valid.globs (hv : Valid N g box w) (hN : EntOK E N) : ∀ gi xs, E.glob gi = some xs → RV noMu g.G w (.iptr xs) (.pointer (some ⟨gi, 0, none⟩)) := fun gi xs h =>
  RV.mono (fun _ _ h => h) hv.sub (fun k o h0 => at_of_block (hv.chg.block k (at_lt (hN.cell k o h0)) (fun ⟨b, hb⟩ => hv.gmu k o b (hv.sub k o h0) (hv.ext b k hb)))) _ _ (hN.glob gi xs h)

theorem ev_rel (hv : Valid N g box w) (hN : EntOK E N) {sl : Nat → AV} (hs : Slots g w sl a) : Rel g w a (ev E sl) := by
  intro x
  cases x with
  | tmp t => exact hs t
  | const v =>
    refine ⟨RV.ofV v, ?_⟩
    cases v <;> trivial
  | global gi =>
    simp only [ev, Act.eval]
    split
    · rename_i xs h
      exact ⟨RV.mono (fun _ _ h => by cases h) (fun _ _ h => h) (fun _ _ _ => rfl) _ _ (hv.globs hN gi xs h), trivial⟩
    · exact ⟨by simp only [RV], trivial⟩
  | func f =>
    simp only [ev, Act.eval]
    exact ⟨by simp only [RV, RVs]; exact ⟨[], rfl, rfl⟩, trivial⟩

theorem grow_sound (hE : EnvOK P E) (hN : EntOK E N) (hv : Valid N g box w) (hρ : Rel g w a ρ) (hd : o.dst = some d) {r : GR} (h : grow E N.lvl d (g.U d + 1) ρ box g.D o.op = some r) : SOut P N g box w o a d r := by
  have hte := hE.te
  cases hop : o.op with
  | move x => rw [hop] at h; simp only [grow] at h; cases h; exact (out_move hv hρ x (.inl hop)).step
  | assign x => rw [hop] at h; simp only [grow] at h; cases h; exact (out_move hv hρ x (.inr hop)).step
  | pick c x y =>
    rw [hop] at h; simp only [grow] at h
    split at h
    · cases h; exact (out_pick hv hρ c x y hop ‹_›).step
    · cases h
  | alloc t =>
    rw [hop] at h; simp only [grow, Option.map_eq_some_iff] at h
    obtain ⟨ti, ht, rfl⟩ := h
    exact (out_alloc hte hv t ht hop).step
  | box t x =>
    rw [hop] at h; simp only [grow, Option.bind_eq_some_iff] at h
    obtain ⟨ti, ht, cs, hc, h⟩ := h
    split at h
    · cases h; exact (out_box hv hρ t x hop hc).step
    · cases h
  | build t ps =>
    rw [hop] at h; simp only [grow, Option.bind_eq_some_iff] at h
    obtain ⟨ti, ht, h⟩ := h
    split at h
    · rename_i hc
      simp only [Option.map_eq_some_iff] at h
      obtain ⟨cs, h1, rfl⟩ := h
      exact (out_build hte hv hρ t ps hop ht hc.1 hc.2 h1).step
    · cases h
  | buildSlice t n ps =>
    rw [hop] at h; simp only [grow] at h
    split at h
    · rename_i e hk
      simp only [Option.bind_eq_some_iff] at h
      obtain ⟨ti, ht, h⟩ := h
      split at h
      · rename_i hn
        simp only [Option.map_eq_some_iff] at h
        obtain ⟨cs, h1, rfl⟩ := h
        exact (out_buildSlice rfl hte hv hρ t n ps hop hk ht hn h1).step
      · cases h
    · cases h
  | load t x =>
    rw [hop] at h; simp only [grow, Option.map_eq_some_iff] at h
    obtain ⟨v, h1, rfl⟩ := h
    exact (out_load hte hv hρ t x hop h1).step
  | nilCheck x =>
    rw [hop] at h; simp only [grow] at h
    refine (GOut.step ?_)
    have : ∃ v, r = { v } ∧ (match ρ x with | .ptr b o => some (AV.ptr b o) | .iptr xs => some (.iptr xs) | .fn f cs => some (.fn f cs) | _ => none) = some v := by
      revert h; cases ρ x <;> intro h <;> simp only [reduceCtorEq, Option.some.injEq] at h <;> exact ⟨_, h.symm, rfl⟩
    obtain ⟨v, rfl, h1⟩ := this
    exact out_nilCheck hv hρ x hop h1
  | binOp op t x y ty =>
    rw [hop] at h; simp only [grow, Option.map_eq_some_iff] at h
    obtain ⟨v, h1, rfl⟩ := h
    exact (out_binOp hte hv hρ op t x y ty hop h1).step
  | unOp op t x =>
    rw [hop] at h; simp only [grow, Option.map_eq_some_iff] at h
    obtain ⟨v, h1, rfl⟩ := h
    exact (out_unOp hv hρ op t x hop h1).step
  | convert s t x =>
    rw [hop] at h; simp only [grow] at h
    split at h
    · exact (out_convSelf rfl hte hv hρ s t x hop h).step
    · exact (out_convert rfl hte hv hρ s t x hop h).step
  | sliceToArrayPointer t x =>
    rw [hop] at h; simp only [grow] at h
    refine (GOut.step ?_)
    have : ∃ v, r = { v } ∧ (match kd E.te t, ρ x with | .arr n _, .sl m xs _ => if n ≤ m ∧ 0 < n then some (AV.iptr xs) else none | .arr n _, .view b off m _ _ => if n ≤ m ∧ 0 < n then some (.ptr b off) else none | _, _ => none) = some v := by
      split at h
      · split at h
        · cases h; exact ⟨_, rfl, by simp only [*]; simp⟩
        · cases h
      · split at h
        · cases h; exact ⟨_, rfl, by simp only [*]; simp⟩
        · cases h
      · cases h
    obtain ⟨v, rfl, h1⟩ := this
    exact out_toArray hte hv hρ t x hop h1
  | makeFunc fn first caps =>
    rw [hop] at h; simp only [grow] at h
    split at h
    · split at h
      · cases h; exact (out_makeFunc hv hρ _ first caps hop ‹_›).step
      · cases h
    · cases h
  | makeSlice t l c => rw [hop] at h; simp only [grow] at h; exact (out_make rfl hte hv hρ t l c hop h).step
  | slice t x lo hi mx =>
    rw [hop] at h; simp only [grow, Option.map_eq_some_iff] at h
    obtain ⟨v, h1, rfl⟩ := h
    exact (out_slice hte hv hρ t x lo hi mx hop h1).step
  | fieldAddr s x f =>
    rw [hop] at h; simp only [grow, Option.map_eq_some_iff] at h
    obtain ⟨v, h1, rfl⟩ := h
    exact (out_fieldAddr hte hv hρ s x f hop h1).step
  | field t x f =>
    rw [hop] at h; simp only [grow, Option.map_eq_some_iff] at h
    obtain ⟨v, h1, rfl⟩ := h
    exact (out_field hte hv hρ t x f hop h1).step
  | indexAddr t x i =>
    rw [hop] at h; simp only [grow, Option.map_eq_some_iff] at h
    obtain ⟨v, h1, rfl⟩ := h
    exact (out_indexAddr hte hv hρ t x i hop h1).step
  | index t x i =>
    rw [hop] at h; simp only [grow, Option.map_eq_some_iff] at h
    obtain ⟨v, h1, rfl⟩ := h
    exact (out_index hte hv hρ t x i hop h1).step
  | extract x i =>
    rw [hop] at h; simp only [grow] at h
    split at h
    · rename_i vs hx
      split at h
      · cases h
      · rename_i v hnt hvi
        cases h
        exact (out_extract hv hρ x i hop hx hvi (fun vs e => by subst e; exact hnt vs rfl)).step
      · cases h
    · cases h
  | call c =>
    obtain ⟨callee, args, ts⟩ := c
    rw [hop] at h
    cases callee with
    | builtin b =>
      cases b with
      | append =>
        simp only [grow] at h
        split at h
        · exact (out_append rfl hte hv hρ _ _ args ts hop ‹_› h).step
        · cases h
      | len =>
        simp only [grow] at h
        split at h
        · simp only [Option.map_eq_some_iff] at h
          obtain ⟨v, h1, rfl⟩ := h
          exact (out_len hte hv hρ _ _ args ts hop ‹_› _ ‹_› h1).step
        · cases h
      | min =>
        simp only [grow] at h
        split at h
        · simp only [Option.map_eq_some_iff] at h
          obtain ⟨v, h1, rfl⟩ := h
          exact (out_min hv hρ _ _ args ts hop ‹_› h1).step
        · cases h
      | _ => simp only [grow] at h; cases h
    | value f =>
      simp only [grow] at h
      split at h
      · rename_i fid hf
        split at h
        · rename_i pf hp
          simp only [Option.bind_eq_some_iff] at h
          obtain ⟨as, h1, r', h2, h3⟩ := h
          split at h3
          · rename_i hc
            cases h3
            exact out_callV (hv.globs hN) hv hρ f args ts hop hf (hE.tbl _ _ hp) h1 h2 hc.2 hd
          · cases h3
        · cases h
      · cases h
    | invoke r m => simp only [grow] at h; cases h
  | _ => rw [hop] at h; simp only [grow] at h; cases h

/-- an operation that writes -/
theorem write_sound (hE : EnvOK P E) (hv : Valid N g box w) (hρ : Rel g w a ρ) {v : AV} {box' : Boxes} (h : write E ρ box o.op = some (v, box')) : WOut P N g w o a v box' := by
  have hte := hE.te
  cases hop : o.op with
  | store t x y =>
    rw [hop] at h; simp only [write, Option.map_eq_some_iff] at h
    obtain ⟨b, h1, h2⟩ := h
    cases h2
    exact out_store hte hv hρ t x y hop h1
  | call c =>
    obtain ⟨callee, args, ts⟩ := c
    rw [hop] at h
    cases callee with
    | builtin b =>
      cases b with
      | copy =>
        simp only [write] at h
        split at h
        · simp only [Option.map_eq_some_iff] at h
          obtain ⟨⟨n, b⟩, h1, h2⟩ := h
          cases h2
          exact out_copy hte hv hρ _ _ args ts _ _ hop ‹_› ‹_› h1
        · cases h
      | _ => simp only [write] at h; cases h
    | _ => simp only [write] at h; cases h
  | _ => rw [hop] at h; simp only [write] at h; cases h
end
end Go.Abs
