/- Two operations that do not look at each other may change places. -/
import Derived.Test.YteooikdcafodfaaDoorAs
namespace Go.Abs
set_option linter.unusedSimpArgs false
set_option linter.unusedVariables false
open Go Go.RowKit

mutual
/-- each box that a value leads to at once -/
def Men (p : Bx → Prop) : AV → Prop
  | .ptr b _ => p b
  | .view b _ _ _ _ => p b
  | .sl _ xs _ => MenL p xs
  | .agg xs => MenL p xs
  | .tup xs => MenL p xs
  | _ => True
def MenL (p : Bx → Prop) : List AV → Prop
  | [] => True
  | x :: xs => Men p x ∧ MenL p xs
end

mutual
theorem RV.men {μ : Bx → Option Nat} {G : Nat → Nat → Prop} {w : World} {p : Bx → Prop} (hp : ∀ b k, μ b = some k → p b) : ∀ (v : AV) (u : Value), RV μ G w v u → Men p v
  | .dead, _, _ => trivial
  | .raw _, _, _ => trivial
  | .anyb, _, _ => trivial
  | .sl n xs fl, u, h => by
    simp only [RV, Men] at h ⊢
    rcases h with ⟨_, _, h⟩ | ⟨k, o, c, us, _, _, h, _⟩
    · rw [h]; simp only [MenL]
    · exact RVs.men hp xs us h
  | .ptr b off, u, h => by simp only [RV, Men] at h ⊢; obtain ⟨k, h, _⟩ := h; exact hp _ _ h
  | .iptr xs, _, _ => trivial
  | .view b off n c z, u, h => by simp only [RV, Men] at h ⊢; obtain ⟨k, o, h, _⟩ := h; exact hp _ _ h
  | .agg xs, u, h => by simp only [RV, Men] at h ⊢; obtain ⟨us, _, h⟩ := h; exact RVs.men hp xs us h
  | .tup xs, u, h => by simp only [RV, Men] at h ⊢; obtain ⟨us, _, h⟩ := h; exact RVs.men hp xs us h
  | .fn _ _, _, _ => trivial
  | .nptr _, _, _ => trivial
theorem RVs.men {μ : Bx → Option Nat} {G : Nat → Nat → Prop} {w : World} {p : Bx → Prop} (hp : ∀ b k, μ b = some k → p b) : ∀ (xs : List AV) (us : List Value), RVs μ G w xs us → MenL p xs
  | [], _, _ => trivial
  | x :: xs, us, h => by
    simp only [RVs, MenL] at h ⊢
    obtain ⟨u, us', _, h1, h2⟩ := h
    exact ⟨RV.men hp x u h1, RVs.men hp xs us' h2⟩
end

section
variable {p : Bx → Prop} {bx bx' : Boxes}

mutual
theorem snap_box (hb : ∀ b, p b → bx b = bx' b) : ∀ v, Men p v → snap bx v = snap bx' v
  | .dead, _ => rfl
  | .raw _, _ => rfl
  | .anyb, _ => rfl
  | .sl n xs fl, h => by simp only [snap, Men] at h ⊢; rw [snapL_box hb xs h]
  | .ptr b off, _ => rfl
  | .iptr xs, _ => rfl
  | .view b off n c z, h => by simp only [snap, Men] at h ⊢; rw [hb b h]
  | .agg xs, h => by simp only [snap, Men] at h ⊢; rw [snapL_box hb xs h]
  | .tup xs, h => by simp only [snap, Men] at h ⊢; rw [snapL_box hb xs h]
  | .fn _ _, _ => rfl
  | .nptr _, _ => rfl
theorem snapL_box (hb : ∀ b, p b → bx b = bx' b) : ∀ xs, MenL p xs → snapL bx xs = snapL bx' xs
  | [], _ => rfl
  | x :: xs, h => by
    simp only [snapL, MenL] at h ⊢
    rw [snap_box hb x h.1, snapL_box hb xs h.2]
end

theorem snapAll_box (hb : ∀ b, p b → bx b = bx' b) : ∀ xs, (∀ x ∈ xs, Men p x) → snapAll bx xs = snapAll bx' xs
  | [], _ => rfl
  | x :: xs, h => by
    simp only [snapAll]
    rw [snap_box hb x (h x (by simp)), snapAll_box hb xs (fun y hy => h y (by simp [hy]))]

theorem slCells_box (hb : ∀ b, p b → bx b = bx' b) {sz : Nat} : ∀ v, Men p v → slCells bx sz v = slCells bx' sz v
  | .view b off n c z, h => by simp only [slCells, Men] at h ⊢; rw [hb b h]
  | .dead, _ => rfl
  | .raw v, _ => by unfold slCells; split <;> first | rfl | simp_all
  | .anyb, _ => rfl
  | .sl n xs fl, _ => rfl
  | .ptr b off, _ => rfl
  | .iptr xs, _ => rfl
  | .agg xs, _ => rfl
  | .tup xs, _ => rfl
  | .fn _ _, _ => rfl
  | .nptr _, _ => rfl

theorem srcV_box (hb : ∀ b, p b → bx b = bx' b) {te : TypeId → Option TI} {ti : TI} {t : TypeId} {v : AV} (h : Men p v) : srcV te bx ti t v = srcV te bx' ti t v := by
  unfold srcV
  split
  · rfl
  · exact slCells_box hb _ h
  · exact slCells_box hb _ h
  · rfl

theorem loadV_box (hb : ∀ b, p b → bx b = bx' b) {te : TypeId → Option TI} {t : TypeId} {v : AV} (h : Men p v) : loadV te bx t v = loadV te bx' t v := by
  unfold loadV
  split
  · simp only [Men] at h; rw [hb _ h]
  · rfl
  · rfl

theorem convV_box (hb : ∀ b, p b → bx b = bx' b) {E : Env} {d g : Nat} {s t : TypeId} {v : AV} (h : Men p v) : convV E d g bx s t v = convV E d g bx' s t v := by
  unfold convV
  split
  · rfl
  · rfl
  · rfl
  · split
    · split
      · rfl
      · rw [slCells_box hb _ h]
    · rfl
  · rfl

theorem appendV_box (hb : ∀ b, p b → bx b = bx' b) {E : Env} {d g : Nat} {used : Id → Bool} {ts : List TypeId} {s x : AV} (h1 : Men p s) (h2 : Men p x) : appendV E d g bx used ts s x = appendV E d g bx' used ts s x := by
  unfold appendV
  split
  · split
    · simp only [slCells_box hb _ h1, srcV_box hb h2]
    · rfl
  · rfl

theorem grow_box (hb : ∀ b, p b → bx b = bx' b) {E : Env} {lvl d g : Nat} {used : Id → Bool} {ρ : Operand → AV} (op : Op) (h : ∀ x ∈ op.operands, Men p (ρ x)) : grow E lvl d g ρ bx used op = grow E lvl d g ρ bx' used op := by
  cases op with
  | load t x => simp only [grow]; rw [loadV_box hb (h x (by simp [Op.operands]))]
  | convert s t x => simp only [grow]; rw [convV_box hb (h x (by simp [Op.operands]))]
  | call c =>
    obtain ⟨callee, args, ts⟩ := c
    have ha : ∀ x ∈ args.toList, Men p (ρ x) := fun x hx => h x (by simp [Op.operands, Call.operands]; exact .inr (by simpa using hx))
    cases callee with
    | builtin b =>
      cases b with
      | append =>
        simp only [grow]
        split
        · rename_i s x hs
          exact appendV_box hb (ha s (by rw [hs]; simp)) (ha x (by rw [hs]; simp))
        · rfl
      | _ => simp only [grow]
    | value f =>
      simp only [grow]
      rw [snapAll_box hb _ (fun y hy => by obtain ⟨x, hx, rfl⟩ := List.mem_map.1 hy; exact ha x hx)]
    | invoke r m => simp only [grow]
  | _ => simp only [grow]
end

theorem grow_rho {E : Env} {lvl d g : Nat} {bx : Boxes} {used : Id → Bool} {ρ ρ' : Operand → AV} (op : Op) (h : ∀ x ∈ op.operands, ρ x = ρ' x) : grow E lvl d g ρ bx used op = grow E lvl d g ρ' bx used op := by
  have pairs : ∀ ps : Array (Nat × Operand), (∀ x ∈ (ps.toList.map (·.2)).toArray, ρ x = ρ' x) → (ps.toList.map fun p => (p.1, ρ p.2)) = (ps.toList.map fun p => (p.1, ρ' p.2)) := fun ps hp =>
    List.map_congr_left fun p hm => by rw [hp p.2 (by simpa using ⟨p.1, by simpa using hm⟩)]
  cases op with
  | build t ps => simp only [grow]; rw [pairs ps (by simpa only [Op.operands] using h)]
  | buildSlice t n ps => simp only [grow]; rw [pairs ps (by simpa only [Op.operands] using h)]
  | makeFunc fn first caps =>
    have : caps.toList.map ρ = caps.toList.map ρ' := List.map_congr_left fun x hx => h x (by simp [Op.operands]; exact .inr (by simpa using hx))
    cases fn <;> simp only [grow]
    rw [this]
  | slice t x lo hi mx =>
    simp only [Op.operands] at h
    have h1 : ρ x = ρ' x := h x (by simp)
    have h2 : lo.map ρ = lo.map ρ' := by cases lo with | none => rfl | some y => simp only [Option.map_some]; rw [h y (by simp)]
    have h3 : hi.map ρ = hi.map ρ' := by cases hi with | none => rfl | some y => simp only [Option.map_some]; rw [h y (by simp)]
    have h4 : mx.map ρ = mx.map ρ' := by cases mx with | none => rfl | some y => simp only [Option.map_some]; rw [h y (by simp)]
    simp only [grow, h1, h2, h3, h4]
  | call c =>
    obtain ⟨callee, args, ts⟩ := c
    have ha : ∀ x ∈ args.toList, ρ x = ρ' x := fun x hx => h x (by simp [Op.operands, Call.operands]; exact .inr (by simpa using hx))
    have hm : args.toList.map ρ = args.toList.map ρ' := List.map_congr_left ha
    cases callee with
    | builtin b =>
      cases b with
      | append =>
        simp only [grow]
        split
        · rename_i s x hs
          rw [ha s (by rw [hs]; simp), ha x (by rw [hs]; simp)]
        · rfl
      | len =>
        simp only [grow]
        split
        · rename_i x t ts' hx ht
          rw [ha x (by rw [hx]; simp)]
        · rfl
      | min =>
        simp only [grow]
        split
        · rename_i x y hs
          rw [ha x (by rw [hs]; simp), ha y (by rw [hs]; simp)]
        · rfl
      | _ => simp only [grow]
    | value f =>
      have hf : ρ f = ρ' f := h f (by simp [Op.operands, Call.operands])
      simp only [grow, hf, hm]
    | invoke r m => simp only [grow]
  | _ => (simp only [Op.operands] at h; first | (simp only [grow]; done) | (simp at h; simp only [grow, h]; done) | (simp at h; simp only [grow, h.1, h.2]; done) | (simp at h; simp only [grow, h.1, h.2.1, h.2.2]; done))

theorem room_used {sz m : Nat} {used used' : Id → Bool} {v : AV} {u : Option Id} (h : room sz m used v = some u) (hu : ∀ k, u = some k → used' k = false) : room sz m used' v = some u ∧ ∀ k, u = some k → used k = false := by
  unfold room at h ⊢
  split at h
  · cases h; exact ⟨rfl, by simp⟩
  · split at h
    · cases h
    · cases h; simp [*]
  · split at h
    · rename_i i z hc
      cases h
      exact ⟨by rw [if_pos ⟨hu i rfl, hc.2⟩], fun k hk => by cases hk; exact hc.1⟩
    · cases h
  · cases h

theorem grow_used {E : Env} {lvl d g : Nat} {bx : Boxes} {used used' : Id → Bool} {ρ : Operand → AV} {op : Op} {r : GR} (h : grow E lvl d g ρ bx used op = some r) (hu : ∀ k, r.use = some k → used' k = false) :
    grow E lvl d g ρ bx used' op = some r := by
  cases op with
  | call c =>
    obtain ⟨callee, args, ts⟩ := c
    cases callee with
    | builtin b =>
      cases b with
      | append =>
        simp only [grow] at h ⊢
        split at h
        · unfold appendV at h ⊢
          split at h
          · split at h
            · simp only [Option.bind_eq_some_iff] at h ⊢
              obtain ⟨ti, h1, p, h2, q, h3, u, h4, h5⟩ := h
              split at h5
              · rename_i hc
                cases h5
                exact ⟨ti, h1, p, h2, q, h3, u, (room_used h4 hu).1, by rw [if_pos hc]⟩
              · cases h5
            · cases h
          · cases h
        · cases h
      | _ => first | exact h | (simp only [grow] at h ⊢; exact h)
    | _ => first | exact h | (simp only [grow] at h ⊢; exact h)
  | convert s t x =>
    simp only [grow] at h ⊢
    split at h
    · rename_i hs
      rw [if_pos hs]
      unfold convSelf at h ⊢
      split at h
      · split at h
        · split at h
          · split at h
            · rename_i hc
              cases h
              obtain ⟨rfl, h1, h2⟩ := hc
              have h3 := hu _ rfl
              simp [*]
            · cases h
          · cases h
        · cases h
      · cases h
    · rename_i hs
      rw [if_neg hs]; exact h
  | _ => first | exact h | (simp only [grow] at h ⊢; exact h)

theorem map_use {α : Type} {x : Option α} {f : α → GR} {r : GR} {k : Id} (h : x.map f = some r) (hk : r.use = some k) (hf : ∀ v, (f v).use = none) : False := by
  obtain ⟨v, _, rfl⟩ := Option.map_eq_some_iff.1 h
  rw [hf] at hk; cases hk

theorem freshSl_use {E : Env} {lvl d g n sz : Nat} {xs : List AV} : (freshSl E lvl d g n sz xs).use = none := by unfold freshSl; split <;> rfl

theorem grow_use {E : Env} {lvl d g : Nat} {bx : Boxes} {used : Id → Bool} {ρ : Operand → AV} {op : Op} {r : GR} {k : Id} (h : grow E lvl d g ρ bx used op = some r) (hk : r.use = some k) : used k = false := by
  cases op with
  | call c =>
    obtain ⟨callee, args, ts⟩ := c
    cases callee with
    | builtin b =>
      cases b with
      | append =>
        simp only [grow] at h
        split at h
        · unfold appendV at h
          split at h
          · split at h
            · simp only [Option.bind_eq_some_iff] at h
              obtain ⟨ti, h1, p, h2, q, h3, u, h4, h5⟩ := h
              split at h5
              · cases h5
                exact (room_used (used' := fun _ => false) h4 (fun _ _ => rfl)).2 k hk
              · cases h5
            · cases h
          · cases h
        · cases h
      | len =>
        simp only [grow] at h
        split at h
        · exact (map_use h hk fun _ => rfl).elim
        · cases h
      | min =>
        simp only [grow] at h
        split at h
        · exact (map_use h hk fun _ => rfl).elim
        · cases h
      | _ => simp only [grow] at h; cases h
    | value f =>
      simp only [grow] at h
      split at h
      · split at h
        · simp only [Option.bind_eq_some_iff] at h
          obtain ⟨_, _, _, _, h⟩ := h
          split at h
          · cases h; cases hk
          · cases h
        · cases h
      · cases h
    | invoke x m => simp only [grow] at h; cases h
  | move x => simp only [grow] at h; cases h; cases hk
  | assign x => simp only [grow] at h; cases h; cases hk
  | pick c x y =>
    simp only [grow] at h
    split at h
    · cases h; cases hk
    · cases h
  | alloc t => simp only [grow] at h; exact (map_use h hk fun _ => rfl).elim
  | box t x =>
    simp only [grow, Option.bind_eq_some_iff] at h
    obtain ⟨ti, ht, cs, hc, h⟩ := h
    split at h
    · cases h; cases hk
    · cases h
  | build t ps =>
    simp only [grow, Option.bind_eq_some_iff] at h
    obtain ⟨ti, ht, h⟩ := h
    split at h
    · exact (map_use h hk fun _ => rfl).elim
    · cases h
  | buildSlice t n ps =>
    simp only [grow] at h
    split at h
    · simp only [Option.bind_eq_some_iff] at h
      obtain ⟨ti, ht, h⟩ := h
      split at h
      · exact (map_use h hk fun _ => freshSl_use).elim
      · cases h
    · cases h
  | load t x => simp only [grow] at h; exact (map_use h hk fun _ => rfl).elim
  | nilCheck x =>
    simp only [grow] at h
    split at h
    · cases h; cases hk
    · cases h; cases hk
    · cases h; cases hk
    · cases h
  | binOp op t x y ty => simp only [grow] at h; exact (map_use h hk fun _ => rfl).elim
  | unOp op t x => simp only [grow] at h; exact (map_use h hk fun _ => rfl).elim
  | convert s t x =>
    simp only [grow] at h
    split at h
    · unfold convSelf at h
      split at h
      · split at h
        · split at h
          · split at h
            · rename_i hc
              cases h; cases hk; exact hc.2.1
            · cases h
          · cases h
        · cases h
      · cases h
    unfold convV at h
    split at h
    · cases h; cases hk
    · cases h; cases hk
    · split at h
      · split at h
        · cases h
        · cases h; cases hk
      · cases h
    · split at h
      · split at h
        · cases h
        · simp only [Option.bind_eq_some_iff] at h
          obtain ⟨_, _, h⟩ := h
          exact (map_use h hk fun _ => rfl).elim
      · cases h
    · cases h
  | sliceToArrayPointer t x =>
    simp only [grow] at h
    split at h
    · split at h
      · cases h; cases hk
      · cases h
    · split at h
      · cases h; cases hk
      · cases h
    · cases h
  | makeFunc fn first caps =>
    simp only [grow] at h
    split at h
    · split at h
      · cases h; cases hk
      · cases h
    · cases h
  | makeSlice t l c =>
    simp only [grow, makeV] at h
    split at h
    · simp only [Option.bind_eq_some_iff] at h
      obtain ⟨_, _, h⟩ := h
      split at h
      · split at h
        · cases h; cases hk
        · cases h; cases hk
      · cases h
    · cases h
  | slice t x lo hi mx => simp only [grow] at h; exact (map_use h hk fun _ => rfl).elim
  | fieldAddr s x f => simp only [grow] at h; exact (map_use h hk fun _ => rfl).elim
  | field t x f => simp only [grow] at h; exact (map_use h hk fun _ => rfl).elim
  | indexAddr t x i => simp only [grow] at h; exact (map_use h hk fun _ => rfl).elim
  | index t x i => simp only [grow] at h; exact (map_use h hk fun _ => rfl).elim
  | extract x i =>
    simp only [grow] at h
    split at h
    · split at h
      · cases h
      · cases h; cases hk
      · cases h
    · cases h
  | _ => simp only [grow] at h; cases h
end Go.Abs
