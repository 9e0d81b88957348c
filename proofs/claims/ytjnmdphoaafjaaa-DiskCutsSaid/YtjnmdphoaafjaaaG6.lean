/- The order of operations. -/
import Derived.Test.YtjnmdphoaafjaaaG5
/- Two operations that do not look at each other may change places. -/
namespace Go.Abs
set_option linter.unusedSimpArgs false
set_option linter.unusedVariables false
open Go Go.RowKit

mutual
/-- each box that a value leads to at once -/
def Men (p : Bx → Prop) : AV → Prop
  | .ptr b _ => p b
  | .view b _ _ _ _ => p b
  | .sl _ xs _ => MenL p xs
  | .agg xs => MenL p xs
  | .tup xs => MenL p xs
  | .fn _ xs => MenL p xs
  | _ => True
def MenL (p : Bx → Prop) : List AV → Prop
  | [] => True
  | x :: xs => Men p x ∧ MenL p xs
end

mutual
theorem RV.men {μ : Bx → Option Nat} {G : Nat → Nat → Prop} {w : World} {p : Bx → Prop} (hp : ∀ b k, μ b = some k → p b) : ∀ (v : AV) (u : Value), RV μ G w v u → Men p v
  | .dead, _, _ => trivial
  | .raw _, _, _ => trivial
  | .anyb, _, _ => trivial
  | .sl n xs fl, u, h => by
    simp only [RV, Men] at h ⊢
    rcases h with ⟨_, _, h⟩ | ⟨k, o, c, us, _, _, h, _⟩
    · rw [h]; simp only [MenL]
    · exact RVs.men hp xs us h
  | .ptr b off, u, h => by simp only [RV, Men] at h ⊢; obtain ⟨k, h, _⟩ := h; exact hp _ _ h
  | .iptr xs, _, _ => trivial
  | .view b off n c z, u, h => by simp only [RV, Men] at h ⊢; obtain ⟨k, o, _, h, _⟩ := h; exact hp _ _ h
  | .agg xs, u, h => by simp only [RV, Men] at h ⊢; obtain ⟨us, _, h⟩ := h; exact RVs.men hp xs us h
  | .tup xs, u, h => by simp only [RV, Men] at h ⊢; obtain ⟨us, _, h⟩ := h; exact RVs.men hp xs us h
  | .fn f xs, u, h => by simp only [RV, Men] at h ⊢; obtain ⟨us, _, h⟩ := h; exact RVs.men hp xs us h
  | .nptr _, _, _ => trivial
theorem RVs.men {μ : Bx → Option Nat} {G : Nat → Nat → Prop} {w : World} {p : Bx → Prop} (hp : ∀ b k, μ b = some k → p b) : ∀ (xs : List AV) (us : List Value), RVs μ G w xs us → MenL p xs
  | [], _, _ => trivial
  | x :: xs, us, h => by
    simp only [RVs, MenL] at h ⊢
    obtain ⟨u, us', _, h1, h2⟩ := h
    exact ⟨RV.men hp x u h1, RVs.men hp xs us' h2⟩
end

section
variable {p : Bx → Prop} {bx bx' : Boxes}

mutual
theorem snap_box (hb : ∀ b, p b → bx b = bx' b) : ∀ v, Men p v → snap bx v = snap bx' v
  | .dead, _ => rfl
  | .raw _, _ => rfl
  | .anyb, _ => rfl
  | .sl n xs fl, h => by simp only [snap, Men] at h ⊢; rw [snapL_box hb xs h]
  | .ptr b off, h => by simp only [snap, Men] at h ⊢; rw [hb b h]
  | .iptr xs, _ => rfl
  | .view b off n c z, h => by simp only [snap, Men] at h ⊢; rw [hb b h]
  | .agg xs, h => by simp only [snap, Men] at h ⊢; rw [snapL_box hb xs h]
  | .tup xs, h => by simp only [snap, Men] at h ⊢; rw [snapL_box hb xs h]
  | .fn _ _, _ => rfl
  | .nptr _, _ => rfl
theorem snapL_box (hb : ∀ b, p b → bx b = bx' b) : ∀ xs, MenL p xs → snapL bx xs = snapL bx' xs
  | [], _ => rfl
  | x :: xs, h => by
    simp only [snapL, MenL] at h ⊢
    rw [snap_box hb x h.1, snapL_box hb xs h.2]
end

theorem snapAll_box (hb : ∀ b, p b → bx b = bx' b) : ∀ xs, (∀ x ∈ xs, Men p x) → snapAll bx xs = snapAll bx' xs
  | [], _ => rfl
  | x :: xs, h => by
    simp only [snapAll]
    rw [snap_box hb x (h x (by simp)), snapAll_box hb xs (fun y hy => h y (by simp [hy]))]

theorem slCells_box (hb : ∀ b, p b → bx b = bx' b) {sz : Nat} : ∀ v, Men p v → slCells bx sz v = slCells bx' sz v
  | .view b off n c z, h => by simp only [slCells, Men] at h ⊢; rw [hb b h]
  | .dead, _ => rfl
  | .raw v, _ => by unfold slCells; split <;> first | rfl | simp_all
  | .anyb, _ => rfl
  | .sl n xs fl, _ => rfl
  | .ptr b off, _ => rfl
  | .iptr xs, _ => rfl
  | .agg xs, _ => rfl
  | .tup xs, _ => rfl
  | .fn _ _, _ => rfl
  | .nptr _, _ => rfl

theorem srcV_box (hb : ∀ b, p b → bx b = bx' b) {te : TypeId → Option TI} {ti : TI} {t : TypeId} {v : AV} (h : Men p v) : srcV te bx ti t v = srcV te bx' ti t v := by
  unfold srcV
  split
  · rfl
  · exact slCells_box hb _ h
  · exact slCells_box hb _ h
  · rfl

theorem loadV_box (hb : ∀ b, p b → bx b = bx' b) {te : TypeId → Option TI} {t : TypeId} {v : AV} (h : Men p v) : loadV te bx t v = loadV te bx' t v := by
  unfold loadV
  split
  · simp only [Men] at h; rw [hb _ h]
  · rfl
  · rfl

theorem convV_box (hb : ∀ b, p b → bx b = bx' b) {E : Env} {lvl d g : Nat} {s t : TypeId} {v : AV} (h : Men p v) : convV E lvl d g bx s t v = convV E lvl d g bx' s t v := by
  unfold convV
  split
  · rfl
  · rfl
  · rfl
  · split
    · split
      · rfl
      · rw [slCells_box hb _ h]
    · rfl
  · rfl

theorem appendV_box (hb : ∀ b, p b → bx b = bx' b) {E : Env} {lvl d g : Nat} {used : Id → Bool} {ts : List TypeId} {s x : AV} (h1 : Men p s) (h2 : Men p x) : appendV E lvl d g bx used ts s x = appendV E lvl d g bx' used ts s x := by
  unfold appendV
  split
  · split
    · simp only [slCells_box hb _ h1, srcV_box hb h2]
    · rfl
  · rfl

theorem MenL.all : ∀ {xs : List AV}, MenL p xs → ∀ x ∈ xs, Men p x
  | [], _, x, h => by cases h
  | y :: xs, hm, x, h => by
    simp only [MenL] at hm
    rcases List.mem_cons.1 h with rfl | h
    · exact hm.1
    · exact MenL.all hm.2 x h

theorem grow_box (hb : ∀ b, p b → bx b = bx' b) {E : Env} {lvl d g : Nat} {used : Id → Bool} {ρ : Operand → AV} (op : Op) (hg : isGen E op = false) (h : ∀ x ∈ op.operands, Men p (ρ x)) : grow E lvl d g ρ bx used op = grow E lvl d g ρ bx' used op := by
  cases op with
  | load t x => simp only [grow]; rw [loadV_box hb (h x (by simp [Op.operands]))]
  | convert s t x => simp only [grow]; rw [convV_box hb (h x (by simp [Op.operands]))]
  | call c =>
    obtain ⟨callee, args, ts⟩ := c
    have ha : ∀ x ∈ args.toList, Men p (ρ x) := fun x hx => h x (by simp [Op.operands, Call.operands]; exact .inr (by simpa using hx))
    cases callee with
    | builtin b =>
      cases b with
      | append =>
        simp only [grow]
        split
        · rename_i s x hs
          exact appendV_box hb (ha s (by rw [hs]; simp)) (ha x (by rw [hs]; simp))
        · rfl
      | _ => simp only [grow]
    | value f =>
      have hfm := h f (by simp [Op.operands, Call.operands])
      simp only [grow]
      split
      · rename_i f' caps hf
        split
        · rw [hf] at hfm
          simp only [Men] at hfm
          rw [snapAll_box hb _ (fun y hy => by
            rcases List.mem_append.1 hy with hy | hy
            · obtain ⟨x, hx, rfl⟩ := List.mem_map.1 hy; exact ha x hx
            · exact hfm.all y hy)]
        · rw [if_neg (by rw [hg]; simp), if_neg (by rw [hg]; simp)]
        · rfl
      · rfl
    | invoke r m => simp only [grow]
  | _ => simp only [grow]
end

theorem grow_rho {E : Env} {lvl d g : Nat} {bx : Boxes} {used : Id → Bool} {ρ ρ' : Operand → AV} (op : Op) (h : ∀ x ∈ op.operands, ρ x = ρ' x) : grow E lvl d g ρ bx used op = grow E lvl d g ρ' bx used op := by
  have pairs : ∀ ps : Array (Nat × Operand), (∀ x ∈ (ps.toList.map (·.2)).toArray, ρ x = ρ' x) → (ps.toList.map fun p => (p.1, ρ p.2)) = (ps.toList.map fun p => (p.1, ρ' p.2)) := fun ps hp =>
    List.map_congr_left fun p hm => by rw [hp p.2 (by simpa using ⟨p.1, by simpa using hm⟩)]
  cases op with
  | build t ps => simp only [grow]; rw [pairs ps (by simpa only [Op.operands] using h)]
  | buildSlice t n ps => simp only [grow]; rw [pairs ps (by simpa only [Op.operands] using h)]
  | makeFunc fn first caps =>
    have : caps.toList.map ρ = caps.toList.map ρ' := List.map_congr_left fun x hx => h x (by simp [Op.operands]; exact .inr (by simpa using hx))
    cases fn <;> simp only [grow]
    rw [this]
  | slice t x lo hi mx =>
    simp only [Op.operands] at h
    have h1 : ρ x = ρ' x := h x (by simp)
    have h2 : lo.map ρ = lo.map ρ' := by cases lo with | none => rfl | some y => simp only [Option.map_some]; rw [h y (by simp)]
    have h3 : hi.map ρ = hi.map ρ' := by cases hi with | none => rfl | some y => simp only [Option.map_some]; rw [h y (by simp)]
    have h4 : mx.map ρ = mx.map ρ' := by cases mx with | none => rfl | some y => simp only [Option.map_some]; rw [h y (by simp)]
    simp only [grow, h1, h2, h3, h4]
  | call c =>
    obtain ⟨callee, args, ts⟩ := c
    have ha : ∀ x ∈ args.toList, ρ x = ρ' x := fun x hx => h x (by simp [Op.operands, Call.operands]; exact .inr (by simpa using hx))
    have hm : args.toList.map ρ = args.toList.map ρ' := List.map_congr_left ha
    cases callee with
    | builtin b =>
      cases b with
      | append =>
        simp only [grow]
        split
        · rename_i s x hs
          rw [ha s (by rw [hs]; simp), ha x (by rw [hs]; simp)]
        · rfl
      | len =>
        simp only [grow]
        split
        · rename_i x t ts' hx ht
          rw [ha x (by rw [hx]; simp)]
        · rfl
      | min =>
        simp only [grow]
        split
        · rename_i x y hs
          rw [ha x (by rw [hs]; simp), ha y (by rw [hs]; simp)]
        · rfl
      | _ => simp only [grow]
    | value f =>
      have hf : ρ f = ρ' f := h f (by simp [Op.operands, Call.operands])
      simp only [grow, hf, hm]
    | invoke r m => simp only [grow]
  | _ => (simp only [Op.operands] at h; first | (simp only [grow]; done) | (simp at h; simp only [grow, h]; done) | (simp at h; simp only [grow, h.1, h.2]; done) | (simp at h; simp only [grow, h.1, h.2.1, h.2.2]; done))

theorem room_used {sz m : Nat} {used used' : Id → Bool} {v : AV} {u : Option Id} (h : room sz m used v = some u) (hu : ∀ k, u = some k → used' k = false) : room sz m used' v = some u ∧ ∀ k, u = some k → used k = false := by
  unfold room at h ⊢
  split at h
  · cases h; exact ⟨rfl, by simp⟩
  · split at h
    · cases h
    · cases h; simp [*]
  · split at h
    · rename_i i z hc
      cases h
      exact ⟨by rw [if_pos ⟨hu i rfl, hc.2⟩], fun k hk => by cases hk; exact hc.1⟩
    · cases h
  · cases h

theorem grow_used {E : Env} {lvl d g : Nat} {bx : Boxes} {used used' : Id → Bool} {ρ : Operand → AV} {op : Op} {r : GR} (h : grow E lvl d g ρ bx used op = some r) (hg : isGen E op = false) (hu : ∀ k, r.use = some k → used' k = false) :
    grow E lvl d g ρ bx used' op = some r := by
  cases op with
  | call c =>
    obtain ⟨callee, args, ts⟩ := c
    cases callee with
    | builtin b =>
      cases b with
      | append =>
        simp only [grow] at h ⊢
        split at h
        · unfold appendV at h ⊢
          split at h
          · split at h
            · simp only [Option.bind_eq_some_iff] at h ⊢
              obtain ⟨ti, h1, p, h2, q, h3, h⟩ := h
              refine ⟨ti, h1, p, h2, q, h3, ?_⟩
              split at h
              · rename_i hf; rw [if_pos hf]; exact h
              rename_i hf
              rw [if_neg hf]
              simp only [Option.bind_eq_some_iff] at h ⊢
              obtain ⟨u, h4, h5⟩ := h
              split at h5
              · rename_i hc
                split at h5
                · rename_i hm
                  cases h5
                  exact ⟨u, (room_used h4 hu).1, by rw [if_pos hc, if_pos hm]⟩
                · rename_i hm
                  split at h5
                  · rename_i hq
                    cases h5
                    exact ⟨u, (room_used h4 (fun k hk => by rw [hq.1] at hk; cases hk)).1, by rw [if_pos hc, if_neg hm, if_pos hq]⟩
                  · cases h5
              · cases h5
            · cases h
          · cases h
        · cases h
      | _ => first | exact h | (simp only [grow] at h ⊢; exact h)
    | value f =>
      simp only [grow] at h ⊢
      split at h
      · split at h
        · exact h
        · rw [if_neg (by rw [hg]; simp)] at h; cases h
        · cases h
      · cases h
    | _ => first | exact h | (simp only [grow] at h ⊢; exact h)
  | convert s t x =>
    simp only [grow] at h ⊢
    split at h
    · rename_i hs
      rw [if_pos hs]
      unfold convSelf at h ⊢
      split at h
      · split at h
        · split at h
          · split at h
            · rename_i hc
              cases h
              obtain ⟨rfl, h1, h2⟩ := hc
              have h3 := hu _ rfl
              simp [*]
            · cases h
          · cases h
        · cases h
      · cases h
    · rename_i hs
      rw [if_neg hs]; exact h
  | _ => first | exact h | (simp only [grow] at h ⊢; exact h)

theorem map_use {α : Type} {x : Option α} {f : α → GR} {r : GR} {k : Id} (h : x.map f = some r) (hk : r.use = some k) (hf : ∀ v, (f v).use = none) : False := by
  obtain ⟨v, _, rfl⟩ := Option.map_eq_some_iff.1 h
  rw [hf] at hk; cases hk

theorem freshSl_use {E : Env} {lvl d g n sz : Nat} {xs : List AV} : (freshSl E lvl d g n sz xs).use = none := by unfold freshSl; split <;> (try split) <;> rfl

theorem grow_use {E : Env} {lvl d g : Nat} {bx : Boxes} {used : Id → Bool} {ρ : Operand → AV} {op : Op} {r : GR} {k : Id} (h : grow E lvl d g ρ bx used op = some r) (hg : isGen E op = false) (hk : r.use = some k) : used k = false := by
  cases op with
  | call c =>
    obtain ⟨callee, args, ts⟩ := c
    cases callee with
    | builtin b =>
      cases b with
      | append =>
        simp only [grow] at h
        split at h
        · unfold appendV at h
          split at h
          · split at h
            · simp only [Option.bind_eq_some_iff] at h
              obtain ⟨ti, h1, p, h2, q, h3, h⟩ := h
              split at h
              · cases h; cases hk
              simp only [Option.bind_eq_some_iff] at h
              obtain ⟨u, h4, h5⟩ := h
              split at h5
              · split at h5
                · cases h5
                  exact (room_used (used' := fun _ => false) h4 (fun _ _ => rfl)).2 k hk
                · split at h5
                  · cases h5; cases hk
                  · cases h5
              · cases h5
            · cases h
          · cases h
        · cases h
      | len =>
        simp only [grow] at h
        split at h
        · exact (map_use h hk fun _ => rfl).elim
        · cases h
      | min =>
        simp only [grow] at h
        split at h
        · exact (map_use h hk fun _ => rfl).elim
        · cases h
      | _ => simp only [grow] at h; cases h
    | value f =>
      simp only [grow] at h
      split at h
      · split at h
        · simp only [Option.bind_eq_some_iff] at h
          obtain ⟨_, _, _, _, h⟩ := h
          split at h
          · cases h; cases hk
          · cases h
        · rw [if_neg (by rw [hg]; simp)] at h; cases h
        · cases h
      · cases h
    | invoke x m => simp only [grow] at h; cases h
  | move x => simp only [grow] at h; cases h; cases hk
  | assign x => simp only [grow] at h; cases h; cases hk
  | pick c x y =>
    simp only [grow] at h
    split at h
    · cases h; cases hk
    · cases h
  | alloc t => simp only [grow] at h; exact (map_use h hk fun _ => rfl).elim
  | box t x =>
    simp only [grow, Option.bind_eq_some_iff] at h
    obtain ⟨ti, ht, cs, hc, h⟩ := h
    split at h
    · cases h; cases hk
    · cases h
  | build t ps =>
    simp only [grow, Option.bind_eq_some_iff] at h
    obtain ⟨ti, ht, h⟩ := h
    split at h
    · exact (map_use h hk fun _ => rfl).elim
    · cases h
  | buildSlice t n ps =>
    simp only [grow] at h
    split at h
    · simp only [Option.bind_eq_some_iff] at h
      obtain ⟨ti, ht, h⟩ := h
      split at h
      · exact (map_use h hk fun _ => freshSl_use).elim
      · cases h
    · cases h
  | load t x => simp only [grow] at h; exact (map_use h hk fun _ => rfl).elim
  | nilCheck x =>
    simp only [grow] at h
    split at h
    · cases h; cases hk
    · cases h; cases hk
    · cases h; cases hk
    · cases h
  | binOp op t x y ty => simp only [grow] at h; exact (map_use h hk fun _ => rfl).elim
  | unOp op t x => simp only [grow] at h; exact (map_use h hk fun _ => rfl).elim
  | convert s t x =>
    simp only [grow] at h
    split at h
    · unfold convSelf at h
      split at h
      · split at h
        · split at h
          · split at h
            · rename_i hc
              cases h; cases hk; exact hc.2.1
            · cases h
          · cases h
        · cases h
      · cases h
    unfold convV at h
    split at h
    · cases h; cases hk
    · cases h; cases hk
    · split at h
      · split at h
        · cases h
        · cases h; cases hk
      · cases h
    · split at h
      · split at h
        · cases h
        · simp only [Option.bind_eq_some_iff] at h
          obtain ⟨_, _, h⟩ := h
          exact (map_use h hk fun _ => rfl).elim
      · cases h
    · cases h
  | sliceToArrayPointer t x =>
    simp only [grow] at h
    split at h
    · split at h
      · cases h; cases hk
      · cases h
    · split at h
      · cases h; cases hk
      · cases h
    · cases h
  | makeFunc fn first caps =>
    simp only [grow] at h
    split at h
    · split at h
      · cases h; cases hk
      · cases h
    · cases h
  | makeSlice t l c =>
    simp only [grow, makeV] at h
    split at h
    · simp only [Option.bind_eq_some_iff] at h
      obtain ⟨_, _, h⟩ := h
      split at h
      · split at h
        · cases h; cases hk
        · cases h; cases hk
      · cases h
    · cases h
  | slice t x lo hi mx => simp only [grow] at h; exact (map_use h hk fun _ => rfl).elim
  | fieldAddr s x f => simp only [grow] at h; exact (map_use h hk fun _ => rfl).elim
  | field t x f => simp only [grow] at h; exact (map_use h hk fun _ => rfl).elim
  | indexAddr t x i => simp only [grow] at h; exact (map_use h hk fun _ => rfl).elim
  | index t x i => simp only [grow] at h; exact (map_use h hk fun _ => rfl).elim
  | extract x i =>
    simp only [grow] at h
    split at h
    · split at h
      · cases h
      · cases h; cases hk
      · cases h
    · cases h
  | _ => simp only [grow] at h; cases h
end Go.Abs

/- A region whose order is drawn. -/
namespace Go.Abs
set_option linter.unusedSimpArgs false
set_option linter.unusedVariables false
open Go Go.RowKit

/-- what an operation that writes to no box does -/
def effV (E : Env) (lvl N : Nat) (ops : List Oper) (σ : AS) (o : Oper) : Option (Option (Nat × GR)) :=
  match wantedV ops σ o with
  | none => none
  | some false => match o.dst with
    | some d => if d < N then some (some (d, { v := .raw undef })) else none
    | none => some none
  | some true => match o.dst with
    | some d => if d < N then (grow E lvl d (σ.gen d + 1) (ev E σ.slots) σ.box σ.used o.op).map fun r => some (d, r) else none
    | none => none

/-- a step that sees no boxes -/
def AS.grownP (σ : AS) (lvl d : Nat) (r : GR) : AS :=
  { slots := upd σ.slots d r.v
    gen := if r.bump then upd σ.gen d (σ.gen d + 1) else σ.gen
    box := match r.cont with | some c => updB σ.box (.own lvl d (σ.gen d + 1)) c | none => σ.box
    used := match r.use with | some i => updI σ.used i | none => σ.used }
theorem grown_plain {σ : AS} {lvl d : Nat} {r : GR} (h : r.wr = [] ∧ r.uses = []) : σ.grown lvl d r = σ.grownP lvl d r := by
  unfold AS.grown AS.grownP
  rw [h.1, h.2]
  rfl

def AS.app (lvl : Nat) (σ : AS) : Option (Nat × GR) → AS
  | none => σ
  | some (d, r) => σ.grownP lvl d r

section
variable {E : Env} {lvl N : Nat} {ops : List Oper} {σ σ' : AS} {o : Oper}

theorem stepV_eff (hw : isWrite o.op = false) (hg : isGen E o.op = false) : stepV E lvl N ops σ o = (effV E lvl N ops σ o).map (σ.app lvl) := by
  unfold stepV effV
  cases wantedV ops σ o with
  | none => rfl
  | some b =>
    cases b with
    | false =>
      cases o.dst with
      | none => rfl
      | some d =>
        simp only
        split
        · rfl
        · rfl
    | true =>
      simp only
      rw [if_neg (by simp [hw])]
      cases o.dst with
      | none => simp only; rw [if_neg (by rw [hg]; simp)]; rfl
      | some d =>
        simp only
        split
        · cases e : grow E lvl d (σ.gen d + 1) (ev E σ.slots) σ.box σ.used o.op with
          | none => rfl
          | some r => simp only [Option.map_some]; rw [grown_plain (grow_plain e hg)]; rfl
        · rfl

theorem effV_dst {d : Nat} {r : GR} (h : effV E lvl N ops σ o = some (some (d, r))) : o.dst = some d := by
  unfold effV at h
  split at h
  · cases h
  · split at h
    · split at h
      · cases h; assumption
      · cases h
    · cases h
  · split at h
    · split at h
      · simp only [Option.map_eq_some_iff] at h
        obtain ⟨_, _, h⟩ := h
        cases h; assumption
      · cases h
    · cases h

theorem effV_use {d : Nat} {r : GR} {k : Id} (hgn : isGen E o.op = false) (h : effV E lvl N ops σ o = some (some (d, r))) (hk : r.use = some k) : σ.used k = false := by
  unfold effV at h
  split at h
  · cases h
  · split at h
    · split at h
      · cases h; cases hk
      · cases h
    · cases h
  · split at h
    · split at h
      · simp only [Option.map_eq_some_iff] at h
        obtain ⟨_, h1, h⟩ := h
        cases h
        exact grow_use h1 hgn hk
      · cases h
    · cases h

theorem effV_move {p : Bx → Prop} {e : Option (Nat × GR)} (hgn : isGen E o.op = false) (hw : wantedV ops σ' o = wantedV ops σ o) (hρ : ∀ u ∈ o.op.operands, ev E σ.slots u = ev E σ'.slots u) (hg : ∀ d, o.dst = some d → σ'.gen d = σ.gen d)
    (hb : ∀ b, p b → σ.box b = σ'.box b) (hm : ∀ u ∈ o.op.operands, Men p (ev E σ.slots u)) (hu : ∀ d r k, e = some (d, r) → r.use = some k → σ'.used k = false)
    (h : effV E lvl N ops σ o = some e) : effV E lvl N ops σ' o = some e := by
  unfold effV at h ⊢
  rw [hw]
  split at h
  · cases h
  · exact h
  · split at h
    · rename_i d hd
      split at h
      · rename_i hlt
        rw [if_pos hlt, hg d hd]
        simp only [Option.map_eq_some_iff] at h ⊢
        obtain ⟨r, h1, rfl⟩ := h
        refine ⟨r, ?_, rfl⟩
        rw [← grow_rho o.op hρ, ← grow_box hb o.op hgn hm]
        exact grow_used h1 hgn (fun k hk => hu d r k rfl hk)
      · cases h
    · cases h

theorem ev_upd {d : Nat} {v : AV} {sl : Nat → AV} {u : Operand} (h : u ≠ .tmp d) : ev E (upd sl d v) u = ev E sl u := by
  cases u with
  | tmp t => simp only [ev, upd]; rw [if_neg (fun e => h (by rw [e]))]
  | _ => rfl

theorem ev_look {d : Nat} {v : AV} {sl : Nat → AV} (h : d ∉ o.looksAt ops.toArray) {u : Operand} (hu : u ∈ o.op.operands) : ev E (upd sl d v) u = ev E sl u :=
  ev_upd fun e => h (by subst e; exact List.mem_append_left _ (List.mem_filterMap.2 ⟨.tmp d, by simpa using hu, rfl⟩))

theorem wantedV_look {d : Nat} {v : AV} (h : d ∉ o.looksAt ops.toArray) (hs : σ'.slots = upd σ.slots d v) : wantedV ops σ' o = wantedV ops σ o := by
  unfold wantedV
  cases hg : o.guard with
  | none => rfl
  | some p =>
    obtain ⟨j, want⟩ := p
    simp only
    cases hj : (ops[j]?).bind (·.dst) with
    | none => rfl
    | some s =>
      have : s ≠ d := fun e => h (by subst e; simp [Oper.looksAt, hg, hj])
      simp only [hs, upd]
      rw [if_neg this]

theorem app_comm {d d' : Nat} {r r' : GR} (hd : d ≠ d') : (σ.grownP lvl d r).grownP lvl d' r' = (σ.grownP lvl d' r').grownP lvl d r := by
  have hd' : ¬ d' = d := fun e => hd e.symm
  have h1 : upd (upd σ.slots d r.v) d' r'.v = upd (upd σ.slots d' r'.v) d r.v := by
    funext i; unfold upd; split <;> split <;> first | rfl | omega
  have g1 : (σ.grownP lvl d r).gen d' = σ.gen d' := by
    simp only [AS.grownP]; split
    · simp only [upd]; rw [if_neg hd']
    · rfl
  have g2 : (σ.grownP lvl d' r').gen d = σ.gen d := by
    simp only [AS.grownP]; split
    · simp only [upd]; rw [if_neg hd]
    · rfl
  have h2 : (if r'.bump then upd (σ.grownP lvl d r).gen d' (σ.gen d' + 1) else (σ.grownP lvl d r).gen) = (if r.bump then upd (σ.grownP lvl d' r').gen d (σ.gen d + 1) else (σ.grownP lvl d' r').gen) := by
    funext i; simp only [AS.grownP]
    cases r.bump <;> cases r'.bump <;> simp only [if_true, Bool.false_eq_true, if_false, upd]
    split <;> split <;> first | rfl | omega
  have h3 : (match r'.cont with | some c => updB (σ.grownP lvl d r).box (.own lvl d' (σ.gen d' + 1)) c | none => (σ.grownP lvl d r).box) = (match r.cont with | some c => updB (σ.grownP lvl d' r').box (.own lvl d (σ.gen d + 1)) c | none => (σ.grownP lvl d' r').box) := by
    simp only [AS.grownP]
    cases r.cont <;> cases r'.cont <;> simp only
    funext b; unfold updB
    split <;> split <;> first | rfl | (rename_i e1 e2; rw [e1] at e2; cases e2; exact absurd rfl hd)
  have h4 : (match r'.use with | some i => updI (σ.grownP lvl d r).used i | none => (σ.grownP lvl d r).used) = (match r.use with | some i => updI (σ.grownP lvl d' r').used i | none => (σ.grownP lvl d' r').used) := by
    simp only [AS.grownP]
    cases r.use <;> cases r'.use <;> simp only
    funext b; unfold updI
    split <;> split <;> rfl
  show AS.mk _ _ _ _ = AS.mk _ _ _ _
  rw [g1, g2]
  congr 1

/-- boxes that are not yet made are in nobody's hands -/
structure Fresh (lvl : Nat) (σ : AS) : Prop where
  new : ∀ d n, σ.gen d < n → σ.box (.own lvl d n) = none
  men : ∀ i, Men (fun b => (σ.box b).isSome) (σ.slots i)

theorem Fresh.ev (h : Fresh lvl σ) (u : Operand) : Men (fun b => (σ.box b).isSome) (ev E σ.slots u) := by
  cases u with
  | tmp t => exact h.men t
  | const v =>
    have raws : ∀ l : List Value, MenL (fun b => (σ.box b).isSome) (l.map .raw) := fun l => by
      induction l with
      | nil => trivial
      | cons x xs ih => exact ⟨trivial, ih⟩
    cases v <;> first | trivial | exact raws _
  | global g => simp only [Abs.ev]; split <;> trivial
  | func f => exact trivial

theorem swapV {x y : Oper} (hf : Fresh lvl σ) (hap : x.apart ops.toArray y = true) (hx : isWrite x.op = false) (hy : isWrite y.op = false) (gx : isGen E x.op = false) (gy : isGen E y.op = false) {σ1 σ2 : AS}
    (h1 : stepV E lvl N ops σ x = some σ1) (h2 : stepV E lvl N ops σ1 y = some σ2) : ∃ σ1', stepV E lvl N ops σ y = some σ1' ∧ stepV E lvl N ops σ1' x = some σ2 := by
  obtain ⟨a1, a2, a3⟩ := Oper.apart_spec hap
  rw [stepV_eff hx gx] at h1
  rw [stepV_eff hy gy] at h2
  simp only [Option.map_eq_some_iff] at h1 h2
  obtain ⟨ex, hex, rfl⟩ := h1
  obtain ⟨ey, hey, rfl⟩ := h2
  -- y, before x
  have boxOK : ∀ (e : Option (Nat × GR)) b, (σ.box b).isSome = true → (σ.app lvl e).box b = σ.box b := by
    intro e b hb
    cases e with
    | none => rfl
    | some p =>
      obtain ⟨d, r⟩ := p
      simp only [AS.app, AS.grownP]
      cases r.cont with
      | some c =>
        simp only [updB]
        split
        · rename_i e; rw [e, hf.new d _ (Nat.lt_succ_self _)] at hb; cases hb
        · rfl
      | none => rfl
  have usedOK : ∀ (e : Option (Nat × GR)) k, (σ.app lvl e).used k = false → σ.used k = false ∧ ∀ d r, e = some (d, r) → r.use ≠ some k := by
    intro e k hk
    cases e with
    | none => exact ⟨hk, fun _ _ h => by cases h⟩
    | some p =>
      obtain ⟨d, r⟩ := p
      simp only [AS.app, AS.grownP] at hk
      cases hi : r.use with
      | some i =>
        rw [hi] at hk
        simp only [updI] at hk
        split at hk
        · cases hk
        · rename_i hne
          refine ⟨hk, fun d' r' e' hu => ?_⟩
          cases e'
          rw [hi] at hu; cases hu; exact hne rfl
      | none =>
        rw [hi] at hk
        exact ⟨hk, fun d' r' e' hu => by cases e'; rw [hi] at hu; cases hu⟩
  have slotOK : ∀ (e : Option (Nat × GR)) (z : Oper), (∀ d r, e = some (d, r) → d ∉ z.looksAt ops.toArray) →
      wantedV ops (σ.app lvl e) z = wantedV ops σ z ∧ ∀ u ∈ z.op.operands, ev E (σ.app lvl e).slots u = ev E σ.slots u := by
    intro e z hz
    cases e with
    | none => exact ⟨rfl, fun _ _ => rfl⟩
    | some p =>
      obtain ⟨d, r⟩ := p
      exact ⟨wantedV_look (hz d r rfl) rfl, fun u hu => ev_look (hz d r rfl) hu⟩
  have genOK : ∀ (e : Option (Nat × GR)) d', (∀ d r, e = some (d, r) → d ≠ d') → (σ.app lvl e).gen d' = σ.gen d' := by
    intro e d' hd
    cases e with
    | none => rfl
    | some p =>
      obtain ⟨d, r⟩ := p
      simp only [AS.app, AS.grownP]
      split
      · simp only [upd]; rw [if_neg (fun h => hd d r rfl h.symm)]
      · rfl
  have dx : ∀ d r, ex = some (d, r) → x.dst = some d := fun d r e => effV_dst (by rw [← e]; exact hex)
  have dy : ∀ d r, ey = some (d, r) → y.dst = some d := fun d r e => effV_dst (by rw [← e]; exact hey)
  obtain ⟨sy1, sy2⟩ := slotOK ex y (fun d r e => a1 d (dx d r e))
  have hey0 : effV E lvl N ops σ y = some ey := by
    refine effV_move (p := fun b => (σ.box b).isSome) gy sy1.symm sy2 (fun d hd => (genOK ex d (fun d' r e h => a2 d' (dx d' r e) (by rw [hd, h]))).symm) (fun b hb => boxOK ex b hb) (fun u hu => by rw [sy2 u hu]; exact hf.ev u) ?_ hey
    intro d r k e hk
    exact (usedOK ex k (effV_use gy (by rw [← e]; exact hey) hk)).1
  obtain ⟨sx1, sx2⟩ := slotOK ey x (fun d r e => a3 d (dy d r e))
  have hex1 : effV E lvl N ops (σ.app lvl ey) x = some ex := by
    refine effV_move (p := fun b => (σ.box b).isSome) gx sx1 (fun u hu => (sx2 u hu).symm) (fun d hd => genOK ey d (fun d' r e h => a2 d hd (by rw [dy d' r e, h]))) (fun b hb => (boxOK ey b hb).symm) (fun u hu => hf.ev u) ?_ hex
    intro d r k e hk
    have hk0 : σ.used k = false := effV_use gx (by rw [← e]; exact hex) hk
    cases ey with
    | none => exact hk0
    | some q =>
      obtain ⟨d', r'⟩ := q
      simp only [AS.app, AS.grownP]
      cases hi : r'.use with
      | some i =>
        have := (usedOK ex i (effV_use (r := r') gy hey hi)).2 d r e
        simp only [updI]
        split
        · rename_i e'; exact absurd (by rw [e'] at hk; exact hk) this
        · exact hk0
      | none => exact hk0
  refine ⟨σ.app lvl ey, by rw [stepV_eff hy gy, hey0]; rfl, ?_⟩
  rw [stepV_eff hx gx, hex1]
  simp only [Option.map_some, Option.some.injEq]
  cases ex with
  | none => rfl
  | some p =>
    cases ey with
    | none => rfl
    | some q =>
      obtain ⟨d, r⟩ := p
      obtain ⟨d', r'⟩ := q
      exact app_comm (fun e => a2 d (dx d r rfl) (by have := dy d' r' rfl; rw [this]; exact congrArg some e))
end
end Go.Abs

/- A region whose order is drawn: every order comes to the same. -/
namespace Go.Abs
set_option linter.unusedSimpArgs false
set_option linter.unusedVariables false
open Go Go.RowKit

def maskOf (acc : List Nat) : List Edge → Nat
  | [] => 0
  | e :: es => (if Region.binds .any e then (acc[e.on]?.getD 0) ||| (1 <<< e.on) else 0) ||| maskOf acc es

def masks : List Oper → List Nat → List Nat
  | [], acc => acc
  | o :: os, acc => masks os (acc ++ [maskOf acc o.after.toList])

/-- o is not before the i-th operation -/
def indepB (E : Env) (ops : List Oper) (x y : Oper) : Bool := !isWrite x.op && !isGen E x.op && !isWrite y.op && !isGen E y.op && x.apart ops.toArray y

def pairB (E : Env) (ops : List Oper) (m : Nat) (y : Oper) : Nat → List Oper → Bool
  | _, [] => true
  | 0, _ => true
  | k + 1, x :: xs => (m.testBit (ops.length - (x :: xs).length) || indepB E ops x y) && pairB E ops m y k xs

def confAll (E : Env) (ops : List Oper) (ms : List Nat) : Nat → List Oper → Bool
  | _, [] => true
  | i, y :: ys => y.after.toList.all (fun e => !Region.binds .any e || e.on < i) && pairB E ops (ms[i]?.getD 0) y i ops && confAll E ops ms (i + 1) ys

/-- whatever order: the same -/
def confB (E : Env) (ops : List Oper) : Bool := confAll E ops (masks ops []) 0 ops

/-- bits of a mask lead back along edges -/
def GoodM (ops : List Oper) (m : List Nat) : Prop :=
  ∀ (i mi j : Nat), m[i]? = some mi → mi.testBit j = true → ∃ o, ops[i]? = some o ∧ ∃ e ∈ o.after.toList, Region.binds .any e = true ∧ (e.on = j ∨ ∃ mk : Nat, m[e.on]? = some mk ∧ mk.testBit j = true)

theorem maskOf_spec {acc : List Nat} {j : Nat} : ∀ {es : List Edge}, (maskOf acc es).testBit j = true → ∃ e ∈ es, Region.binds .any e = true ∧ (e.on = j ∨ ∃ mk : Nat, acc[e.on]? = some mk ∧ mk.testBit j = true)
  | [], h => by simp [maskOf] at h
  | e :: es, h => by
    simp only [maskOf, Nat.testBit_or, Bool.or_eq_true] at h
    rcases h with h | h
    · split at h
      · rename_i hb
        simp only [Nat.testBit_or, Bool.or_eq_true] at h
        rcases h with h | h
        · cases ha : acc[e.on]? with
          | none => rw [ha] at h; simp at h
          | some mk => rw [ha] at h; exact ⟨e, by simp, hb, .inr ⟨mk, ha, h⟩⟩
        · rw [Nat.one_shiftLeft, Nat.testBit_two_pow] at h
          exact ⟨e, by simp, hb, .inl (by simpa using h)⟩
      · simp at h
    · obtain ⟨e', h1, h2⟩ := maskOf_spec h
      exact ⟨e', by simp [h1], h2⟩

theorem masks_good {ops : List Oper} : ∀ (os : List Oper) (acc : List Nat), (∀ j, os[j]? = ops[acc.length + j]?) → GoodM ops acc → GoodM ops (masks os acc)
  | [], acc, _, h => h
  | o :: os, acc, hl, h => by
    refine masks_good os _ (fun j => ?_) ?_
    · have := hl (j + 1)
      simp only [List.getElem?_cons_succ] at this
      rw [this]; simp only [List.length_append, List.length_singleton]; congr 1; omega
    · intro i mi j hi hj
      have up : ∀ (k mk : Nat), acc[k]? = some mk → (acc ++ [maskOf acc o.after.toList])[k]? = some mk := fun k mk hk => by
        rw [List.getElem?_append_left (List.getElem?_eq_some_iff.1 hk).1]; exact hk
      rcases Nat.lt_or_ge i acc.length with hlt | hge
      · rw [List.getElem?_append_left hlt] at hi
        obtain ⟨o', h1, e, h2, h3, h4⟩ := h i mi j hi hj
        refine ⟨o', h1, e, h2, h3, h4.imp id ?_⟩
        rintro ⟨mk, h5, h6⟩
        exact ⟨mk, up _ _ h5, h6⟩
      · rw [List.getElem?_append_right hge] at hi
        have h0 : i = acc.length := by
          have := (List.getElem?_eq_some_iff.1 hi).1
          simp at this; omega
        subst h0
        simp at hi; subst hi
        obtain ⟨e, h1, h2, h3⟩ := maskOf_spec hj
        refine ⟨o, by have := hl 0; simpa using this.symm, e, h1, h2, h3.imp id ?_⟩
        rintro ⟨mk, h5, h6⟩
        exact ⟨mk, up _ _ h5, h6⟩

/-- what the check comes to -/
structure Conf (E : Env) (ops : List Oper) (ms : List Nat) : Prop where
  good : GoodM ops ms
  down : ∀ i o, ops[i]? = some o → ∀ e ∈ o.after.toList, Region.binds .any e = true → e.on < i
  pair : ∀ i j x y, ops[j]? = some x → ops[i]? = some y → j < i → (ms[i]?.getD 0).testBit j = true ∨ indepB E ops x y = true

theorem pairB_spec {E : Env} {ops : List Oper} {m : Nat} {y : Oper} : ∀ (k : Nat) (xs : List Oper) (s : Nat), s + xs.length = ops.length → (∀ j, xs[j]? = ops[s + j]?) → pairB E ops m y k xs = true → ∀ j x, xs[j]? = some x → j < k → m.testBit (s + j) = true ∨ indepB E ops x y = true
  | _, [], _, _, _, _, j, x, h, _ => by simp at h
  | 0, x :: xs, _, _, _, _, j, x', _, h => by omega
  | k + 1, x :: xs, s, hs, hl, h, j, x', hx, hj => by
    simp only [pairB, Bool.and_eq_true, Bool.or_eq_true] at h
    cases j with
    | zero =>
      simp at hx; subst hx
      have : ops.length - (x :: xs).length = s := by omega
      rw [this] at h
      simpa using h.1
    | succ j =>
      have := pairB_spec k xs (s + 1) (by simp at hs; omega) (fun j => by
        have := hl (j + 1)
        simp only [List.getElem?_cons_succ] at this
        rw [this]; congr 1; omega) h.2 j x' (by simpa using hx) (by omega)
      rw [show s + (j + 1) = s + 1 + j by omega]; exact this

theorem confAll_spec {E : Env} {ops : List Oper} {ms : List Nat} : ∀ (ys : List Oper) (i : Nat), (∀ j, ys[j]? = ops[i + j]?) → confAll E ops ms i ys = true → ∀ j y, ys[j]? = some y →
    (∀ e ∈ y.after.toList, Region.binds .any e = true → e.on < i + j) ∧ pairB E ops (ms[i + j]?.getD 0) y (i + j) ops = true
  | [], _, _, _, j, y, h => by simp at h
  | y :: ys, i, hl, h, j, y', hy => by
    simp only [confAll, Bool.and_eq_true, List.all_eq_true] at h
    cases j with
    | zero =>
      simp at hy; subst hy
      refine ⟨fun e he hb => ?_, h.1.2⟩
      have := h.1.1 e he
      simpa [hb] using this
    | succ j =>
      have := confAll_spec ys (i + 1) (fun j => by
        have := hl (j + 1)
        simp only [List.getElem?_cons_succ] at this
        rw [this]; congr 1; omega) h.2 j y' (by simpa using hy)
      rw [show i + (j + 1) = i + 1 + j by omega]; exact this

theorem confB_spec {E : Env} {ops : List Oper} (h : confB E ops = true) : Conf E ops (masks ops []) := by
  have hg : GoodM ops (masks ops []) := masks_good ops [] (by simp) (fun i mi j h => by simp at h)
  refine ⟨hg, fun i o ho e he hb => ?_, fun i j x y hx hy hj => ?_⟩
  · have := (confAll_spec ops 0 (by simp) h i o ho).1 e he hb
    omega
  · have := (confAll_spec ops 0 (by simp) h i y hy).2
    rw [Nat.zero_add] at this
    have := pairB_spec i ops 0 (by simp) (by simp) this j x hx hj
    rwa [Nat.zero_add] at this

section
variable {P : Program} {N : Ent} {E : Env} {ops : List Oper} {σ σ' : AS}

def runI (E : Env) (lvl n : Nat) (ops : List Oper) : List Nat → AS → Option AS
  | [], σ => some σ
  | i :: is, σ => (ops[i]?).bind fun o => (stepV E lvl n ops σ o).bind fun σ' => runI E lvl n ops is σ'

theorem runI_regs {lvl n : Nat} : ∀ (l : List Oper) (k : Nat) (σ : AS), (∀ j, l[j]? = ops[k + j]?) → runI E lvl n ops (List.range' k l.length) σ = regs E lvl n ops l σ
  | [], k, σ, _ => rfl
  | o :: l, k, σ, hl => by
    have h0 : ops[k]? = some o := by simpa using (hl 0).symm
    rw [List.length_cons, List.range'_succ]
    simp only [runI, regs, h0, Option.bind_some]
    cases stepV E lvl n ops σ o with
    | none => rfl
    | some σ1 =>
      exact runI_regs l (k + 1) σ1 (fun j => by
        have := hl (j + 1); simpa [Nat.add_assoc, Nat.add_comm 1 j] using this)

def Fits (N : Ent) (σ : AS) : Prop := ∃ a w, Sim N σ a w

theorem Fits.fresh (h : Fits N σ) : Fresh N.lvl σ := by
  obtain ⟨a, w, g, hv, hU, hD, hn, hdf, hsl⟩ := h
  refine ⟨fun d n hlt => ?_, fun i => RV.men (fun b k hk => ?_) _ _ (hsl i).1⟩
  · have hd := hv.dom (.own N.lvl d n)
    cases hm : g.μ (.own N.lvl d n) with
    | none => rw [hm] at hd; simpa using hd
    | some k => have := hv.fresh d n k hm; rw [hU] at this; omega
  · have hd := hv.dom b
    rw [hk] at hd; simpa using hd

theorem Oper.wp_exists {o : Oper} {a : Act} {w : World} {K : Act → World → Prop} (h : o.wp P a w K (fun _ _ _ => False)) : ∃ a' w', K a' w' := by
  unfold Oper.wp at h
  generalize (execOp a.eval o).run P w = r at h
  cases r with
  | ok n w' =>
    cases n <;> simp only [Oper.upon] at h
    case value v => exact ⟨_, _, h⟩
    case skip => exact ⟨_, _, h⟩
    case defer d => exact ⟨_, _, h⟩
    case enter f args =>
      obtain ⟨e, w'', fr, h, _⟩ := h []
      cases e with
      | returned v => exact ⟨_, _, h⟩
      | panicked c => exact h.elim
      | outgrown => obtain ⟨_, _, h⟩ := h; exact h.elim
    case row row args =>
      obtain ⟨v, w'', h, _⟩ := h default []
      exact ⟨_, _, h⟩
  | halt x w' => cases x <;> simp only [Oper.upon] at h

theorem Fits.step (hE : EnvOK P E) (hN : EntOK E N) {o : Oper} (hf : Fits N σ) (h : stepV E N.lvl N.N ops σ o = some σ') : Fits N σ' := by
  obtain ⟨a, w, hs⟩ := hf
  have := stepV_sound (K := fun a w => Sim N σ' a w) (Q' := fun _ _ _ => False) hE hN h hs (fun a' w' h => h)
  split at this
  · exact Oper.wp_exists this
  · exact ⟨_, _, this⟩

theorem bubble (hE : EnvOK P E) (hN : EntOK E N) {i : Nat} {y : Oper} (hy : ops[i]? = some y) {post : List Nat} {σ' : AS} : ∀ (pre : List Nat) (σ : AS), Fits N σ → (∀ j ∈ pre, ∀ x, ops[j]? = some x → indepB E ops x y = true) →
    runI E N.lvl N.N ops (pre ++ i :: post) σ = some σ' → runI E N.lvl N.N ops (i :: (pre ++ post)) σ = some σ'
  | [], σ, _, _, h => h
  | j :: pre, σ, hf, hi, h => by
    rw [List.cons_append] at h
    simp only [runI, Option.bind_eq_some_iff] at h
    obtain ⟨x, hx, σ1, h1, h2⟩ := h
    have h3 := bubble hE hN hy pre σ1 (hf.step hE hN h1) (fun k hk => hi k (by simp [hk])) h2
    simp only [runI, Option.bind_eq_some_iff] at h3
    obtain ⟨y', hy', σ2, h4, h5⟩ := h3
    rw [hy] at hy'; cases hy'
    have hin := hi j (by simp) x hx
    simp only [indepB, Bool.and_eq_true, Bool.not_eq_true'] at hin
    obtain ⟨σ1', h6, h7⟩ := swapV hf.fresh hin.2 hin.1.1.1.1 hin.1.1.2 hin.1.1.1.2 hin.1.2 h1 h4
    simp only [runI, List.cons_append, Option.bind_eq_some_iff]
    exact ⟨y, hy, σ1', h6, x, hx, σ2, h7, h5⟩

/-- with each listed one, those it waits for are listed -/
def Closed (ops : List Oper) (listed : Array Bool) : Prop :=
  ∀ i o, ops[i]? = some o → listed.getD i false = true → ∀ e ∈ o.after.toList, Region.binds .any e = true → listed.getD e.on false = true

theorem mask_listed {ms : List Nat} (hc : Conf E ops ms) {listed : Array Bool} (hcl : Closed ops listed) : ∀ (n i mi j : Nat), i < n → ms[i]? = some mi → mi.testBit j = true → (∀ o, ops[i]? = some o → ∀ e ∈ o.after.toList, Region.binds .any e = true → listed.getD e.on false = true) → listed.getD j false = true
  | 0, i, _, _, h, _, _, _ => by omega
  | n + 1, i, mi, j, hi, hmi, hj, hd => by
    obtain ⟨o, ho, e, he, hb, h⟩ := hc.good i mi j hmi hj
    have hl := hd o ho e he hb
    rcases h with rfl | ⟨mk, hk, hkj⟩
    · exact hl
    · exact mask_listed hc hcl n e.on mk j (by have := hc.down i o ho e he hb; omega) hk hkj (fun o' ho' e' he' hb' => hcl e.on o' ho' hl e' he' hb')

def remL (ops : List Oper) (listed : Array Bool) : List Nat := (List.range ops.length).filter fun k => !listed.getD k true

theorem getD_flip {listed : Array Bool} {k : Nat} (h : k < listed.size) : listed.getD k true = listed.getD k false := by
  simp [h]

theorem any_sound (hE : EnvOK P E) (hN : EntOK E N) {ms : List Nat} (hc : Conf E ops ms) {Q' : Exit → Act → World → Prop} (hQ : ∀ a w, Sim N σ' a w → Q' .normal a w) :
    ∀ (fuel : Nat) (listed : Array Bool) (σ : AS) (a : Act) (w : World), listed.size = ops.length → Closed ops listed → (remL ops listed).length ≤ fuel → Sim N σ a w →
      runI E N.lvl N.N ops (remL ops listed) σ = some σ' → wpAny P .any ops.toArray Q' fuel listed a w := by
  have mem : ∀ {listed : Array Bool} {k : Nat}, listed.size = ops.length → k ∈ Region.ready .any ops.toArray listed → k ∈ remL ops listed ∧ k < ops.length ∧ ∀ o, ops[k]? = some o → ∀ e ∈ o.after.toList, Region.binds .any e = true → listed.getD e.on false = true := by
    intro listed k hs hk
    obtain ⟨h1, o, h2, h3⟩ := mem_ready.1 hk
    simp only [List.getElem?_toArray] at h2
    have hlt := (List.getElem?_eq_some_iff.1 h2).1
    refine ⟨List.mem_filter.2 ⟨List.mem_range.2 hlt, by rw [h1]; rfl⟩, hlt, fun o' ho' e he hb => ?_⟩
    rw [h2] at ho'; cases ho'
    exact h3 e (by simpa using he) hb
  have nil : ∀ {listed : Array Bool}, listed.size = ops.length → Region.ready .any ops.toArray listed = [] → remL ops listed = [] := by
    intro listed hs hr
    have all : ∀ n k, k < n → k < ops.length → listed.getD k true = true := by
      intro n
      induction n with
      | zero => intro k h; omega
      | succ n ih =>
        intro k hk hlt
        cases hk0 : listed.getD k true with
        | true => rfl
        | false =>
          exfalso
          have : k ∈ Region.ready .any ops.toArray listed := by
            refine mem_ready.2 ⟨hk0, ops[k], by simp [hlt], fun e he hb => ?_⟩
            have hd := hc.down k ops[k] (by simp [hlt]) e (by simpa using he) hb
            rw [← getD_flip (by omega)]
            exact ih e.on (by omega) (by omega)
          rw [hr] at this; cases this
    unfold remL
    rw [List.filter_eq_nil_iff]
    intro k hk
    rw [all (k + 1) k (by omega) (List.mem_range.1 hk)]
    simp
  intro fuel
  induction fuel with
  | zero =>
    intro listed σ a w hs hcl hle hsim hrun
    have hr0 : remL ops listed = [] := List.length_eq_zero_iff.1 (by omega)
    rw [hr0] at hrun
    simp only [runI, Option.some.injEq] at hrun; subst hrun
    refine ⟨?_, hQ a w hsim⟩
    cases hrd : Region.ready .any ops.toArray listed with
    | nil => rfl
    | cons k ks =>
      have := (mem hs (k := k) (by rw [hrd]; simp)).1
      rw [hr0] at this; cases this
  | succ fuel ih =>
    intro listed σ a w hs hcl hle hsim hrun
    refine ⟨fun hr => ?_, fun i hi => ?_⟩
    · rw [nil hs hr] at hrun
      simp only [runI, Option.some.injEq] at hrun; subst hrun
      exact hQ a w hsim
    · obtain ⟨hm, hlt, hd⟩ := mem hs hi
      have hsort : (remL ops listed).Pairwise (· < ·) := List.Pairwise.filter _ List.pairwise_lt_range
      obtain ⟨pre, post, hpp⟩ := List.append_of_mem hm
      have hy : ops[i]? = some ops[i] := by simp [hlt]
      rw [hpp] at hrun hsort
      have hb := bubble hE hN hy pre σ ⟨a, w, hsim⟩ (fun j hj x hx => by
        have hjm : j ∈ remL ops listed := by rw [hpp]; simp [hj]
        have hjl : listed.getD j true = false := by have := (List.mem_filter.1 hjm).2; simpa using this
        have hji : j < i := by
          rw [List.pairwise_append] at hsort
          exact hsort.2.2 j hj i (by simp)
        rcases hc.pair i j x ops[i] hx hy hji with h | h
        · exfalso
          cases hmi : ms[i]? with
          | none => rw [hmi] at h; simp at h
          | some mi =>
            rw [hmi] at h
            have := mask_listed hc hcl (i + 1) i mi j (by omega) hmi h hd
            have hjlt : j < listed.size := by rw [hs]; exact List.mem_range.1 (List.mem_filter.1 hjm).1
            rw [← getD_flip hjlt, hjl] at this
            cases this
        · exact h) hrun
      simp only [runI, Option.bind_eq_some_iff] at hb
      obtain ⟨o, ho, σ1, h1, h2⟩ := hb
      have hrem : remL ops (listed.setIfInBounds i true) = pre ++ post := by
        have : remL ops (listed.setIfInBounds i true) = (remL ops listed).filter fun k => k != i := by
          unfold remL
          rw [List.filter_filter]
          refine List.filter_congr fun k hk => ?_
          by_cases e : k = i
          · subst e
            have : k < listed.size := by rw [hs]; exact hlt
            simp [this]
          · rw [getD_set_ne true (Ne.symm e)]
            simp [e]
        rw [this, hpp]
        rw [List.pairwise_append] at hsort
        obtain ⟨s1, s2, s3⟩ := hsort
        rw [List.pairwise_cons] at s2
        rw [List.filter_append, List.filter_cons]
        simp only [bne_self_eq_false, Bool.false_eq_true, if_false]
        rw [List.filter_eq_self.2, List.filter_eq_self.2]
        · intro k hk; have := s2.1 k hk; simp; omega
        · intro k hk; have := s3 k hk i (by simp); simp; omega
      have step := stepV_sound (K := wpAny P .any ops.toArray Q' fuel (listed.setIfInBounds i true)) (Q' := Q') hE hN h1 hsim (fun a' w' hs' => by
        refine ih (listed.setIfInBounds i true) σ1 a' w' (by simp [hs]) ?_ ?_ hs' (by rw [hrem]; exact h2)
        · intro k o' ho' hk e he hb
          by_cases e' : k = i
          · subst e'; exact getD_set_true (hd o' ho' e he hb)
          · rw [getD_set_ne false (Ne.symm e')] at hk
            exact getD_set_true (hcl k o' ho' hk e he hb)
        · rw [hrem]
          rw [hpp] at hle
          simp at hle ⊢; omega)
      unfold wpOp
      have ho' : ops.toArray[i]? = some o := by simpa using ho
      simp only [ho']
      split
      · rename_i hw; rw [if_pos hw] at step; exact .inl step
      · rename_i hw; rw [if_neg hw] at step; exact step

theorem Sim.drawn {a : Act} {w : World} (h : Sim N σ a w) : Sim N σ a { w with drawn := w.drawn + 1 } := by
  obtain ⟨g, hv, hU, hD, hn, hdf, hsl⟩ := h
  have hb : Below w.heap.size w { w with drawn := w.drawn + 1 } := ⟨rfl, rfl, rfl, Nat.le_refl _, fun _ _ => rfl⟩
  exact ⟨g, hv.world hb, hU, hD, hn, hdf, Slots.le (hv.le_world hb) hsl⟩

theorem AW_draw {Q : AX → AS → Prop} (E : Env) (hE : EnvOK P E) (hN : EntOK E N) (hP : P.follows .mixedOrders = true) {id : Nat} {ops : List Oper} (σ' : AS) (hc : confB E ops = true) (h : regs E N.lvl N.N ops ops σ = some σ') (hQ : Q .nrm σ') : AW P N (.region id ops.toArray true) Q σ := by
  intro a w hs
  refine wp_region_any hP ?_
  have hrem : remL ops (Array.replicate ops.toArray.size false) = List.range ops.length := by
    unfold remL
    rw [List.filter_eq_self]
    intro k hk
    have := List.mem_range.1 hk
    simp [this]
  refine any_sound (σ' := σ') hE hN (confB_spec hc) (fun a w h => ⟨.nrm, σ', rfl, hQ, h⟩) _ _ σ _ _ (by simp) ?_ ?_ hs.drawn ?_
  · intro i o ho hl
    exfalso
    rw [Array.getD_eq_getD_getElem?, Array.getElem?_replicate] at hl
    split at hl <;> simp at hl
  · rw [hrem]; simp
  · rw [hrem, List.range_eq_range', runI_regs ops 0 σ (by simp)]
    exact h
end
end Go.Abs
