/- The operations that write to a box. -/
import Derived.Test.YteooikdcafodfaaDoorAm
namespace Go.Abs
set_option linter.unusedSimpArgs false
set_option linter.unusedVariables false
open Go Go.RowKit
section
variable {P : Program} {N : Ent} {g : Ghost} {box : Boxes} {w : World} {o : Oper} {a : Act} {d : Nat} {ρ : Operand → AV} {te : TypeId → Option TI}

/-- what is asked of an operation that writes -/
def WOut (P : Program) (N : Ent) (g : Ghost) (w : World) (o : Oper) (a : Act) (v : AV) (box' : Boxes) : Prop :=
  ∃ u w', ((execOp a.eval o).run P w = .ok (.value u) w' ∨ ((execOp a.eval o).run P w = .ok .skip w' ∧ u = undef)) ∧ Valid N g box' w' ∧ Le g w g w' ∧ RV g.μ g.G w' v u ∧ Top g v u

theorem take_drop_get {α : Type} (cur vs : List α) (off : Nat) (h : off + vs.length ≤ cur.length) (j : Nat) :
    (cur.take off ++ vs ++ cur.drop (off + vs.length))[j]? = if j < off then cur[j]? else if j < off + vs.length then vs[j - off]? else cur[j]? := by
  rw [List.append_assoc]
  by_cases h1 : j < off
  · rw [if_pos h1, List.getElem?_append_left (by rw [List.length_take]; omega), List.getElem?_take, if_pos h1]
  · rw [if_neg h1, List.getElem?_append_right (by rw [List.length_take]; omega), List.length_take, Nat.min_eq_left (by omega)]
    by_cases h2 : j < off + vs.length
    · rw [if_pos h2, List.getElem?_append_left (by omega)]
    · rw [if_neg h2, List.getElem?_append_right (by omega), List.getElem?_drop]
      congr 1; omega

theorem Valid.write (hv : Valid N g box w) {b : Bx} {k : Nat} {xs ys : List AV} {vs : List Value} {off : Nat} (hb : g.μ b = some k) (hx : box b = some xs) (hy : RVs g.μ g.G w ys vs) (hoff : off + ys.length ≤ xs.length) :
    ∃ cur el, w.heap[k]? = some (.cells cur el (0, 0)) ∧ off + vs.length ≤ cur.size ∧
      Valid N g (updB box b (splice xs off ys)) (w.setRow k (cur.toList.take off ++ vs ++ cur.toList.drop (off + vs.length)).toArray) ∧
      Le g w g (w.setRow k (cur.toList.take off ++ vs ++ cur.toList.drop (off + vs.length)).toArray) := by
  obtain ⟨cur, el, us, h1, h2, h3, h4⟩ := hv.cont b k xs hb hx
  have hul := h4.length
  have hvl := hy.length
  have hle : off + vs.length ≤ cur.size := by omega
  refine ⟨cur, el, h1, hle, ?_⟩
  generalize hnew : (cur.toList.take off ++ vs ++ cur.toList.drop (off + vs.length)).toArray = new
  have hget : ∀ j, new[j]? = if j < off then cur[j]? else if j < off + vs.length then vs[j - off]? else cur[j]? := fun j => by
    rw [← hnew, List.getElem?_toArray, take_drop_get _ _ _ (by simpa using hle)]
    simp
  have hsz : new.size = cur.size := by rw [← hnew]; simp; omega
  have hat : ∀ k' o, g.G k' o → at_ (w.setRow k new) k' o = at_ w k' o := fun k' o hg => cell_setRow_other w k new ⟨k', o, none⟩ (fun e => by
    have e' : k' = k := e
    subst e'; exact hv.gmu k' o b hg hb)
  have hrow := setRow_heap w k cur new el (0, 0) h1
  have hoth : ∀ k', k' ≠ k → (w.setRow k new).heap[k']? = w.heap[k']? := fun k' h => setRow_other w k k' new h
  refine ⟨{ hv with chg := ?_, cell := ?_, dom := ?_, cont := ?_, tail := ?_ }, ⟨fun _ _ h => h, fun _ _ h => h, hat, fun _ => Nat.le_refl _, fun _ h => h, fun _ _ h => .inl h⟩⟩
  · refine ⟨hv.chg.os, hv.chg.tape, hv.chg.output, by rw [size_setRow]; exact hv.chg.size, fun i hi hn => ?_⟩
    rw [hoth i (fun e => by
      subst e
      rcases hv.lv b i hb with h | ⟨_, h⟩
      · exact hn ⟨b, h⟩
      · omega)]
    exact hv.chg.block i hi hn
  · intro k' o hg; rw [hat k' o hg]; exact hv.cell k' o hg
  · intro b'
    unfold updB
    split
    · rename_i e; subst e; rw [hb]; rfl
    · exact hv.dom b'
  · intro b' k' xs' hm hx'
    by_cases hbb : b' = b
    · subst hbb
      rw [hb] at hm; cases hm
      unfold updB at hx'; rw [if_pos rfl] at hx'; cases hx'
      refine ⟨new, el, us.take off ++ vs ++ us.drop (off + vs.length), hrow, ?_, ?_, ?_⟩
      · rw [hsz]; simp; omega
      · intro j hj
        rw [hget, take_drop_get _ _ _ (by omega)]
        have hj' : j < us.length := by simp at hj; omega
        split
        · exact h3 j hj'
        · split
          · rfl
          · exact h3 j hj'
      · have h4' := RVs.mono (w' := w.setRow k new) (fun _ _ h => h) (fun _ _ h => h) hat _ _ h4
        have hy' := RVs.mono (w' := w.setRow k new) (fun _ _ h => h) (fun _ _ h => h) hat _ _ hy
        unfold splice
        rw [hvl]
        exact ((h4'.take off).append hy').append (h4'.drop _)
    · have hk : k' ≠ k := fun e => hbb (hv.inj b' b k (by rw [← e]; exact hm) hb)
      unfold updB at hx'; rw [if_neg hbb] at hx'
      exact (hv.cont b' k' xs' hm hx').mono (hoth k' hk) (fun _ _ h => h) (fun _ _ h => h) hat
  · intro i k' lo hi ht
    obtain ⟨s1, s2, s3, s4, s5, s6, s7⟩ := hv.tail i k' lo hi ht
    have hk : k' ≠ k := fun e => s7 b (by rw [e]; exact hb)
    refine ⟨s1, by rw [size_setRow]; exact s2, s3, s4, s5, fun o h1 h2 => ?_, s7⟩
    obtain ⟨e1, e2, e3⟩ := s6 o h1 h2
    exact ⟨by rw [at_of_block (hoth k' hk)]; exact e1, by rw [frozen_of_block (hoth k' hk)]; exact e2, e3⟩

theorem out_store (hte : TeOK P te) (hv : Valid N g box w) (hρ : Rel g w a ρ) (t : TypeId) (x y : Operand) (ho : o.op = .store t x y) {box' : Boxes} (h : storeV te box t (ρ x) (ρ y) = some box') : WOut P N g w o a .dead box' := by
  have hx := (hρ x).1
  have hy := (hρ y).1
  unfold storeV at h
  split at h
  · rename_i b off e1
    rw [e1] at hx; simp only [RV] at hx
    obtain ⟨k, hk, he⟩ := hx
    simp only [Option.bind_eq_some_iff] at h
    obtain ⟨ti, ht, xs, hxs, ys, hys, h⟩ := h
    split at h
    · rename_i hc
      cases h
      have hyr := cells_rel hy hys
      obtain ⟨cur, el, h1, h2, h3, h4⟩ := hv.write (vs := (a.eval y).cells.toList) (off := off) hk hxs hyr (by omega)
      have hyl := hyr.length
      refine ⟨undef, _, .inr ⟨?_, rfl⟩, h3, h4, by simp only [RV], trivial⟩
      have hst := run_storeCells_at P k off el (a.eval y).cells.toList 0 cur w h1 (by simpa using h2) (oneAs_rel hyr hc.2.2)
      have hrun : (Instr.storeAt t (a.eval x) (a.eval y)).run P w = .ok () (w.setRow k (cur.toList.take off ++ (a.eval y).cells.toList ++ cur.toList.drop (off + (a.eval y).cells.toList.length)).toArray) := by
        rw [he]
        have hsz : (a.eval y).cells.size = ti.size := by rw [← Array.length_toList, hyl, hc.1]
        simp only [Instr.storeAt, Instr.sureAddr, storeVar, Sem.run_bind, Sem.run_pure, Result.andThen_ok, run_sizeOf hte ht, hsz]
        simpa using hst
      unfold execOp; rw [ho]
      simp only [Sem.run_bind, hrun, Result.andThen_ok, Sem.run_pure]
    · cases h
  · cases h

theorem out_copy (hte : TeOK P te) (hv : Valid N g box w) (hρ : Rel g w a ρ) (x y : Operand) (args : Array Operand) (ts : Array TypeId) (t : TypeId) (rest : List TypeId) (ho : o.op = .call { callee := .builtin .copy, args := args, argTypes := ts })
    (ha : args.toList = [x, y]) (hts : ts.toList = t :: rest) {n : Nat} {box' : Boxes} (h : copyV te box t (ρ x) (ρ y) = some (n, box')) : WOut P N g w o a (.raw (.int .i64 n)) box' := by
  have hx := (hρ x).1
  have hy := (hρ y).1
  have ha' : args = #[x, y] := by rw [← Array.toArray_toList (xs := args), ha]
  have hts' : ts[0]? = some t := by rw [← Array.toArray_toList (xs := ts), hts]; simp
  unfold copyV at h
  split at h
  · rename_i e b off nd cd z hk e1
    rw [e1] at hx; simp only [RV] at hx
    obtain ⟨k, oo, hb, he, hnc, hoo⟩ := hx
    obtain ⟨_, _, _, d0, hd0, hk0⟩ := kd_some hte hk (by simp)
    simp only [TKis] at hk0; subst hk0
    split at h
    · cases h
    rename_i hnstr
    simp only [Option.bind_eq_some_iff] at h
    obtain ⟨ti, ht, h⟩ := h
    split at h
    · rename_i hz
      simp only [Option.bind_eq_some_iff] at h
      obtain ⟨⟨m, ys⟩, hsl, xs, hxs, h⟩ := h
      split at h
      · rename_i hc
        cases h
        obtain ⟨c1, c2⟩ := hc
        simp only at c2
        obtain ⟨i, zz, hi, hs, _⟩ := (hte e ti ht).info
        -- what is copied
        have hsrc : ∃ vs : List Value, RVs g.μ g.G w (ys.take (min m nd * z)) vs ∧ (Builtin.firstCells ti.size (min m nd) (a.eval y)).run P w = .ok vs.toArray w ∧ (∀ w', (Builtin.lenOf (a.eval y)).run P w' = .ok m w') ∧ vs.length = min m nd * z := by
          rcases slCells_rel hv hy hsl with ⟨s, hs1, hs2, hs3, hs4⟩ | ⟨h1, h2, h3⟩ | ⟨k2, off2, c2', us, h1, h2, h3, h4, h5⟩
          · obtain ⟨y0, hy0⟩ : ∃ y0, ρ y = y0 := ⟨_, rfl⟩
            rw [hy0] at hsl hy hnstr
            rw [hs1] at hy
            unfold slCells at hsl
            split at hsl
            · simp only [RV] at hy; cases hy
            · simp only [RV] at hy
              rcases hy with ⟨h, _⟩ | ⟨_, _, _, _, h, _⟩ <;> cases h
            · simp only [RV] at hy
              obtain ⟨_, _, _, h, _⟩ := hy; cases h
            · exact absurd rfl hnstr
            · cases hsl
          · subst h2; subst h3
            refine ⟨[], ?_, ?_, ?_, by simp⟩
            · simp; exact RVs.nil
            · rw [h1]; simp [Builtin.firstCells]
            · rw [h1]; exact fun _ => rfl
          · refine ⟨us.take (min m nd * z), h3.take _, ?_, ?_, ?_⟩
            · rw [h1]
              have hml : min m nd * z ≤ m * z := Nat.mul_le_mul_right _ (Nat.min_le_left _ _)
              refine run_firstCells_some w ti.size (min m nd) ⟨k2, off2, none⟩ m c2' _ ?_ (fun j v hv => ?_)
              · rw [List.length_take, h5, hz]; rw [hz] at hml; omega
              · have hj : j < us.length := by
                  have := (List.getElem?_eq_some_iff.1 hv).1
                  rw [List.length_take] at this; omega
                rw [List.getElem?_take] at hv
                split at hv
                · rw [addr_add]; exact (h4 j hj).trans hv
                · cases hv
            · rw [h1]; exact fun _ => rfl
            · have hml : min m nd * z ≤ m * z := Nat.mul_le_mul_right _ (Nat.min_le_left _ _)
              rw [List.length_take, h5]; omega
        obtain ⟨vs, v1, v2, v3, v4⟩ := hsrc
        have v1l := v1.length
        have hmn : min m nd * z ≤ nd * z := Nat.mul_le_mul_right _ (Nat.min_le_right _ _)
        obtain ⟨cur, el, h1, h2, h3, h4⟩ := hv.write (off := off) hb hxs v1 (by omega)
        have hst := run_storeCells_at P k off el vs 0 cur w h1 (by simpa using h2) (oneAs_rel v1 c2)
        refine ⟨_, _, .inl ?_, h3, h4, by simp only [RV]; rfl, trivial⟩
        subst ha'
        unfold execOp; rw [ho]
        simp only [resolve, Sem.run_bind, Sem.run_pure, Result.andThen_ok, invoke, builtin]
        have hz0 : oo = off ∨ vs = [] := by
          rcases hoo with h | h
          · exact .inl h
          · right; exact List.length_eq_zero_iff.1 (by rw [v4, show nd = 0 by omega]; simp)
        have hrun : (Builtin.copy_ ts o.type #[a.eval x, a.eval y]).run P w = .ok (.int .i64 (min m nd : Nat)) (w.setRow k (cur.toList.take off ++ vs ++ cur.toList.drop (off + vs.length)).toArray) := by
          rw [he]
          have hst' : (storeCells ⟨k, oo, none⟩ vs 0).run P w = .ok () (w.setRow k (cur.toList.take off ++ vs ++ cur.toList.drop (off + vs.length)).toArray) := by
            rcases hz0 with h | h
            · rw [h]; simpa using hst
            · subst h
              have hself : (cur.toList.take off ++ [] ++ cur.toList.drop (off + 0)).toArray = cur := by simp
              simp only [storeCells, List.length_nil]
              rw [hself, setRow_self w k cur el (0, 0) h1]; rfl
          have hmin : Nat.min m nd = min m nd := rfl
          simp [Builtin.copy_, hts', run_underlying hd0, v3, sizeOf, typeInfo, hi, hs, hmin, v2, hst', goInt]
        simp [hrun]
      · cases h
    · cases h
  · cases h
end
end Go.Abs
