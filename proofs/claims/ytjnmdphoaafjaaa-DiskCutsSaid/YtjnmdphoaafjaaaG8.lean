/- From a promise to a row. -/
import Derived.Test.YtjnmdphoaafjaaaG7
import Derived.ProofKit
import Derived.LaidMore
import Derived.OpenShut
import Derived.Stop.Joined
import Derived.Lib.LaidTab
/- From a function's promise to a row: arguments read as data, and what the call leaves. -/
namespace Go.Abs
set_option linter.unusedSimpArgs false
set_option linter.unusedVariables false
open Go Go.ChangeShapes Go.WideShapes Go.ChangeAt Go.RowKit

/-- all cells that there are -/
def allG (W : World) : Nat → Nat → Prop := fun k o => (at_ W k o).isSome

theorem SoundV.calls {P : Program} {glob : Nat → Option (List AV)} {f : FuncId} {pf : List AV → Option AV} (h : SoundV P glob f pf) {args : List AV} {v : Value} {W : World} {vals : List Value} (hr : pf args = some (.raw v))
    (hg : ∀ gi xs, glob gi = some xs → RV noMu (allG W) W (.iptr xs) (.pointer (some ⟨gi, 0, none⟩))) (ha : RVs noMu (allG W) W args vals) :
    Calls P f vals.toArray W fun e W' => e = .returned v ∧ Below W.heap.size W W' := by
  refine (h.2 args _ hr (allG W) W vals ⟨fun _ _ h => h, hg, ha⟩).mono ?_
  rintro e W' ⟨u, G', T, rfl, hp⟩
  have hu := hp.rel
  simp only [RV] at hu
  exact ⟨by rw [hu], hp.below⟩

theorem RVs.nums {μ : Bx → Option Nat} {G : Nat → Nat → Prop} {W : World} {k : IntKind} {w : Nat} (m : List (BitVec w)) : RVs μ G W (nums k m) (m.map fun x => .int k (x.toNat : Int)) := by
  have := RVs.raws (μ := μ) (G := G) (w := W) (m.map fun x => Value.int k (x.toNat : Int))
  rwa [List.map_map] at this

/-- numbers in a kind's range, as bits -/
theorem bits_of {k : IntKind} {w : Nat} (hk : ∀ z, (Lit.int k z).wf = true → 0 ≤ z ∧ z < 2 ^ w) : ∀ zs : List Int, (∀ z ∈ zs, (Lit.int k z).wf = true) → (zs.map fun z => BitVec.ofInt w z).map (fun x => (x.toNat : Int)) = zs := by
  intro zs hz
  rw [List.map_map]
  conv => rhs; rw [← List.map_id zs]
  refine List.map_congr_left fun z hm => ?_
  obtain ⟨h1, h2⟩ := hk z (hz z hm)
  simp only [Function.comp, id, BitVec.toNat_ofInt]
  have hp : ((2 ^ w : Nat) : Int) = 2 ^ w := by simp
  rw [hp, Int.emod_eq_of_lt h1 h2, Int.toNat_of_nonneg h1]

/-- an argument that is a slice of numbers -/
theorem open_row {H : Type} {enc : TypeId × Value → H} {P : Program} {W : World} {base : Nat} {t e : TypeId} {k : IntKind} {w : Nat} {v : Value} {d : DataW H} {p : List MemPlace} (ht : P.underlying t = some (.slice e)) (he : P.underlying e = some (.int k)) (hc : P.cellsOf e = 1)
    (hk : ∀ z, (Lit.int k z).wf = true → 0 ≤ z ∧ z < 2 ^ w) (hv : Value.okWide P W .any base t v) (h0 : DataW.Trod enc P W 0 (fun _ => true) true t v d p) :
    ∃ m : List (BitVec w), m.length ≤ maxLen ∧ RV noMu (allG W) W (.sl m.length (nums k m) .bor) v := by
  obtain ⟨a, len, cap, rfl⟩ := okWide_slice ht hv
  obtain ⟨fuel, hf⟩ := h0
  rcases open_ints ht he hc hf with ⟨hcs, _⟩ | ⟨a', len', cap', zs, hcs, _, hl, hm, hz, _, hcell, hwf⟩
  · simp [Value.cells] at hcs
    obtain ⟨rfl, rfl, rfl⟩ := hcs
    exact ⟨[], Nat.zero_le _, by simp only [RV]; exact .inl (by simp [nums])⟩
  · simp [Value.cells] at hcs
    obtain ⟨rfl, rfl, rfl⟩ := hcs
    have hsp : a'.spot = none := by
      simp only [Value.okWide, ht, Cell.okWide, Cell.ok] at hv
      exact hv.2.2.2.1
    obtain ⟨b, o, s⟩ := a'
    cases hsp
    simp only [if_true] at hz
    refine ⟨(zs.take len).map fun z => BitVec.ofInt w z, by simp; omega, ?_⟩
    simp only [RV]
    have hb := bits_of hk (zs.take len) fun z hz => hwf z (List.mem_of_mem_take hz)
    have hlen : ((zs.take len).map fun z => BitVec.ofInt w z).length = len := by simp; omega
    refine .inr ⟨b, o, cap, _, by rw [hlen], by rw [hlen]; exact hl, RVs.nums _, fun j hj => ?_⟩
    have hjl : j < len := by simpa using (by rw [List.length_map, hlen] at hj; exact hj)
    have hv : at_ W b (o + j) = some (.int k (zs.getD j 0)) := by
      have := hcell j (by omega)
      rwa [add_plain] at this
    refine ⟨?_, by show (at_ W b (o + j)).isSome = true; rw [hv]; rfl⟩
    rw [hv]
    have e2 : ((zs.take len).map fun z => BitVec.ofInt w z).map (fun x => Value.int k (x.toNat : Int)) = (zs.take len).map (Value.int k) := by
      conv => rhs; rw [← hb]
      rw [List.map_map, List.map_map, List.map_map]
      rfl
    rw [e2]
    simp only [List.getElem?_map, List.getElem?_take, if_pos hjl, List.getElem?_eq_getElem (show j < zs.length by omega), Option.map_some, List.getD_eq_getElem?_getD, Option.getD_some]

/-- an argument that is an array of numbers -/
theorem open_arr {P : Program} {W : World} {base : Nat} {t e : TypeId} {k : IntKind} {w n : Nat} {v : Value} (ht : P.underlying t = some (.array n e)) (hts : P.cellTypes P.depth t = some (List.replicate n e)) (hn : 0 < n) (hct : P.cellsOf t = n) (he : P.underlying e = some (.int k))
    (hk : ∀ z, k.has z → 0 ≤ z ∧ z < 2 ^ w) (hv : Value.okWide P W .any base t v) : ∃ m : List (BitVec w), m.length = n ∧ RV noMu (allG W) W (.agg (nums k m)) v := by
  simp only [Value.okWide, ht] at hv
  obtain ⟨cs, rfl, hsz, ts, hts', _, hrow⟩ := hv
  rw [hts] at hts'; cases hts'
  rw [hct] at hsz
  have each : ∀ i (hi : i < cs.size), ∃ z, cs[i] = .int k z ∧ 0 ≤ z ∧ z < 2 ^ w := by
    intro i hi
    obtain ⟨u, hu, hc⟩ := hrow i cs[i] (by simp [hi])
    have hu' : u = e := by
      have := List.mem_of_getElem? hu
      exact (List.mem_replicate.1 this).2
    subst hu'
    simp only [Cell.okWide, he] at hc
    cases hx : cs[i] <;> rw [hx] at hc <;> simp only [Cell.ok, he] at hc
    rename_i k' z
    obtain ⟨rfl, h2⟩ := hc
    exact ⟨z, rfl, hk z h2⟩
  refine ⟨cs.toList.map fun v => match v with | .int _ z => BitVec.ofInt w z | _ => 0#w, by simp [hsz], ?_⟩
  simp only [RV]
  refine ⟨cs.toList, by simp, ?_⟩
  have : cs.toList = (cs.toList.map fun v => match v with | .int _ z => BitVec.ofInt w z | _ => 0#w).map fun x => Value.int k (x.toNat : Int) := by
    rw [List.map_map]
    conv => lhs; rw [← List.map_id cs.toList]
    refine List.map_congr_left fun v hv => ?_
    obtain ⟨i, hi, rfl⟩ := List.mem_iff_getElem.1 hv
    obtain ⟨z, hz, h1, h2⟩ := each i (by simpa using hi)
    simp only [id, Function.comp, Array.getElem_toList, hz]
    simp only [BitVec.toNat_ofInt]
    have hp : ((2 ^ w : Nat) : Int) = 2 ^ w := by simp
    rw [hp, Int.emod_eq_of_lt h1 h2, Int.toNat_of_nonneg h1]
  conv => arg 5; rw [this]
  exact RVs.nums _

/-- a listed table of numbers, as a global -/
theorem glob_of_tab {P : Program} {W : World} {name : String} {k : IntKind} {w g : Nat} {m : List (BitVec w)} (h : Lib.TabIs P W name k (m.map fun x => (x.toNat : Int))) (hg : P.globalNamed name = some g) :
    RV noMu (allG W) W (.iptr (nums k m)) (.pointer (some ⟨g, 0, none⟩)) := by
  simp only [RV]
  refine ⟨g, 0, _, rfl, RVs.nums _, fun j hj => ?_⟩
  have hjl : j < m.length := by simpa using hj
  have hc := h.cell hg j (by simpa using hjl)
  have hat : at_ W g (0 + j) = some (.int k ((m.map fun x => (x.toNat : Int)).getD j 0)) := by rw [Nat.zero_add]; exact hc
  refine ⟨?_, by show (at_ W g (0 + j)).isSome = true; rw [hat]; rfl⟩
  rw [hat]
  simp [hjl]
end Go.Abs

/- An argument that is a whole number. -/
namespace Go.Abs
set_option linter.unusedSimpArgs false
set_option linter.unusedVariables false
open Go

theorem open_i64 {P : Program} {W : World} {base : Nat} {t : TypeId} {v : Value} (ht : P.underlying t = some (.int .i64)) (hv : Value.okWide P W .any base t v) :
    ∃ n : Int, (-9223372036854775808 ≤ n ∧ n ≤ 9223372036854775807) ∧ RV noMu (allG W) W (.raw (.int .i64 n)) v := by
  simp only [Value.okWide, ht, Cell.okWide] at hv
  cases v <;> simp only [Cell.ok, ht] at hv
  rename_i k n
  obtain ⟨rfl, h⟩ := hv
  have h1 : IntKind.i64.min = -9223372036854775808 := rfl
  have h2 : IntKind.i64.max = 9223372036854775807 := rfl
  unfold IntKind.has at h
  exact ⟨n, by omega, by simp only [RV]⟩
end Go.Abs
