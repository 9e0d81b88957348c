/- What the abstract machine's states mean in the model's worlds. -/
import Derived.Test.YteooikdcafodfaaDoorAb
namespace Go.Abs
set_option linter.unusedSimpArgs false
set_option linter.unusedVariables false
open Go

/-- What is kept beside: each box's block; the cells that no one writes any more; the room behind one's own slices; how often each slot has made something; whose room is taken. -/
structure Ghost where
  μ : Bx → Option Nat
  G : Nat → Nat → Prop
  T : Id → Option (Nat × Nat × Nat)
  U : Nat → Nat
  D : Id → Bool

def at_ (w : World) (k o : Nat) : Option Value := w.cell? ⟨k, o, none⟩

/-- cells of block k from o on read so, and nobody writes them any more -/
def Read (w : World) (G : Nat → Nat → Prop) (k o : Nat) (us : List Value) : Prop :=
  ∀ j, j < us.length → at_ w k (o + j) = us[j]? ∧ G k (o + j)

mutual
def RV (μ : Bx → Option Nat) (G : Nat → Nat → Prop) (w : World) : AV → Value → Prop
  | .dead, _ => True
  | .raw v, u => u = v
  | .anyb, u => ∃ b, u = .bool b
  | .sl n xs _, u => (u = .slice none 0 0 ∧ n = 0 ∧ xs = []) ∨
      ∃ k o c us, u = .slice (some ⟨k, o, none⟩) n c ∧ n ≤ c ∧ RVs μ G w xs us ∧ Read w G k o us
  | .ptr b off, u => ∃ k, μ b = some k ∧ u = .pointer (some ⟨k, off, none⟩)
  | .iptr xs, u => ∃ k o us, u = .pointer (some ⟨k, o, none⟩) ∧ RVs μ G w xs us ∧ Read w G k o us
  | .view b off n c _, u => ∃ k o, μ b = some k ∧ u = .slice (some ⟨k, o, none⟩) n c ∧ n ≤ c ∧ (o = off ∨ c = 0)
  | .agg xs, u => ∃ us, u = .agg us.toArray ∧ RVs μ G w xs us
  | .tup xs, u => ∃ us, u = .tuple us.toArray ∧ RVs μ G w xs us
  | .fn f cs, u => ∃ us, u = .func (.func f) #[] us.toArray ∧ RVs μ G w cs us
  | .nptr _, _ => False
def RVs (μ : Bx → Option Nat) (G : Nat → Nat → Prop) (w : World) : List AV → List Value → Prop
  | [], us => us = []
  | x :: xs, us => ∃ u us', us = u :: us' ∧ RV μ G w x u ∧ RVs μ G w xs us'
end

/-- what a slice's flag says -/
def FlOK (g : Ghost) (fl : Fl) (m : Nat) (u : Value) : Prop :=
  match fl, u with
  | .bor, _ => True
  | .full, .slice _ n c => c = n
  | .own i sz, .slice a n c => i.gen ≤ g.U i.slot ∧ (g.D i = true ∨ (a = none ∧ n = 0 ∧ c = 0) ∨ ∃ k o lo hi, a = some ⟨k, o, none⟩ ∧ m = n * sz ∧ g.T i = some (k, lo, hi) ∧ (c = n ∨ (lo = o + m ∧ hi = o + c * sz)))
  | _, _ => False

def Top (g : Ghost) : AV → Value → Prop
  | .sl _ xs fl, u => FlOK g fl xs.length u
  | .tup vs, u => ∃ us, u = .tuple us ∧ ∀ (j n : Nat) (xs : List AV) (fl : Fl) (v : Value), vs[j]? = some (.sl n xs fl) → us[j]? = some v → FlOK g fl xs.length v
  | _, _ => True

/-- a function's entry: its level, how many slots; the world and the ghost that it found -/
structure Ent where
  lvl : Nat
  N : Nat
  w0 : World
  μ0 : Bx → Option Nat
  G0 : Nat → Nat → Prop

structure Chg (w w' : World) (may : Nat → Prop) : Prop where
  os : w'.os = w.os
  tape : w'.tape = w.tape
  output : w'.output = w.output
  size : w.heap.size ≤ w'.heap.size
  block : ∀ i, i < w.heap.size → ¬ may i → w'.heap[i]? = w.heap[i]?

/-- block k is a row of cells that begins with xs -/
def Holds (μ : Bx → Option Nat) (G : Nat → Nat → Prop) (w : World) (k : Nat) (xs : List AV) : Prop :=
  ∃ cs el us, w.heap[k]? = some (.cells cs el (0, 0)) ∧ us.length ≤ cs.size ∧ (∀ j, j < us.length → cs[j]? = us[j]?) ∧ RVs μ G w xs us

structure Valid (N : Ent) (g : Ghost) (box : Boxes) (w : World) : Prop where
  chg : Chg N.w0 w (fun i => ∃ b, N.μ0 b = some i)
  sub : ∀ k o, N.G0 k o → g.G k o
  old : ∀ k o, g.G k o → k < N.w0.heap.size → N.G0 k o
  cell : ∀ k o, g.G k o → (at_ w k o).isSome
  gmu : ∀ k o b, g.G k o → g.μ b ≠ some k
  ext : ∀ b k, N.μ0 b = some k → g.μ b = some k
  lv : ∀ b k, g.μ b = some k → N.μ0 b = some k ∨ (b.lvl = N.lvl ∧ N.w0.heap.size ≤ k)
  low : ∀ b k, N.μ0 b = some k → b.lvl < N.lvl ∧ k < N.w0.heap.size
  fresh : ∀ s n k, g.μ (.own N.lvl s n) = some k → n ≤ g.U s
  inj : ∀ b b' k, g.μ b = some k → g.μ b' = some k → b = b'
  dom : ∀ b, (box b).isSome = (g.μ b).isSome
  cont : ∀ b k xs, g.μ b = some k → box b = some xs → Holds g.μ g.G w k xs
  tail : ∀ i k lo hi, g.T i = some (k, lo, hi) → N.w0.heap.size ≤ k ∧ k < w.heap.size ∧ i.gen ≤ g.U i.slot ∧ g.D i = false ∧
    lo ≤ hi ∧ (∀ o, lo ≤ o → o < hi → (at_ w k o).isSome ∧ w.frozen? ⟨k, o, none⟩ = false ∧ ¬ g.G k o) ∧ (∀ b, g.μ b ≠ some k)
  dgen : ∀ i, g.D i = true → i.gen ≤ g.U i.slot
  tinj : ∀ i j k lo hi lo' hi', g.T i = some (k, lo, hi) → g.T j = some (k, lo', hi') → i = j

def Sim (N : Ent) (σ : AS) (a : Act) (w : World) : Prop :=
  ∃ g, Valid N g σ.box w ∧ g.U = σ.gen ∧ g.D = σ.used ∧ a.tmps.size = N.N ∧ a.defers = [] ∧
    ∀ i, RV g.μ g.G w (σ.slots i) (a.tmps.getD i undef) ∧ Top g (σ.slots i) (a.tmps.getD i undef)
end Go.Abs
