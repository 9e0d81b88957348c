/- An abstract machine for Go code: values by value, boxes by name. Definitions. -/
import Derived.Orders
import Derived.Below
namespace Go.Abs
set_option linter.unusedSimpArgs false
set_option linter.unusedVariables false
open Go

/-- A block of the function's own (level, slot, how often made), or one that came in. -/
inductive Bx where
  | own (l s n : Nat)
  deriving DecidableEq

def Bx.lvl : Bx → Nat | .own l _ _ => l

structure Id where
  slot : Nat
  comp : Nat
  gen : Nat
  deriving DecidableEq

/-- What is known of the room behind a slice: nothing; none; it is one's own. -/
inductive Fl where
  | bor | full | own (i : Id) (sz : Nat)

inductive AV where
  | dead
  | raw (v : Value)
  | anyb
  | sl (n : Nat) (xs : List AV) (fl : Fl)
  | ptr (b : Bx) (off : Nat)
  | iptr (xs : List AV)
  | view (b : Bx) (off n c sz : Nat)
  | agg (xs : List AV)
  | tup (xs : List AV)
  | fn (f : FuncId) (caps : List AV)
  | nptr (xs : List AV)

/-- A type's underlying shape, as far as the machine looks at it. -/
inductive TK where
  | arr (len : Nat) (elem : TypeId)
  | st (fs : List (Nat × TypeId))
  | slice (elem : TypeId)
  | str | int (k : IntKind) | bool
  | ptr (elem : TypeId)
  | other

structure TI where
  kind : TK
  size : Nat
  bytes : Nat
  zero : List Value

abbrev Boxes := Bx → Option (List AV)

inductive Out where
  | ret (v : AV)
  | pan (v : AV)

inductive Entry where
  | val (f : List AV → Option AV)
  | gen (f : List AV → Boxes → Option (Out × Boxes))

structure Env where
  te : TypeId → Option TI
  glob : Nat → Option (List AV)
  tbl : FuncId → Option Entry
  mu : Nat → Bool

structure AS where
  slots : Nat → AV
  gen : Nat → Nat
  box : Boxes
  used : Id → Bool

def upd {β : Type} (f : Nat → β) (i : Nat) (v : β) : Nat → β := fun j => if j = i then v else f j
def updB (f : Boxes) (i : Bx) (v : List AV) : Boxes := fun j => if j = i then some v else f j
def updI (f : Id → Bool) (i : Id) : Id → Bool := fun j => if j = i then true else f j

def ofV : Value → AV
  | .agg cs => .agg (cs.toList.map .raw)
  | v => .raw v

/-- its cells, if it is known to be something -/
def AV.cells : AV → Option (List AV)
  | .dead => none
  | .agg xs => some xs
  | .raw (.agg cs) => some (cs.toList.map .raw)
  | v => some [v]

def ev (E : Env) (sl : Nat → AV) : Operand → AV
  | .tmp t => sl t
  | .const v => ofV v
  | .global g => match E.glob g with | some xs => .iptr xs | none => .dead
  | .func f => .fn f []

/-! ### plain operations -/

def shiftV (op : BinOp) (k : IntKind) (x y : Int) : Option AV :=
  if y < 0 then none else
  match op with
  | .shl => some (.raw (.int k (k.wrap (x * 2 ^ (min y.toNat k.bits)))))
  | .shr => some (.raw (.int k (x.fdiv (2 ^ (min y.toNat k.bits)))))
  | _ => none

def intV (op : BinOp) (k : IntKind) (x y : Int) : Option AV :=
  match op with
  | .add => some (.raw (.int k (k.wrap (x + y))))
  | .sub => some (.raw (.int k (k.wrap (x - y))))
  | .mul => some (.raw (.int k (k.wrap (x * y))))
  | .quo => if y = 0 then none else some (.raw (.int k (k.wrap (x.tdiv y))))
  | .rem => if y = 0 then none else some (.raw (.int k (x.tmod y)))
  | .and => some (.raw (.int k (k.wrap (BitVec.ofInt k.bits x &&& BitVec.ofInt k.bits y).toNat)))
  | .or => some (.raw (.int k (k.wrap (BitVec.ofInt k.bits x ||| BitVec.ofInt k.bits y).toNat)))
  | .xor => some (.raw (.int k (k.wrap (BitVec.ofInt k.bits x ^^^ BitVec.ofInt k.bits y).toNat)))
  | .andNot => some (.raw (.int k (k.wrap (BitVec.ofInt k.bits x &&& ~~~BitVec.ofInt k.bits y).toNat)))
  | .eql => some (.raw (.bool (x == y)))
  | .neq => some (.raw (.bool (x != y)))
  | .lss => some (.raw (.bool (x < y)))
  | .leq => some (.raw (.bool (x ≤ y)))
  | .gtr => some (.raw (.bool (x > y)))
  | .geq => some (.raw (.bool (x ≥ y)))
  | _ => none

/-- all cells are whole numbers -/
def asInts : List AV → Option (List (IntKind × Int))
  | [] => some []
  | .raw (.int k n) :: xs => (asInts xs).map ((k, n) :: ·)
  | _ => none

def eqNeg (op : BinOp) (b : Bool) : Option AV :=
  match op with
  | .eql => some (.raw (.bool b))
  | .neq => some (.raw (.bool !b))
  | _ => none

def kd (te : TypeId → Option TI) (t : TypeId) : TK := match te t with | some i => i.kind | none => .other

def binV (te : TypeId → Option TI) (op : BinOp) (t : TypeId) (x y : AV) : Option AV :=
  match x, y with
  | .raw (.int k a), .raw (.int k' b) =>
    match op with
    | .shl | .shr => shiftV op k a b
    | _ => if k = k' then intV op k a b else none
  | .raw (.bool a), .raw (.bool b) =>
    match kd te t with
    | .bool => eqNeg op (a == b)
    | _ => none
  | .raw (.string a), .raw (.string b) =>
    match op with
    | .eql => some (.raw (.bool (a.data.toList == b.data.toList)))
    | .neq => some (.raw (.bool !(a.data.toList == b.data.toList)))
    | _ => none
  | .raw (.slice none 0 0), .raw (.slice none 0 0) =>
    match kd te t with
    | .slice _ => eqNeg op true
    | _ => none
  | .sl n _ _, .raw (.slice none 0 0) =>
    match kd te t, op with
    | .slice _, .eql => some (if n = 0 then .anyb else .raw (.bool false))
    | .slice _, .neq => some (if n = 0 then .anyb else .raw (.bool true))
    | _, _ => none
  | .view _ _ _ _ _, .raw (.slice none 0 0) =>
    match kd te t with
    | .slice _ => eqNeg op false
    | _ => none
  | .ptr _ _, .raw (.pointer none) =>
    match kd te t with
    | .ptr _ => eqNeg op false
    | _ => none
  | .iptr _, .raw (.pointer none) =>
    match kd te t with
    | .ptr _ => eqNeg op false
    | _ => none
  | .raw (.pointer none), .raw (.pointer none) =>
    match kd te t with
    | .ptr _ => eqNeg op true
    | _ => none
  | .agg xs, .agg ys =>
    match kd te t, asInts xs, asInts ys with
    | .arr len e, some us, some vs =>
      match te e with
      | some ⟨.int k, 1, _, _⟩ => if us.length = len ∧ vs.length = len ∧ us.all (·.1 == k) ∧ vs.all (·.1 == k) then eqNeg op (us.map (·.2) == vs.map (·.2)) else none
      | _ => none
    | _, _, _ => none
  | _, _ => none

def unV (op : UnOp) (x : AV) : Option AV :=
  match op, x with
  | .neg, .raw (.int k n) => some (.raw (.int k (k.wrap (0 - n))))
  | .xor, .raw (.int k n) => some (.raw (.int k (k.wrap (BitVec.ofInt k.bits (if k.signed then -1 else k.max) ^^^ BitVec.ofInt k.bits n).toNat)))
  | .not, .raw (.bool b) => some (.raw (.bool !b))
  | .not, .anyb => some .anyb
  | _, _ => none

def asBytes : List AV → Option (List UInt8)
  | [] => some []
  | .raw (.int .u8 n) :: xs => (asBytes xs).map (UInt8.ofNat n.toNat :: ·)
  | _ => none

/-- what a slice holds: how many, its cells (a view's out of its box) -/
def slCells (bx : Boxes) (sz : Nat) : AV → Option (Nat × List AV)
  | .raw (.slice none 0 0) => some (0, [])
  | .sl n xs _ => if xs.length = n * sz then some (n, xs) else none
  | .view b off n _ z => (bx b).bind fun xs => if z = sz ∧ off + n * sz ≤ xs.length then some (n, (xs.drop off).take (n * sz)) else none
  | .raw (.string s) => if sz = 1 then some (s.size, s.data.toList.map fun b => .raw (.int .u8 b.toNat)) else none
  | _ => none

def bound (m : Nat) : AV → Option Nat
  | .raw (.int _ i) => if 0 ≤ i ∧ i ≤ m then some i.toNat else none
  | _ => none

def boundOr (m d : Nat) : Option AV → Option Nat
  | none => some d
  | some v => bound m v

/-- places in a struct or array: offset and size of the part i -/
def place (te : TypeId → Option TI) (k : TK) (i : Nat) : Option (Nat × Nat) :=
  match k with
  | .st fs => (fs[i]?).bind fun f => (te f.2).map fun ti => (f.1, ti.size)
  | .arr _ e => (te e).map fun ti => (i * ti.size, ti.size)
  | .slice e => (te e).map fun ti => (i * ti.size, ti.size)
  | _ => none

/-- fits one cell -/
def oneA : AV → Bool
  | .dead | .agg _ | .tup _ | .nptr _ => false
  | .raw (.agg _) | .raw (.tuple _) => false
  | _ => true

/-- cells ys laid into xs from off on -/
def splice (xs : List AV) (off : Nat) (ys : List AV) : List AV := xs.take off ++ ys ++ xs.drop (off + ys.length)

def fillV (te : TypeId → Option TI) (k : TK) : List AV → List (Nat × AV) → Option (List AV)
  | cs, [] => some cs
  | cs, (i, v) :: rest =>
    match place te k i with
    | none => none
    | some (off, size) => match v.cells with
      | some ys => if ys.length = size ∧ off + size ≤ cs.length then fillV te k (splice cs off ys) rest else none
      | none => none

def rep {α : Type} : Nat → List α → List α
  | 0, _ => []
  | n + 1, xs => xs ++ rep n xs

def isAggK : TK → Bool
  | .arr _ _ | .st _ => true
  | _ => false

/-- a value as it is told of inside of others: nothing is said of the room behind a slice -/
def strip : AV → AV
  | .sl n xs _ => .sl n xs .bor
  | .tup _ => .dead
  | v => v

/-- a part of some cells, by its type -/
def partV (te : TypeId → Option TI) (t : TypeId) (cs : List AV) (off : Nat) : Option AV :=
  (te t).bind fun ti =>
    if isAggK ti.kind then (if off + ti.size ≤ cs.length then some (.agg ((cs.drop off).take ti.size)) else none)
    else (cs[off]?).map strip

def flatL : List AV → Option (List AV)
  | [] => some []
  | .raw v :: xs => (flatL xs).map (.raw v :: ·)
  | _ => none

mutual
/-- a value with its views read, to be handed to a function that sees no boxes -/
def snap (bx : Boxes) : AV → Option AV
  | .dead => some .dead
  | .raw v => some (.raw v)
  | .anyb => some .anyb
  | .sl n xs _ => (snapL bx xs).map fun ys => .sl n ys .bor
  | .view b off n _ z => (bx b).bind fun xs => if off + n * z ≤ xs.length then (flatL ((xs.drop off).take (n * z))).map fun ys => .sl n ys .bor else none
  | .agg xs => (snapL bx xs).map .agg
  | .tup xs => (snapL bx xs).map .tup
  | .fn f caps => if caps.isEmpty then some (.fn f []) else none
  | .ptr _ _ => none
  | .iptr _ => none
  | .nptr _ => none
def snapL (bx : Boxes) : List AV → Option (List AV)
  | [] => some []
  | x :: xs => (snap bx x).bind fun y => (snapL bx xs).map (y :: ·)
end
end Go.Abs
