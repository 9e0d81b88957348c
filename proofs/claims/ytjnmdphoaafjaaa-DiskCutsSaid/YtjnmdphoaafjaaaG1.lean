/- An abstract machine for Go code, and what its states mean. -/
import Derived.Orders
import Derived.Below
import Derived.WalkKit
import Derived.Deep.MidRow
/- An abstract machine for Go code: values by value, boxes by name. Definitions. -/
namespace Go.Abs
set_option linter.unusedSimpArgs false
set_option linter.unusedVariables false
open Go

/-- A block of the function's own (level, slot, how often made), or one that came in. -/
inductive Bx where
  | own (l s n : Nat)
  deriving DecidableEq

def Bx.lvl : Bx → Nat | .own l _ _ => l

structure Id where
  lvl : Nat
  slot : Nat
  comp : Nat
  gen : Nat
  deriving DecidableEq

/-- What is known of the room behind a slice: nothing; none; it is one's own. -/
inductive Fl where
  | bor | full | own (i : Id) (sz : Nat)

inductive AV where
  | dead
  | raw (v : Value)
  | anyb
  | sl (n : Nat) (xs : List AV) (fl : Fl)
  | ptr (b : Bx) (off : Nat)
  | iptr (xs : List AV)
  | view (b : Bx) (off n c sz : Nat)
  | agg (xs : List AV)
  | tup (xs : List AV)
  | fn (f : FuncId) (caps : List AV)
  | nptr (xs : List AV)

/-- A type's underlying shape, as far as the machine looks at it. -/
inductive TK where
  | arr (len : Nat) (elem : TypeId)
  | st (fs : List (Nat × TypeId))
  | slice (elem : TypeId)
  | str | int (k : IntKind) | bool
  | ptr (elem : TypeId)
  | other

structure TI where
  kind : TK
  size : Nat
  bytes : Nat
  zero : List Value

abbrev Boxes := Bx → Option (List AV)

inductive Out where
  | ret (v : AV)
  | pan (v : AV)

/-- what a call that sees boxes comes to: its value, a new box's cells (its name stands as 'own 0 0 0' until it is known), boxes that it writes, whose room it takes -/
structure CR where
  v : Out
  cont : Option (List AV) := none
  wr : List (Bx × List AV) := []
  use : List Id := []

inductive Entry where
  | val (f : List AV → Option AV)
  | gen (f : List AV → Boxes → (Id → Bool) → Option CR)

structure Env where
  te : TypeId → Option TI
  glob : Nat → Option (List AV)
  tbl : FuncId → Option Entry
  mu : Nat → Bool
  dyn : Bool
  gs : List FuncId

structure AS where
  slots : Nat → AV
  gen : Nat → Nat
  box : Boxes
  used : Id → Bool

def upd {β : Type} (f : Nat → β) (i : Nat) (v : β) : Nat → β := fun j => if j = i then v else f j
def updB (f : Boxes) (i : Bx) (v : List AV) : Boxes := fun j => if j = i then some v else f j
def updI (f : Id → Bool) (i : Id) : Id → Bool := fun j => if j = i then true else f j
def applyW (bx : Boxes) : List (Bx × List AV) → Boxes
  | [] => bx
  | p :: l => applyW (updB bx p.1 p.2) l
def useL (u : Id → Bool) : List Id → Id → Bool
  | [] => u
  | i :: l => useL (updI u i) l

def ofV : Value → AV
  | .agg cs => .agg (cs.toList.map .raw)
  | v => .raw v

/-- its cells, if it is known to be something -/
def AV.cells : AV → Option (List AV)
  | .dead => none
  | .agg xs => some xs
  | .raw (.agg cs) => some (cs.toList.map .raw)
  | v => some [v]

def ev (E : Env) (sl : Nat → AV) : Operand → AV
  | .tmp t => sl t
  | .const v => ofV v
  | .global g => match E.glob g with | some xs => .iptr xs | none => .dead
  | .func f => .fn f []

/-! ### plain operations -/

def shiftV (op : BinOp) (k : IntKind) (x y : Int) : Option AV :=
  if y < 0 then none else
  match op with
  | .shl => some (.raw (.int k (k.wrap (x * 2 ^ (min y.toNat k.bits)))))
  | .shr => some (.raw (.int k (x.fdiv (2 ^ (min y.toNat k.bits)))))
  | _ => none

def intV (op : BinOp) (k : IntKind) (x y : Int) : Option AV :=
  match op with
  | .add => some (.raw (.int k (k.wrap (x + y))))
  | .sub => some (.raw (.int k (k.wrap (x - y))))
  | .mul => some (.raw (.int k (k.wrap (x * y))))
  | .quo => if y = 0 then none else some (.raw (.int k (k.wrap (x.tdiv y))))
  | .rem => if y = 0 then none else some (.raw (.int k (x.tmod y)))
  | .and => some (.raw (.int k (k.wrap (BitVec.ofInt k.bits x &&& BitVec.ofInt k.bits y).toNat)))
  | .or => some (.raw (.int k (k.wrap (BitVec.ofInt k.bits x ||| BitVec.ofInt k.bits y).toNat)))
  | .xor => some (.raw (.int k (k.wrap (BitVec.ofInt k.bits x ^^^ BitVec.ofInt k.bits y).toNat)))
  | .andNot => some (.raw (.int k (k.wrap (BitVec.ofInt k.bits x &&& ~~~BitVec.ofInt k.bits y).toNat)))
  | .eql => some (.raw (.bool (x == y)))
  | .neq => some (.raw (.bool (x != y)))
  | .lss => some (.raw (.bool (x < y)))
  | .leq => some (.raw (.bool (x ≤ y)))
  | .gtr => some (.raw (.bool (x > y)))
  | .geq => some (.raw (.bool (x ≥ y)))
  | _ => none

/-- all cells are whole numbers -/
def asInts : List AV → Option (List (IntKind × Int))
  | [] => some []
  | .raw (.int k n) :: xs => (asInts xs).map ((k, n) :: ·)
  | _ => none

def eqNeg (op : BinOp) (b : Bool) : Option AV :=
  match op with
  | .eql => some (.raw (.bool b))
  | .neq => some (.raw (.bool !b))
  | _ => none

def kd (te : TypeId → Option TI) (t : TypeId) : TK := match te t with | some i => i.kind | none => .other

def binV (te : TypeId → Option TI) (op : BinOp) (t : TypeId) (x y : AV) : Option AV :=
  match x, y with
  | .raw (.int k a), .raw (.int k' b) =>
    match op with
    | .shl | .shr => shiftV op k a b
    | _ => if k = k' then intV op k a b else none
  | .raw (.bool a), .raw (.bool b) =>
    match kd te t with
    | .bool => eqNeg op (a == b)
    | _ => none
  | .raw (.string a), .raw (.string b) =>
    match op with
    | .eql => some (.raw (.bool (a.data.toList == b.data.toList)))
    | .neq => some (.raw (.bool !(a.data.toList == b.data.toList)))
    | .add => if a.size + b.size ≤ 9223372036854775807 then some (.raw (.string (a ++ b))) else none
    | _ => none
  | .raw (.slice none 0 0), .raw (.slice none 0 0) =>
    match kd te t with
    | .slice _ => eqNeg op true
    | _ => none
  | .sl n _ _, .raw (.slice none 0 0) =>
    match kd te t, op with
    | .slice _, .eql => some (if n = 0 then .anyb else .raw (.bool false))
    | .slice _, .neq => some (if n = 0 then .anyb else .raw (.bool true))
    | _, _ => none
  | .view _ _ _ _ _, .raw (.slice none 0 0) =>
    match kd te t with
    | .slice _ => eqNeg op false
    | _ => none
  | .ptr _ _, .raw (.pointer none) =>
    match kd te t with
    | .ptr _ => eqNeg op false
    | _ => none
  | .iptr _, .raw (.pointer none) =>
    match kd te t with
    | .ptr _ => eqNeg op false
    | _ => none
  | .raw (.pointer none), .raw (.pointer none) =>
    match kd te t with
    | .ptr _ => eqNeg op true
    | _ => none
  | .agg xs, .agg ys =>
    match kd te t, asInts xs, asInts ys with
    | .arr len e, some us, some vs =>
      match te e with
      | some ⟨.int k, 1, _, _⟩ => if us.length = len ∧ vs.length = len ∧ us.all (·.1 == k) ∧ vs.all (·.1 == k) then eqNeg op (us.map (·.2) == vs.map (·.2)) else none
      | _ => none
    | _, _, _ => none
  | _, _ => none

def unV (op : UnOp) (x : AV) : Option AV :=
  match op, x with
  | .neg, .raw (.int k n) => some (.raw (.int k (k.wrap (0 - n))))
  | .xor, .raw (.int k n) => some (.raw (.int k (k.wrap (BitVec.ofInt k.bits (if k.signed then -1 else k.max) ^^^ BitVec.ofInt k.bits n).toNat)))
  | .not, .raw (.bool b) => some (.raw (.bool !b))
  | .not, .anyb => some .anyb
  | _, _ => none

def asBytes : List AV → Option (List UInt8)
  | [] => some []
  | .raw (.int .u8 n) :: xs => (asBytes xs).map (UInt8.ofNat n.toNat :: ·)
  | _ => none

/-- what a slice holds: how many, its cells (a view's out of its box) -/
def slCells (bx : Boxes) (sz : Nat) : AV → Option (Nat × List AV)
  | .raw (.slice none 0 0) => some (0, [])
  | .sl n xs _ => if xs.length = n * sz then some (n, xs) else none
  | .view b off n _ z => (bx b).bind fun xs => if z = sz ∧ off + n * sz ≤ xs.length then some (n, (xs.drop off).take (n * sz)) else none
  | .raw (.string s) => if sz = 1 then some (s.size, s.data.toList.map fun b => .raw (.int .u8 b.toNat)) else none
  | _ => none

def bound (m : Nat) : AV → Option Nat
  | .raw (.int _ i) => if 0 ≤ i ∧ i ≤ m then some i.toNat else none
  | _ => none

def boundOr (m d : Nat) : Option AV → Option Nat
  | none => some d
  | some v => bound m v

/-- places in a struct or array: offset and size of the part i -/
def place (te : TypeId → Option TI) (k : TK) (i : Nat) : Option (Nat × Nat) :=
  match k with
  | .st fs => (fs[i]?).bind fun f => (te f.2).map fun ti => (f.1, ti.size)
  | .arr _ e => (te e).map fun ti => (i * ti.size, ti.size)
  | .slice e => (te e).map fun ti => (i * ti.size, ti.size)
  | _ => none

/-- fits one cell -/
def oneA : AV → Bool
  | .dead | .agg _ | .tup _ | .nptr _ => false
  | .raw (.agg _) | .raw (.tuple _) => false
  | _ => true

/-- cells ys laid into xs from off on -/
def splice (xs : List AV) (off : Nat) (ys : List AV) : List AV := xs.take off ++ ys ++ xs.drop (off + ys.length)

def fillV (te : TypeId → Option TI) (k : TK) : List AV → List (Nat × AV) → Option (List AV)
  | cs, [] => some cs
  | cs, (i, v) :: rest =>
    match place te k i with
    | none => none
    | some (off, size) => match v.cells with
      | some ys => if ys.length = size ∧ off + size ≤ cs.length then fillV te k (splice cs off ys) rest else none
      | none => none

def rep {α : Type} : Nat → List α → List α
  | 0, _ => []
  | n + 1, xs => xs ++ rep n xs

def isAggK : TK → Bool
  | .arr _ _ | .st _ => true
  | _ => false

/-- a value as it is told of inside of others: nothing is said of the room behind a slice -/
def strip : AV → AV
  | .sl n xs _ => .sl n xs .bor
  | .tup _ => .dead
  | v => v

/-- a part of some cells, by its type; out of a box, a slice's flag is kept -/
def partB (te : TypeId → Option TI) (t : TypeId) (cs : List AV) (off : Nat) : Option AV :=
  (te t).bind fun ti =>
    if isAggK ti.kind then (if off + ti.size ≤ cs.length then some (.agg ((cs.drop off).take ti.size)) else none)
    else (cs[off]?).bind fun v => match v with
      | .tup _ => none
      | v => some v

/-- a part of some cells, by its type -/
def partV (te : TypeId → Option TI) (t : TypeId) (cs : List AV) (off : Nat) : Option AV :=
  (te t).bind fun ti =>
    if isAggK ti.kind then (if off + ti.size ≤ cs.length then some (.agg ((cs.drop off).take ti.size)) else none)
    else (cs[off]?).map strip

def flatL : List AV → Option (List AV)
  | [] => some []
  | .raw v :: xs => (flatL xs).map (.raw v :: ·)
  | _ => none

mutual
/-- a value that leads to no box -/
def pureA : AV → Bool
  | .dead => true
  | .raw _ => true
  | .anyb => true
  | .sl _ xs _ => pureL xs
  | .agg xs => pureL xs
  | .tup xs => pureL xs
  | .fn _ cs => pureL cs
  | .iptr xs => pureL xs
  | .ptr _ _ => false
  | .view .. => false
  | .nptr _ => false
def pureL : List AV → Bool
  | [] => true
  | x :: xs => pureA x && pureL xs
end

mutual
/-- a value with its views read, to be handed to a function that sees no boxes -/
def snap (bx : Boxes) : AV → Option AV
  | .dead => some .dead
  | .raw v => some (.raw v)
  | .anyb => some .anyb
  | .sl n xs _ => (snapL bx xs).map fun ys => .sl n ys .bor
  | .view b off n _ z => (bx b).bind fun xs => if off + n * z ≤ xs.length then (flatL ((xs.drop off).take (n * z))).map fun ys => .sl n ys .bor else none
  | .agg xs => (snapL bx xs).map .agg
  | .tup xs => (snapL bx xs).map .tup
  | .fn f caps => if caps.isEmpty then some (.fn f []) else none
  | .ptr b off => (bx b).bind fun xs => if pureL (xs.drop off) = true then some (.iptr ((xs.drop off).map strip)) else none
  | .iptr _ => none
  | .nptr _ => none
def snapL (bx : Boxes) : List AV → Option (List AV)
  | [] => some []
  | x :: xs => (snap bx x).bind fun y => (snapL bx xs).map (y :: ·)
end
end Go.Abs

/- The abstract machine's steps. Definitions. -/
namespace Go.Abs
set_option linter.unusedSimpArgs false
set_option linter.unusedVariables false
open Go

structure GR where
  v : AV
  bump : Bool := false
  cont : Option (List AV) := none
  use : Option Id := none
  wr : List (Bx × List AV) := []
  uses : List Id := []

/-- a new slice whose cells nobody else knows: a box, or by value with no room behind it -/
def freshSl (E : Env) (lvl d g n : Nat) (sz : Nat) (xs : List AV) : GR :=
  if E.mu d then (if n = 0 then { v := .sl n xs .full } else { v := .view (.own lvl d g) 0 n n sz, bump := true, cont := some (xs.map strip) }) else { v := .sl n xs (.own ⟨lvl, d, 0, g⟩ sz), bump := true }

def loadV (te : TypeId → Option TI) (bx : Boxes) (t : TypeId) : AV → Option AV
  | .ptr b off => (bx b).bind fun xs => partB te t xs off
  | .iptr xs => partV te t xs 0
  | _ => none

def fieldAddrV (te : TypeId → Option TI) (s : TypeId) (f : Nat) (x : AV) : Option AV :=
  match kd te s, x with
  | .st fs, .ptr b off => (fs[f]?).bind fun p => (te p.2).bind fun ti => if ti.size = 0 then none else some (.ptr b (off + p.1))
  | .st fs, .iptr xs => (fs[f]?).bind fun p => (te p.2).bind fun ti => if ti.size = 0 then none else some (.iptr (xs.drop p.1))
  | _, _ => none

def indexAddrV (te : TypeId → Option TI) (t : TypeId) (x i : AV) : Option AV :=
  match i with
  | .raw (.int _ i) =>
    match kd te t, x with
    | .arr len e, .ptr b off => (te e).bind fun ti => if 0 ≤ i ∧ i < len then some (.ptr b (off + i.toNat * ti.size)) else none
    | .arr len e, .iptr xs => (te e).bind fun ti => if 0 ≤ i ∧ i < len then some (.iptr (xs.drop (i.toNat * ti.size))) else none
    | .slice e, .sl n xs _ => (te e).bind fun ti => if 0 ≤ i ∧ i < n then some (.iptr (xs.drop (i.toNat * ti.size))) else none
    | .slice e, .view b off n _ z => (te e).bind fun ti => if 0 ≤ i ∧ i < n ∧ z = ti.size then some (.ptr b (off + i.toNat * ti.size)) else none
    | _, _ => none
  | _ => none

def indexV (te : TypeId → Option TI) (t : TypeId) (x i : AV) : Option AV :=
  match i with
  | .raw (.int _ i) =>
    match kd te t, x with
    | .arr len e, .agg cs => (te e).bind fun ti => if 0 ≤ i ∧ i < len then partV te e cs (i.toNat * ti.size) else none
    | .str, .raw (.string s) => if 0 ≤ i then (s.data.toList[i.toNat]?).map fun b => .raw (.int .u8 b.toNat) else none
    | _, _ => none
  | _ => none

def fieldV (te : TypeId → Option TI) (t : TypeId) (f : Nat) (x : AV) : Option AV :=
  match kd te t, x with
  | .st fs, .agg cs => (fs[f]?).bind fun p => partV te p.2 cs p.1
  | _, _ => none

/-- the three bounds of x[lo:hi:max] -/
def bounds (len cap : Nat) (lo hi mx : Option AV) : Option (Nat × Nat × Nat) :=
  (match mx with | none => some cap | some v => bound cap v).bind fun m =>
  (match hi, mx with | some v, _ => bound m v | none, none => some len | none, some _ => none).bind fun h =>
  (match lo with | some v => bound h v | none => some 0).map fun l => (l, h, m)

/-- the flag of x[lo:hi:max], n what x has -/
def cutFl (sz n l h m : Nat) (full : Bool) : Fl → Fl
  | .own i z => if full then (if m = h then .full else .bor) else if h = n ∧ z = sz then .own i z else .bor
  | .full => if full then (if m = h then .full else .bor) else if h = n then .full else .bor
  | .bor => if full then (if m = h then .full else .bor) else .bor

/-- x[lo:hi:max] -/
def sliceV (te : TypeId → Option TI) (t : TypeId) (x : AV) (lo hi mx : Option AV) : Option AV :=
  match kd te t, x with
  | .str, .raw (.string s) => if mx.isSome then none else (bounds s.size s.size lo hi none).map fun r => .raw (.string (s.extract r.1 r.2.1))
  | .slice e, .raw (.slice none 0 0) => (te e).bind fun _ => (bounds 0 0 lo hi mx).map fun _ => .raw (.slice none 0 0)
  | .slice e, .sl n xs fl => (te e).bind fun ti => (bounds n n lo hi mx).map fun r =>
      .sl (r.2.1 - r.1) ((xs.drop (r.1 * ti.size)).take ((r.2.1 - r.1) * ti.size)) (cutFl ti.size n r.1 r.2.1 r.2.2 mx.isSome fl)
  | .slice e, .view b off n c z => (te e).bind fun ti => if z = ti.size then (bounds n c lo hi mx).map fun r =>
      if r.2.2 = r.1 then .view b off 0 0 z else .view b (off + r.1 * z) (r.2.1 - r.1) (r.2.2 - r.1) z else none
  | .arr len e, .ptr b off => (te e).bind fun ti => (bounds len len lo hi mx).map fun r =>
      if r.2.2 = r.1 then .view b off 0 0 ti.size else .view b (off + r.1 * ti.size) (r.2.1 - r.1) (r.2.2 - r.1) ti.size
  | _, _ => none

def convV (E : Env) (lvl d g : Nat) (bx : Boxes) (src dst : TypeId) (x : AV) : Option GR :=
  match kd E.te src, kd E.te dst, x with
  | .int _, .int k, .raw (.int _ n) => some { v := .raw (.int k (k.wrap n)) }
  | .str, .str, .raw (.string s) => some { v := .raw (.string s) }
  | .str, .slice e, .raw (.string s) =>
    match kd E.te e with
    | .int .u8 => if E.mu d then none else some { v := .sl s.size (s.data.toList.map fun b => .raw (.int .u8 b.toNat)) (.own ⟨lvl, d, 0, g⟩ 1), bump := true }
    | _ => none
  | .slice e, .str, x =>
    match kd E.te e with
    | .int .u8 => match x with
      | .raw (.string _) => none
      | x => (slCells bx 1 x).bind fun p => (asBytes p.2).map fun bs => { v := .raw (.string ⟨bs.toArray⟩) }
    | _ => none
  | _, _, _ => none

/-- a slice of bytes to its own type, as a constant string's bytes are made: whose room, if it had any, is lost -/
def isSelf (te : TypeId → Option TI) (s t : TypeId) : Bool :=
  match kd te s, kd te t with
  | .slice _, .slice _ => true
  | _, _ => false
def convSelf (te : TypeId → Option TI) (used : Id → Bool) (s t : TypeId) : AV → Option GR
  | .sl n xs (.own i z) =>
    match kd te t with
    | .slice e => match kd te e with
      | .int .u8 => if s = t ∧ used i = false ∧ n ≠ 0 then some { v := .sl n xs .bor, use := some i } else none
      | _ => none
    | _ => none
  | _ => none

def zerosOf (ti : TI) (n : Nat) : List AV := rep n (ti.zero.map .raw)

/-- may be appended to where it is: whether, and whose room it takes -/
def room (sz m : Nat) (used : Id → Bool) : AV → Option (Option Id)
  | .raw (.slice none 0 0) => some none
  | .sl _ _ .full => if m = 0 then none else some none
  | .sl _ _ (.own i z) => if used i = false ∧ z = sz then some (some i) else none
  | _ => none

/-- what is appended: how many, the cells -/
def srcV (te : TypeId → Option TI) (bx : Boxes) (ti : TI) (t1 : TypeId) (x : AV) : Option (Nat × List AV) :=
  match kd te t1, x with
  | .int _, .raw (.int _ m) => if 0 ≤ m ∧ m ≤ 140737488355328 then some (m.toNat, zerosOf ti m.toNat) else none
  | .slice _, x => slCells bx ti.size x
  | .str, x => slCells bx ti.size x
  | _, _ => none

/-- nothing is appended to a slice with no room -/
def fullNil : AV → Nat → Bool
  | .sl _ _ .full, 0 => true
  | _, _ => false

def appendV (E : Env) (lvl d g : Nat) (bx : Boxes) (used : Id → Bool) (ts : List TypeId) (s x : AV) : Option GR :=
  match ts with
  | [t0, t1] =>
    match kd E.te t0 with
    | .slice e =>
      (E.te e).bind fun ti =>
      (slCells bx ti.size s).bind fun p =>
      (srcV E.te bx ti t1 x).bind fun q =>
      if fullNil s q.1 = true then some { v := s } else
      (room ti.size q.1 used s).bind fun u =>
      if (p.1 + q.1 + (p.1 + q.1) / 4 + 192) * ti.bytes ≤ 281474976710656 ∧ p.1 + q.1 ≤ 225179981368371 ∧ q.2.all oneA = true then
        (if E.mu d = false then some { v := .sl (p.1 + q.1) (p.2 ++ q.2) (.own ⟨lvl, d, 0, g⟩ ti.size), bump := true, use := u }
         else if u = none ∧ q.1 ≠ 0 then some { v := .view (.own lvl d g) 0 (p.1 + q.1) (p.1 + q.1) ti.size, bump := true, cont := some ((p.2 ++ q.2).map strip) }
         else none) else none
    | _ => none
  | _ => none

def lenV (te : TypeId → Option TI) (t : TypeId) (x : AV) : Option AV :=
  match kd te t, x with
  | .str, .raw (.string s) => some (.raw (.int .i64 s.size))
  | .arr n _, _ => some (.raw (.int .i64 n))
  | .slice _, .raw (.slice none 0 0) => some (.raw (.int .i64 0))
  | .slice _, .sl n _ _ => some (.raw (.int .i64 n))
  | .slice _, .view _ _ n _ _ => some (.raw (.int .i64 n))
  | _, _ => none

def min2V : AV → AV → Option AV
  | .raw (.int k x), .raw (.int _ y) => some (.raw (.int k (if y < x then y else x)))
  | _, _ => none

def makeV (E : Env) (lvl d g : Nat) (t : TypeId) (l c : AV) : Option GR :=
  match kd E.te t, l, c with
  | .slice e, .raw (.int _ l), .raw (.int _ c) =>
    (E.te e).bind fun ti =>
      if 0 ≤ l ∧ l ≤ c ∧ c * ti.bytes ≤ 281474976710656 ∧ c ≤ 281474976710656 then
        (if E.mu d then some { v := .view (.own lvl d g) 0 l.toNat c.toNat ti.size, bump := true, cont := some (zerosOf ti c.toNat) }
         else some { v := .sl l.toNat (zerosOf ti l.toNat) (.own ⟨lvl, d, 0, g⟩ ti.size), bump := true })
      else none
  | _, _, _ => none

/-- the result of a call: what is the callee's own to give (its gen is 0) becomes the caller's -/
def renB (lvl d g : Nat) : Bx → Bx
  | .own l s n => if n = 0 then .own lvl d g else .own l s n
def renF (lvl d g : Nat) : Fl → Fl
  | .own i z => if i.gen = 0 then .own ⟨lvl, d, i.comp, g⟩ z else .own i z
  | fl => fl
def ren1 (lvl d g : Nat) : AV → AV
  | .sl n xs fl => .sl n xs (renF lvl d g fl)
  | .ptr b o => .ptr (renB lvl d g b) o
  | .view b o n c z => .view (renB lvl d g b) o n c z
  | v => v
def takeR (lvl d g : Nat) : AV → AV
  | .tup vs => .tup (vs.map (ren1 lvl d g))
  | v => ren1 lvl d g v

def CR.gr (r : CR) (lvl d g : Nat) (v : AV) : GR := { v := takeR lvl d g v, bump := true, cont := r.cont.map (·.map (ren1 lvl d g)), wr := r.wr.map fun p => (p.1, p.2.map (ren1 lvl d g)), uses := r.use }

mutual
/-- does a value show a box's cells -/
def hasView : AV → Bool
  | .view .. => true
  | .ptr .. => true
  | .sl _ xs _ => hasViewL xs
  | .agg xs => hasViewL xs
  | .tup xs => hasViewL xs
  | _ => false
def hasViewL : List AV → Bool
  | [] => false
  | x :: xs => hasView x || hasViewL xs
end

/-- a result whose cells, if it has any, are new -/
def freshC : AV → Bool
  | .raw _ => true
  | .anyb => true
  | .dead => true
  | .sl _ xs (.own _ _) => (flatL xs).isSome
  | .agg xs => (flatL xs).isSome
  | _ => false

def freshR : AV → Bool
  | .tup vs => vs.all freshC
  | v => freshC v

def snapAll (bx : Boxes) : List AV → Option (List AV)
  | [] => some []
  | x :: xs => (snap bx x).bind fun y => (snapAll bx xs).map (y :: ·)

/-- a value's cells as they are laid into a box: of parts, nothing is said of the room behind -/
def AV.laid : AV → Option (List AV)
  | .dead => none
  | .agg xs => some (xs.map strip)
  | .raw (.agg cs) => some (cs.toList.map .raw)
  | .tup _ => none
  | .sl n xs (.own i z) => if i.gen = 0 then some [.sl n xs .bor] else some [.sl n xs (.own i z)]
  | v => some [v]

/-- a call that sees boxes -/
def isGen (E : Env) : Op → Bool
  | .call { callee := .value (.func f), .. } => E.gs.contains f
  | .call { callee := .value _, .. } => E.dyn
  | _ => false

def arrOK (te : TypeId → Option TI) : TK → Bool
  | .arr _ e => (te e).isSome
  | _ => true

/-- what an operation that changes no box comes to -/
def grow (E : Env) (lvl d g : Nat) (ρ : Operand → AV) (bx : Boxes) (used : Id → Bool) : Op → Option GR
  | .move x | .assign x => some { v := ρ x }
  | .pick c a b => match ρ c with
    | .raw (.bool t) => some { v := if t then ρ a else ρ b }
    | _ => none
  | .alloc t => (E.te t).map fun ti => { v := .ptr (.own lvl d g) 0, bump := true, cont := some (ti.zero.map .raw) }
  | .box t x => (E.te t).bind fun ti => (ρ x).laid.bind fun cs => if cs.length = ti.size then some { v := .ptr (.own lvl d g) 0, bump := true, cont := some cs } else none
  | .build t ps => (E.te t).bind fun ti => if isAggK ti.kind = true ∧ arrOK E.te ti.kind = true then (fillV E.te ti.kind (ti.zero.map .raw) (ps.toList.map fun p => (p.1, ρ p.2))).map fun cs => { v := .agg cs } else none
  | .buildSlice t n ps => match kd E.te t with
    | .slice e => (E.te e).bind fun ti => if n * ti.size ≤ 16777216 then (fillV E.te (.slice e) (zerosOf ti n) (ps.toList.map fun p => (p.1, ρ p.2))).map fun cs => freshSl E lvl d g n ti.size cs else none
    | _ => none
  | .load t a => (loadV E.te bx t (ρ a)).map fun v => { v }
  | .nilCheck x => match ρ x with
    | .ptr b o => some { v := .ptr b o }
    | .iptr xs => some { v := .iptr xs }
    | .fn f cs => some { v := .fn f cs }
    | _ => none
  | .binOp op t x y _ => (binV E.te op t (ρ x) (ρ y)).map fun v => { v }
  | .unOp op _ x => (unV op (ρ x)).map fun v => { v }
  | .convert s t x => if isSelf E.te s t then convSelf E.te used s t (ρ x) else convV E lvl d g bx s t (ρ x)
  | .sliceToArrayPointer t x => match kd E.te t, ρ x with
    | .arr n _, .sl m xs _ => if n ≤ m ∧ 0 < n then some { v := .iptr xs } else none
    | .arr n _, .view b off m _ _ => if n ≤ m ∧ 0 < n then some { v := .ptr b off } else none
    | _, _ => none
  | .makeFunc fn first caps => match fn with
    | .func f => if first.size = 0 then some { v := .fn f (caps.toList.map ρ) } else none
    | _ => none
  | .makeSlice t l c => makeV E lvl d g t (ρ l) (ρ c)
  | .slice t x lo hi mx => (sliceV E.te t (ρ x) (lo.map ρ) (hi.map ρ) (mx.map ρ)).map fun v => { v }
  | .fieldAddr s x f => (fieldAddrV E.te s f (ρ x)).map fun v => { v }
  | .field t x f => (fieldV E.te t f (ρ x)).map fun v => { v }
  | .indexAddr t x i => (indexAddrV E.te t (ρ x) (ρ i)).map fun v => { v }
  | .index t x i => (indexV E.te t (ρ x) (ρ i)).map fun v => { v }
  | .extract x i => match ρ x with
    | .tup vs => match vs[i]? with
      | some (.tup _) => none
      | some v => some { v }
      | none => none
    | _ => none
  | .call { callee := .builtin .append, args, argTypes } => match args.toList with
    | [s, x] => appendV E lvl d g bx used argTypes.toList (ρ s) (ρ x)
    | _ => none
  | .call { callee := .builtin .len, args, argTypes } => match args.toList, argTypes.toList with
    | [x], t :: _ => (lenV E.te t (ρ x)).map fun v => { v }
    | _, _ => none
  | .call { callee := .builtin .min, args, argTypes := _ } => match args.toList with
    | [x, y] => (min2V (ρ x) (ρ y)).map fun v => { v }
    | _ => none
  | .call { callee := .value f, args, argTypes := ts } => match ρ f with
    | .fn f' caps => match E.tbl f' with
      | some (.val pf) => (snapAll bx (args.toList.map ρ ++ caps)).bind fun as => (pf as).bind fun r => if E.mu d = false ∧ (hasViewL (args.toList.map ρ ++ caps) = false ∨ freshR r = true) then some { v := takeR lvl d g r, bump := true } else none
      | some (.gen gf) => if isGen E (.call { callee := .value f, args := args, argTypes := ts }) = true then (gf (args.toList.map ρ ++ caps.map strip) bx used).bind fun r => match r.v with
        | .ret v => some (r.gr lvl d g v)
        | .pan _ => none
        else none
      | _ => none
    | _ => none
  | _ => none

/-! ### operations that write to boxes -/

def storeV (te : TypeId → Option TI) (bx : Boxes) (t : TypeId) : AV → AV → Option Boxes
  | .ptr b off, v => (te t).bind fun ti => (bx b).bind fun xs => v.laid.bind fun ys =>
      if ys.length = ti.size ∧ off + ti.size ≤ xs.length ∧ ys.all oneA = true then some (updB bx b (splice xs off ys)) else none
  | _, _ => none

def isStr : AV → Bool
  | .raw (.string _) => true
  | _ => false

def copyV (te : TypeId → Option TI) (bx : Boxes) (t : TypeId) (dst src : AV) : Option (Nat × Boxes) :=
  match kd te t, dst with
  | .slice e, .view b off n _ z => if isStr src then none else (te e).bind fun ti => if z = ti.size then
      (slCells bx z src).bind fun p => (bx b).bind fun xs =>
        if off + n * z ≤ xs.length ∧ (p.2.take (min p.1 n * z)).all oneA = true then some (min p.1 n, updB bx b (splice xs off ((p.2.take (min p.1 n * z)).map strip))) else none
      else none
  | _, _ => none

/-- what an operation that writes comes to: its value (if it has one), and the boxes -/
def write (E : Env) (ρ : Operand → AV) (bx : Boxes) : Op → Option (AV × Boxes)
  | .store t a x => (storeV E.te bx t (ρ a) (ρ x)).map fun b => (.dead, b)
  | .call { callee := .builtin .copy, args, argTypes } => match args.toList, argTypes.toList with
    | [x, y], t :: _ => (copyV E.te bx t (ρ x) (ρ y)).map fun r => (.raw (.int .i64 r.1), r.2)
    | _, _ => none
  | _ => none

def isWrite : Op → Bool
  | .store .. => true
  | .call { callee := .builtin .copy, .. } => true
  | _ => false

def AS.put (σ : AS) (d : Option Nat) (v : AV) : AS :=
  match d with
  | some d => { σ with slots := upd σ.slots d v }
  | none => σ

def AS.grown (σ : AS) (lvl d : Nat) (r : GR) : AS :=
  { slots := upd σ.slots d r.v
    gen := if r.bump then upd σ.gen d (σ.gen d + 1) else σ.gen
    box := applyW (match r.cont with | some c => updB σ.box (.own lvl d (σ.gen d + 1)) c | none => σ.box) r.wr
    used := useL (match r.use with | some i => updI σ.used i | none => σ.used) r.uses }

/-- the same, and its value is dropped -/
def AS.mute (σ : AS) (lvl d : Nat) (r : GR) : AS := { σ.grown lvl d r with slots := σ.slots }

/-- is it wanted: its guard, if it has one -/
def wantedV (ops : List Oper) (σ : AS) (o : Oper) : Option Bool :=
  match o.guard with
  | none => some true
  | some (j, want) => match (ops[j]?).bind (·.dst) with
    | some s => match σ.slots s with
      | .raw (.bool b) => some (b == want)
      | .raw _ => some false
      | _ => none
    | none => none

def stepV (E : Env) (lvl N : Nat) (ops : List Oper) (σ : AS) (o : Oper) : Option AS :=
  match wantedV ops σ o with
  | none => none
  | some false => match o.dst with
    | some d => if d < N then some (σ.put o.dst (.raw undef)) else none
    | none => some σ
  | some true =>
    if isWrite o.op then
      match write E (ev E σ.slots) σ.box o.op with
      | some (v, b) => (match o.dst with
         | some d => if d < N then some { σ.put o.dst v with box := b } else none
         | none => some { σ with box := b })
      | none => none
    else
      match o.dst with
      | some d => if d < N then (grow E lvl d (σ.gen d + 1) (ev E σ.slots) σ.box σ.used o.op).map (σ.grown lvl d) else none
      | none => if isGen E o.op = true then (grow E lvl N (σ.gen N + 1) (ev E σ.slots) σ.box σ.used o.op).map (σ.mute lvl N) else none

def regs (E : Env) (lvl N : Nat) (ops : List Oper) : List Oper → AS → Option AS
  | [], σ => some σ
  | o :: rest, σ => match stepV E lvl N ops σ o with
    | some σ' => regs E lvl N ops rest σ'
    | none => none
end Go.Abs

/- What the abstract machine's states mean in the model's worlds. -/
namespace Go.Abs
set_option linter.unusedSimpArgs false
set_option linter.unusedVariables false
open Go

/-- What is kept beside: each box's block; the cells that no one writes any more; the room behind one's own slices; how often each slot has made something; whose room is taken. -/
structure Ghost where
  L : Nat
  K : Id → Prop
  μ : Bx → Option Nat
  G : Nat → Nat → Prop
  T : Id → Option (Nat × Nat × Nat)
  U : Nat → Nat
  D : Id → Bool

/-- a name that has been given -/
def made (g : Ghost) (i : Id) : Prop := (i.gen = 0 ∧ i.lvl ≤ g.L) ∨ g.K i ∨ (i.lvl = g.L ∧ i.gen ≤ g.U i.slot)

def at_ (w : World) (k o : Nat) : Option Value := w.cell? ⟨k, o, none⟩

/-- cells of block k from o on read so, and nobody writes them any more -/
def Read (w : World) (G : Nat → Nat → Prop) (k o : Nat) (us : List Value) : Prop :=
  ∀ j, j < us.length → at_ w k (o + j) = us[j]? ∧ G k (o + j)

mutual
def RV (μ : Bx → Option Nat) (G : Nat → Nat → Prop) (w : World) : AV → Value → Prop
  | .dead, _ => True
  | .raw v, u => u = v
  | .anyb, u => ∃ b, u = .bool b
  | .sl n xs _, u => (u = .slice none 0 0 ∧ n = 0 ∧ xs = []) ∨
      ∃ k o c us, u = .slice (some ⟨k, o, none⟩) n c ∧ n ≤ c ∧ RVs μ G w xs us ∧ Read w G k o us
  | .ptr b off, u => ∃ k, μ b = some k ∧ u = .pointer (some ⟨k, off, none⟩)
  | .iptr xs, u => ∃ k o us, u = .pointer (some ⟨k, o, none⟩) ∧ RVs μ G w xs us ∧ Read w G k o us
  | .view b off n c _, u => ∃ k o c', μ b = some k ∧ u = .slice (some ⟨k, o, none⟩) n c' ∧ c ≤ c' ∧ n ≤ c ∧ (o = off ∨ c = 0)
  | .agg xs, u => ∃ us, u = .agg us.toArray ∧ RVs μ G w xs us
  | .tup xs, u => ∃ us, u = .tuple us.toArray ∧ RVs μ G w xs us
  | .fn f cs, u => ∃ us, u = .func (.func f) #[] us.toArray ∧ RVs μ G w cs us
  | .nptr _, _ => False
def RVs (μ : Bx → Option Nat) (G : Nat → Nat → Prop) (w : World) : List AV → List Value → Prop
  | [], us => us = []
  | x :: xs, us => ∃ u us', us = u :: us' ∧ RV μ G w x u ∧ RVs μ G w xs us'
end

/-- what a slice's flag says -/
def FlOK (g : Ghost) (fl : Fl) (m : Nat) (u : Value) : Prop :=
  match fl, u with
  | .bor, _ => True
  | .full, .slice _ n c => c = n
  | .own i sz, .slice a n c => made g i ∧ (g.D i = true ∨ (a = none ∧ n = 0 ∧ c = 0) ∨ ∃ k o lo hi, a = some ⟨k, o, none⟩ ∧ m = n * sz ∧ g.T i = some (k, lo, hi) ∧ (c = n ∨ (lo = o + m ∧ hi = o + c * sz)))
  | _, _ => False

def Top (g : Ghost) : AV → Value → Prop
  | .sl _ xs fl, u => FlOK g fl xs.length u
  | .tup vs, u => ∃ us, u = .tuple us ∧ ∀ (j n : Nat) (xs : List AV) (fl : Fl) (v : Value), vs[j]? = some (.sl n xs fl) → us[j]? = some v → FlOK g fl xs.length v
  | _, _ => True

/-- a function's entry: its level, how many slots; the world and the ghost that it found -/
structure Ent where
  lvl : Nat
  N : Nat
  w0 : World
  μ0 : Bx → Option Nat
  G0 : Nat → Nat → Prop
  T0 : Id → Option (Nat × Nat × Nat)
  D0 : Id → Bool
  K0 : Id → Prop

/-- a block that a function may change -/
def Ent.may (N : Ent) (i : Nat) : Prop := (∃ b, N.μ0 b = some i) ∨ ∃ j lo hi, N.T0 j = some (i, lo, hi)

structure Chg (w w' : World) (may : Nat → Prop) : Prop where
  os : w'.os = w.os
  tape : w'.tape = w.tape
  output : w'.output = w.output
  size : w.heap.size ≤ w'.heap.size
  block : ∀ i, i < w.heap.size → ¬ may i → w'.heap[i]? = w.heap[i]?

/-- block k is a row of cells that begins with xs -/
def Holds (μ : Bx → Option Nat) (G : Nat → Nat → Prop) (w : World) (k : Nat) (xs : List AV) : Prop :=
  ∃ cs el us, w.heap[k]? = some (.cells cs el (0, 0)) ∧ us.length ≤ cs.size ∧ (∀ j, j < us.length → cs[j]? = us[j]?) ∧ RVs μ G w xs us

/-- cells as they may lie in a box -/
def CellsOK (xs : List AV) : Prop := ∀ x ∈ xs, (∀ n ys i z, x = .sl n ys (.own i z) → i.gen ≠ 0) ∧ ∀ vs, x ≠ .tup vs

structure Valid (N : Ent) (g : Ghost) (box : Boxes) (w : World) : Prop where
  lev : g.L = N.lvl
  kn : g.K = N.K0
  klow : ∀ i, N.K0 i → i.lvl < N.lvl
  chg : Chg N.w0 w N.may
  sub : ∀ k o, N.G0 k o → g.G k o
  keep : ∀ k o, N.G0 k o → at_ w k o = at_ N.w0 k o
  old : ∀ k o, g.G k o → k < N.w0.heap.size → N.G0 k o ∨ ∃ i lo hi, N.T0 i = some (k, lo, hi) ∧ lo ≤ o ∧ o < hi
  cell : ∀ k o, g.G k o → (at_ w k o).isSome
  gmu : ∀ k o b, g.G k o → g.μ b ≠ some k
  ext : ∀ b k, N.μ0 b = some k → g.μ b = some k
  lv : ∀ b k, g.μ b = some k → N.μ0 b = some k ∨ (b.lvl = N.lvl ∧ N.w0.heap.size ≤ k)
  low : ∀ b k, N.μ0 b = some k → b.lvl < N.lvl ∧ k < N.w0.heap.size
  nz : ∀ l s, g.μ (.own l s 0) = none
  fresh : ∀ s n k, g.μ (.own N.lvl s n) = some k → n ≤ g.U s
  inj : ∀ b b' k, g.μ b = some k → g.μ b' = some k → b = b'
  dom : ∀ b, (box b).isSome = (g.μ b).isSome
  cont : ∀ b k xs, g.μ b = some k → box b = some xs → Holds g.μ g.G w k xs
  cok : ∀ b xs, box b = some xs → CellsOK xs
  ctop : ∀ b k xs, g.μ b = some k → box b = some xs → ∀ (j n : Nat) (ys : List AV) (fl : Fl) (u : Value), xs[j]? = some (.sl n ys fl) → at_ w k j = some u → FlOK g fl ys.length u
  tail : ∀ i k lo hi, g.T i = some (k, lo, hi) → (N.w0.heap.size ≤ k ∨ ∃ j lo' hi', N.T0 j = some (k, lo', hi') ∧ lo' ≤ lo ∧ hi ≤ hi') ∧ k < w.heap.size ∧ made g i ∧ g.D i = false ∧
    lo ≤ hi ∧ (∀ o, lo ≤ o → o < hi → (at_ w k o).isSome ∧ w.frozen? ⟨k, o, none⟩ = false ∧ ¬ g.G k o) ∧ (∀ b, g.μ b ≠ some k)
  tnew : ∀ i r, g.T i = some r → i.lvl = N.lvl ∨ (i.lvl < N.lvl ∧ N.T0 i = some r)
  tkeep : ∀ i r, N.T0 i = some r → g.T i = some r ∨ g.D i = true
  dgen : ∀ i, g.D i = true → made g i
  dkeep : ∀ i, N.D0 i = true → g.D i = true
  tinj : ∀ i j k lo hi lo' hi', g.T i = some (k, lo, hi) → g.T j = some (k, lo', hi') → i = j

def Sim (N : Ent) (σ : AS) (a : Act) (w : World) : Prop :=
  ∃ g, Valid N g σ.box w ∧ g.U = σ.gen ∧ g.D = σ.used ∧ a.tmps.size = N.N ∧ a.defers = [] ∧
    ∀ i, RV g.μ g.G w (σ.slots i) (a.tmps.getD i undef) ∧ Top g (σ.slots i) (a.tmps.getD i undef)
end Go.Abs

/- What an abstract state says goes on in later worlds; a step of one operation. -/
namespace Go.Abs
set_option linter.unusedSimpArgs false
set_option linter.unusedVariables false
open Go

mutual
theorem RV.mono {μ μ' : Bx → Option Nat} {G G' : Nat → Nat → Prop} {w w' : World} (hm : ∀ b k, μ b = some k → μ' b = some k) (hG : ∀ k o, G k o → G' k o)
    (hw : ∀ k o, G k o → at_ w' k o = at_ w k o) : ∀ (v : AV) (u : Value), RV μ G w v u → RV μ' G' w' v u
  | .dead, _, _ => trivial
  | .raw _, _, h => h
  | .anyb, _, h => h
  | .sl n xs fl, u, h => by
    simp only [RV] at h ⊢
    rcases h with h | ⟨k, o, c, us, h1, h2, h3, h4⟩
    · exact .inl h
    · exact .inr ⟨k, o, c, us, h1, h2, RVs.mono hm hG hw xs us h3, fun j hj => ⟨(hw _ _ (h4 j hj).2).trans (h4 j hj).1, hG _ _ (h4 j hj).2⟩⟩
  | .ptr b off, u, h => by
    simp only [RV] at h ⊢
    obtain ⟨k, h1, h2⟩ := h
    exact ⟨k, hm _ _ h1, h2⟩
  | .iptr xs, u, h => by
    simp only [RV] at h ⊢
    obtain ⟨k, o, us, h1, h3, h4⟩ := h
    exact ⟨k, o, us, h1, RVs.mono hm hG hw xs us h3, fun j hj => ⟨(hw _ _ (h4 j hj).2).trans (h4 j hj).1, hG _ _ (h4 j hj).2⟩⟩
  | .view b off n c sz, u, h => by
    simp only [RV] at h ⊢
    obtain ⟨k, o, c', h1, h2⟩ := h
    exact ⟨k, o, c', hm _ _ h1, h2⟩
  | .agg xs, u, h => by
    simp only [RV] at h ⊢
    obtain ⟨us, h1, h2⟩ := h
    exact ⟨us, h1, RVs.mono hm hG hw xs us h2⟩
  | .tup xs, u, h => by
    simp only [RV] at h ⊢
    obtain ⟨us, h1, h2⟩ := h
    exact ⟨us, h1, RVs.mono hm hG hw xs us h2⟩
  | .fn f xs, u, h => by
    simp only [RV] at h ⊢
    obtain ⟨us, h1, h2⟩ := h
    exact ⟨us, h1, RVs.mono hm hG hw xs us h2⟩
  | .nptr xs, u, h => by simp only [RV] at h
theorem RVs.mono {μ μ' : Bx → Option Nat} {G G' : Nat → Nat → Prop} {w w' : World} (hm : ∀ b k, μ b = some k → μ' b = some k) (hG : ∀ k o, G k o → G' k o)
    (hw : ∀ k o, G k o → at_ w' k o = at_ w k o) : ∀ (xs : List AV) (us : List Value), RVs μ G w xs us → RVs μ' G' w' xs us
  | [], _, h => h
  | x :: xs, us, h => by
    simp only [RVs] at h ⊢
    obtain ⟨u, us', h1, h2, h3⟩ := h
    exact ⟨u, us', h1, RV.mono hm hG hw x u h2, RVs.mono hm hG hw xs us' h3⟩
end

section
variable {μ : Bx → Option Nat} {G : Nat → Nat → Prop} {w : World}

theorem RVs.length : ∀ {xs : List AV} {us : List Value}, RVs μ G w xs us → us.length = xs.length
  | [], us, h => by simp only [RVs] at h; subst h; rfl
  | x :: xs, us, h => by
    simp only [RVs] at h
    obtain ⟨u, us', rfl, _, h3⟩ := h
    simp [RVs.length h3]

theorem RVs.get : ∀ {xs : List AV} {us : List Value}, RVs μ G w xs us → ∀ (j : Nat) (x : AV), xs[j]? = some x → ∃ u, us[j]? = some u ∧ RV μ G w x u
  | [], us, h, j, x, hx => by simp at hx
  | y :: xs, us, h, j, x, hx => by
    simp only [RVs] at h
    obtain ⟨u, us', rfl, h2, h3⟩ := h
    cases j with
    | zero => simp at hx; subst hx; exact ⟨u, rfl, h2⟩
    | succ j => simpa using RVs.get h3 j x (by simpa using hx)

theorem RVs.of_get : ∀ {xs : List AV} {us : List Value}, us.length = xs.length → (∀ (j : Nat) (x : AV) (u : Value), xs[j]? = some x → us[j]? = some u → RV μ G w x u) → RVs μ G w xs us
  | [], us, hl, _ => by simp only [RVs]; exact List.length_eq_zero_iff.1 hl
  | x :: xs, [], hl, _ => by simp at hl
  | x :: xs, u :: us, hl, h => by
    simp only [RVs]
    exact ⟨u, us, rfl, h 0 x u rfl rfl, RVs.of_get (by simpa using hl) (fun j y v hy hv => h (j + 1) y v (by simpa using hy) (by simpa using hv))⟩

theorem RVs.append {xs ys : List AV} {us vs : List Value} (h : RVs μ G w xs us) (k : RVs μ G w ys vs) : RVs μ G w (xs ++ ys) (us ++ vs) := by
  refine RVs.of_get (by simp [h.length, k.length]) fun j x u hx hu => ?_
  by_cases hj : j < xs.length
  · rw [List.getElem?_append_left hj] at hx
    rw [List.getElem?_append_left (by rw [h.length]; exact hj)] at hu
    obtain ⟨u', h1, h2⟩ := h.get j x hx
    rw [h1] at hu; cases hu; exact h2
  · rw [List.getElem?_append_right (by omega)] at hx
    rw [List.getElem?_append_right (by rw [h.length]; omega), h.length] at hu
    obtain ⟨u', h1, h2⟩ := k.get _ x hx
    rw [h1] at hu; cases hu; exact h2

theorem RVs.take {xs : List AV} {us : List Value} (h : RVs μ G w xs us) (n : Nat) : RVs μ G w (xs.take n) (us.take n) := by
  refine RVs.of_get (by simp [h.length]) fun j x u hx hu => ?_
  rw [List.getElem?_take] at hx hu
  split at hx
  · rw [if_pos ‹_›] at hu
    obtain ⟨u', h1, h2⟩ := h.get j x hx
    rw [h1] at hu; cases hu; exact h2
  · cases hx

theorem RVs.drop {xs : List AV} {us : List Value} (h : RVs μ G w xs us) (n : Nat) : RVs μ G w (xs.drop n) (us.drop n) := by
  refine RVs.of_get (by simp [h.length]) fun j x u hx hu => ?_
  rw [List.getElem?_drop] at hx hu
  obtain ⟨u', h1, h2⟩ := h.get _ x hx
  rw [h1] at hu; cases hu; exact h2

theorem RVs.nil : RVs μ G w [] [] := by simp only [RVs]

theorem RVs.raws (us : List Value) : RVs μ G w (us.map .raw) us := by
  refine RVs.of_get (by simp) fun j x u hx hu => ?_
  simp only [List.getElem?_map, hu, Option.map_some, Option.some.injEq] at hx
  subst hx
  simp only [RV]

theorem RV.strip {v : AV} {u : Value} (h : RV μ G w v u) : RV μ G w (strip v) u := by
  cases v <;> simp only [Abs.strip] <;> first | exact h | (simp only [RV] at h ⊢; exact h) | (simp only [RV])

theorem RV.ofV (v : Value) : RV μ G w (ofV v) v := by
  cases v with
  | agg cs =>
    simp only [Abs.ofV, RV]
    exact ⟨cs.toList, by simp, RVs.raws _⟩
  | _ => simp only [Abs.ofV, RV]

theorem Read.take {k o : Nat} {us : List Value} (h : Read w G k o us) (n : Nat) : Read w G k o (us.take n) := fun j hj => by
  rw [List.length_take] at hj
  have := h j (by omega)
  rw [List.getElem?_take, if_pos (by omega)]; exact this

theorem Read.drop {k o : Nat} {us : List Value} (h : Read w G k o us) (n : Nat) : Read w G k (o + n) (us.drop n) := fun j hj => by
  simp at hj
  have := h (n + j) (by omega)
  rw [List.getElem?_drop, show o + n + j = o + (n + j) by omega]; exact this

theorem cells_rel {v : AV} {u : Value} (h : RV μ G w v u) {xs : List AV} (hx : v.cells = some xs) : RVs μ G w xs u.cells.toList := by
  have one : ∀ (v : AV) (u : Value), RV μ G w v u → RVs μ G w [v] [u] := fun v u h => by simp only [RVs]; exact ⟨u, [], rfl, h, rfl⟩
  have h0 := h
  cases v with
  | dead => simp [AV.cells] at hx
  | raw x =>
    simp only [RV] at h
    subst h
    cases u with
    | agg cs => simp [AV.cells] at hx; subst hx; simpa [Value.cells] using RVs.raws (μ := μ) (G := G) (w := w) cs.toList
    | _ => simp [AV.cells] at hx; subst hx; exact one _ _ h0
  | agg xs' =>
    simp only [RV] at h
    obtain ⟨us, rfl, h2⟩ := h
    simp [AV.cells] at hx; subst hx
    simpa [Value.cells] using h2
  | nptr xs => simp only [RV] at h
  | anyb =>
    simp only [RV] at h
    obtain ⟨b, rfl⟩ := h
    simp [AV.cells] at hx; subst hx; exact one _ _ h0
  | sl n xs' fl =>
    simp only [RV] at h
    rcases h with ⟨rfl, _⟩ | ⟨k, o, c, us, rfl, _⟩ <;> (simp [AV.cells] at hx; subst hx; exact one _ _ h0)
  | ptr b off =>
    simp only [RV] at h
    obtain ⟨k, _, rfl⟩ := h
    simp [AV.cells] at hx; subst hx; exact one _ _ h0
  | iptr xs' =>
    simp only [RV] at h
    obtain ⟨k, o, us, rfl, _⟩ := h
    simp [AV.cells] at hx; subst hx; exact one _ _ h0
  | view b off n c sz =>
    simp only [RV] at h
    obtain ⟨k, o, _, _, rfl, _⟩ := h
    simp [AV.cells] at hx; subst hx; exact one _ _ h0
  | tup xs' =>
    simp only [RV] at h
    obtain ⟨us, rfl, _⟩ := h
    simp [AV.cells] at hx; subst hx; exact one _ _ h0
  | fn f xs' =>
    simp only [RV] at h
    obtain ⟨us, rfl, _⟩ := h
    simp [AV.cells] at hx; subst hx; exact one _ _ h0
end

/-- the later world and ghost say as much as the earlier ones -/
structure Le (g : Ghost) (w : World) (g' : Ghost) (w' : World) : Prop where
  L : g'.L = g.L
  K : g'.K = g.K
  mu : ∀ b k, g.μ b = some k → g'.μ b = some k
  G : ∀ k o, g.G k o → g'.G k o
  at' : ∀ k o, g.G k o → at_ w' k o = at_ w k o
  U : ∀ s, g.U s ≤ g'.U s
  D : ∀ i, g.D i = true → g'.D i = true
  T : ∀ i r, g.T i = some r → g'.T i = some r ∨ g'.D i = true

theorem Le.refl (g : Ghost) (w : World) : Le g w g w := ⟨rfl, rfl, fun _ _ h => h, fun _ _ h => h, fun _ _ _ => rfl, fun _ => Nat.le_refl _, fun _ h => h, fun _ _ h => .inl h⟩
theorem Le.trans {g1 g2 g3 : Ghost} {w1 w2 w3 : World} (h : Le g1 w1 g2 w2) (k : Le g2 w2 g3 w3) : Le g1 w1 g3 w3 :=
  ⟨k.L.trans h.L, k.K.trans h.K, fun b n hb => k.mu _ _ (h.mu _ _ hb), fun b n hb => k.G _ _ (h.G _ _ hb), fun b n hb => (k.at' _ _ (h.G _ _ hb)).trans (h.at' _ _ hb), fun s => Nat.le_trans (h.U s) (k.U s), fun i hi => k.D _ (h.D _ hi),
    fun i r hr => (h.T i r hr).elim (fun h1 => k.T i r h1) (fun h1 => .inr (k.D _ h1))⟩

theorem RV.le {g g' : Ghost} {w w' : World} (h : Le g w g' w') {v : AV} {u : Value} (hv : RV g.μ g.G w v u) : RV g'.μ g'.G w' v u := RV.mono h.mu h.G h.at' v u hv
theorem RVs.le {g g' : Ghost} {w w' : World} (h : Le g w g' w') {v : List AV} {u : List Value} (hv : RVs g.μ g.G w v u) : RVs g'.μ g'.G w' v u := RVs.mono h.mu h.G h.at' v u hv

theorem made.le {g g' : Ghost} {w w' : World} (h : Le g w g' w') {i : Id} (hi : made g i) : made g' i := by
  unfold made at hi ⊢
  rw [h.L, h.K]
  exact hi.imp id fun hi => hi.imp id fun hi => ⟨hi.1, Nat.le_trans hi.2 (h.U _)⟩

theorem FlOK.le {g g' : Ghost} {w w' : World} (h : Le g w g' w') {fl : Fl} {m : Nat} {u : Value} (hv : FlOK g fl m u) : FlOK g' fl m u := by
  cases fl with
  | bor => trivial
  | full => cases u <;> first | exact hv | (simp only [FlOK] at hv)
  | own i sz =>
    cases u with
    | slice a n c =>
      simp only [FlOK] at hv ⊢
      obtain ⟨h1, h2⟩ := hv
      refine ⟨h1.le h, ?_⟩
      rcases h2 with h2 | h2 | ⟨k, o, lo, hi, e1, e2, e3, e4⟩
      · exact .inl (h.D _ h2)
      · exact .inr (.inl h2)
      · rcases h.T _ _ e3 with h4 | h4
        · exact .inr (.inr ⟨k, o, lo, hi, e1, e2, h4, e4⟩)
        · exact .inl h4
    | _ => simp only [FlOK] at hv

theorem Top.le {g g' : Ghost} {w w' : World} (h : Le g w g' w') {v : AV} {u : Value} (hv : Top g v u) : Top g' v u := by
  cases v with
  | sl n xs fl => exact FlOK.le h hv
  | tup vs =>
    obtain ⟨us, h1, h2⟩ := hv
    exact ⟨us, h1, fun j n xs fl v hj hv => FlOK.le h (h2 j n xs fl v hj hv)⟩
  | _ => trivial

/-- what holds of all slots -/
def Slots (g : Ghost) (w : World) (sl : Nat → AV) (a : Act) : Prop := ∀ i, RV g.μ g.G w (sl i) (a.tmps.getD i undef) ∧ Top g (sl i) (a.tmps.getD i undef)

theorem Slots.le {g g' : Ghost} {w w' : World} {sl : Nat → AV} {a : Act} (h : Le g w g' w') (hs : Slots g w sl a) : Slots g' w' sl a := fun i => ⟨RV.le h (hs i).1, Top.le h (hs i).2⟩

theorem Slots.put {g : Ghost} {w : World} {sl : Nat → AV} {a : Act} (hs : Slots g w sl a) {d : Nat} (hd : d < a.tmps.size) {v : AV} {u : Value} (hv : RV g.μ g.G w v u) (ht : Top g v u) :
    Slots g w (upd sl d v) (a.put (some d) u) := fun i => by
  by_cases h : i = d
  · subst h
    have e : (a.put (some i) u).tmps.getD i undef = u := by simp [Act.put, hd]
    rw [e]; simp only [upd, if_true]; exact ⟨hv, ht⟩
  · have e : (a.put (some d) u).tmps.getD i undef = a.tmps.getD i undef := by
      simp only [Act.put, Array.getD_eq_getD_getElem?, Array.getElem?_setIfInBounds]
      rw [if_neg (fun e => h e.symm)]
    rw [e]; simp only [upd, if_neg h]; exact hs i

theorem put_size (a : Act) (d : Option Nat) (u : Value) : (a.put d u).tmps.size = a.tmps.size := by cases d <;> simp [Act.put]
theorem put_defers (a : Act) (d : Option Nat) (u : Value) : (a.put d u).defers = a.defers := by cases d <;> simp [Act.put]
end Go.Abs

/- How what holds of a state is kept: a new block, a store, room taken. -/
namespace Go.Abs
set_option linter.unusedSimpArgs false
set_option linter.unusedVariables false
open Go Go.RowKit

theorem at_lt {w : World} {k o : Nat} (h : (at_ w k o).isSome) : k < w.heap.size := by
  unfold at_ World.cell? at h
  rcases Nat.lt_or_ge k w.heap.size with h' | h'
  · exact h'
  · simp [Array.getElem?_eq_none h'] at h

theorem at_of_block {w w' : World} {k o : Nat} (h : w'.heap[k]? = w.heap[k]?) : at_ w' k o = at_ w k o := by
  unfold at_ World.cell?
  rw [h]

theorem frozen_of_block {w w' : World} {k o : Nat} (h : w'.heap[k]? = w.heap[k]?) : w'.frozen? ⟨k, o, none⟩ = w.frozen? ⟨k, o, none⟩ := by
  unfold World.frozen?
  rw [h]

theorem at_row {w : World} {k o : Nat} {cs : Array Value} {el : TypeId} {fr : Nat × Nat} (h : w.heap[k]? = some (.cells cs el fr)) : at_ w k o = cs[o]? := by
  unfold at_ World.cell?
  simp [h]

theorem frozen_row {w : World} {k o : Nat} {cs : Array Value} {el : TypeId} (h : w.heap[k]? = some (.cells cs el (0, 0))) : w.frozen? ⟨k, o, none⟩ = false := by
  unfold World.frozen?
  simp [h]

theorem Holds.lt {μ : Bx → Option Nat} {G : Nat → Nat → Prop} {w : World} {k : Nat} {xs : List AV} (h : Holds μ G w k xs) : k < w.heap.size := by
  obtain ⟨cs, el, us, h, _⟩ := h
  exact (Array.getElem?_eq_some_iff.1 h).1

theorem Holds.mono {μ μ' : Bx → Option Nat} {G G' : Nat → Nat → Prop} {w w' : World} {k : Nat} {xs : List AV} (h : Holds μ G w k xs) (hb : w'.heap[k]? = w.heap[k]?)
    (hm : ∀ b k, μ b = some k → μ' b = some k) (hG : ∀ k o, G k o → G' k o) (hw : ∀ k o, G k o → at_ w' k o = at_ w k o) : Holds μ' G' w' k xs := by
  obtain ⟨cs, el, us, h1, h2, h3, h4⟩ := h
  exact ⟨cs, el, us, hb.trans h1, h2, h3, RVs.mono hm hG hw _ _ h4⟩

section
variable {N : Ent} {g : Ghost} {box : Boxes} {w : World}

theorem Valid.muLt (h : Valid N g box w) {b : Bx} {k : Nat} (hb : g.μ b = some k) : k < w.heap.size := by
  have hd := h.dom b
  rw [hb] at hd
  obtain ⟨xs, hx⟩ := Option.isSome_iff_exists.1 (by simpa using hd)
  exact (h.cont b k xs hb hx).lt

/-- the world goes on: nothing that was there has changed -/
theorem Valid.le_world (h : Valid N g box w) {w' : World} (hb : Below w.heap.size w w') : Le g w g w' :=
  ⟨rfl, rfl, fun _ _ h => h, fun _ _ h => h, fun k o hg => at_of_block (hb.block k (at_lt (h.cell k o hg))), fun _ => Nat.le_refl _, fun _ h => h, fun _ _ h => .inl h⟩

theorem Valid.world (h : Valid N g box w) {w' : World} (hb : Below w.heap.size w w') : Valid N g box w' := by
  have hat : ∀ k o, g.G k o → at_ w' k o = at_ w k o := fun k o hg => at_of_block (hb.block k (at_lt (h.cell k o hg)))
  refine { h with chg := ?_, keep := ?_, cell := ?_, cont := ?_, ctop := ?_, tail := ?_ }
  · exact ⟨hb.os.trans h.chg.os, hb.tape.trans h.chg.tape, hb.output.trans h.chg.output, Nat.le_trans h.chg.size hb.size,
      fun i hi hn => (hb.block i (Nat.lt_of_lt_of_le hi h.chg.size)).trans (h.chg.block i hi hn)⟩
  · intro k o hg; rw [hat k o (h.sub k o hg)]; exact h.keep k o hg
  · intro k o hg; rw [hat k o hg]; exact h.cell k o hg
  · intro b k xs hm hx
    exact (h.cont b k xs hm hx).mono (hb.block k (h.muLt hm)) (fun _ _ h => h) (fun _ _ h => h) hat
  · intro b k xs hm hx j n ys fl u hj hu
    rw [at_of_block (hb.block k (h.muLt hm))] at hu
    exact h.ctop b k xs hm hx j n ys fl u hj hu
  · intro i k lo hi ht
    obtain ⟨h1, h2, h3, h4, h5, h6, h7⟩ := h.tail i k lo hi ht
    refine ⟨h1, Nat.lt_of_lt_of_le h2 hb.size, h3, h4, h5, fun o ho ho' => ?_, h7⟩
    obtain ⟨e1, e2, e3⟩ := h6 o ho ho'
    exact ⟨by rw [at_of_block (hb.block k h2)]; exact e1, by rw [frozen_of_block (hb.block k h2)]; exact e2, e3⟩

theorem Le.addG (S : Nat → Nat → Prop) : Le g w { g with G := fun k o => g.G k o ∨ S k o } w :=
  ⟨rfl, rfl, fun _ _ h => h, fun _ _ h => .inl h, fun _ _ _ => rfl, fun _ => Nat.le_refl _, fun _ h => h, fun _ _ h => .inl h⟩

/-- more cells that nobody writes any more -/
theorem Valid.addG (h : Valid N g box w) (S : Nat → Nat → Prop)
    (hS : ∀ k o, S k o → (at_ w k o).isSome ∧ (k < N.w0.heap.size → N.G0 k o ∨ ∃ i lo hi, N.T0 i = some (k, lo, hi) ∧ lo ≤ o ∧ o < hi) ∧ (∀ b, g.μ b ≠ some k) ∧ ∀ i lo hi, g.T i = some (k, lo, hi) → o < lo) :
    Valid N { g with G := fun k o => g.G k o ∨ S k o } box w := by
  refine { h with sub := ?_, old := ?_, cell := ?_, gmu := ?_, cont := ?_, ctop := ?_, tail := ?_ }
  · exact fun k o hk => .inl (h.sub k o hk)
  · rintro k o (hg | hs) hk
    · exact h.old k o hg hk
    · exact (hS k o hs).2.1 hk
  · rintro k o (hg | hs)
    · exact h.cell k o hg
    · exact (hS k o hs).1
  · rintro k o b (hg | hs)
    · exact h.gmu k o b hg
    · exact (hS k o hs).2.2.1 b
  · intro b k xs hm hx
    exact (h.cont b k xs hm hx).mono rfl (fun _ _ h => h) (fun _ _ h => .inl h) (fun _ _ _ => rfl)
  · intro b k xs hm hx j n ys fl u hj hu
    exact FlOK.le (Le.addG (w := w) S) (h.ctop b k xs hm hx j n ys fl u hj hu)
  · intro i k lo hi ht
    obtain ⟨h1, h2, h3, h4, h5, h6, h7⟩ := h.tail i k lo hi ht
    refine ⟨h1, h2, h3, h4, h5, fun o ho ho' => ?_, h7⟩
    obtain ⟨e1, e2, e3⟩ := h6 o ho ho'
    refine ⟨e1, e2, ?_⟩
    rintro (hg | hs)
    · exact e3 hg
    · have := (hS k o hs).2.2.2 i lo hi ht; omega

theorem Le.bump (U : Nat → Nat) (hU : ∀ s, g.U s ≤ U s) : Le g w { g with U } w :=
  ⟨rfl, rfl, fun _ _ h => h, fun _ _ h => h, fun _ _ _ => rfl, hU, fun _ h => h, fun _ _ h => .inl h⟩

/-- a slot makes one thing more -/
theorem Valid.bump (h : Valid N g box w) (U : Nat → Nat) (hU : ∀ s, g.U s ≤ U s) : Valid N { g with U } box w := by
  have hm : ∀ i, made g i → made { g with U } i := fun i hi => made.le (w := w) (Le.bump U hU) hi
  refine { h with fresh := fun s n k hm => Nat.le_trans (h.fresh s n k hm) (hU s), ctop := ?_, tail := ?_, dgen := fun i hi => hm i (h.dgen i hi) }
  · intro b k xs hm hx j n ys fl u hj hu
    exact FlOK.le (Le.bump (w := w) U hU) (h.ctop b k xs hm hx j n ys fl u hj hu)
  · intro i k lo hi ht
    obtain ⟨h1, h2, h3, h4⟩ := h.tail i k lo hi ht
    exact ⟨h1, h2, hm i h3, h4⟩

theorem Le.addMu (b : Bx) (k : Nat) (hb : g.μ b = none) : Le g w { g with μ := fun b' => if b' = b then some k else g.μ b' } w :=
  ⟨rfl, rfl, fun b' k' hm => by show (if b' = b then some k else g.μ b') = _; rw [if_neg (fun e => by rw [e, hb] at hm; cases hm)]; exact hm, fun _ _ h => h, fun _ _ _ => rfl, fun _ => Nat.le_refl _, fun _ h => h, fun _ _ h => .inl h⟩

/-- a new box -/
theorem Valid.addMu (h : Valid N g box w) (s n k : Nat) (xs : List AV) (hn0 : 0 < n) (hn : n ≤ g.U s) (hb : g.μ (.own N.lvl s n) = none) (hk : N.w0.heap.size ≤ k) (hG : ∀ o, ¬ g.G k o)
    (hμ : ∀ b, g.μ b ≠ some k) (hT : ∀ i lo hi, g.T i ≠ some (k, lo, hi)) (hc : Holds g.μ g.G w k xs)
    (htop : ∀ (j n : Nat) (ys : List AV) (fl : Fl) (u : Value), xs[j]? = some (.sl n ys fl) → at_ w k j = some u → FlOK g fl ys.length u) (hok : CellsOK xs) :
    Valid N { g with μ := fun b => if b = .own N.lvl s n then some k else g.μ b } (updB box (.own N.lvl s n) xs) w := by
  have hmu : ∀ b k', g.μ b = some k' → (if b = Bx.own N.lvl s n then some k else g.μ b) = some k' := fun b k' hm => by
    rw [if_neg (fun e => by rw [e, hb] at hm; cases hm)]; exact hm
  refine { h with gmu := ?_, ext := ?_, lv := ?_, nz := ?_, fresh := ?_, inj := ?_, dom := ?_, cont := ?_, cok := ?_, ctop := ?_, tail := ?_ }
  · intro k' o b hg
    show (if b = _ then some k else g.μ b) ≠ _
    split
    · intro e; cases e; exact hG o hg
    · exact h.gmu k' o b hg
  · exact fun b k' hm => hmu _ _ (h.ext b k' hm)
  · intro b k' hm
    change (if b = _ then some k else g.μ b) = _ at hm
    split at hm
    · rename_i e; cases hm; subst e; exact .inr ⟨rfl, hk⟩
    · exact h.lv b k' hm
  · intro l' s'
    show (if _ = _ then some k else g.μ _) = none
    rw [if_neg (fun e => by injection e; omega)]
    exact h.nz l' s'
  · intro s' n' k' hm
    change (if _ = _ then some k else g.μ _) = _ at hm
    split at hm
    · rename_i e; cases e; exact hn
    · exact h.fresh s' n' k' hm
  · intro b b' k' hm hm'
    change (if _ = _ then some k else g.μ _) = _ at hm
    change (if _ = _ then some k else g.μ _) = _ at hm'
    split at hm <;> split at hm'
    · rename_i e e'; rw [e, e']
    · cases hm; exact absurd hm' (hμ b')
    · cases hm'; exact absurd hm (hμ b)
    · exact h.inj b b' k' hm hm'
  · intro b
    show (updB box _ xs b).isSome = (if _ = _ then some k else g.μ _).isSome
    unfold updB
    split
    · rfl
    · exact h.dom b
  · intro b k' xs' hm hx
    change (if _ = _ then some k else g.μ _) = _ at hm
    unfold updB at hx
    split at hm
    · rename_i e
      rw [if_pos e] at hx
      cases hm; cases hx
      exact hc.mono rfl hmu (fun _ _ h => h) (fun _ _ _ => rfl)
    · rename_i e
      rw [if_neg e] at hx
      exact (h.cont b k' xs' hm hx).mono rfl hmu (fun _ _ h => h) (fun _ _ _ => rfl)
  · intro b xs' hx
    unfold updB at hx
    split at hx
    · cases hx; exact hok
    · exact h.cok b xs' hx
  · intro b k' xs' hm hx j n' ys fl u hj hu
    change (if _ = _ then some k else g.μ _) = _ at hm
    unfold updB at hx
    split at hm
    · rename_i e
      rw [if_pos e] at hx
      cases hm; cases hx
      exact FlOK.le (Le.addMu (w := w) _ k hb) (htop j n' ys fl u hj hu)
    · rename_i e
      rw [if_neg e] at hx
      exact FlOK.le (Le.addMu (w := w) _ k hb) (h.ctop b k' xs' hm hx j n' ys fl u hj hu)
  · intro i k' lo hi ht
    obtain ⟨h1, h2, h3, h4, h5, h6, h7⟩ := h.tail i k' lo hi ht
    refine ⟨h1, h2, h3, h4, h5, h6, fun b => ?_⟩
    show (if b = _ then some k else g.μ b) ≠ _
    split
    · intro e; cases e; exact hT _ _ _ ht
    · exact h7 b

theorem Le.addT (i : Id) (r : Nat × Nat × Nat) (hi : g.T i = none) : Le g w { g with T := fun j => if j = i then some r else g.T j } w :=
  ⟨rfl, rfl, fun _ _ h => h, fun _ _ h => h, fun _ _ _ => rfl, fun _ => Nat.le_refl _, fun _ h => h, fun j r' h => .inl (by show (if j = i then _ else _) = _; rw [if_neg (fun e => by rw [e, hi] at h; cases h)]; exact h)⟩

/-- room behind a new slice -/
theorem Valid.addT (h : Valid N g box w) (i : Id) (k lo hi : Nat) (hk : N.w0.heap.size ≤ k ∨ ∃ j lo' hi', N.T0 j = some (k, lo', hi') ∧ lo' ≤ lo ∧ hi ≤ hi') (hlt : k < w.heap.size) (hg : made g i) (hlv : i.lvl = N.lvl) (hD : g.D i = false) (hn : g.T i = none) (hle : lo ≤ hi)
    (hc : ∀ o, lo ≤ o → o < hi → (at_ w k o).isSome ∧ w.frozen? ⟨k, o, none⟩ = false ∧ ¬ g.G k o) (hμ : ∀ b, g.μ b ≠ some k) (hT : ∀ j lo hi, j ≠ i → g.T j ≠ some (k, lo, hi)) :
    Valid N { g with T := fun j => if j = i then some (k, lo, hi) else g.T j } box w := by
  refine { h with ctop := ?_, tail := ?_, tnew := ?_, tkeep := ?_, tinj := ?_ }
  · intro b k' xs hm hx j n ys fl u hj hu
    exact FlOK.le (Le.addT (w := w) i _ hn) (h.ctop b k' xs hm hx j n ys fl u hj hu)
  · intro j k' lo' hi' ht
    change (if _ = _ then _ else _) = _ at ht
    split at ht
    · rename_i e; cases ht; subst e
      exact ⟨hk, hlt, hg, hD, hle, hc, hμ⟩
    · exact h.tail j k' lo' hi' ht
  · intro j r ht
    change (if _ = _ then _ else _) = _ at ht
    split at ht
    · rename_i e; rw [e]; exact .inl hlv
    · exact h.tnew j r ht
  · intro j r hr
    rcases h.tkeep j r hr with h1 | h1
    · left; show (if j = i then _ else _) = _
      rw [if_neg (fun e => by rw [e, hn] at h1; cases h1)]; exact h1
    · exact .inr h1
  · intro j j' k' lo' hi' lo'' hi'' ht ht'
    change (if _ = _ then _ else _) = _ at ht
    change (if _ = _ then _ else _) = _ at ht'
    split at ht <;> split at ht'
    · rename_i e e'; rw [e, e']
    · rename_i e e'; cases ht; exact absurd ht' (hT _ _ _ e')
    · rename_i e e'; cases ht'; exact absurd ht (hT _ _ _ e)
    · exact h.tinj _ _ _ _ _ _ _ ht ht'

theorem Le.dropT (i : Id) : Le g w { g with T := fun j => if j = i then none else g.T j, D := updI g.D i } w :=
  ⟨rfl, rfl, fun _ _ h => h, fun _ _ h => h, fun _ _ _ => rfl, fun _ => Nat.le_refl _, fun j h => by show (if j = i then true else g.D j) = true; rw [h]; simp,
    fun j r h => by
      by_cases e : j = i
      · exact .inr (by show updI g.D i j = true; simp [updI, e])
      · exact .inl (by show (if j = i then none else g.T j) = _; rw [if_neg e]; exact h)⟩

/-- room is taken -/
theorem Valid.dropT (h : Valid N g box w) (i : Id) (hi : made g i) : Valid N { g with T := fun j => if j = i then none else g.T j, D := updI g.D i } box w := by
  have hD : ∀ j, g.D j = true → updI g.D i j = true := fun j hj => by unfold updI; split <;> simp [hj]
  refine { h with ctop := ?c, tail := ?t, tnew := ?n, tkeep := ?k, tinj := ?j, dgen := ?d, dkeep := fun j hj => hD j (h.dkeep j hj) }
  case c =>
    intro b k' xs hm hx j n ys fl u hj hu
    exact FlOK.le (Le.dropT (w := w) i) (h.ctop b k' xs hm hx j n ys fl u hj hu)
  case d =>
    intro j hj
    have hj' : updI g.D i j = true := hj
    unfold updI at hj'
    split at hj'
    · rename_i e; subst e; exact hi
    · exact h.dgen j hj'
  case n =>
    intro j r ht
    change (if _ = _ then _ else _) = _ at ht
    split at ht
    · cases ht
    · exact h.tnew j r ht
  case k =>
    intro j r hr
    by_cases e : j = i
    · right; show updI g.D i j = true; simp [updI, e]
    · rcases h.tkeep j r hr with h1 | h1
      · left; show (if j = i then none else g.T j) = _; rw [if_neg e]; exact h1
      · exact .inr (hD j h1)
  case t =>
    intro j k' lo' hi' ht
    change (if _ = _ then _ else _) = _ at ht
    split at ht
    · cases ht
    · rename_i e
      obtain ⟨h1, h2, h3, h4, h5⟩ := h.tail j k' lo' hi' ht
      exact ⟨h1, h2, h3, by simp only [updI, if_neg e]; exact h4, h5⟩
  case j =>
    intro j j' k' lo' hi' lo'' hi'' ht ht'
    change (if _ = _ then _ else _) = _ at ht
    change (if _ = _ then _ else _) = _ at ht'
    split at ht <;> split at ht'
    · cases ht
    · cases ht
    · cases ht'
    · exact h.tinj _ _ _ _ _ _ _ ht ht'
end
end Go.Abs

/- The operations that change no box, one by one: what the model does is what the abstract machine says. First part. -/
namespace Go.Abs
set_option linter.unusedSimpArgs false
set_option linter.unusedVariables false
open Go Go.RowKit

def TKis : TK → TypeDesc → Prop
  | .arr n e, d => d = .array n e
  | .st fs, d => ∃ fields, d = .struct fields ∧ fs = fields.toList.map fun f => (f.offset, f.type)
  | .slice e, d => d = .slice e
  | .str, d => d = .string
  | .int k, d => d = .int k
  | .bool, d => d = .bool
  | .ptr e, d => d = .pointer e
  | .other, d => d.isRow = false

structure TIis (P : Program) (t : TypeId) (ti : TI) : Prop where
  under : ∃ d, P.underlying t = some d ∧ TKis ti.kind d
  info : ∃ i z, P.info? t = some i ∧ i.size = ti.size ∧ i.bytes = ti.bytes ∧ i.zero = some z ∧ z.cells.toList = ti.zero ∧ ti.zero.length = ti.size
  zero1 : ∀ q ∈ ti.zero, q.oneCell' = true
  fields : ∀ fs, P.underlying t = some (.struct fs) → fs.toList.all (fun f => (P.info? f.type).isSome) = true

def TeOK (P : Program) (te : TypeId → Option TI) : Prop := ∀ t ti, te t = some ti → TIis P t ti

section
variable {P : Program} {te : TypeId → Option TI}

theorem kd_some (hte : TeOK P te) {t : TypeId} {k : TK} (h : kd te t = k) (hk : k ≠ .other) : ∃ ti, te t = some ti ∧ ti.kind = k ∧ ∃ d, P.underlying t = some d ∧ TKis k d := by
  unfold kd at h
  cases e : te t with
  | none => rw [e] at h; exact absurd h.symm hk
  | some ti =>
    rw [e] at h
    obtain ⟨d, h1, h2⟩ := (hte t ti e).under
    exact ⟨ti, rfl, h, d, h1, h ▸ h2⟩

theorem run_sizeOf (hte : TeOK P te) {t : TypeId} {ti : TI} (h : te t = some ti) (w : World) : (sizeOf t).run P w = .ok ti.size w := by
  obtain ⟨i, z, h1, h2, _⟩ := (hte t ti h).info
  simp [sizeOf, typeInfo, h1, h2]

theorem run_isAgg (hte : TeOK P te) {t : TypeId} {ti : TI} (h : te t = some ti) (w : World) : (isAgg t).run P w = .ok (isAggK ti.kind) w := by
  obtain ⟨d, h1, h2⟩ := (hte t ti h).under
  unfold isAgg
  rw [Sem.run_bind, run_underlying h1]
  cases hk : ti.kind <;> rw [hk] at h2 <;> simp only [TKis] at h2
  case st => obtain ⟨f, rfl, _⟩ := h2; rfl
  case other => cases d <;> first | rfl | (simp at h2)
  all_goals (subst h2; rfl)

theorem run_zeroValue (hte : TeOK P te) {t : TypeId} {ti : TI} (h : te t = some ti) (w : World) : ∃ z, (zeroValue t).run P w = .ok z w ∧ z.cells.toList = ti.zero := by
  obtain ⟨i, z, h1, h2, h3, h4, h5, _⟩ := (hte t ti h).info
  exact ⟨z, by simp [zeroValue, typeInfo, h1, h4], h5⟩

theorem run_under (hte : TeOK P te) {t : TypeId} {k : TK} (h : kd te t = k) (hk : k ≠ .other) (w : World) : ∃ d, TKis k d ∧ (underlying t).run P w = .ok d w := by
  obtain ⟨_, _, _, d, h1, h2⟩ := kd_some hte h hk
  exact ⟨d, h2, run_underlying h1 w⟩
end

/-- what is asked of an operation -/
def GOut (P : Program) (N : Ent) (g : Ghost) (box : Boxes) (w : World) (o : Oper) (a : Act) (d : Nat) (r : GR) : Prop :=
  ∃ u w' g', (execOp a.eval o).run P w = .ok (.value u) w' ∧
    Valid N g' (match r.cont with | some c => updB box (.own N.lvl d (g.U d + 1)) c | none => box) w' ∧ Le g w g' w' ∧
    g'.U = (if r.bump then upd g.U d (g.U d + 1) else g.U) ∧ g'.D = (match r.use with | some i => updI g.D i | none => g.D) ∧
    RV g'.μ g'.G w' r.v u ∧ Top g' r.v u

/-- operands -/
def Rel (g : Ghost) (w : World) (a : Act) (ρ : Operand → AV) : Prop := ∀ x, RV g.μ g.G w (ρ x) (a.eval x) ∧ Top g (ρ x) (a.eval x)

section
variable {P : Program} {N : Ent} {g : Ghost} {box : Boxes} {w : World} {o : Oper} {a : Act} {d : Nat}

theorem GOut.pure (hv : Valid N g box w) {v : AV} {u : Value} (hr : (execOp a.eval o).run P w = .ok (.value u) w) (h1 : RV g.μ g.G w v u) (h2 : Top g v u) : GOut P N g box w o a d { v } :=
  ⟨u, w, g, hr, hv, Le.refl _ _, by simp, by simp, h1, h2⟩

theorem run_value {s : Sem Value} {u : Value} {w w' : World} (h : s.run P w = .ok u w') (he : execOp a.eval o = (do Pure.pure (Next.value (← s)))) : (execOp a.eval o).run P w = .ok (.value u) w' := by
  rw [he, Sem.run_bind, h]; rfl

variable {ρ : Operand → AV}

theorem out_move (hv : Valid N g box w) (hρ : Rel g w a ρ) (x : Operand) (ho : o.op = .move x ∨ o.op = .assign x) : GOut P N g box w o a d { v := ρ x } :=
  .pure hv (u := a.eval x) (by rcases ho with ho | ho <;> (unfold execOp; rw [ho]; rfl)) (hρ x).1 (hρ x).2

theorem out_pick (hv : Valid N g box w) (hρ : Rel g w a ρ) (c x y : Operand) (ho : o.op = .pick c x y) {t : Bool} (hc : ρ c = .raw (.bool t)) :
    GOut P N g box w o a d { v := if t then ρ x else ρ y } := by
  have h := (hρ c).1
  rw [hc] at h; simp only [RV] at h
  refine .pure hv (u := if t then a.eval x else a.eval y) (by unfold execOp; rw [ho]; simp only [h, asBool]; cases t <;> rfl) ?_ ?_
  · cases t <;> simp only [if_true, if_false, Bool.false_eq_true] <;> exact (hρ _).1
  · cases t <;> simp only [if_true, if_false, Bool.false_eq_true] <;> exact (hρ _).2

/-- a new block of the machine's own: alloc, box -/
theorem below_alloc' (w : World) (ob : Obj) : Below w.heap.size w (w.alloc ob) := (Below.refl _ _).alloc (Nat.le_refl _) ob

theorem alloc_at (w : World) (ob : Obj) : (w.alloc ob).heap[w.heap.size]? = some ob := by show (w.heap.push ob)[w.heap.size]? = _; simp

theorem Valid.noneAt (hv : Valid N g box w) {k : Nat} (hk : w.heap.size ≤ k) : (∀ o, ¬ g.G k o) ∧ (∀ b, g.μ b ≠ some k) ∧ (∀ i lo hi, g.T i ≠ some (k, lo, hi)) :=
  ⟨fun o h => by have := at_lt (hv.cell k o h); omega, fun b h => by have := hv.muLt h; omega, fun i lo hi h => by have := (hv.tail i k lo hi h).2.1; omega⟩

theorem out_newbox (hv : Valid N g box w) {xs : List AV} {us : List Value} {w1 : World} {el : TypeId} {cs : Array Value} {u : Value} (hrel : RVs g.μ g.G w xs us) (hb : Below w.heap.size w w1) (k : Nat) (hk : w.heap.size ≤ k)
    (hc : w1.heap[k]? = some (.cells cs el (0, 0))) (hl : us.length ≤ cs.size) (hcs : ∀ j, j < us.length → cs[j]? = us[j]?)
    (hr : (execOp a.eval o).run P w = .ok (.value u) w1) {v : AV} (hu : RV (fun b => if b = .own N.lvl d (g.U d + 1) then some k else g.μ b) g.G w1 v u) (ht : ∀ g', Top g' v u)
    (htop : ∀ (j n : Nat) (ys : List AV) (fl : Fl) (u : Value), xs[j]? = some (.sl n ys fl) → us[j]? = some u → FlOK g fl ys.length u) (hok : CellsOK xs) :
    GOut P N g box w o a d { v, bump := true, cont := some xs } := by
  have hv1 := hv.world hb
  obtain ⟨n1, n2, n3⟩ := hv.noneAt hk
  have hU : ∀ s, g.U s ≤ upd g.U d (g.U d + 1) s := fun s => by unfold upd; split <;> simp_all
  have hv2 := hv1.bump _ hU
  have hfresh : g.μ (.own N.lvl d (g.U d + 1)) = none := by
    cases e : g.μ (.own N.lvl d (g.U d + 1)) with
    | none => rfl
    | some k => have := hv.fresh _ _ _ e; omega
  have hv3 := hv2.addMu d (g.U d + 1) k xs (Nat.succ_pos _) (by simp [upd]) hfresh (Nat.le_trans hv.chg.size hk) n1 n2 n3 ⟨cs, el, us, hc, hl, hcs, RVs.mono (fun _ _ h => h) (fun _ _ h => h) (hv.le_world hb).at' _ _ hrel⟩ (by
    intro j n ys fl u hj hu
    have hjl : j < us.length := by rw [hrel.length]; exact (List.getElem?_eq_some_iff.1 hj).1
    rw [at_row hc, hcs j hjl] at hu
    exact FlOK.le ((hv.le_world hb).trans (Le.bump _ hU)) (htop j n ys fl u hj hu)) hok
  refine ⟨u, w1, _, hr, hv3, ?_, by simp, by simp, ?_, ht _⟩
  · exact ((hv.le_world hb).trans (Le.bump _ hU)).trans (Le.addMu (g := { g with U := upd g.U d (g.U d + 1) }) _ k hfresh)
  · exact hu

theorem cellsOK_raws (zs : List Value) : CellsOK (zs.map .raw) := fun x hx => by
  obtain ⟨v, _, rfl⟩ := List.mem_map.1 hx
  exact ⟨fun _ _ _ _ h => (by cases h), fun _ h => (by cases h)⟩
theorem cellsOK_strips (xs : List AV) : CellsOK (xs.map Abs.strip) := fun x hx => by
  obtain ⟨v, _, rfl⟩ := List.mem_map.1 hx
  refine ⟨fun n ys i z h => ?_, fun vs h => ?_⟩
  · cases v <;> simp only [Abs.strip] at h <;> cases h
  · cases v <;> simp only [Abs.strip] at h <;> cases h

theorem out_alloc {te : TypeId → Option TI} (hte : TeOK P te) (hv : Valid N g box w) (t : TypeId) {ti : TI} (ht : te t = some ti) (ho : o.op = .alloc t) :
    GOut P N g box w o a d { v := .ptr (.own N.lvl d (g.U d + 1)) 0, bump := true, cont := some (ti.zero.map .raw) } := by
  obtain ⟨z, hz, hzc⟩ := run_zeroValue hte ht w
  refine out_newbox hv (us := ti.zero) (w1 := w.alloc (.cells z.cells t)) (u := .pointer (some ⟨w.heap.size, 0, none⟩)) (RVs.raws _) (below_alloc' _ _) w.heap.size (Nat.le_refl _) (alloc_at _ _) ?_ ?_ ?_ ?_ (fun _ => trivial) (fun j n ys fl u hj _ => by simp only [List.getElem?_map, Option.map_eq_some_iff] at hj; obtain ⟨_, _, hj⟩ := hj; cases hj) (cellsOK_raws _)
  · rw [← hzc]; simp
  · intro j _; rw [← hzc]; simp
  · refine run_value (s := Instr.alloc t true (.tuple #[])) ?_ (by unfold execOp; rw [ho])
    simp [Instr.alloc, hz, newVar, newRow]
  · simp only [RV]; exact ⟨w.heap.size, by simp, rfl⟩

theorem strip_sl {v : AV} {n : Nat} {ys : List AV} {fl : Fl} (h : strip v = .sl n ys fl) : fl = .bor := by
  cases v <;> simp only [Abs.strip] at h <;> first | (cases h; rfl) | cases h

theorem RVs.strips {μ : Bx → Option Nat} {G : Nat → Nat → Prop} {w : World} : ∀ {xs : List AV} {us : List Value}, RVs μ G w xs us → RVs μ G w (xs.map Abs.strip) us
  | [], us, h => by simpa only [RVs, List.map_nil] using h
  | x :: xs, us, h => by
    simp only [RVs, List.map_cons] at h ⊢
    obtain ⟨u, us', rfl, h1, h2⟩ := h
    exact ⟨u, us', rfl, h1.strip, RVs.strips h2⟩

/-- cells as they are laid into a box -/
theorem laid_rel {v : AV} {u : Value} (h : RV g.μ g.G w v u ∧ Top g v u) {xs : List AV} (hx : v.laid = some xs) : RVs g.μ g.G w xs u.cells.toList ∧
    (∀ (j n : Nat) (ys : List AV) (fl : Fl) (u' : Value), xs[j]? = some (.sl n ys fl) → u.cells.toList[j]? = some u' → FlOK g fl ys.length u') ∧ CellsOK xs := by
  obtain ⟨h1, h2⟩ := h
  have one : ∀ (v : AV) (u : Value), RV g.μ g.G w v u → Top g v u → u.cells.toList = [u] → (∀ n ys i z, v = .sl n ys (.own i z) → i.gen ≠ 0) → (∀ vs, v ≠ .tup vs) → RVs g.μ g.G w [v] u.cells.toList ∧ (∀ (j n : Nat) (ys : List AV) (fl : Fl) (u' : Value), [v][j]? = some (.sl n ys fl) → u.cells.toList[j]? = some u' → FlOK g fl ys.length u') ∧ CellsOK [v] := by
    intro v u h1 h2 h3 h4 h5
    rw [h3]
    refine ⟨by simp only [RVs]; exact ⟨u, [], rfl, h1, rfl⟩, fun j n ys fl u' hj hu => ?_, fun x hx => by simp at hx; subst hx; exact ⟨h4, h5⟩⟩
    cases j with
    | zero => simp at hj hu; subst hu; subst hj; exact h2
    | succ j => simp at hj
  cases v with
  | dead => simp [AV.laid] at hx
  | tup vs => simp [AV.laid] at hx
  | raw x =>
    have h0 := h1
    simp only [RV] at h1
    subst h1
    cases u with
    | agg cs =>
      simp [AV.laid] at hx; subst hx
      refine ⟨by simpa [Value.cells] using RVs.raws (μ := g.μ) (G := g.G) (w := w) cs.toList, fun j n ys fl u' hj _ => ?_, by rw [← Array.toList_map] at *; exact (by simpa using cellsOK_raws cs.toList)⟩
      simp at hj
    | _ => simp [AV.laid] at hx; subst hx; exact one _ _ h0 h2 rfl (by simp) (by simp)
  | agg xs' =>
    simp only [RV] at h1
    obtain ⟨us, rfl, h3⟩ := h1
    simp [AV.laid] at hx; subst hx
    refine ⟨by simpa [Value.cells] using h3.strips, fun j n ys fl u' hj _ => ?_, cellsOK_strips _⟩
    simp only [List.getElem?_map, Option.map_eq_some_iff] at hj
    obtain ⟨_, _, hj⟩ := hj
    rw [strip_sl hj]; trivial
  | nptr xs => simp only [RV] at h1
  | anyb =>
    have h0 := h1
    simp only [RV] at h1
    obtain ⟨b, rfl⟩ := h1
    simp [AV.laid] at hx; subst hx; exact one _ _ h0 h2 rfl (by simp) (by simp)
  | sl n xs' fl =>
    have h0 := h1
    simp only [RV] at h1
    have hcell : u.cells.toList = [u] := by rcases h1 with ⟨rfl, _⟩ | ⟨k, o, c, us, rfl, _⟩ <;> rfl
    have bor : RV g.μ g.G w (.sl n xs' .bor) u := by simpa only [RV] using h0
    cases fl with
    | bor => simp [AV.laid] at hx; subst hx; exact one _ _ h0 h2 hcell (by simp) (by simp)
    | full => simp [AV.laid] at hx; subst hx; exact one _ _ h0 h2 hcell (by simp) (by simp)
    | own i z =>
      simp only [AV.laid] at hx
      split at hx
      · cases hx; exact one _ _ bor trivial hcell (by simp) (by simp)
      · rename_i hg; cases hx; exact one _ _ h0 h2 hcell (fun n ys i z h => by cases h; exact hg) (by simp)
  | ptr b off =>
    have h0 := h1
    simp only [RV] at h1
    obtain ⟨k, _, rfl⟩ := h1
    simp [AV.laid] at hx; subst hx; exact one _ _ h0 h2 rfl (by simp) (by simp)
  | iptr xs' =>
    have h0 := h1
    simp only [RV] at h1
    obtain ⟨k, o, us, rfl, _⟩ := h1
    simp [AV.laid] at hx; subst hx; exact one _ _ h0 h2 rfl (by simp) (by simp)
  | view b off n c sz =>
    have h0 := h1
    simp only [RV] at h1
    obtain ⟨k, o, _, _, rfl, _⟩ := h1
    simp [AV.laid] at hx; subst hx; exact one _ _ h0 h2 rfl (by simp) (by simp)
  | fn f xs' =>
    have h0 := h1
    simp only [RV] at h1
    obtain ⟨us, rfl, _⟩ := h1
    simp [AV.laid] at hx; subst hx; exact one _ _ h0 h2 rfl (by simp) (by simp)

theorem out_box (hv : Valid N g box w) (hρ : Rel g w a ρ) (t : TypeId) (x : Operand) (ho : o.op = .box t x) {cs : List AV} (hc : (ρ x).laid = some cs) :
    GOut P N g box w o a d { v := .ptr (.own N.lvl d (g.U d + 1)) 0, bump := true, cont := some cs } := by
  obtain ⟨l1, l2, l3⟩ := laid_rel (hρ x) hc
  refine out_newbox hv (us := (a.eval x).cells.toList) (w1 := w.alloc (.cells (a.eval x).cells t)) (u := .pointer (some ⟨w.heap.size, 0, none⟩)) l1 (below_alloc' _ _) w.heap.size (Nat.le_refl _) (alloc_at _ _) ?_ ?_ ?_ ?_ (fun _ => trivial) l2 l3
  · simp
  · intro j _; simp
  · refine run_value (s := Instr.box t (a.eval x)) ?_ (by unfold execOp; rw [ho])
    simp [Instr.box, newVar, newRow]
  · simp only [RV]; exact ⟨w.heap.size, by simp, rfl⟩
end
end Go.Abs

/- The operations that change no box, one by one. Second part: those that only look. -/
namespace Go.Abs
set_option linter.unusedSimpArgs false
set_option linter.unusedVariables false
open Go Go.RowKit
section
variable {P : Program} {N : Ent} {g : Ghost} {box : Boxes} {w : World} {o : Oper} {a : Act} {d : Nat} {ρ : Operand → AV} {te : TypeId → Option TI}

theorem Top.strip (v : AV) (u : Value) : Top g (strip v) u := by
  cases v <;> trivial

/-- a part of some cells that lie in a list -/
theorem part_rel (hte : TeOK P te) {t : TypeId} {cs : List AV} {us : List Value} (hr : RVs g.μ g.G w cs us) {off : Nat} {v : AV} (h : partV te t cs off = some v) :
    ∃ ti, te t = some ti ∧ if isAggK ti.kind then off + ti.size ≤ cs.length ∧ v = .agg ((cs.drop off).take ti.size) else ∃ x, cs[off]? = some x ∧ v = strip x := by
  unfold partV at h
  cases e : te t with
  | none => rw [e] at h; simp at h
  | some ti =>
    rw [e] at h
    simp only [Option.bind_some] at h
    refine ⟨ti, rfl, ?_⟩
    split at h
    · rw [if_pos ‹_›]
      split at h
      · cases h; exact ⟨‹_›, rfl⟩
      · cases h
    · rw [if_neg ‹_›]
      simp only [Option.map_eq_some_iff] at h
      obtain ⟨x, h1, h2⟩ := h
      exact ⟨x, h1, h2.symm⟩

/-- a value read out of memory -/
theorem run_loadVar_rel (hte : TeOK P te) {t : TypeId} {cs : List AV} {us : List Value} {k b off : Nat} (hr : RVs g.μ g.G w cs us) (hm : ∀ j, j < us.length → at_ w k (b + j) = us[j]?)
    {v : AV} (h : partV te t cs off = some v) : ∃ u, (loadVar t ⟨k, b + off, none⟩).run P w = .ok u w ∧ RV g.μ g.G w v u ∧ Top g v u := by
  obtain ⟨ti, ht, h1⟩ := part_rel (w := w) (g := g) hte hr h
  have hl := hr.length
  split at h1
  · rename_i hagg
    obtain ⟨h2, rfl⟩ := h1
    obtain ⟨dd, hu, hk⟩ := (hte t ti ht).under
    obtain ⟨i, z, hi, hs, _⟩ := (hte t ti ht).info
    have hrow : dd.isRow = true := by
      cases hkk : ti.kind <;> rw [hkk] at hk hagg <;> simp only [isAggK, TKis] at hk hagg <;> try (cases hagg)
      · subst hk; rfl
      · obtain ⟨f, rfl, _⟩ := hk; rfl
    refine ⟨_, run_loadVar_mid w k (b + off) t ((us.drop off).take ti.size) dd ?_ hu hrow (by simp [hi, hs, hl]; omega), ?_, trivial⟩
    · intro j v hv
      have hj : j < ti.size := by
        rcases Nat.lt_or_ge j ti.size with h | h
        · exact h
        · rw [List.getElem?_eq_none (by simp; omega)] at hv; cases hv
      rw [List.getElem?_take, if_pos hj, List.getElem?_drop] at hv
      have := hm (off + j) (by rcases Nat.lt_or_ge (off + j) us.length with h | h; exact h; rw [List.getElem?_eq_none h] at hv; cases hv)
      rw [Nat.add_assoc]; exact this.trans hv
    · simp only [RV]; exact ⟨_, rfl, (hr.drop off).take ti.size⟩
  · rename_i hagg
    obtain ⟨x, hx, rfl⟩ := h1
    obtain ⟨u, hu, hrv⟩ := hr.get off x hx
    have hlt : off < us.length := by rw [hl]; exact (List.getElem?_eq_some_iff.1 hx).1
    refine ⟨u, ?_, hrv.strip, Top.strip _ _⟩
    have hc : w.cell? ⟨k, b + off, none⟩ = some u := (hm off hlt).trans hu
    simp [loadVar, run_isAgg hte ht, hagg, load, Sem.run, hc]

/-- a value read out of a box -/
theorem run_loadBox_rel (hte : TeOK P te) (hv : Valid N g box w) {t : TypeId} {b : Bx} {k off : Nat} {cs : List AV} (hb : g.μ b = some k) (hx : box b = some cs) {v : AV} (h : partB te t cs off = some v) :
    ∃ u, (loadVar t ⟨k, off, none⟩).run P w = .ok u w ∧ RV g.μ g.G w v u ∧ Top g v u := by
  obtain ⟨us0, el, us, hr1, hr2, hr3, hr⟩ := hv.cont b k cs hb hx
  have hm : ∀ j, j < us.length → at_ w k j = us[j]? := fun j hj => by rw [at_row hr1]; exact hr3 j hj
  have hl := hr.length
  unfold partB at h
  simp only [Option.bind_eq_some_iff] at h
  obtain ⟨ti, ht, h⟩ := h
  split at h
  · rename_i hagg
    split at h
    · rename_i hle
      cases h
      have h' : partV te t cs off = some (.agg ((cs.drop off).take ti.size)) := by
        unfold partV
        rw [ht, Option.bind_some, if_pos hagg, if_pos hle]
      obtain ⟨u, h1, h2, h3⟩ := run_loadVar_rel (k := k) (b := 0) (P := P) hte hr (by simpa using hm) h'
      exact ⟨u, by simpa using h1, h2, trivial⟩
    · cases h
  · rename_i hagg
    simp only [Option.bind_eq_some_iff] at h
    obtain ⟨x, hx', h⟩ := h
    have hvx : v = x ∧ ∀ vs, x ≠ .tup vs := by
      split at h
      · cases h
      · cases h; rename_i hn; exact ⟨rfl, fun vs e => hn vs e⟩
    obtain ⟨rfl, hnt⟩ := hvx
    obtain ⟨u, hu, hrv⟩ := hr.get off _ hx'
    have hlt : off < us.length := by rw [hl]; exact (List.getElem?_eq_some_iff.1 hx').1
    have hat : at_ w k off = some u := (hm off hlt).trans hu
    refine ⟨u, ?_, hrv, ?_⟩
    · have hc : w.cell? ⟨k, off, none⟩ = some u := hat
      simp [loadVar, run_isAgg hte ht, hagg, load, Sem.run, hc]
    · cases v with
      | sl n xs fl => exact hv.ctop b k cs hb hx off n xs fl u hx' hat
      | tup vs => exact absurd rfl (hnt vs)
      | _ => trivial

theorem Valid.box_cells (hv : Valid N g box w) {b : Bx} {k : Nat} {xs : List AV} (hb : g.μ b = some k) (hx : box b = some xs) :
    ∃ us, RVs g.μ g.G w xs us ∧ (∀ j, j < us.length → at_ w k j = us[j]?) ∧ (∀ j, j < us.length → w.frozen? ⟨k, j, none⟩ = false) := by
  obtain ⟨cs, el, us, h1, h2, h3, h4⟩ := hv.cont b k xs hb hx
  exact ⟨us, h4, fun j hj => by rw [at_row h1]; exact h3 j hj, fun j _ => frozen_row h1⟩

theorem out_load (hte : TeOK P te) (hv : Valid N g box w) (hρ : Rel g w a ρ) (t : TypeId) (x : Operand) (ho : o.op = .load t x) {v : AV} (h : loadV te box t (ρ x) = some v) : GOut P N g box w o a d { v } := by
  have hx := (hρ x).1
  have key : ∀ (k off : Nat) (v : AV) (u : Value), a.eval x = .pointer (some ⟨k, off, none⟩) → (loadVar t ⟨k, off, none⟩).run P w = .ok u w → (execOp a.eval o).run P w = .ok (.value u) w := fun k off v u he hl => by
    refine run_value (s := Instr.loadAt t (a.eval x)) ?_ (by unfold execOp; rw [ho])
    simp only [he, Instr.loadAt, Instr.sureAddr, Sem.run_bind, Sem.run_pure, Result.andThen_ok, hl]
  unfold loadV at h
  split at h
  · rename_i b off e
    rw [e] at hx; simp only [RV] at hx
    obtain ⟨k, hk, he⟩ := hx
    simp only [Option.bind_eq_some_iff] at h
    obtain ⟨xs, hxs, h⟩ := h
    obtain ⟨u, hu, h6, h7⟩ := run_loadBox_rel (P := P) hte hv hk hxs h
    exact .pure hv (key k off v u he hu) h6 h7
  · rename_i xs e
    rw [e] at hx; simp only [RV] at hx
    obtain ⟨k, off, us, he, h4, h5⟩ := hx
    obtain ⟨u, hu, h6, h7⟩ := run_loadVar_rel (k := k) (b := off) hte h4 (fun j hj => (h5 j hj).1) h
    exact .pure hv (key k off v u he (by simpa using hu)) h6 h7
  · cases h

theorem out_nilCheck (hv : Valid N g box w) (hρ : Rel g w a ρ) (x : Operand) (ho : o.op = .nilCheck x) {v : AV} (h : (match ρ x with | .ptr b o => some (AV.ptr b o) | .iptr xs => some (.iptr xs) | .fn f cs => some (.fn f cs) | _ => none) = some v) :
    GOut P N g box w o a d { v } := by
  have hx := (hρ x).1
  have hvx : v = ρ x := by
    revert h; cases ρ x <;> intro h <;> simp only [reduceCtorEq, Option.some.injEq] at h <;> exact h.symm
  subst hvx
  refine .pure hv (u := a.eval x) ?_ (hρ x).1 (hρ x).2
  have hx := (hρ x).1
  revert h hx
  cases ρ x <;> intro h hx <;> simp only [reduceCtorEq] at h <;> simp only [RV] at hx
  · obtain ⟨k, _, he⟩ := hx; unfold execOp; rw [ho]; simp only [he]; rfl
  · obtain ⟨k, off, us, he, _⟩ := hx; unfold execOp; rw [ho]; simp only [he]; rfl
  · obtain ⟨us, he, _⟩ := hx; unfold execOp; rw [ho]; simp only [he]; rfl

theorem out_unOp (hv : Valid N g box w) (hρ : Rel g w a ρ) (op : UnOp) (t : TypeId) (x : Operand) (ho : o.op = .unOp op t x) {v : AV} (h : unV op (ρ x) = some v) : GOut P N g box w o a d { v } := by
  have hx := (hρ x).1
  have key : ∀ u : Value, (Op.unary op (a.eval x)).run P w = .ok u w → (execOp a.eval o).run P w = .ok (.value u) w := fun u hu => run_value hu (by unfold execOp; rw [ho])
  have fin : ∀ u : Value, (Op.unary op (a.eval x)).run P w = .ok u w → RV g.μ g.G w v u → Top g v u → GOut P N g box w o a d { v } := fun u h1 h2 h3 => .pure hv (key u h1) h2 h3
  clear key hρ
  revert h hx fin
  generalize a.eval x = u0
  generalize ρ x = x0
  intro h hx fin
  unfold unV at h
  split at h
  · cases h; simp only [RV] at hx; subst hx; exact fin _ rfl (by simp only [RV]) trivial
  · cases h; simp only [RV] at hx; subst hx; exact fin _ rfl (by simp only [RV]) trivial
  · cases h; simp only [RV] at hx; subst hx; exact fin _ rfl (by simp only [RV]) trivial
  · cases h; simp only [RV] at hx; obtain ⟨b, rfl⟩ := hx; exact fin (.bool !b) rfl (by simp only [RV]; exact ⟨_, rfl⟩) trivial
  · cases h

theorem out_extract (hv : Valid N g box w) (hρ : Rel g w a ρ) (x : Operand) (i : Nat) (ho : o.op = .extract x i) {vs : List AV} (he : ρ x = .tup vs) {v : AV} (h : vs[i]? = some v) (hnt : ∀ vs, v ≠ .tup vs) : GOut P N g box w o a d { v } := by
  have hx := (hρ x).1
  have ht := (hρ x).2
  rw [he] at hx ht; simp only [RV] at hx; simp only [Top] at ht
  obtain ⟨us, hu, hr⟩ := hx
  obtain ⟨us', hu', ht⟩ := ht
  obtain ⟨u, h1, h2⟩ := hr.get i v h
  refine .pure hv (u := u) ?_ h2 ?_
  · refine run_value (s := Instr.extract (a.eval x) i) ?_ (by unfold execOp; rw [ho])
    rw [hu]; simp [Instr.extract, h1]
  · rw [hu] at hu'; cases hu'
    cases v with
    | sl n xs fl => exact ht i n xs fl u h (by simpa using h1)
    | tup vs => exact absurd rfl (hnt vs)
    | _ => trivial

theorem out_makeFunc (hv : Valid N g box w) (hρ : Rel g w a ρ) (f : FuncId) (first caps : Array Operand) (ho : o.op = .makeFunc (.func f) first caps) (h0 : first.size = 0) :
    GOut P N g box w o a d { v := .fn f (caps.toList.map ρ) } := by
  refine .pure hv (u := .func (.func f) #[] (caps.map a.eval)) ?_ ?_ trivial
  · refine run_value (s := Instr.makeFunc (.func f) (first.map a.eval) (caps.map a.eval)) ?_ (by unfold execOp; rw [ho])
    have : first = #[] := Array.eq_empty_of_size_eq_zero h0
    subst this; simp [Instr.makeFunc]
  · simp only [RV]
    refine ⟨caps.toList.map a.eval, by rw [← Array.toList_map, Array.toArray_toList], RVs.of_get (by simp) fun j x u hx hu => ?_⟩
    simp only [List.getElem?_map, Option.map_eq_some_iff] at hx hu
    obtain ⟨y, h1, rfl⟩ := hx
    obtain ⟨y', h2, rfl⟩ := hu
    rw [h1] at h2; cases h2
    exact (hρ y).1
end
end Go.Abs
