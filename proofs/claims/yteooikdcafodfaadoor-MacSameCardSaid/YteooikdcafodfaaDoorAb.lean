/- The abstract machine's steps. Definitions. -/
import Derived.Test.YteooikdcafodfaaDoorAa
namespace Go.Abs
set_option linter.unusedSimpArgs false
set_option linter.unusedVariables false
open Go

structure GR where
  v : AV
  bump : Bool := false
  cont : Option (List AV) := none
  use : Option Id := none

/-- a new slice whose cells nobody else knows: a box, or by value with no room behind it -/
def freshSl (E : Env) (lvl d g n : Nat) (sz : Nat) (xs : List AV) : GR :=
  if E.mu d then { v := .view (.own lvl d g) 0 n n sz, bump := true, cont := some xs } else { v := .sl n xs (.own ⟨d, 0, g⟩ sz), bump := true }

def loadV (te : TypeId → Option TI) (bx : Boxes) (t : TypeId) : AV → Option AV
  | .ptr b off => (bx b).bind fun xs => partV te t xs off
  | .iptr xs => partV te t xs 0
  | _ => none

def fieldAddrV (te : TypeId → Option TI) (s : TypeId) (f : Nat) (x : AV) : Option AV :=
  match kd te s, x with
  | .st fs, .ptr b off => (fs[f]?).bind fun p => (te p.2).bind fun ti => if ti.size = 0 then none else some (.ptr b (off + p.1))
  | .st fs, .iptr xs => (fs[f]?).bind fun p => (te p.2).bind fun ti => if ti.size = 0 then none else some (.iptr (xs.drop p.1))
  | _, _ => none

def indexAddrV (te : TypeId → Option TI) (t : TypeId) (x i : AV) : Option AV :=
  match i with
  | .raw (.int _ i) =>
    match kd te t, x with
    | .arr len e, .ptr b off => (te e).bind fun ti => if 0 ≤ i ∧ i < len then some (.ptr b (off + i.toNat * ti.size)) else none
    | .arr len e, .iptr xs => (te e).bind fun ti => if 0 ≤ i ∧ i < len then some (.iptr (xs.drop (i.toNat * ti.size))) else none
    | .slice e, .sl n xs _ => (te e).bind fun ti => if 0 ≤ i ∧ i < n then some (.iptr (xs.drop (i.toNat * ti.size))) else none
    | .slice e, .view b off n _ z => (te e).bind fun ti => if 0 ≤ i ∧ i < n ∧ z = ti.size then some (.ptr b (off + i.toNat * ti.size)) else none
    | _, _ => none
  | _ => none

def indexV (te : TypeId → Option TI) (t : TypeId) (x i : AV) : Option AV :=
  match i with
  | .raw (.int _ i) =>
    match kd te t, x with
    | .arr len e, .agg cs => (te e).bind fun ti => if 0 ≤ i ∧ i < len then partV te e cs (i.toNat * ti.size) else none
    | .str, .raw (.string s) => if 0 ≤ i then (s.data.toList[i.toNat]?).map fun b => .raw (.int .u8 b.toNat) else none
    | _, _ => none
  | _ => none

def fieldV (te : TypeId → Option TI) (t : TypeId) (f : Nat) (x : AV) : Option AV :=
  match kd te t, x with
  | .st fs, .agg cs => (fs[f]?).bind fun p => partV te p.2 cs p.1
  | _, _ => none

/-- the three bounds of x[lo:hi:max] -/
def bounds (len cap : Nat) (lo hi mx : Option AV) : Option (Nat × Nat × Nat) :=
  (match mx with | none => some cap | some v => bound cap v).bind fun m =>
  (match hi, mx with | some v, _ => bound m v | none, none => some len | none, some _ => none).bind fun h =>
  (match lo with | some v => bound h v | none => some 0).map fun l => (l, h, m)

/-- the flag of x[lo:hi:max], n what x has -/
def cutFl (sz n l h m : Nat) (full : Bool) : Fl → Fl
  | .own i z => if full then (if m = h then .full else .bor) else if h = n ∧ z = sz then .own i z else .bor
  | .full => if full then (if m = h then .full else .bor) else if h = n then .full else .bor
  | .bor => if full then (if m = h then .full else .bor) else .bor

/-- x[lo:hi:max] -/
def sliceV (te : TypeId → Option TI) (t : TypeId) (x : AV) (lo hi mx : Option AV) : Option AV :=
  match kd te t, x with
  | .str, .raw (.string s) => if mx.isSome then none else (bounds s.size s.size lo hi none).map fun r => .raw (.string (s.extract r.1 r.2.1))
  | .slice e, .raw (.slice none 0 0) => (te e).bind fun _ => (bounds 0 0 lo hi mx).map fun _ => .raw (.slice none 0 0)
  | .slice e, .sl n xs fl => (te e).bind fun ti => (bounds n n lo hi mx).map fun r =>
      .sl (r.2.1 - r.1) ((xs.drop (r.1 * ti.size)).take ((r.2.1 - r.1) * ti.size)) (cutFl ti.size n r.1 r.2.1 r.2.2 mx.isSome fl)
  | .slice e, .view b off n c z => (te e).bind fun ti => if z = ti.size then (bounds n c lo hi mx).map fun r =>
      if r.2.2 = r.1 then .view b off 0 0 z else .view b (off + r.1 * z) (r.2.1 - r.1) (r.2.2 - r.1) z else none
  | .arr len e, .ptr b off => (te e).bind fun ti => (bounds len len lo hi mx).map fun r =>
      if r.2.2 = r.1 then .view b off 0 0 ti.size else .view b (off + r.1 * ti.size) (r.2.1 - r.1) (r.2.2 - r.1) ti.size
  | _, _ => none

def convV (E : Env) (d g : Nat) (bx : Boxes) (src dst : TypeId) (x : AV) : Option GR :=
  match kd E.te src, kd E.te dst, x with
  | .int _, .int k, .raw (.int _ n) => some { v := .raw (.int k (k.wrap n)) }
  | .str, .str, .raw (.string s) => some { v := .raw (.string s) }
  | .str, .slice e, .raw (.string s) =>
    match kd E.te e with
    | .int .u8 => if E.mu d then none else some { v := .sl s.size (s.data.toList.map fun b => .raw (.int .u8 b.toNat)) (.own ⟨d, 0, g⟩ 1), bump := true }
    | _ => none
  | .slice e, .str, x =>
    match kd E.te e with
    | .int .u8 => match x with
      | .raw (.string _) => none
      | x => (slCells bx 1 x).bind fun p => (asBytes p.2).map fun bs => { v := .raw (.string ⟨bs.toArray⟩) }
    | _ => none
  | _, _, _ => none

/-- a slice of bytes to its own type, as a constant string's bytes are made: whose room, if it had any, is lost -/
def isSelf (te : TypeId → Option TI) (s t : TypeId) : Bool :=
  match kd te s, kd te t with
  | .slice _, .slice _ => true
  | _, _ => false
def convSelf (te : TypeId → Option TI) (used : Id → Bool) (s t : TypeId) : AV → Option GR
  | .sl n xs (.own i z) =>
    match kd te t with
    | .slice e => match kd te e with
      | .int .u8 => if s = t ∧ used i = false ∧ n ≠ 0 then some { v := .sl n xs .bor, use := some i } else none
      | _ => none
    | _ => none
  | _ => none

def zerosOf (ti : TI) (n : Nat) : List AV := rep n (ti.zero.map .raw)

/-- may be appended to where it is: whether, and whose room it takes -/
def room (sz m : Nat) (used : Id → Bool) : AV → Option (Option Id)
  | .raw (.slice none 0 0) => some none
  | .sl _ _ .full => if m = 0 then none else some none
  | .sl _ _ (.own i z) => if used i = false ∧ z = sz then some (some i) else none
  | _ => none

/-- what is appended: how many, the cells -/
def srcV (te : TypeId → Option TI) (bx : Boxes) (ti : TI) (t1 : TypeId) (x : AV) : Option (Nat × List AV) :=
  match kd te t1, x with
  | .int _, .raw (.int _ m) => if 0 ≤ m ∧ m ≤ 140737488355328 then some (m.toNat, zerosOf ti m.toNat) else none
  | .slice _, x => slCells bx ti.size x
  | .str, x => slCells bx ti.size x
  | _, _ => none

def appendV (E : Env) (d g : Nat) (bx : Boxes) (used : Id → Bool) (ts : List TypeId) (s x : AV) : Option GR :=
  match ts with
  | [t0, t1] =>
    match kd E.te t0 with
    | .slice e =>
      (E.te e).bind fun ti =>
      (slCells bx ti.size s).bind fun p =>
      (srcV E.te bx ti t1 x).bind fun q =>
      (room ti.size q.1 used s).bind fun u =>
      if (p.1 + q.1) * ti.bytes ≤ 140737488355328 ∧ p.1 + q.1 ≤ 140737488355328 ∧ q.2.all oneA = true ∧ E.mu d = false then
        some { v := .sl (p.1 + q.1) (p.2 ++ q.2) (.own ⟨d, 0, g⟩ ti.size), bump := true, use := u } else none
    | _ => none
  | _ => none

def lenV (te : TypeId → Option TI) (t : TypeId) (x : AV) : Option AV :=
  match kd te t, x with
  | .str, .raw (.string s) => some (.raw (.int .i64 s.size))
  | .arr n _, _ => some (.raw (.int .i64 n))
  | .slice _, .raw (.slice none 0 0) => some (.raw (.int .i64 0))
  | .slice _, .sl n _ _ => some (.raw (.int .i64 n))
  | .slice _, .view _ _ n _ _ => some (.raw (.int .i64 n))
  | _, _ => none

def min2V : AV → AV → Option AV
  | .raw (.int k x), .raw (.int _ y) => some (.raw (.int k (if y < x then y else x)))
  | _, _ => none

def makeV (E : Env) (lvl d g : Nat) (t : TypeId) (l c : AV) : Option GR :=
  match kd E.te t, l, c with
  | .slice e, .raw (.int _ l), .raw (.int _ c) =>
    (E.te e).bind fun ti =>
      if 0 ≤ l ∧ l ≤ c ∧ c * ti.bytes ≤ 281474976710656 ∧ c ≤ 281474976710656 then
        (if E.mu d then some { v := .view (.own lvl d g) 0 l.toNat c.toNat ti.size, bump := true, cont := some (zerosOf ti c.toNat) }
         else some { v := .sl l.toNat (zerosOf ti l.toNat) (.own ⟨d, 0, g⟩ ti.size), bump := true })
      else none
  | _, _, _ => none

/-- the result of a call: what is the callee's own to give becomes the caller's -/
def takeR (d g : Nat) : AV → AV
  | .sl n xs (.own i z) => .sl n xs (.own ⟨d, i.comp, g⟩ z)
  | .tup vs => .tup (vs.map fun | .sl n xs (.own i z) => .sl n xs (.own ⟨d, i.comp, g⟩ z) | v => v)
  | v => v

mutual
/-- does a value show a box's cells -/
def hasView : AV → Bool
  | .view .. => true
  | .sl _ xs _ => hasViewL xs
  | .agg xs => hasViewL xs
  | .tup xs => hasViewL xs
  | _ => false
def hasViewL : List AV → Bool
  | [] => false
  | x :: xs => hasView x || hasViewL xs
end

/-- a result whose cells, if it has any, are new -/
def freshC : AV → Bool
  | .raw _ => true
  | .anyb => true
  | .dead => true
  | .sl _ xs (.own _ _) => (flatL xs).isSome
  | .agg xs => (flatL xs).isSome
  | _ => false

def freshR : AV → Bool
  | .tup vs => vs.all freshC
  | v => freshC v

def snapAll (bx : Boxes) : List AV → Option (List AV)
  | [] => some []
  | x :: xs => (snap bx x).bind fun y => (snapAll bx xs).map (y :: ·)

def arrOK (te : TypeId → Option TI) : TK → Bool
  | .arr _ e => (te e).isSome
  | _ => true

/-- what an operation that changes no box comes to -/
def grow (E : Env) (lvl d g : Nat) (ρ : Operand → AV) (bx : Boxes) (used : Id → Bool) : Op → Option GR
  | .move x | .assign x => some { v := ρ x }
  | .pick c a b => match ρ c with
    | .raw (.bool t) => some { v := if t then ρ a else ρ b }
    | _ => none
  | .alloc t => (E.te t).map fun ti => { v := .ptr (.own lvl d g) 0, bump := true, cont := some (ti.zero.map .raw) }
  | .box t x => (E.te t).bind fun ti => (ρ x).cells.bind fun cs => if cs.length = ti.size then some { v := .ptr (.own lvl d g) 0, bump := true, cont := some cs } else none
  | .build t ps => (E.te t).bind fun ti => if isAggK ti.kind = true ∧ arrOK E.te ti.kind = true then (fillV E.te ti.kind (ti.zero.map .raw) (ps.toList.map fun p => (p.1, ρ p.2))).map fun cs => { v := .agg cs } else none
  | .buildSlice t n ps => match kd E.te t with
    | .slice e => (E.te e).bind fun ti => if n * ti.size ≤ 16777216 then (fillV E.te (.slice e) (zerosOf ti n) (ps.toList.map fun p => (p.1, ρ p.2))).map fun cs => freshSl E lvl d g n ti.size cs else none
    | _ => none
  | .load t a => (loadV E.te bx t (ρ a)).map fun v => { v }
  | .nilCheck x => match ρ x with
    | .ptr b o => some { v := .ptr b o }
    | .iptr xs => some { v := .iptr xs }
    | .fn f cs => some { v := .fn f cs }
    | _ => none
  | .binOp op t x y _ => (binV E.te op t (ρ x) (ρ y)).map fun v => { v }
  | .unOp op _ x => (unV op (ρ x)).map fun v => { v }
  | .convert s t x => if isSelf E.te s t then convSelf E.te used s t (ρ x) else convV E d g bx s t (ρ x)
  | .sliceToArrayPointer t x => match kd E.te t, ρ x with
    | .arr n _, .sl m xs _ => if n ≤ m ∧ 0 < n then some { v := .iptr xs } else none
    | .arr n _, .view b off m _ _ => if n ≤ m ∧ 0 < n then some { v := .ptr b off } else none
    | _, _ => none
  | .makeFunc fn first caps => match fn with
    | .func f => if first.size = 0 then some { v := .fn f (caps.toList.map ρ) } else none
    | _ => none
  | .makeSlice t l c => makeV E lvl d g t (ρ l) (ρ c)
  | .slice t x lo hi mx => (sliceV E.te t (ρ x) (lo.map ρ) (hi.map ρ) (mx.map ρ)).map fun v => { v }
  | .fieldAddr s x f => (fieldAddrV E.te s f (ρ x)).map fun v => { v }
  | .field t x f => (fieldV E.te t f (ρ x)).map fun v => { v }
  | .indexAddr t x i => (indexAddrV E.te t (ρ x) (ρ i)).map fun v => { v }
  | .index t x i => (indexV E.te t (ρ x) (ρ i)).map fun v => { v }
  | .extract x i => match ρ x with
    | .tup vs => match vs[i]? with
      | some (.tup _) => none
      | some v => some { v }
      | none => none
    | _ => none
  | .call { callee := .builtin .append, args, argTypes } => match args.toList with
    | [s, x] => appendV E d g bx used argTypes.toList (ρ s) (ρ x)
    | _ => none
  | .call { callee := .builtin .len, args, argTypes } => match args.toList, argTypes.toList with
    | [x], t :: _ => (lenV E.te t (ρ x)).map fun v => { v }
    | _, _ => none
  | .call { callee := .builtin .min, args, argTypes := _ } => match args.toList with
    | [x, y] => (min2V (ρ x) (ρ y)).map fun v => { v }
    | _ => none
  | .call { callee := .value f, args, argTypes := _ } => match ρ f with
    | .fn f [] => match E.tbl f with
      | some (.val pf) => (snapAll bx (args.toList.map ρ)).bind fun as => (pf as).bind fun r => if E.mu d = false ∧ (hasViewL (args.toList.map ρ) = false ∨ freshR r = true) then some { v := takeR d g r, bump := true } else none
      | _ => none
    | _ => none
  | _ => none

/-! ### operations that write to boxes -/

def storeV (te : TypeId → Option TI) (bx : Boxes) (t : TypeId) : AV → AV → Option Boxes
  | .ptr b off, v => (te t).bind fun ti => (bx b).bind fun xs => v.cells.bind fun ys =>
      if ys.length = ti.size ∧ off + ti.size ≤ xs.length ∧ ys.all oneA = true then some (updB bx b (splice xs off ys)) else none
  | _, _ => none

def isStr : AV → Bool
  | .raw (.string _) => true
  | _ => false

def copyV (te : TypeId → Option TI) (bx : Boxes) (t : TypeId) (dst src : AV) : Option (Nat × Boxes) :=
  match kd te t, dst with
  | .slice e, .view b off n _ z => if isStr src then none else (te e).bind fun ti => if z = ti.size then
      (slCells bx z src).bind fun p => (bx b).bind fun xs =>
        if off + n * z ≤ xs.length ∧ (p.2.take (min p.1 n * z)).all oneA = true then some (min p.1 n, updB bx b (splice xs off (p.2.take (min p.1 n * z)))) else none
      else none
  | _, _ => none

/-- what an operation that writes comes to: its value (if it has one), and the boxes -/
def write (E : Env) (ρ : Operand → AV) (bx : Boxes) : Op → Option (AV × Boxes)
  | .store t a x => (storeV E.te bx t (ρ a) (ρ x)).map fun b => (.dead, b)
  | .call { callee := .builtin .copy, args, argTypes } => match args.toList, argTypes.toList with
    | [x, y], t :: _ => (copyV E.te bx t (ρ x) (ρ y)).map fun r => (.raw (.int .i64 r.1), r.2)
    | _, _ => none
  | _ => none

def isWrite : Op → Bool
  | .store .. => true
  | .call { callee := .builtin .copy, .. } => true
  | _ => false

def AS.put (σ : AS) (d : Option Nat) (v : AV) : AS :=
  match d with
  | some d => { σ with slots := upd σ.slots d v }
  | none => σ

def AS.grown (σ : AS) (lvl d : Nat) (r : GR) : AS :=
  { slots := upd σ.slots d r.v
    gen := if r.bump then upd σ.gen d (σ.gen d + 1) else σ.gen
    box := match r.cont with | some c => updB σ.box (.own lvl d (σ.gen d + 1)) c | none => σ.box
    used := match r.use with | some i => updI σ.used i | none => σ.used }

/-- is it wanted: its guard, if it has one -/
def wantedV (ops : List Oper) (σ : AS) (o : Oper) : Option Bool :=
  match o.guard with
  | none => some true
  | some (j, want) => match (ops[j]?).bind (·.dst) with
    | some s => match σ.slots s with
      | .raw (.bool b) => some (b == want)
      | .raw _ => some false
      | _ => none
    | none => none

def stepV (E : Env) (lvl N : Nat) (ops : List Oper) (σ : AS) (o : Oper) : Option AS :=
  match wantedV ops σ o with
  | none => none
  | some false => match o.dst with
    | some d => if d < N then some (σ.put o.dst (.raw undef)) else none
    | none => some σ
  | some true =>
    if isWrite o.op then
      match write E (ev E σ.slots) σ.box o.op with
      | some (v, b) => (match o.dst with
         | some d => if d < N then some { σ.put o.dst v with box := b } else none
         | none => some { σ with box := b })
      | none => none
    else
      match o.dst with
      | some d => if d < N then (grow E lvl d (σ.gen d + 1) (ev E σ.slots) σ.box σ.used o.op).map (σ.grown lvl d) else none
      | none => none

def regs (E : Env) (lvl N : Nat) (ops : List Oper) : List Oper → AS → Option AS
  | [], σ => some σ
  | o :: rest, σ => match stepV E lvl N ops σ o with
    | some σ' => regs E lvl N ops rest σ'
    | none => none
end Go.Abs
