/- The abstract machine: values,steps and their soundness. -/
import Derived.Orders
import Derived.Below
import Derived.WalkKit
import Derived.Deep.MidRow
import Derived.WalkLawsBesides
import Derived.Laws.Cover3
import Derived.Laws.Pointers
import Derived.DeepKeys
import Derived.Laws.Slices
import Derived.Laws.CopyRow
import Derived.Laws.MakeOwn
import Derived.Laws.BytesString
import Derived.Laws.IdiomStrings
import Derived.Deep.AppendSrc
import Derived.Deep.DeepAppendWide
import Derived.Laws.AppendOwn
import Derived.Lib.EndianMore
import Derived.Deep.Upon
namespace Go.Abs
set_option linter.unusedSimpArgs false
set_option linter.unusedVariables false
open Go
inductive Bx where
  | own (l s n : Nat)
  deriving DecidableEq
def Bx.lvl : Bx→Nat | .own l _ _=>l
structure Id where
  lvl : Nat
  slot : Nat
  comp : Nat
  gen : Nat
  deriving DecidableEq
inductive Fl where
  | bor | full | own (i : Id) (sz : Nat) | lit (i : Id)
inductive AV where
  | dead
  | raw (v : Value)
  | anyb
  | sl (n : Nat) (xs : List AV) (fl : Fl)
  | ptr (b : Bx) (off : Nat)
  | iptr (xs : List AV)
  | view (b : Bx) (off n c sz : Nat)
  | agg (xs : List AV)
  | tup (xs : List AV)
  | fn (f : FuncId) (caps : List AV)
  | nptr (xs : List AV)
inductive TK where
  | arr (len : Nat) (elem : TypeId)
  | st (fs : List (Nat × TypeId))
  | slice (elem : TypeId)
  | str | int (k : IntKind) | bool
  | ptr (elem : TypeId)
  | other
structure TI where
  kind : TK
  size : Nat
  bytes : Nat
  zero : List Value
abbrev Boxes:=Bx→Option (List AV)
inductive Out where
  | ret (v : AV)
  | pan (v : AV)
structure CR where
  v : Out
  cont : Option (List AV):=none
  wr : List (Bx × List AV):=[]
  use : List Id:=[]
inductive Entry where
  | val (f : List AV→Option AV)
  | gen (f : List AV→Boxes→(Id→Bool)→Option CR)
structure Env where
  te : TypeId→Option TI
  glob : Nat→Option (List AV)
  tbl : FuncId→Option Entry
  mu : Nat→Bool
  dyn : Bool
  gs : List FuncId
structure AS where
  slots : Nat→AV
  gen : Nat→Nat
  box : Boxes
  used : Id→Bool
def upd {β : Type} (f : Nat→β) (i : Nat) (v : β) : Nat→β:=fun j=>if j = i then v else f j
def updB (f : Boxes) (i : Bx) (v : List AV) : Boxes:=fun j=>if j = i then some v else f j
def updI (f : Id→Bool) (i : Id) : Id→Bool:=fun j=>if j = i then true else f j
def applyW (bx : Boxes) : List (Bx × List AV) → Boxes
  | []=>bx
  | p :: l=>applyW (updB bx p.1 p.2) l
def useL (u : Id → Bool) : List Id → Id → Bool
  | []=>u
  | i :: l=>useL (updI u i) l
def ofV : Value → AV
  | .agg cs=>.agg (cs.toList.map .raw)
  | v=>.raw v
def AV.cells : AV → Option (List AV)
  | .dead=>none
  | .agg xs=>some xs
  | .raw (.agg cs)=>some (cs.toList.map .raw)
  | v=>some [v]
def ev (E : Env) (sl : Nat → AV) : Operand → AV
  | .tmp t=>sl t
  | .const v=>ofV v
  | .global g=>match E.glob g with | some xs=>.iptr xs | none=>.dead
  | .func f=>.fn f []
def shiftV (op : BinOp) (k : IntKind) (x y : Int) : Option AV :=
  if y < 0 then none else
  match op with
  | .shl=>some (.raw (.int k (k.wrap (x * 2 ^ (min y.toNat k.bits)))))
  | .shr=>some (.raw (.int k (x.fdiv (2 ^ (min y.toNat k.bits)))))
  | _=>none
def intV (op : BinOp) (k : IntKind) (x y : Int) : Option AV :=
  match op with
  | .add=>some (.raw (.int k (k.wrap (x + y))))
  | .sub=>some (.raw (.int k (k.wrap (x - y))))
  | .mul=>some (.raw (.int k (k.wrap (x * y))))
  | .quo=>if y = 0 then none else some (.raw (.int k (k.wrap (x.tdiv y))))
  | .rem=>if y = 0 then none else some (.raw (.int k (x.tmod y)))
  | .and=>some (.raw (.int k (k.wrap (BitVec.ofInt k.bits x &&& BitVec.ofInt k.bits y).toNat)))
  | .or=>some (.raw (.int k (k.wrap (BitVec.ofInt k.bits x ||| BitVec.ofInt k.bits y).toNat)))
  | .xor=>some (.raw (.int k (k.wrap (BitVec.ofInt k.bits x ^^^ BitVec.ofInt k.bits y).toNat)))
  | .andNot=>some (.raw (.int k (k.wrap (BitVec.ofInt k.bits x &&& ~~~BitVec.ofInt k.bits y).toNat)))
  | .eql=>some (.raw (.bool (x == y)))
  | .neq=>some (.raw (.bool (x != y)))
  | .lss=>some (.raw (.bool (x < y)))
  | .leq=>some (.raw (.bool (x ≤ y)))
  | .gtr=>some (.raw (.bool (x > y)))
  | .geq=>some (.raw (.bool (x ≥ y)))
  | _=>none
def asInts : List AV → Option (List (IntKind × Int))
  | []=>some []
  | .raw (.int k n) :: xs=>(asInts xs).map ((k,n) :: ·)
  | _=>none
def eqNeg (op : BinOp) (b : Bool) : Option AV :=
  match op with
  | .eql=>some (.raw (.bool b))
  | .neq=>some (.raw (.bool !b))
  | _=>none
def kd (te : TypeId→Option TI) (t : TypeId) : TK:=match te t with | some i=>i.kind | none=>.other
def TK.isI64 : TK → Bool
  | .int .i64=>true
  | _=>false
def binV (te : TypeId→Option TI) (op : BinOp) (t : TypeId) (x y : AV) : Option AV :=
  match x,y with
  | .raw (.int k a),.raw (.int k' b) =>
    match op with
    | .shl | .shr=>shiftV op k a b
    | _=>if k = k' then intV op k a b else none
  | .raw (.bool a),.raw (.bool b) =>
    match kd te t with
    | .bool=>eqNeg op (a == b)
    | _=>none
  | .raw (.string a),.raw (.string b) =>
    match op with
    | .eql=>some (.raw (.bool (a.data.toList == b.data.toList)))
    | .neq=>some (.raw (.bool !(a.data.toList == b.data.toList)))
    | .add=>if a.size + b.size ≤ 9223372036854775807 then some (.raw (.string (a ++ b))) else none
    | _=>none
  | .raw (.slice none 0 0),.raw (.slice none 0 0) =>
    match kd te t with
    | .slice _=>eqNeg op true
    | _=>none
  | .sl n _ _,.raw (.slice none 0 0) =>
    match kd te t,op with
    | .slice _,.eql=>some (if n = 0 then .anyb else .raw (.bool false))
    | .slice _,.neq=>some (if n = 0 then .anyb else .raw (.bool true))
    | _,_=>none
  | .view _ _ _ _ _,.raw (.slice none 0 0) =>
    match kd te t with
    | .slice _=>eqNeg op false
    | _=>none
  | .ptr _ _,.raw (.pointer none) =>
    match kd te t with
    | .ptr _=>eqNeg op false
    | _=>none
  | .iptr _,.raw (.pointer none) =>
    match kd te t with
    | .ptr _=>eqNeg op false
    | _=>none
  | .raw (.pointer none),.raw (.pointer none) =>
    match kd te t with
    | .ptr _=>eqNeg op true
    | _=>none
  | .agg xs,.agg ys =>
    match kd te t,asInts xs,asInts ys with
    | .arr len e,some us,some vs =>
      match te e with
      | some ⟨.int k,1,_,_⟩=>if us.length = len ∧ vs.length = len ∧ us.all (·.1 == k) ∧ vs.all (·.1 == k) then eqNeg op (us.map (·.2) == vs.map (·.2)) else none
      | _=>none
    | .st fs,some us,some vs=>if fs.map (·.1) = List.range us.length ∧ vs.length = us.length ∧ us.all (·.1 == .i64) ∧ vs.all (·.1 == .i64) ∧ fs.all (fun p=>TK.isI64 (kd te p.2)) then eqNeg op (us.map (·.2) == vs.map (·.2)) else none
    | _,_,_=>none
  | _,_=>none
def unV (op : UnOp) (x : AV) : Option AV :=
  match op,x with
  | .neg,.raw (.int k n)=>some (.raw (.int k (k.wrap (0 - n))))
  | .xor,.raw (.int k n)=>some (.raw (.int k (k.wrap (BitVec.ofInt k.bits (if k.signed then -1 else k.max) ^^^ BitVec.ofInt k.bits n).toNat)))
  | .not,.raw (.bool b)=>some (.raw (.bool !b))
  | .not,.anyb=>some .anyb
  | _,_=>none
def asBytes : List AV → Option (List UInt8)
  | []=>some []
  | .raw (.int .u8 n) :: xs=>(asBytes xs).map (UInt8.ofNat n.toNat :: ·)
  | _=>none
def slCells (bx : Boxes) (sz : Nat) : AV → Option (Nat × List AV)
  | .raw (.slice none 0 0)=>some (0,[])
  | .sl n xs _=>if xs.length = n * sz then some (n,xs) else none
  | .view b off n _ z=>(bx b).bind fun xs=>if z = sz ∧ off + n * sz ≤ xs.length then some (n,(xs.drop off).take (n * sz)) else none
  | .raw (.string s)=>if sz = 1 then some (s.size,s.data.toList.map fun b=>.raw (.int .u8 b.toNat)) else none
  | _=>none
def bound (m : Nat) : AV → Option Nat
  | .raw (.int _ i)=>if 0 ≤ i ∧ i ≤ m then some i.toNat else none
  | _=>none
def boundOr (m d : Nat) : Option AV → Option Nat
  | none=>some d
  | some v=>bound m v
def place (te : TypeId→Option TI) (k : TK) (i : Nat) : Option (Nat × Nat) :=
  match k with
  | .st fs=>(fs[i]?).bind fun f=>(te f.2).map fun ti=>(f.1,ti.size)
  | .arr _ e=>(te e).map fun ti=>(i * ti.size,ti.size)
  | .slice e=>(te e).map fun ti=>(i * ti.size,ti.size)
  | _=>none
def oneA : AV → Bool
  | .dead | .agg _ | .tup _ | .nptr _=>false
  | .raw (.agg _) | .raw (.tuple _)=>false
  | _=>true
def splice (xs : List AV) (off : Nat) (ys : List AV) : List AV:=xs.take off ++ ys ++ xs.drop (off + ys.length)
def fillV (te : TypeId → Option TI) (k : TK) : List AV → List (Nat × AV) → Option (List AV)
  | cs,[]=>some cs
  | cs,(i,v) :: rest =>
    match place te k i with
    | none=>none
    | some (off,size) => match v.cells with
      | some ys=>if ys.length = size ∧ off + size ≤ cs.length then fillV te k (splice cs off ys) rest else none
      | none=>none
def rep {α : Type} : Nat → List α → List α
  | 0,_=>[]
  | n + 1,xs=>xs ++ rep n xs
def isAggK : TK → Bool
  | .arr _ _ | .st _=>true
  | _=>false
def strip : AV → AV
  | .sl n xs _=>.sl n xs .bor
  | .tup _=>.dead
  | v=>v
def partB (te : TypeId→Option TI) (t : TypeId) (cs : List AV) (off : Nat) : Option AV :=
  (te t).bind fun ti =>
    if isAggK ti.kind then (if off + ti.size ≤ cs.length then some (.agg ((cs.drop off).take ti.size)) else none)
    else (cs[off]?).bind fun v => match v with
      | .tup _=>none
      | v=>some v
def partV (te : TypeId→Option TI) (t : TypeId) (cs : List AV) (off : Nat) : Option AV :=
  (te t).bind fun ti =>
    if isAggK ti.kind then (if off + ti.size ≤ cs.length then some (.agg ((cs.drop off).take ti.size)) else none)
    else (cs[off]?).map strip
def flatL : List AV → Option (List AV)
  | []=>some []
  | .raw v :: xs=>(flatL xs).map (.raw v :: ·)
  | _=>none
mutual
def pureA : AV → Bool
  | .dead=>true
  | .raw _=>true
  | .anyb=>true
  | .sl _ xs _=>pureL xs
  | .agg xs=>pureL xs
  | .tup xs=>pureL xs
  | .fn _ cs=>pureL cs
  | .iptr xs=>pureL xs
  | .ptr _ _=>false
  | .view ..=>false
  | .nptr _=>false
def pureL : List AV → Bool
  | []=>true
  | x :: xs=>pureA x && pureL xs
end
mutual
def snap (bx : Boxes) : AV → Option AV
  | .dead=>some .dead
  | .raw v=>some (.raw v)
  | .anyb=>some .anyb
  | .sl n xs _=>(snapL bx xs).map fun ys=>.sl n ys .bor
  | .view b off n _ z=>(bx b).bind fun xs=>if off + n * z ≤ xs.length then (flatL ((xs.drop off).take (n * z))).map fun ys=>.sl n ys .bor else none
  | .agg xs=>(snapL bx xs).map .agg
  | .tup xs=>(snapL bx xs).map .tup
  | .fn f caps=>if caps.isEmpty then some (.fn f []) else none
  | .ptr b off=>(bx b).bind fun xs=>if pureL (xs.drop off) = true then some (.iptr ((xs.drop off).map strip)) else none
  | .iptr _=>none
  | .nptr _=>none
def snapL (bx : Boxes) : List AV → Option (List AV)
  | []=>some []
  | x :: xs=>(snap bx x).bind fun y=>(snapL bx xs).map (y :: ·)
end
end Go.Abs
namespace Go.Abs
set_option linter.unusedSimpArgs false
set_option linter.unusedVariables false
open Go
structure GR where
  v : AV
  bump : Bool:=false
  cont : Option (List AV):=none
  use : Option Id:=none
  wr : List (Bx × List AV):=[]
  uses : List Id:=[]
def freshSl (E : Env) (lvl d g n : Nat) (sz : Nat) (xs : List AV) : GR :=
  if E.mu d then (if n = 0 then { v:=.sl n xs .full } else { v:=.view (.own lvl d g) 0 n n sz,bump:=true,cont:=some (xs.map strip) }) else if E.mu (d + 65536) then { v:=.sl n xs (.lit ⟨lvl,d,0,g⟩),bump:=true } else { v:=.sl n xs (.own ⟨lvl,d,0,g⟩ sz),bump:=true }
def loadV (te : TypeId → Option TI) (bx : Boxes) (t : TypeId) : AV → Option AV
  | .ptr b off=>(bx b).bind fun xs=>partB te t xs off
  | .iptr xs=>partV te t xs 0
  | _=>none
def fieldAddrV (te : TypeId→Option TI) (s : TypeId) (f : Nat) (x : AV) : Option AV :=
  match kd te s,x with
  | .st fs,.ptr b off=>(fs[f]?).bind fun p=>(te p.2).bind fun ti=>if ti.size = 0 then none else some (.ptr b (off + p.1))
  | .st fs,.iptr xs=>(fs[f]?).bind fun p=>(te p.2).bind fun ti=>if ti.size = 0 then none else some (.iptr (xs.drop p.1))
  | _,_=>none
def indexAddrV (te : TypeId→Option TI) (t : TypeId) (x i : AV) : Option AV :=
  match i with
  | .raw (.int _ i) =>
    match kd te t,x with
    | .arr len e,.ptr b off=>(te e).bind fun ti=>if 0 ≤ i ∧ i < len then some (.ptr b (off + i.toNat * ti.size)) else none
    | .arr len e,.iptr xs=>(te e).bind fun ti=>if 0 ≤ i ∧ i < len then some (.iptr (xs.drop (i.toNat * ti.size))) else none
    | .slice e,.sl n xs _=>(te e).bind fun ti=>if 0 ≤ i ∧ i < n then some (.iptr (xs.drop (i.toNat * ti.size))) else none
    | .slice e,.view b off n _ z=>(te e).bind fun ti=>if 0 ≤ i ∧ i < n ∧ z = ti.size then some (.ptr b (off + i.toNat * ti.size)) else none
    | _,_=>none
  | _=>none
def indexV (te : TypeId→Option TI) (t : TypeId) (x i : AV) : Option AV :=
  match i with
  | .raw (.int _ i) =>
    match kd te t,x with
    | .arr len e,.agg cs=>(te e).bind fun ti=>if 0 ≤ i ∧ i < len then partV te e cs (i.toNat * ti.size) else none
    | .str,.raw (.string s)=>if 0 ≤ i then (s.data.toList[i.toNat]?).map fun b=>.raw (.int .u8 b.toNat) else none
    | _,_=>none
  | _=>none
def fieldV (te : TypeId→Option TI) (t : TypeId) (f : Nat) (x : AV) : Option AV :=
  match kd te t,x with
  | .st fs,.agg cs=>(fs[f]?).bind fun p=>partV te p.2 cs p.1
  | _,_=>none
def bounds (len cap : Nat) (lo hi mx : Option AV) : Option (Nat × Nat × Nat) :=
  (match mx with | none=>some cap | some v=>bound cap v).bind fun m =>
  (match hi,mx with | some v,_=>bound m v | none,none=>some len | none,some _=>none).bind fun h =>
  (match lo with | some v=>bound h v | none=>some 0).map fun l=>(l,h,m)
def cutFl (sz n l h m : Nat) (full : Bool) : Fl → Fl
  | .own i z=>if full then (if m = h then .full else .bor) else if h = n ∧ z = sz then .own i z else .bor
  | .full=>if full then (if m = h then .full else .bor) else if h = n then .full else .bor
  | .bor=>if full then (if m = h then .full else .bor) else .bor
  | .lit _=>if full then (if m = h then .full else .bor) else .bor
def sliceV (te : TypeId→Option TI) (t : TypeId) (x : AV) (lo hi mx : Option AV) : Option AV :=
  match kd te t,x with
  | .str,.raw (.string s)=>if mx.isSome then none else (bounds s.size s.size lo hi none).map fun r=>.raw (.string (s.extract r.1 r.2.1))
  | .slice e,.raw (.slice none 0 0)=>(te e).bind fun _=>(bounds 0 0 lo hi mx).map fun _=>.raw (.slice none 0 0)
  | .slice e,.sl n xs fl=>(te e).bind fun ti=>(bounds n n lo hi mx).map fun r =>
      .sl (r.2.1 - r.1) ((xs.drop (r.1 * ti.size)).take ((r.2.1 - r.1) * ti.size)) (cutFl ti.size n r.1 r.2.1 r.2.2 mx.isSome fl)
  | .slice e,.view b off n c z=>(te e).bind fun ti=>if z = ti.size then (bounds n c lo hi mx).map fun r =>
      if r.2.2 = r.1 then .view b off 0 0 z else .view b (off + r.1 * z) (r.2.1 - r.1) (r.2.2 - r.1) z else none
  | .arr len e,.ptr b off=>(te e).bind fun ti=>(bounds len len lo hi mx).map fun r =>
      if r.2.2 = r.1 then .view b off 0 0 ti.size else .view b (off + r.1 * ti.size) (r.2.1 - r.1) (r.2.2 - r.1) ti.size
  | _,_=>none
def convV (E : Env) (lvl d g : Nat) (bx : Boxes) (src dst : TypeId) (x : AV) : Option GR :=
  match kd E.te src,kd E.te dst,x with
  | .int _,.int k,.raw (.int _ n)=>some { v:=.raw (.int k (k.wrap n)) }
  | .str,.str,.raw (.string s)=>some { v:=.raw (.string s) }
  | .str,.slice e,.raw (.string s) =>
    match kd E.te e with
    | .int .u8=>if E.mu d then none else some { v:=.sl s.size (s.data.toList.map fun b=>.raw (.int .u8 b.toNat)) (.own ⟨lvl,d,0,g⟩ 1),bump:=true }
    | _=>none
  | .slice e,.str,x =>
    match kd E.te e with
    | .int .u8 => match x with
      | .raw (.string _)=>none
      | x=>(slCells bx 1 x).bind fun p=>(asBytes p.2).map fun bs=>{ v:=.raw (.string ⟨bs.toArray⟩) }
    | _=>none
  | _,_,_=>none
def isSelf (te : TypeId→Option TI) (s t : TypeId) : Bool :=
  match kd te s,kd te t with
  | .slice _,.slice _=>true
  | _,_=>false
def convSelf (te : TypeId → Option TI) (used : Id → Bool) (s t : TypeId) : AV → Option GR
  | .sl n xs (.own i z) =>
    match kd te t with
    | .slice e => match kd te e with
      | .int .u8=>if s = t ∧ used i = false ∧ n ≠ 0 then some { v:=.sl n xs .bor,use:=some i } else none
      | _=>none
    | _=>none
  | .sl n xs (.lit i) =>
    match kd te t with
    | .slice e => match kd te e with
      | .int .u8=>if s = t ∧ used i = false ∧ n ≠ 0 then some { v:=.sl n xs .full,use:=some i } else none
      | _=>none
    | _=>none
  | _=>none
def zerosOf (ti : TI) (n : Nat) : List AV:=rep n (ti.zero.map .raw)
def room (sz m : Nat) (used : Id → Bool) : AV → Option (Option Id)
  | .raw (.slice none 0 0)=>some none
  | .sl _ _ .full=>if m = 0 then none else some none
  | .sl _ _ (.own i z)=>if used i = false ∧ z = sz then some (some i) else none
  | _=>none
def srcV (te : TypeId→Option TI) (bx : Boxes) (ti : TI) (t1 : TypeId) (x : AV) : Option (Nat × List AV) :=
  match kd te t1,x with
  | .int _,.raw (.int _ m)=>if 0 ≤ m ∧ m ≤ 140737488355328 then some (m.toNat,zerosOf ti m.toNat) else none
  | .slice _,x=>slCells bx ti.size x
  | .str,x=>slCells bx ti.size x
  | _,_=>none
def fullNil : AV → Nat → Bool
  | .sl _ _ .full,0=>true
  | _,_=>false
def appendV (E : Env) (lvl d g : Nat) (bx : Boxes) (used : Id→Bool) (ts : List TypeId) (s x : AV) : Option GR :=
  match ts with
  | [t0,t1] =>
    match kd E.te t0 with
    | .slice e =>
      (E.te e).bind fun ti =>
      (slCells bx ti.size s).bind fun p =>
      (srcV E.te bx ti t1 x).bind fun q =>
      if fullNil s q.1 = true then some { v:=s } else
      (room ti.size q.1 used s).bind fun u =>
      if (p.1 + q.1 + (p.1 + q.1) / 4 + 192) * ti.bytes ≤ 281474976710656 ∧ p.1 + q.1 ≤ 225179981368371 ∧ q.2.all oneA = true then
        (if E.mu d = false then some { v := .sl (p.1 + q.1) (p.2 ++ q.2) (.own ⟨lvl,d,0,g⟩ ti.size),bump := true,use := u }
         else if u = none ∧ q.1 ≠ 0 then some { v:=.view (.own lvl d g) 0 (p.1 + q.1) (p.1 + q.1) ti.size,bump:=true,cont:=some ((p.2 ++ q.2).map strip) }
         else none) else none
    | _=>none
  | _=>none
def lenV (te : TypeId→Option TI) (t : TypeId) (x : AV) : Option AV :=
  match kd te t,x with
  | .str,.raw (.string s)=>some (.raw (.int .i64 s.size))
  | .arr n _,_=>some (.raw (.int .i64 n))
  | .slice _,.raw (.slice none 0 0)=>some (.raw (.int .i64 0))
  | .slice _,.sl n _ _=>some (.raw (.int .i64 n))
  | .slice _,.view _ _ n _ _=>some (.raw (.int .i64 n))
  | _,_=>none
def min2V : AV → AV → Option AV
  | .raw (.int k x),.raw (.int _ y)=>some (.raw (.int k (if y < x then y else x)))
  | _,_=>none
def makeV (E : Env) (lvl d g : Nat) (t : TypeId) (l c : AV) : Option GR :=
  match kd E.te t,l,c with
  | .slice e,.raw (.int _ l),.raw (.int _ c) =>
    (E.te e).bind fun ti =>
      if 0 ≤ l ∧ l ≤ c ∧ c * ti.bytes ≤ 281474976710656 ∧ c ≤ 281474976710656 then
        (if E.mu d then some { v := .view (.own lvl d g) 0 l.toNat c.toNat ti.size,bump := true,cont := some (zerosOf ti c.toNat) }
         else some { v:=.sl l.toNat (zerosOf ti l.toNat) (.own ⟨lvl,d,0,g⟩ ti.size),bump:=true })
      else none
  | _,_,_=>none
def renB (lvl d g : Nat) : Bx → Bx
  | .own l s n=>if n = 0 then .own lvl d g else .own l s n
def renF (lvl d g : Nat) : Fl → Fl
  | .own i z=>if i.gen = 0 then .own ⟨lvl,d,i.comp,g⟩ z else .own i z
  | .lit _=>.bor
  | fl=>fl
def ren1 (lvl d g : Nat) : AV → AV
  | .sl n xs fl=>.sl n xs (renF lvl d g fl)
  | .ptr b o=>.ptr (renB lvl d g b) o
  | .view b o n c z=>.view (renB lvl d g b) o n c z
  | v=>v
def takeR (lvl d g : Nat) : AV → AV
  | .tup vs=>.tup (vs.map (ren1 lvl d g))
  | v=>ren1 lvl d g v
def CR.gr (r : CR) (lvl d g : Nat) (v : AV) : GR:={ v:=takeR lvl d g v,bump:=true,cont:=r.cont.map (·.map (ren1 lvl d g)),wr:=r.wr.map fun p=>(p.1,p.2.map (ren1 lvl d g)),uses:=r.use }
mutual
def hasView : AV → Bool
  | .view ..=>true
  | .ptr ..=>true
  | .sl _ xs _=>hasViewL xs
  | .agg xs=>hasViewL xs
  | .tup xs=>hasViewL xs
  | _=>false
def hasViewL : List AV → Bool
  | []=>false
  | x :: xs=>hasView x || hasViewL xs
end
def freshC : AV → Bool
  | .raw _=>true
  | .anyb=>true
  | .dead=>true
  | .sl _ xs (.own _ _)=>(flatL xs).isSome
  | .agg xs=>(flatL xs).isSome
  | _=>false
def freshR : AV → Bool
  | .tup vs=>vs.all freshC
  | v=>freshC v
def snapAll (bx : Boxes) : List AV → Option (List AV)
  | []=>some []
  | x :: xs=>(snap bx x).bind fun y=>(snapAll bx xs).map (y :: ·)
def AV.laid : AV → Option (List AV)
  | .dead=>none
  | .agg xs=>some (xs.map strip)
  | .raw (.agg cs)=>some (cs.toList.map .raw)
  | .tup _=>none
  | .sl n xs (.own i z)=>if i.gen = 0 then some [.sl n xs .bor] else some [.sl n xs (.own i z)]
  | .sl n xs (.lit _)=>some [.sl n xs .bor]
  | v=>some [v]
def isGen (E : Env) : Op → Bool
  | .call { callee:=.value (.func f),.. }=>E.gs.contains f
  | .call { callee:=.value _,.. }=>E.dyn
  | _=>false
def arrOK (te : TypeId → Option TI) : TK → Bool
  | .arr _ e=>(te e).isSome
  | _=>true
def ipS (E : Env) : Operand → Bool
  | .tmp s=>E.mu (s + 131072)
  | _=>false
def grow (E : Env) (lvl d g : Nat) (ρ : Operand → AV) (bx : Boxes) (used : Id → Bool) : Op → Option GR
  | .move x | .assign x=>some { v:=ρ x }
  | .pick c a b => match ρ c with
    | .raw (.bool t)=>some { v:=if t then ρ a else ρ b }
    | _=>none
  | .alloc t=>(E.te t).map fun ti=>{ v:=.ptr (.own lvl d g) 0,bump:=true,cont:=some (ti.zero.map .raw) }
  | .box t x=>(E.te t).bind fun ti=>(ρ x).laid.bind fun cs=>if cs.length = ti.size then (if E.mu (d + 262144) = true then some { v:=.iptr cs } else some { v:=.ptr (.own lvl d g) 0,bump:=true,cont:=some cs }) else none
  | .build t ps=>(E.te t).bind fun ti=>if isAggK ti.kind = true ∧ arrOK E.te ti.kind = true then (fillV E.te ti.kind (ti.zero.map .raw) (ps.toList.map fun p=>(p.1,ρ p.2))).map fun cs=>{ v:=.agg cs } else none
  | .buildSlice t n ps => match kd E.te t with
    | .slice e=>(E.te e).bind fun ti=>if n * ti.size ≤ 16777216 then (fillV E.te (.slice e) (zerosOf ti n) (ps.toList.map fun p=>(p.1,ρ p.2))).map fun cs=>freshSl E lvl d g n ti.size cs else none
    | _=>none
  | .load t a=>(loadV E.te (if ipS E a = true then fun _=>none else bx) t (ρ a)).map fun v=>{ v }
  | .nilCheck x => match ρ x with
    | .ptr b o=>some { v:=.ptr b o }
    | .iptr xs=>some { v:=.iptr xs }
    | .fn f cs=>some { v:=.fn f cs }
    | _=>none
  | .binOp op t x y _=>(binV E.te op t (ρ x) (ρ y)).map fun v=>{ v }
  | .unOp op _ x=>(unV op (ρ x)).map fun v=>{ v }
  | .convert s t x=>if isSelf E.te s t then convSelf E.te used s t (ρ x) else convV E lvl d g bx s t (ρ x)
  | .sliceToArrayPointer t x => match kd E.te t,ρ x with
    | .arr n _,.sl m xs _=>if n ≤ m ∧ 0 < n then some { v:=.iptr xs } else none
    | .arr n _,.view b off m _ _=>if n ≤ m ∧ 0 < n then some { v:=.ptr b off } else none
    | _,_=>none
  | .makeFunc fn first caps => match fn with
    | .func f=>if first.size = 0 then some { v:=.fn f (caps.toList.map ρ) } else none
    | _=>none
  | .makeSlice t l c=>makeV E lvl d g t (ρ l) (ρ c)
  | .slice t x lo hi mx=>(sliceV E.te t (ρ x) (lo.map ρ) (hi.map ρ) (mx.map ρ)).map fun v=>{ v }
  | .fieldAddr s x f=>(fieldAddrV E.te s f (ρ x)).map fun v=>{ v }
  | .field t x f=>(fieldV E.te t f (ρ x)).map fun v=>{ v }
  | .indexAddr t x i=>(indexAddrV E.te t (ρ x) (ρ i)).map fun v=>{ v }
  | .index t x i=>(indexV E.te t (ρ x) (ρ i)).map fun v=>{ v }
  | .extract x i => match ρ x with
    | .tup vs => match vs[i]? with
      | some (.tup _)=>none
      | some v=>some { v }
      | none=>none
    | _=>none
  | .call { callee := .builtin .append,args,argTypes } => match args.toList with
    | [s,x]=>appendV E lvl d g bx used argTypes.toList (ρ s) (ρ x)
    | _=>none
  | .call { callee := .builtin .len,args,argTypes } => match args.toList,argTypes.toList with
    | [x],t :: _=>(lenV E.te t (ρ x)).map fun v=>{ v }
    | _,_=>none
  | .call { callee := .builtin .min,args,argTypes := _ } => match args.toList with
    | [x,y]=>(min2V (ρ x) (ρ y)).map fun v=>{ v }
    | _=>none
  | .call { callee := .value f,args,argTypes := ts } => match ρ f with
    | .fn f' caps => match E.tbl f' with
      | some (.val pf)=>(snapAll bx (args.toList.map ρ ++ caps)).bind fun as=>(pf as).bind fun r=>if E.mu d = false ∧ (hasViewL (args.toList.map ρ ++ caps) = false ∨ freshR r = true) then some { v:=takeR lvl d g r,bump:=true } else none
      | some (.gen gf) => if isGen E (.call { callee := .value f,args := args,argTypes := ts }) = true then (gf (args.toList.map ρ ++ caps.map strip) bx used).bind fun r => match r.v with
        | .ret v=>some (r.gr lvl d g v)
        | .pan _=>none
        else none
      | _=>none
    | _=>none
  | _=>none
def storeV (te : TypeId → Option TI) (bx : Boxes) (t : TypeId) : AV → AV → Option Boxes
  | .ptr b off,v=>(te t).bind fun ti=>(bx b).bind fun xs=>v.laid.bind fun ys =>
      if ys.length = ti.size ∧ off + ti.size ≤ xs.length ∧ ys.all oneA = true then some (updB bx b (splice xs off ys)) else none
  | _,_=>none
def isStr : AV → Bool
  | .raw (.string _)=>true
  | _=>false
def copyV (te : TypeId→Option TI) (bx : Boxes) (t : TypeId) (dst src : AV) : Option (Nat × Boxes) :=
  match kd te t,dst with
  | .slice e,.view b off n _ z => if isStr src then none else (te e).bind fun ti => if z = ti.size then
      (slCells bx z src).bind fun p=>(bx b).bind fun xs =>
        if off + n * z ≤ xs.length ∧ (p.2.take (min p.1 n * z)).all oneA = true then some (min p.1 n,updB bx b (splice xs off ((p.2.take (min p.1 n * z)).map strip))) else none
      else none
  | _,_=>none
def write (E : Env) (ρ : Operand → AV) (bx : Boxes) : Op → Option (AV × Boxes)
  | .store t a x=>(storeV E.te bx t (ρ a) (ρ x)).map fun b=>(.dead,b)
  | .call { callee := .builtin .copy,args,argTypes } => match args.toList,argTypes.toList with
    | [x,y],t :: _=>(copyV E.te bx t (ρ x) (ρ y)).map fun r=>(.raw (.int .i64 r.1),r.2)
    | _,_=>none
  | _=>none
def isWrite : Op → Bool
  | .store ..=>true
  | .call { callee:=.builtin .copy,.. }=>true
  | _=>false
def AS.put (σ : AS) (d : Option Nat) (v : AV) : AS :=
  match d with
  | some d=>{ σ with slots:=upd σ.slots d v }
  | none=>σ
def AS.grown (σ : AS) (lvl d : Nat) (r : GR) : AS :=
  { slots := upd σ.slots d r.v
    gen:=if r.bump then upd σ.gen d (σ.gen d + 1) else σ.gen
    box:=applyW (match r.cont with | some c=>updB σ.box (.own lvl d (σ.gen d + 1)) c | none=>σ.box) r.wr
    used:=useL (match r.use with | some i=>updI σ.used i | none=>σ.used) r.uses }
def AS.mute (σ : AS) (lvl d : Nat) (r : GR) : AS:={ σ.grown lvl d r with slots:=σ.slots }
def wantedV (ops : List Oper) (σ : AS) (o : Oper) : Option Bool :=
  match o.guard with
  | none=>some true
  | some (j,want) => match (ops[j]?).bind (·.dst) with
    | some s => match σ.slots s with
      | .raw (.bool b)=>some (b == want)
      | .raw _=>some false
      | _=>none
    | none=>none
def stepV (E : Env) (lvl N : Nat) (ops : List Oper) (σ : AS) (o : Oper) : Option AS :=
  match wantedV ops σ o with
  | none=>none
  | some false => match o.dst with
    | some d=>if d < N then some (σ.put o.dst (.raw undef)) else none
    | none=>some σ
  | some true =>
    if isWrite o.op then
      match write E (ev E σ.slots) σ.box o.op with
      | some (v,b) => (match o.dst with
         | some d=>if d < N then some { σ.put o.dst v with box:=b } else none
         | none=>some { σ with box:=b })
      | none=>none
    else
      match o.dst with
      | some d=>if d < N then (grow E lvl d (σ.gen d + 1) (ev E σ.slots) σ.box σ.used o.op).map (σ.grown lvl d) else none
      | none=>if isGen E o.op = true then (grow E lvl N (σ.gen N + 1) (ev E σ.slots) σ.box σ.used o.op).map (σ.mute lvl N) else none
def regs (E : Env) (lvl N : Nat) (ops : List Oper) : List Oper → AS → Option AS
  | [],σ=>some σ
  | o :: rest,σ => match stepV E lvl N ops σ o with
    | some σ'=>regs E lvl N ops rest σ'
    | none=>none
end Go.Abs
namespace Go.Abs
set_option linter.unusedSimpArgs false
set_option linter.unusedVariables false
open Go
structure Ghost where
  L : Nat
  K : Id→Prop
  μ : Bx→Option Nat
  G : Nat→Nat→Prop
  T : Id→Option (Nat × Nat × Nat)
  U : Nat→Nat
  D : Id→Bool
def made (g : Ghost) (i : Id) : Prop:=(i.gen = 0 ∧ i.lvl ≤ g.L) ∨ g.K i ∨ (i.lvl = g.L ∧ i.gen ≤ g.U i.slot)
def at_ (w : World) (k o : Nat) : Option Value:=w.cell? ⟨k,o,none⟩
def Read (w : World) (G : Nat→Nat→Prop) (k o : Nat) (us : List Value) : Prop :=
  ∀ j,j < us.length→at_ w k (o + j) = us[j]? ∧ G k (o + j)
mutual
def RV (μ : Bx → Option Nat) (G : Nat → Nat → Prop) (w : World) : AV → Value → Prop
  | .dead,_=>True
  | .raw v,u=>u = v
  | .anyb,u=>∃ b,u = .bool b
  | .sl n xs _,u => ((∃ A,u = .slice A 0 0) ∧ n = 0 ∧ xs = []) ∨
      ∃ k o c us,u = .slice (some ⟨k,o,none⟩) n c ∧ n ≤ c ∧ RVs μ G w xs us ∧ Read w G k o us
  | .ptr b off,u=>∃ k,μ b = some k ∧ u = .pointer (some ⟨k,off,none⟩)
  | .iptr xs,u=>∃ k o us,u = .pointer (some ⟨k,o,none⟩) ∧ RVs μ G w xs us ∧ Read w G k o us
  | .view b off n c _,u=>∃ k o c',μ b = some k ∧ u = .slice (some ⟨k,o,none⟩) n c' ∧ c ≤ c' ∧ n ≤ c ∧ (o = off ∨ c = 0)
  | .agg xs,u=>∃ us,u = .agg us.toArray ∧ RVs μ G w xs us
  | .tup xs,u=>∃ us,u = .tuple us.toArray ∧ RVs μ G w xs us
  | .fn f cs,u=>∃ us,u = .func (.func f) #[] us.toArray ∧ RVs μ G w cs us
  | .nptr _,_=>False
def RVs (μ : Bx → Option Nat) (G : Nat → Nat → Prop) (w : World) : List AV → List Value → Prop
  | [],us=>us = []
  | x :: xs,us=>∃ u us',us = u :: us' ∧ RV μ G w x u ∧ RVs μ G w xs us'
end
def FlOK (g : Ghost) (fl : Fl) (m : Nat) (u : Value) : Prop :=
  match fl,u with
  | .bor,_=>True
  | .full,.slice _ n c=>c = n
  | .own i sz,.slice a n c=>made g i ∧ (g.D i = true ∨ (a = none ∧ n = 0 ∧ c = 0) ∨ ∃ k o lo hi,a = some ⟨k,o,none⟩ ∧ m = n * sz ∧ g.T i = some (k,lo,hi) ∧ (c = n ∨ (lo = o + m ∧ hi = o + c * sz)))
  | .lit i,.slice a n c=>made g i ∧ c = n ∧ (g.D i = true ∨ ∃ k o lo,a = some ⟨k,o,none⟩ ∧ g.T i = some (k,lo,lo))
  | _,_=>False
def Top (g : Ghost) : AV → Value → Prop
  | .sl _ xs fl,u=>FlOK g fl xs.length u
  | .tup vs,u=>∃ us,u = .tuple us ∧ ∀ (j n : Nat) (xs : List AV) (fl : Fl) (v : Value),vs[j]? = some (.sl n xs fl)→us[j]? = some v→FlOK g fl xs.length v
  | _,_=>True
structure Ent where
  lvl : Nat
  N : Nat
  w0 : World
  μ0 : Bx→Option Nat
  G0 : Nat→Nat→Prop
  T0 : Id→Option (Nat × Nat × Nat)
  D0 : Id→Bool
  K0 : Id→Prop
  df : List Deferred:=[]
  kmu : Bx→Option Nat:=fun _=>none
def Ent.may (N : Ent) (i : Nat) : Prop:=(∃ b,N.μ0 b = some i) ∨ ∃ j lo hi,N.T0 j = some (i,lo,hi)
structure Chg (w w' : World) (may : Nat → Prop) : Prop where
  os : w'.os = w.os
  tape : w'.tape = w.tape
  output : w'.output = w.output
  size : w.heap.size ≤ w'.heap.size
  block : ∀ i,i < w.heap.size→¬ may i→w'.heap[i]? = w.heap[i]?
def Holds (μ : Bx→Option Nat) (G : Nat→Nat→Prop) (w : World) (k : Nat) (xs : List AV) : Prop :=
  ∃ cs el us,w.heap[k]? = some (.cells cs el (0,0)) ∧ us.length ≤ cs.size ∧ (∀ j,j < us.length→cs[j]? = us[j]?) ∧ RVs μ G w xs us
def CellsOK (xs : List AV) : Prop:=∀ x ∈ xs,(∀ n ys i z,x = .sl n ys (.own i z)→i.gen ≠ 0) ∧ ∀ vs,x ≠ .tup vs
structure Valid (N : Ent) (g : Ghost) (box : Boxes) (w : World) : Prop where
  lev : g.L = N.lvl
  kn : g.K = N.K0
  klow : ∀ i,N.K0 i→i.lvl < N.lvl
  chg : Chg N.w0 w N.may
  sub : ∀ k o,N.G0 k o→g.G k o
  keep : ∀ k o,N.G0 k o→at_ w k o = at_ N.w0 k o
  old : ∀ k o,g.G k o→k < N.w0.heap.size→N.G0 k o ∨ ∃ i lo hi,N.T0 i = some (k,lo,hi) ∧ lo ≤ o ∧ o < hi
  cell : ∀ k o,g.G k o→(at_ w k o).isSome
  gmu : ∀ k o b,g.G k o→g.μ b ≠ some k
  ext : ∀ b k,N.μ0 b = some k→g.μ b = some k
  kext : ∀ b k,N.kmu b = some k→g.μ b = some k
  lv : ∀ b k,g.μ b = some k→N.μ0 b = some k ∨ (b.lvl = N.lvl ∧ N.w0.heap.size ≤ k)
  low : ∀ b k,N.μ0 b = some k→b.lvl < N.lvl ∧ k < N.w0.heap.size
  nz : ∀ l s,g.μ (.own l s 0) = none
  fresh : ∀ s n k,g.μ (.own N.lvl s n) = some k→n ≤ g.U s
  inj : ∀ b b' k,g.μ b = some k→g.μ b' = some k→b = b'
  dom : ∀ b,(box b).isSome = (g.μ b).isSome
  cont : ∀ b k xs,g.μ b = some k→box b = some xs→Holds g.μ g.G w k xs
  cok : ∀ b xs,box b = some xs→CellsOK xs
  ctop : ∀ b k xs,g.μ b = some k→box b = some xs→∀ (j n : Nat) (ys : List AV) (fl : Fl) (u : Value),xs[j]? = some (.sl n ys fl)→at_ w k j = some u→FlOK g fl ys.length u
  tail : ∀ i k lo hi,g.T i = some (k,lo,hi) → (N.w0.heap.size ≤ k ∨ ∃ j lo' hi',N.T0 j = some (k,lo',hi') ∧ lo' ≤ lo ∧ hi ≤ hi') ∧ k < w.heap.size ∧ made g i ∧ g.D i = false ∧
    lo ≤ hi ∧ (∀ o,lo ≤ o→o < hi→(at_ w k o).isSome ∧ w.frozen? ⟨k,o,none⟩ = false ∧ ¬ g.G k o) ∧ (∀ b,g.μ b ≠ some k)
  tnew : ∀ i r,g.T i = some r→i.lvl = N.lvl ∨ (i.lvl < N.lvl ∧ N.T0 i = some r)
  tkeep : ∀ i r,N.T0 i = some r→g.T i = some r ∨ g.D i = true
  dgen : ∀ i,g.D i = true→made g i
  dkeep : ∀ i,N.D0 i = true→g.D i = true
  tinj : ∀ i j k lo hi lo' hi',g.T i = some (k,lo,hi)→g.T j = some (k,lo',hi')→i = j
def Sim (N : Ent) (σ : AS) (a : Act) (w : World) : Prop :=
  ∃ g,Valid N g σ.box w ∧ g.U = σ.gen ∧ g.D = σ.used ∧ a.tmps.size = N.N ∧ a.defers = N.df ∧
    ∀ i,RV g.μ g.G w (σ.slots i) (a.tmps.getD i undef) ∧ Top g (σ.slots i) (a.tmps.getD i undef)
end Go.Abs
namespace Go.Abs
set_option linter.unusedSimpArgs false
set_option linter.unusedVariables false
open Go
mutual
theorem RV.mono {μ μ' : Bx → Option Nat} {G G' : Nat → Nat → Prop} {w w' : World} (hm : ∀ b k,μ b = some k → μ' b = some k) (hG : ∀ k o,G k o → G' k o)
    (hw : ∀ k o,G k o→at_ w' k o = at_ w k o) : ∀ (v : AV) (u : Value),RV μ G w v u→RV μ' G' w' v u
  | .dead,_,_=>trivial
  | .raw _,_,h=>h
  | .anyb,_,h=>h
  | .sl n xs fl,u,h=>by
    simp only [RV] at h ⊢
    rcases h with h | ⟨k,o,c,us,h1,h2,h3,h4⟩
    · exact .inl h
    · exact .inr ⟨k,o,c,us,h1,h2,RVs.mono hm hG hw xs us h3,fun j hj=>⟨(hw _ _ (h4 j hj).2).trans (h4 j hj).1,hG _ _ (h4 j hj).2⟩⟩
  | .ptr b off,u,h=>by
    simp only [RV] at h ⊢
    obtain ⟨k,h1,h2⟩:=h
    exact ⟨k,hm _ _ h1,h2⟩
  | .iptr xs,u,h=>by
    simp only [RV] at h ⊢
    obtain ⟨k,o,us,h1,h3,h4⟩:=h
    exact ⟨k,o,us,h1,RVs.mono hm hG hw xs us h3,fun j hj=>⟨(hw _ _ (h4 j hj).2).trans (h4 j hj).1,hG _ _ (h4 j hj).2⟩⟩
  | .view b off n c sz,u,h=>by
    simp only [RV] at h ⊢
    obtain ⟨k,o,c',h1,h2⟩:=h
    exact ⟨k,o,c',hm _ _ h1,h2⟩
  | .agg xs,u,h=>by
    simp only [RV] at h ⊢
    obtain ⟨us,h1,h2⟩:=h
    exact ⟨us,h1,RVs.mono hm hG hw xs us h2⟩
  | .tup xs,u,h=>by
    simp only [RV] at h ⊢
    obtain ⟨us,h1,h2⟩:=h
    exact ⟨us,h1,RVs.mono hm hG hw xs us h2⟩
  | .fn f xs,u,h=>by
    simp only [RV] at h ⊢
    obtain ⟨us,h1,h2⟩:=h
    exact ⟨us,h1,RVs.mono hm hG hw xs us h2⟩
  | .nptr xs,u,h=>by simp only [RV] at h
theorem RVs.mono {μ μ' : Bx → Option Nat} {G G' : Nat → Nat → Prop} {w w' : World} (hm : ∀ b k,μ b = some k → μ' b = some k) (hG : ∀ k o,G k o → G' k o)
    (hw : ∀ k o,G k o→at_ w' k o = at_ w k o) : ∀ (xs : List AV) (us : List Value),RVs μ G w xs us→RVs μ' G' w' xs us
  | [],_,h=>h
  | x :: xs,us,h=>by
    simp only [RVs] at h ⊢
    obtain ⟨u,us',h1,h2,h3⟩:=h
    exact ⟨u,us',h1,RV.mono hm hG hw x u h2,RVs.mono hm hG hw xs us' h3⟩
end
section
variable {μ : Bx→Option Nat} {G : Nat→Nat→Prop} {w : World}
theorem RVs.length : ∀ {xs : List AV} {us : List Value},RVs μ G w xs us → us.length = xs.length
  | [],us,h=>by simp only [RVs] at h; subst h; rfl
  | x :: xs,us,h=>by
    simp only [RVs] at h
    obtain ⟨u,us',rfl,_,h3⟩:=h
    simp [RVs.length h3]
theorem RVs.get : ∀ {xs : List AV} {us : List Value},RVs μ G w xs us → ∀ (j : Nat) (x : AV),xs[j]? = some x → ∃ u,us[j]? = some u ∧ RV μ G w x u
  | [],us,h,j,x,hx=>by simp at hx
  | y :: xs,us,h,j,x,hx=>by
    simp only [RVs] at h
    obtain ⟨u,us',rfl,h2,h3⟩:=h
    cases j with
    | zero=>simp at hx; subst hx; exact ⟨u,rfl,h2⟩
    | succ j=>simpa using RVs.get h3 j x (by simpa using hx)
theorem RVs.of_get : ∀ {xs : List AV} {us : List Value},us.length = xs.length → (∀ (j : Nat) (x : AV) (u : Value),xs[j]? = some x → us[j]? = some u → RV μ G w x u) → RVs μ G w xs us
  | [],us,hl,_=>by simp only [RVs]; exact List.length_eq_zero_iff.1 hl
  | x :: xs,[],hl,_=>by simp at hl
  | x :: xs,u :: us,hl,h=>by
    simp only [RVs]
    exact ⟨u,us,rfl,h 0 x u rfl rfl,RVs.of_get (by simpa using hl) (fun j y v hy hv=>h (j + 1) y v (by simpa using hy) (by simpa using hv))⟩
theorem RVs.append {xs ys : List AV} {us vs : List Value} (h : RVs μ G w xs us) (k : RVs μ G w ys vs) : RVs μ G w (xs ++ ys) (us ++ vs):=by
  refine RVs.of_get (by simp [h.length,k.length]) fun j x u hx hu=>?_
  by_cases hj : j < xs.length
  · rw [List.getElem?_append_left hj] at hx
    rw [List.getElem?_append_left (by rw [h.length]; exact hj)] at hu
    obtain ⟨u',h1,h2⟩:=h.get j x hx
    rw [h1] at hu; cases hu; exact h2
  · rw [List.getElem?_append_right (by omega)] at hx
    rw [List.getElem?_append_right (by rw [h.length]; omega),h.length] at hu
    obtain ⟨u',h1,h2⟩:=k.get _ x hx
    rw [h1] at hu; cases hu; exact h2
theorem RVs.take {xs : List AV} {us : List Value} (h : RVs μ G w xs us) (n : Nat) : RVs μ G w (xs.take n) (us.take n):=by
  refine RVs.of_get (by simp [h.length]) fun j x u hx hu=>?_
  rw [List.getElem?_take] at hx hu
  split at hx
  · rw [if_pos ‹_›] at hu
    obtain ⟨u',h1,h2⟩:=h.get j x hx
    rw [h1] at hu; cases hu; exact h2
  · cases hx
theorem RVs.drop {xs : List AV} {us : List Value} (h : RVs μ G w xs us) (n : Nat) : RVs μ G w (xs.drop n) (us.drop n):=by
  refine RVs.of_get (by simp [h.length]) fun j x u hx hu=>?_
  rw [List.getElem?_drop] at hx hu
  obtain ⟨u',h1,h2⟩:=h.get _ x hx
  rw [h1] at hu; cases hu; exact h2
theorem RVs.nil : RVs μ G w [] []:=by simp only [RVs]
theorem RVs.raws (us : List Value) : RVs μ G w (us.map .raw) us:=by
  refine RVs.of_get (by simp) fun j x u hx hu=>?_
  simp only [List.getElem?_map,hu,Option.map_some,Option.some.injEq] at hx
  subst hx
  simp only [RV]
theorem RV.strip {v : AV} {u : Value} (h : RV μ G w v u) : RV μ G w (strip v) u:=by
  cases v <;> simp only [Abs.strip] <;> first | exact h | (simp only [RV] at h ⊢; exact h) | (simp only [RV])
theorem RV.ofV (v : Value) : RV μ G w (ofV v) v:=by
  cases v with
  | agg cs =>
    simp only [Abs.ofV,RV]
    exact ⟨cs.toList,by simp,RVs.raws _⟩
  | _=>simp only [Abs.ofV,RV]
theorem Read.take {k o : Nat} {us : List Value} (h : Read w G k o us) (n : Nat) : Read w G k o (us.take n):=fun j hj=>by
  rw [List.length_take] at hj
  have:=h j (by omega)
  rw [List.getElem?_take,if_pos (by omega)]; exact this
theorem Read.drop {k o : Nat} {us : List Value} (h : Read w G k o us) (n : Nat) : Read w G k (o + n) (us.drop n):=fun j hj=>by
  simp at hj
  have:=h (n + j) (by omega)
  rw [List.getElem?_drop,show o + n + j = o + (n + j) by omega]; exact this
theorem cells_rel {v : AV} {u : Value} (h : RV μ G w v u) {xs : List AV} (hx : v.cells = some xs) : RVs μ G w xs u.cells.toList:=by
  have one : ∀ (v : AV) (u : Value),RV μ G w v u→RVs μ G w [v] [u]:=fun v u h=>by simp only [RVs]; exact ⟨u,[],rfl,h,rfl⟩
  have h0:=h
  cases v with
  | dead=>simp [AV.cells] at hx
  | raw x =>
    simp only [RV] at h
    subst h
    cases u with
    | agg cs=>simp [AV.cells] at hx; subst hx; simpa [Value.cells] using RVs.raws (μ:=μ) (G:=G) (w:=w) cs.toList
    | _=>simp [AV.cells] at hx; subst hx; exact one _ _ h0
  | agg xs' =>
    simp only [RV] at h
    obtain ⟨us,rfl,h2⟩:=h
    simp [AV.cells] at hx; subst hx
    simpa [Value.cells] using h2
  | nptr xs=>simp only [RV] at h
  | anyb =>
    simp only [RV] at h
    obtain ⟨b,rfl⟩:=h
    simp [AV.cells] at hx; subst hx; exact one _ _ h0
  | sl n xs' fl =>
    simp only [RV] at h
    rcases h with ⟨⟨A,rfl⟩,_⟩ | ⟨k,o,c,us,rfl,_⟩ <;> (simp [AV.cells] at hx; subst hx; exact one _ _ h0)
  | ptr b off =>
    simp only [RV] at h
    obtain ⟨k,_,rfl⟩:=h
    simp [AV.cells] at hx; subst hx; exact one _ _ h0
  | iptr xs' =>
    simp only [RV] at h
    obtain ⟨k,o,us,rfl,_⟩:=h
    simp [AV.cells] at hx; subst hx; exact one _ _ h0
  | view b off n c sz =>
    simp only [RV] at h
    obtain ⟨k,o,_,_,rfl,_⟩:=h
    simp [AV.cells] at hx; subst hx; exact one _ _ h0
  | tup xs' =>
    simp only [RV] at h
    obtain ⟨us,rfl,_⟩:=h
    simp [AV.cells] at hx; subst hx; exact one _ _ h0
  | fn f xs' =>
    simp only [RV] at h
    obtain ⟨us,rfl,_⟩:=h
    simp [AV.cells] at hx; subst hx; exact one _ _ h0
end
structure Le (g : Ghost) (w : World) (g' : Ghost) (w' : World) : Prop where
  L : g'.L = g.L
  K : g'.K = g.K
  mu : ∀ b k,g.μ b = some k→g'.μ b = some k
  G : ∀ k o,g.G k o→g'.G k o
  at' : ∀ k o,g.G k o→at_ w' k o = at_ w k o
  U : ∀ s,g.U s ≤ g'.U s
  D : ∀ i,g.D i = true→g'.D i = true
  T : ∀ i r,g.T i = some r→g'.T i = some r ∨ g'.D i = true
theorem Le.refl (g : Ghost) (w : World) : Le g w g w:=⟨rfl,rfl,fun _ _ h=>h,fun _ _ h=>h,fun _ _ _=>rfl,fun _=>Nat.le_refl _,fun _ h=>h,fun _ _ h=>.inl h⟩
theorem Le.trans {g1 g2 g3 : Ghost} {w1 w2 w3 : World} (h : Le g1 w1 g2 w2) (k : Le g2 w2 g3 w3) : Le g1 w1 g3 w3 :=
  ⟨k.L.trans h.L,k.K.trans h.K,fun b n hb => k.mu _ _ (h.mu _ _ hb),fun b n hb => k.G _ _ (h.G _ _ hb),fun b n hb => (k.at' _ _ (h.G _ _ hb)).trans (h.at' _ _ hb),fun s => Nat.le_trans (h.U s) (k.U s),fun i hi => k.D _ (h.D _ hi),
    fun i r hr=>(h.T i r hr).elim (fun h1=>k.T i r h1) (fun h1=>.inr (k.D _ h1))⟩
theorem RV.le {g g' : Ghost} {w w' : World} (h : Le g w g' w') {v : AV} {u : Value} (hv : RV g.μ g.G w v u) : RV g'.μ g'.G w' v u:=RV.mono h.mu h.G h.at' v u hv
theorem RVs.le {g g' : Ghost} {w w' : World} (h : Le g w g' w') {v : List AV} {u : List Value} (hv : RVs g.μ g.G w v u) : RVs g'.μ g'.G w' v u:=RVs.mono h.mu h.G h.at' v u hv
theorem made.le {g g' : Ghost} {w w' : World} (h : Le g w g' w') {i : Id} (hi : made g i) : made g' i:=by
  unfold made at hi ⊢
  rw [h.L,h.K]
  exact hi.imp id fun hi=>hi.imp id fun hi=>⟨hi.1,Nat.le_trans hi.2 (h.U _)⟩
theorem FlOK.le {g g' : Ghost} {w w' : World} (h : Le g w g' w') {fl : Fl} {m : Nat} {u : Value} (hv : FlOK g fl m u) : FlOK g' fl m u:=by
  cases fl with
  | bor=>trivial
  | full=>cases u <;> first | exact hv | (simp only [FlOK] at hv)
  | own i sz =>
    cases u with
    | slice a n c =>
      simp only [FlOK] at hv ⊢
      obtain ⟨h1,h2⟩:=hv
      refine ⟨h1.le h,?_⟩
      rcases h2 with h2 | h2 | ⟨k,o,lo,hi,e1,e2,e3,e4⟩
      · exact .inl (h.D _ h2)
      · exact .inr (.inl h2)
      · rcases h.T _ _ e3 with h4 | h4
        · exact .inr (.inr ⟨k,o,lo,hi,e1,e2,h4,e4⟩)
        · exact .inl h4
    | _=>simp only [FlOK] at hv
  | lit i =>
    cases u with
    | slice a n c =>
      simp only [FlOK] at hv ⊢
      obtain ⟨h1,hc,h2⟩:=hv
      refine ⟨h1.le h,hc,?_⟩
      rcases h2 with h2 | ⟨k,o,lo,e1,e3⟩
      · exact .inl (h.D _ h2)
      · rcases h.T _ _ e3 with h4 | h4
        · exact .inr ⟨k,o,lo,e1,h4⟩
        · exact .inl h4
    | _=>simp only [FlOK] at hv
theorem Top.le {g g' : Ghost} {w w' : World} (h : Le g w g' w') {v : AV} {u : Value} (hv : Top g v u) : Top g' v u:=by
  cases v with
  | sl n xs fl=>exact FlOK.le h hv
  | tup vs =>
    obtain ⟨us,h1,h2⟩:=hv
    exact ⟨us,h1,fun j n xs fl v hj hv=>FlOK.le h (h2 j n xs fl v hj hv)⟩
  | _=>trivial
def Slots (g : Ghost) (w : World) (sl : Nat→AV) (a : Act) : Prop:=∀ i,RV g.μ g.G w (sl i) (a.tmps.getD i undef) ∧ Top g (sl i) (a.tmps.getD i undef)
theorem Slots.le {g g' : Ghost} {w w' : World} {sl : Nat→AV} {a : Act} (h : Le g w g' w') (hs : Slots g w sl a) : Slots g' w' sl a:=fun i=>⟨RV.le h (hs i).1,Top.le h (hs i).2⟩
theorem Slots.put {g : Ghost} {w : World} {sl : Nat → AV} {a : Act} (hs : Slots g w sl a) {d : Nat} (hd : d < a.tmps.size) {v : AV} {u : Value} (hv : RV g.μ g.G w v u) (ht : Top g v u) :
    Slots g w (upd sl d v) (a.put (some d) u):=fun i=>by
  by_cases h : i = d
  · subst h
    have e : (a.put (some i) u).tmps.getD i undef = u:=by simp [Act.put,hd]
    rw [e]; simp only [upd,if_true]; exact ⟨hv,ht⟩
  · have e : (a.put (some d) u).tmps.getD i undef = a.tmps.getD i undef:=by
      simp only [Act.put,Array.getD_eq_getD_getElem?,Array.getElem?_setIfInBounds]
      rw [if_neg (fun e=>h e.symm)]
    rw [e]; simp only [upd,if_neg h]; exact hs i
theorem put_size (a : Act) (d : Option Nat) (u : Value) : (a.put d u).tmps.size = a.tmps.size:=by cases d <;> simp [Act.put]
theorem put_defers (a : Act) (d : Option Nat) (u : Value) : (a.put d u).defers = a.defers:=by cases d <;> simp [Act.put]
end Go.Abs
namespace Go.Abs
set_option linter.unusedSimpArgs false
set_option linter.unusedVariables false
open Go Go.RowKit
theorem at_lt {w : World} {k o : Nat} (h : (at_ w k o).isSome) : k < w.heap.size:=by
  unfold at_ World.cell? at h
  rcases Nat.lt_or_ge k w.heap.size with h' | h'
  · exact h'
  · simp [Array.getElem?_eq_none h'] at h
theorem at_of_block {w w' : World} {k o : Nat} (h : w'.heap[k]? = w.heap[k]?) : at_ w' k o = at_ w k o:=by
  unfold at_ World.cell?
  rw [h]
theorem frozen_of_block {w w' : World} {k o : Nat} (h : w'.heap[k]? = w.heap[k]?) : w'.frozen? ⟨k,o,none⟩ = w.frozen? ⟨k,o,none⟩:=by
  unfold World.frozen?
  rw [h]
theorem at_row {w : World} {k o : Nat} {cs : Array Value} {el : TypeId} {fr : Nat × Nat} (h : w.heap[k]? = some (.cells cs el fr)) : at_ w k o = cs[o]?:=by
  unfold at_ World.cell?
  simp [h]
theorem frozen_row {w : World} {k o : Nat} {cs : Array Value} {el : TypeId} (h : w.heap[k]? = some (.cells cs el (0,0))) : w.frozen? ⟨k,o,none⟩ = false:=by
  unfold World.frozen?
  simp [h]
theorem Holds.lt {μ : Bx→Option Nat} {G : Nat→Nat→Prop} {w : World} {k : Nat} {xs : List AV} (h : Holds μ G w k xs) : k < w.heap.size:=by
  obtain ⟨cs,el,us,h,_⟩:=h
  exact (Array.getElem?_eq_some_iff.1 h).1
theorem Holds.mono {μ μ' : Bx → Option Nat} {G G' : Nat → Nat → Prop} {w w' : World} {k : Nat} {xs : List AV} (h : Holds μ G w k xs) (hb : w'.heap[k]? = w.heap[k]?)
    (hm : ∀ b k,μ b = some k→μ' b = some k) (hG : ∀ k o,G k o→G' k o) (hw : ∀ k o,G k o→at_ w' k o = at_ w k o) : Holds μ' G' w' k xs:=by
  obtain ⟨cs,el,us,h1,h2,h3,h4⟩:=h
  exact ⟨cs,el,us,hb.trans h1,h2,h3,RVs.mono hm hG hw _ _ h4⟩
section
variable {N : Ent} {g : Ghost} {box : Boxes} {w : World}
theorem Valid.muLt (h : Valid N g box w) {b : Bx} {k : Nat} (hb : g.μ b = some k) : k < w.heap.size:=by
  have hd:=h.dom b
  rw [hb] at hd
  obtain ⟨xs,hx⟩:=Option.isSome_iff_exists.1 (by simpa using hd)
  exact (h.cont b k xs hb hx).lt
theorem Valid.le_world (h : Valid N g box w) {w' : World} (hb : Below w.heap.size w w') : Le g w g w' :=
  ⟨rfl,rfl,fun _ _ h=>h,fun _ _ h=>h,fun k o hg=>at_of_block (hb.block k (at_lt (h.cell k o hg))),fun _=>Nat.le_refl _,fun _ h=>h,fun _ _ h=>.inl h⟩
theorem Valid.world (h : Valid N g box w) {w' : World} (hb : Below w.heap.size w w') : Valid N g box w':=by
  have hat : ∀ k o,g.G k o→at_ w' k o = at_ w k o:=fun k o hg=>at_of_block (hb.block k (at_lt (h.cell k o hg)))
  refine { h with chg:=?_,keep:=?_,cell:=?_,cont:=?_,ctop:=?_,tail:=?_ }
  · exact ⟨hb.os.trans h.chg.os,hb.tape.trans h.chg.tape,hb.output.trans h.chg.output,Nat.le_trans h.chg.size hb.size,
      fun i hi hn=>(hb.block i (Nat.lt_of_lt_of_le hi h.chg.size)).trans (h.chg.block i hi hn)⟩
  · intro k o hg; rw [hat k o (h.sub k o hg)]; exact h.keep k o hg
  · intro k o hg; rw [hat k o hg]; exact h.cell k o hg
  · intro b k xs hm hx
    exact (h.cont b k xs hm hx).mono (hb.block k (h.muLt hm)) (fun _ _ h=>h) (fun _ _ h=>h) hat
  · intro b k xs hm hx j n ys fl u hj hu
    rw [at_of_block (hb.block k (h.muLt hm))] at hu
    exact h.ctop b k xs hm hx j n ys fl u hj hu
  · intro i k lo hi ht
    obtain ⟨h1,h2,h3,h4,h5,h6,h7⟩:=h.tail i k lo hi ht
    refine ⟨h1,Nat.lt_of_lt_of_le h2 hb.size,h3,h4,h5,fun o ho ho'=>?_,h7⟩
    obtain ⟨e1,e2,e3⟩:=h6 o ho ho'
    exact ⟨by rw [at_of_block (hb.block k h2)]; exact e1,by rw [frozen_of_block (hb.block k h2)]; exact e2,e3⟩
theorem Le.addG (S : Nat→Nat→Prop) : Le g w { g with G:=fun k o=>g.G k o ∨ S k o } w :=
  ⟨rfl,rfl,fun _ _ h=>h,fun _ _ h=>.inl h,fun _ _ _=>rfl,fun _=>Nat.le_refl _,fun _ h=>h,fun _ _ h=>.inl h⟩
theorem Valid.addG (h : Valid N g box w) (S : Nat → Nat → Prop)
    (hS : ∀ k o,S k o→(at_ w k o).isSome ∧ (k < N.w0.heap.size→N.G0 k o ∨ ∃ i lo hi,N.T0 i = some (k,lo,hi) ∧ lo ≤ o ∧ o < hi) ∧ (∀ b,g.μ b ≠ some k) ∧ ∀ i lo hi,g.T i = some (k,lo,hi)→o < lo) :
    Valid N { g with G:=fun k o=>g.G k o ∨ S k o } box w:=by
  refine { h with sub:=?_,old:=?_,cell:=?_,gmu:=?_,cont:=?_,ctop:=?_,tail:=?_ }
  · exact fun k o hk=>.inl (h.sub k o hk)
  · rintro k o (hg | hs) hk
    · exact h.old k o hg hk
    · exact (hS k o hs).2.1 hk
  · rintro k o (hg | hs)
    · exact h.cell k o hg
    · exact (hS k o hs).1
  · rintro k o b (hg | hs)
    · exact h.gmu k o b hg
    · exact (hS k o hs).2.2.1 b
  · intro b k xs hm hx
    exact (h.cont b k xs hm hx).mono rfl (fun _ _ h=>h) (fun _ _ h=>.inl h) (fun _ _ _=>rfl)
  · intro b k xs hm hx j n ys fl u hj hu
    exact FlOK.le (Le.addG (w:=w) S) (h.ctop b k xs hm hx j n ys fl u hj hu)
  · intro i k lo hi ht
    obtain ⟨h1,h2,h3,h4,h5,h6,h7⟩:=h.tail i k lo hi ht
    refine ⟨h1,h2,h3,h4,h5,fun o ho ho'=>?_,h7⟩
    obtain ⟨e1,e2,e3⟩:=h6 o ho ho'
    refine ⟨e1,e2,?_⟩
    rintro (hg | hs)
    · exact e3 hg
    · have:=(hS k o hs).2.2.2 i lo hi ht; omega
theorem Le.bump (U : Nat→Nat) (hU : ∀ s,g.U s ≤ U s) : Le g w { g with U } w :=
  ⟨rfl,rfl,fun _ _ h=>h,fun _ _ h=>h,fun _ _ _=>rfl,hU,fun _ h=>h,fun _ _ h=>.inl h⟩
theorem Valid.bump (h : Valid N g box w) (U : Nat→Nat) (hU : ∀ s,g.U s ≤ U s) : Valid N { g with U } box w:=by
  have hm : ∀ i,made g i→made { g with U } i:=fun i hi=>made.le (w:=w) (Le.bump U hU) hi
  refine { h with fresh:=fun s n k hm=>Nat.le_trans (h.fresh s n k hm) (hU s),ctop:=?_,tail:=?_,dgen:=fun i hi=>hm i (h.dgen i hi) }
  · intro b k xs hm hx j n ys fl u hj hu
    exact FlOK.le (Le.bump (w:=w) U hU) (h.ctop b k xs hm hx j n ys fl u hj hu)
  · intro i k lo hi ht
    obtain ⟨h1,h2,h3,h4⟩:=h.tail i k lo hi ht
    exact ⟨h1,h2,hm i h3,h4⟩
theorem Le.addMu (b : Bx) (k : Nat) (hb : g.μ b = none) : Le g w { g with μ:=fun b'=>if b' = b then some k else g.μ b' } w :=
  ⟨rfl,rfl,fun b' k' hm=>by show (if b' = b then some k else g.μ b') = _; rw [if_neg (fun e=>by rw [e,hb] at hm; cases hm)]; exact hm,fun _ _ h=>h,fun _ _ _=>rfl,fun _=>Nat.le_refl _,fun _ h=>h,fun _ _ h=>.inl h⟩
theorem Valid.addMu (h : Valid N g box w) (s n k : Nat) (xs : List AV) (hn0 : 0 < n) (hn : n ≤ g.U s) (hb : g.μ (.own N.lvl s n) = none) (hk : N.w0.heap.size ≤ k) (hG : ∀ o,¬ g.G k o)
    (hμ : ∀ b,g.μ b ≠ some k) (hT : ∀ i lo hi,g.T i ≠ some (k,lo,hi)) (hc : Holds g.μ g.G w k xs)
    (htop : ∀ (j n : Nat) (ys : List AV) (fl : Fl) (u : Value),xs[j]? = some (.sl n ys fl)→at_ w k j = some u→FlOK g fl ys.length u) (hok : CellsOK xs) :
    Valid N { g with μ:=fun b=>if b = .own N.lvl s n then some k else g.μ b } (updB box (.own N.lvl s n) xs) w:=by
  have hmu : ∀ b k',g.μ b = some k'→(if b = Bx.own N.lvl s n then some k else g.μ b) = some k':=fun b k' hm=>by
    rw [if_neg (fun e=>by rw [e,hb] at hm; cases hm)]; exact hm
  refine { h with gmu:=?_,ext:=?_,kext:=(fun b k' hm=>hmu _ _ (h.kext b k' hm)),lv:=?_,nz:=?_,fresh:=?_,inj:=?_,dom:=?_,cont:=?_,cok:=?_,ctop:=?_,tail:=?_ }
  · intro k' o b hg
    show (if b = _ then some k else g.μ b) ≠ _
    split
    · intro e; cases e; exact hG o hg
    · exact h.gmu k' o b hg
  · exact fun b k' hm=>hmu _ _ (h.ext b k' hm)
  · intro b k' hm
    change (if b = _ then some k else g.μ b) = _ at hm
    split at hm
    · rename_i e; cases hm; subst e; exact .inr ⟨rfl,hk⟩
    · exact h.lv b k' hm
  · intro l' s'
    show (if _ = _ then some k else g.μ _) = none
    rw [if_neg (fun e=>by injection e; omega)]
    exact h.nz l' s'
  · intro s' n' k' hm
    change (if _ = _ then some k else g.μ _) = _ at hm
    split at hm
    · rename_i e; cases e; exact hn
    · exact h.fresh s' n' k' hm
  · intro b b' k' hm hm'
    change (if _ = _ then some k else g.μ _) = _ at hm
    change (if _ = _ then some k else g.μ _) = _ at hm'
    split at hm <;> split at hm'
    · rename_i e e'; rw [e,e']
    · cases hm; exact absurd hm' (hμ b')
    · cases hm'; exact absurd hm (hμ b)
    · exact h.inj b b' k' hm hm'
  · intro b
    show (updB box _ xs b).isSome = (if _ = _ then some k else g.μ _).isSome
    unfold updB
    split
    · rfl
    · exact h.dom b
  · intro b k' xs' hm hx
    change (if _ = _ then some k else g.μ _) = _ at hm
    unfold updB at hx
    split at hm
    · rename_i e
      rw [if_pos e] at hx
      cases hm; cases hx
      exact hc.mono rfl hmu (fun _ _ h=>h) (fun _ _ _=>rfl)
    · rename_i e
      rw [if_neg e] at hx
      exact (h.cont b k' xs' hm hx).mono rfl hmu (fun _ _ h=>h) (fun _ _ _=>rfl)
  · intro b xs' hx
    unfold updB at hx
    split at hx
    · cases hx; exact hok
    · exact h.cok b xs' hx
  · intro b k' xs' hm hx j n' ys fl u hj hu
    change (if _ = _ then some k else g.μ _) = _ at hm
    unfold updB at hx
    split at hm
    · rename_i e
      rw [if_pos e] at hx
      cases hm; cases hx
      exact FlOK.le (Le.addMu (w:=w) _ k hb) (htop j n' ys fl u hj hu)
    · rename_i e
      rw [if_neg e] at hx
      exact FlOK.le (Le.addMu (w:=w) _ k hb) (h.ctop b k' xs' hm hx j n' ys fl u hj hu)
  · intro i k' lo hi ht
    obtain ⟨h1,h2,h3,h4,h5,h6,h7⟩:=h.tail i k' lo hi ht
    refine ⟨h1,h2,h3,h4,h5,h6,fun b=>?_⟩
    show (if b = _ then some k else g.μ b) ≠ _
    split
    · intro e; cases e; exact hT _ _ _ ht
    · exact h7 b
theorem Le.addT (i : Id) (r : Nat × Nat × Nat) (hi : g.T i = none) : Le g w { g with T:=fun j=>if j = i then some r else g.T j } w :=
  ⟨rfl,rfl,fun _ _ h=>h,fun _ _ h=>h,fun _ _ _=>rfl,fun _=>Nat.le_refl _,fun _ h=>h,fun j r' h=>.inl (by show (if j = i then _ else _) = _; rw [if_neg (fun e=>by rw [e,hi] at h; cases h)]; exact h)⟩
theorem Valid.addT (h : Valid N g box w) (i : Id) (k lo hi : Nat) (hk : N.w0.heap.size ≤ k ∨ ∃ j lo' hi',N.T0 j = some (k,lo',hi') ∧ lo' ≤ lo ∧ hi ≤ hi') (hlt : k < w.heap.size) (hg : made g i) (hlv : i.lvl = N.lvl) (hD : g.D i = false) (hn : g.T i = none) (hle : lo ≤ hi)
    (hc : ∀ o,lo ≤ o→o < hi→(at_ w k o).isSome ∧ w.frozen? ⟨k,o,none⟩ = false ∧ ¬ g.G k o) (hμ : ∀ b,g.μ b ≠ some k) (hT : ∀ j lo hi,j ≠ i→g.T j ≠ some (k,lo,hi)) :
    Valid N { g with T:=fun j=>if j = i then some (k,lo,hi) else g.T j } box w:=by
  refine { h with ctop:=?_,tail:=?_,tnew:=?_,tkeep:=?_,tinj:=?_ }
  · intro b k' xs hm hx j n ys fl u hj hu
    exact FlOK.le (Le.addT (w:=w) i _ hn) (h.ctop b k' xs hm hx j n ys fl u hj hu)
  · intro j k' lo' hi' ht
    change (if _ = _ then _ else _) = _ at ht
    split at ht
    · rename_i e; cases ht; subst e
      exact ⟨hk,hlt,hg,hD,hle,hc,hμ⟩
    · exact h.tail j k' lo' hi' ht
  · intro j r ht
    change (if _ = _ then _ else _) = _ at ht
    split at ht
    · rename_i e; rw [e]; exact .inl hlv
    · exact h.tnew j r ht
  · intro j r hr
    rcases h.tkeep j r hr with h1 | h1
    · left; show (if j = i then _ else _) = _
      rw [if_neg (fun e=>by rw [e,hn] at h1; cases h1)]; exact h1
    · exact .inr h1
  · intro j j' k' lo' hi' lo'' hi'' ht ht'
    change (if _ = _ then _ else _) = _ at ht
    change (if _ = _ then _ else _) = _ at ht'
    split at ht <;> split at ht'
    · rename_i e e'; rw [e,e']
    · rename_i e e'; cases ht; exact absurd ht' (hT _ _ _ e')
    · rename_i e e'; cases ht'; exact absurd ht (hT _ _ _ e)
    · exact h.tinj _ _ _ _ _ _ _ ht ht'
theorem Le.dropT (i : Id) : Le g w { g with T:=fun j=>if j = i then none else g.T j,D:=updI g.D i } w :=
  ⟨rfl,rfl,fun _ _ h => h,fun _ _ h => h,fun _ _ _ => rfl,fun _ => Nat.le_refl _,fun j h => by show (if j = i then true else g.D j) = true; rw [h]; simp,
    fun j r h=>by
      by_cases e : j = i
      · exact .inr (by show updI g.D i j = true; simp [updI,e])
      · exact .inl (by show (if j = i then none else g.T j) = _; rw [if_neg e]; exact h)⟩
theorem Valid.dropT (h : Valid N g box w) (i : Id) (hi : made g i) : Valid N { g with T:=fun j=>if j = i then none else g.T j,D:=updI g.D i } box w:=by
  have hD : ∀ j,g.D j = true→updI g.D i j = true:=fun j hj=>by unfold updI; split <;> simp [hj]
  refine { h with ctop:=?c,tail:=?t,tnew:=?n,tkeep:=?k,tinj:=?j,dgen:=?d,dkeep:=fun j hj=>hD j (h.dkeep j hj) }
  case c =>
    intro b k' xs hm hx j n ys fl u hj hu
    exact FlOK.le (Le.dropT (w:=w) i) (h.ctop b k' xs hm hx j n ys fl u hj hu)
  case d =>
    intro j hj
    have hj' : updI g.D i j = true:=hj
    unfold updI at hj'
    split at hj'
    · rename_i e; subst e; exact hi
    · exact h.dgen j hj'
  case n =>
    intro j r ht
    change (if _ = _ then _ else _) = _ at ht
    split at ht
    · cases ht
    · exact h.tnew j r ht
  case k =>
    intro j r hr
    by_cases e : j = i
    · right; show updI g.D i j = true; simp [updI,e]
    · rcases h.tkeep j r hr with h1 | h1
      · left; show (if j = i then none else g.T j) = _; rw [if_neg e]; exact h1
      · exact .inr (hD j h1)
  case t =>
    intro j k' lo' hi' ht
    change (if _ = _ then _ else _) = _ at ht
    split at ht
    · cases ht
    · rename_i e
      obtain ⟨h1,h2,h3,h4,h5⟩:=h.tail j k' lo' hi' ht
      exact ⟨h1,h2,h3,by simp only [updI,if_neg e]; exact h4,h5⟩
  case j =>
    intro j j' k' lo' hi' lo'' hi'' ht ht'
    change (if _ = _ then _ else _) = _ at ht
    change (if _ = _ then _ else _) = _ at ht'
    split at ht <;> split at ht'
    · cases ht
    · cases ht
    · cases ht'
    · exact h.tinj _ _ _ _ _ _ _ ht ht'
end
end Go.Abs
namespace Go.Abs
set_option linter.unusedSimpArgs false
set_option linter.unusedVariables false
open Go Go.RowKit
def TKis : TK → TypeDesc → Prop
  | .arr n e,d=>d = .array n e
  | .st fs,d=>∃ fields,d = .struct fields ∧ fs = fields.toList.map fun f=>(f.offset,f.type)
  | .slice e,d=>d = .slice e
  | .str,d=>d = .string
  | .int k,d=>d = .int k
  | .bool,d=>d = .bool
  | .ptr e,d=>d = .pointer e
  | .other,d=>d.isRow = false
structure TIis (P : Program) (t : TypeId) (ti : TI) : Prop where
  under : ∃ d,P.underlying t = some d ∧ TKis ti.kind d
  info : ∃ i z,P.info? t = some i ∧ i.size = ti.size ∧ i.bytes = ti.bytes ∧ i.zero = some z ∧ z.cells.toList = ti.zero ∧ ti.zero.length = ti.size
  zero1 : ∀ q ∈ ti.zero,q.oneCell' = true
  fields : ∀ fs, P.underlying t = some (.struct fs) → fs.toList.all (fun f => (P.info? f.type).isSome) = true ∧ fs.toList.all (fun f => f.name != "_") = true ∧ P.stoodInHeld t = false
def TeOK (P : Program) (te : TypeId→Option TI) : Prop:=∀ t ti,te t = some ti→TIis P t ti
section
variable {P : Program} {te : TypeId→Option TI}
theorem kd_some (hte : TeOK P te) {t : TypeId} {k : TK} (h : kd te t = k) (hk : k ≠ .other) : ∃ ti,te t = some ti ∧ ti.kind = k ∧ ∃ d,P.underlying t = some d ∧ TKis k d:=by
  unfold kd at h
  cases e : te t with
  | none=>rw [e] at h; exact absurd h.symm hk
  | some ti =>
    rw [e] at h
    obtain ⟨d,h1,h2⟩:=(hte t ti e).under
    exact ⟨ti,rfl,h,d,h1,h ▸ h2⟩
theorem run_sizeOf (hte : TeOK P te) {t : TypeId} {ti : TI} (h : te t = some ti) (w : World) : (sizeOf t).run P w = .ok ti.size w:=by
  obtain ⟨i,z,h1,h2,_⟩:=(hte t ti h).info
  simp [sizeOf,typeInfo,h1,h2]
theorem run_isAgg (hte : TeOK P te) {t : TypeId} {ti : TI} (h : te t = some ti) (w : World) : (isAgg t).run P w = .ok (isAggK ti.kind) w:=by
  obtain ⟨d,h1,h2⟩:=(hte t ti h).under
  unfold isAgg
  rw [Sem.run_bind,run_underlying h1]
  cases hk : ti.kind <;> rw [hk] at h2 <;> simp only [TKis] at h2
  case st=>obtain ⟨f,rfl,_⟩:=h2; rfl
  case other=>cases d <;> first | rfl | (simp at h2)
  all_goals (subst h2; rfl)
theorem run_zeroValue (hte : TeOK P te) {t : TypeId} {ti : TI} (h : te t = some ti) (w : World) : ∃ z,(zeroValue t).run P w = .ok z w ∧ z.cells.toList = ti.zero:=by
  obtain ⟨i,z,h1,h2,h3,h4,h5,_⟩:=(hte t ti h).info
  exact ⟨z,by simp [zeroValue,typeInfo,h1,h4],h5⟩
end
def GOut (P : Program) (N : Ent) (g : Ghost) (box : Boxes) (w : World) (o : Oper) (a : Act) (d : Nat) (r : GR) : Prop :=
  ∃ u w' g',(execOp a.eval o).run P w = .ok (.value u) w' ∧
    Valid N g' (match r.cont with | some c=>updB box (.own N.lvl d (g.U d + 1)) c | none=>box) w' ∧ Le g w g' w' ∧
    g'.U = (if r.bump then upd g.U d (g.U d + 1) else g.U) ∧ g'.D = (match r.use with | some i=>updI g.D i | none=>g.D) ∧
    RV g'.μ g'.G w' r.v u ∧ Top g' r.v u
def Rel (g : Ghost) (w : World) (a : Act) (ρ : Operand→AV) : Prop:=∀ x,RV g.μ g.G w (ρ x) (a.eval x) ∧ Top g (ρ x) (a.eval x)
section
variable {P : Program} {N : Ent} {g : Ghost} {box : Boxes} {w : World} {o : Oper} {a : Act} {d : Nat}
theorem GOut.pure (hv : Valid N g box w) {v : AV} {u : Value} (hr : (execOp a.eval o).run P w = .ok (.value u) w) (h1 : RV g.μ g.G w v u) (h2 : Top g v u) : GOut P N g box w o a d { v } :=
  ⟨u,w,g,hr,hv,Le.refl _ _,by simp,by simp,h1,h2⟩
theorem run_value {s : Sem Value} {u : Value} {w w' : World} (h : s.run P w = .ok u w') (he : execOp a.eval o = (do Pure.pure (Next.value (← s)))) : (execOp a.eval o).run P w = .ok (.value u) w':=by
  rw [he,Sem.run_bind,h]; rfl
variable {ρ : Operand→AV}
theorem out_move (hv : Valid N g box w) (hρ : Rel g w a ρ) (x : Operand) (ho : o.op = .move x ∨ o.op = .assign x) : GOut P N g box w o a d { v:=ρ x } :=
  .pure hv (u:=a.eval x) (by rcases ho with ho | ho <;> (unfold execOp; rw [ho]; rfl)) (hρ x).1 (hρ x).2
theorem out_pick (hv : Valid N g box w) (hρ : Rel g w a ρ) (c x y : Operand) (ho : o.op = .pick c x y) {t : Bool} (hc : ρ c = .raw (.bool t)) :
    GOut P N g box w o a d { v:=if t then ρ x else ρ y }:=by
  have h:=(hρ c).1
  rw [hc] at h; simp only [RV] at h
  refine .pure hv (u:=if t then a.eval x else a.eval y) (by unfold execOp; rw [ho]; simp only [h,asBool]; cases t <;> rfl) ?_ ?_
  · cases t <;> simp only [if_true,if_false,Bool.false_eq_true] <;> exact (hρ _).1
  · cases t <;> simp only [if_true,if_false,Bool.false_eq_true] <;> exact (hρ _).2
theorem below_alloc' (w : World) (ob : Obj) : Below w.heap.size w (w.alloc ob):=(Below.refl _ _).alloc (Nat.le_refl _) ob
theorem alloc_at (w : World) (ob : Obj) : (w.alloc ob).heap[w.heap.size]? = some ob:=by show (w.heap.push ob)[w.heap.size]? = _; simp
theorem Valid.noneAt (hv : Valid N g box w) {k : Nat} (hk : w.heap.size ≤ k) : (∀ o,¬ g.G k o) ∧ (∀ b,g.μ b ≠ some k) ∧ (∀ i lo hi,g.T i ≠ some (k,lo,hi)) :=
  ⟨fun o h=>by have:=at_lt (hv.cell k o h); omega,fun b h=>by have:=hv.muLt h; omega,fun i lo hi h=>by have:=(hv.tail i k lo hi h).2.1; omega⟩
theorem out_newbox (hv : Valid N g box w) {xs : List AV} {us : List Value} {w1 : World} {el : TypeId} {cs : Array Value} {u : Value} (hrel : RVs g.μ g.G w xs us) (hb : Below w.heap.size w w1) (k : Nat) (hk : w.heap.size ≤ k)
    (hc : w1.heap[k]? = some (.cells cs el (0,0))) (hl : us.length ≤ cs.size) (hcs : ∀ j,j < us.length→cs[j]? = us[j]?)
    (hr : (execOp a.eval o).run P w = .ok (.value u) w1) {v : AV} (hu : RV (fun b=>if b = .own N.lvl d (g.U d + 1) then some k else g.μ b) g.G w1 v u) (ht : ∀ g',Top g' v u)
    (htop : ∀ (j n : Nat) (ys : List AV) (fl : Fl) (u : Value),xs[j]? = some (.sl n ys fl)→us[j]? = some u→FlOK g fl ys.length u) (hok : CellsOK xs) :
    GOut P N g box w o a d { v,bump:=true,cont:=some xs }:=by
  have hv1:=hv.world hb
  obtain ⟨n1,n2,n3⟩:=hv.noneAt hk
  have hU : ∀ s,g.U s ≤ upd g.U d (g.U d + 1) s:=fun s=>by unfold upd; split <;> simp_all
  have hv2:=hv1.bump _ hU
  have hfresh : g.μ (.own N.lvl d (g.U d + 1)) = none:=by
    cases e : g.μ (.own N.lvl d (g.U d + 1)) with
    | none=>rfl
    | some k=>have:=hv.fresh _ _ _ e; omega
  have hv3:=hv2.addMu d (g.U d + 1) k xs (Nat.succ_pos _) (by simp [upd]) hfresh (Nat.le_trans hv.chg.size hk) n1 n2 n3 ⟨cs,el,us,hc,hl,hcs,RVs.mono (fun _ _ h=>h) (fun _ _ h=>h) (hv.le_world hb).at' _ _ hrel⟩ (by
    intro j n ys fl u hj hu
    have hjl : j < us.length:=by rw [hrel.length]; exact (List.getElem?_eq_some_iff.1 hj).1
    rw [at_row hc,hcs j hjl] at hu
    exact FlOK.le ((hv.le_world hb).trans (Le.bump _ hU)) (htop j n ys fl u hj hu)) hok
  refine ⟨u,w1,_,hr,hv3,?_,by simp,by simp,?_,ht _⟩
  · exact ((hv.le_world hb).trans (Le.bump _ hU)).trans (Le.addMu (g:={ g with U:=upd g.U d (g.U d + 1) }) _ k hfresh)
  · exact hu
theorem cellsOK_raws (zs : List Value) : CellsOK (zs.map .raw):=fun x hx=>by
  obtain ⟨v,_,rfl⟩:=List.mem_map.1 hx
  exact ⟨fun _ _ _ _ h=>(by cases h),fun _ h=>(by cases h)⟩
theorem cellsOK_strips (xs : List AV) : CellsOK (xs.map Abs.strip):=fun x hx=>by
  obtain ⟨v,_,rfl⟩:=List.mem_map.1 hx
  refine ⟨fun n ys i z h=>?_,fun vs h=>?_⟩
  · cases v <;> simp only [Abs.strip] at h <;> cases h
  · cases v <;> simp only [Abs.strip] at h <;> cases h
theorem out_alloc {te : TypeId → Option TI} (hte : TeOK P te) (hv : Valid N g box w) (t : TypeId) {ti : TI} (ht : te t = some ti) (ho : o.op = .alloc t) :
    GOut P N g box w o a d { v:=.ptr (.own N.lvl d (g.U d + 1)) 0,bump:=true,cont:=some (ti.zero.map .raw) }:=by
  obtain ⟨z,hz,hzc⟩:=run_zeroValue hte ht w
  refine out_newbox hv (us:=ti.zero) (w1:=w.alloc (.cells z.cells t)) (u:=.pointer (some ⟨w.heap.size,0,none⟩)) (RVs.raws _) (below_alloc' _ _) w.heap.size (Nat.le_refl _) (alloc_at _ _) ?_ ?_ ?_ ?_ (fun _=>trivial) (fun j n ys fl u hj _=>by simp only [List.getElem?_map,Option.map_eq_some_iff] at hj; obtain ⟨_,_,hj⟩:=hj; cases hj) (cellsOK_raws _)
  · rw [← hzc]; simp
  · intro j _; rw [← hzc]; simp
  · refine run_value (s := Instr.alloc t true (.tuple #[])) ?_ (by unfold execOp; rw [ho])
    simp [Instr.alloc,hz,newVar,newRow]
  · simp only [RV]; exact ⟨w.heap.size,by simp,rfl⟩
theorem strip_sl {v : AV} {n : Nat} {ys : List AV} {fl : Fl} (h : strip v = .sl n ys fl) : fl = .bor:=by
  cases v <;> simp only [Abs.strip] at h <;> first | (cases h; rfl) | cases h
theorem RVs.strips {μ : Bx → Option Nat} {G : Nat → Nat → Prop} {w : World} : ∀ {xs : List AV} {us : List Value},RVs μ G w xs us → RVs μ G w (xs.map Abs.strip) us
  | [],us,h=>by simpa only [RVs,List.map_nil] using h
  | x :: xs,us,h=>by
    simp only [RVs,List.map_cons] at h ⊢
    obtain ⟨u,us',rfl,h1,h2⟩:=h
    exact ⟨u,us',rfl,h1.strip,RVs.strips h2⟩
theorem laid_rel {v : AV} {u : Value} (h : RV g.μ g.G w v u ∧ Top g v u) {xs : List AV} (hx : v.laid = some xs) : RVs g.μ g.G w xs u.cells.toList ∧
    (∀ (j n : Nat) (ys : List AV) (fl : Fl) (u' : Value),xs[j]? = some (.sl n ys fl)→u.cells.toList[j]? = some u'→FlOK g fl ys.length u') ∧ CellsOK xs:=by
  obtain ⟨h1,h2⟩:=h
  have one : ∀ (v : AV) (u : Value),RV g.μ g.G w v u→Top g v u→u.cells.toList = [u]→(∀ n ys i z,v = .sl n ys (.own i z)→i.gen ≠ 0)→(∀ vs,v ≠ .tup vs)→RVs g.μ g.G w [v] u.cells.toList ∧ (∀ (j n : Nat) (ys : List AV) (fl : Fl) (u' : Value),[v][j]? = some (.sl n ys fl)→u.cells.toList[j]? = some u'→FlOK g fl ys.length u') ∧ CellsOK [v]:=by
    intro v u h1 h2 h3 h4 h5
    rw [h3]
    refine ⟨by simp only [RVs]; exact ⟨u,[],rfl,h1,rfl⟩,fun j n ys fl u' hj hu=>?_,fun x hx=>by simp at hx; subst hx; exact ⟨h4,h5⟩⟩
    cases j with
    | zero=>simp at hj hu; subst hu; subst hj; exact h2
    | succ j=>simp at hj
  cases v with
  | dead=>simp [AV.laid] at hx
  | tup vs=>simp [AV.laid] at hx
  | raw x =>
    have h0:=h1
    simp only [RV] at h1
    subst h1
    cases u with
    | agg cs =>
      simp [AV.laid] at hx; subst hx
      refine ⟨by simpa [Value.cells] using RVs.raws (μ:=g.μ) (G:=g.G) (w:=w) cs.toList,fun j n ys fl u' hj _=>?_,by rw [← Array.toList_map] at *; exact (by simpa using cellsOK_raws cs.toList)⟩
      simp at hj
    | _=>simp [AV.laid] at hx; subst hx; exact one _ _ h0 h2 rfl (by simp) (by simp)
  | agg xs' =>
    simp only [RV] at h1
    obtain ⟨us,rfl,h3⟩:=h1
    simp [AV.laid] at hx; subst hx
    refine ⟨by simpa [Value.cells] using h3.strips,fun j n ys fl u' hj _=>?_,cellsOK_strips _⟩
    simp only [List.getElem?_map,Option.map_eq_some_iff] at hj
    obtain ⟨_,_,hj⟩:=hj
    rw [strip_sl hj]; trivial
  | nptr xs=>simp only [RV] at h1
  | anyb =>
    have h0:=h1
    simp only [RV] at h1
    obtain ⟨b,rfl⟩:=h1
    simp [AV.laid] at hx; subst hx; exact one _ _ h0 h2 rfl (by simp) (by simp)
  | sl n xs' fl =>
    have h0:=h1
    simp only [RV] at h1
    have hcell : u.cells.toList = [u]:=by rcases h1 with ⟨⟨A,rfl⟩,_⟩ | ⟨k,o,c,us,rfl,_⟩ <;> rfl
    have bor : RV g.μ g.G w (.sl n xs' .bor) u:=by simpa only [RV] using h0
    cases fl with
    | bor=>simp [AV.laid] at hx; subst hx; exact one _ _ h0 h2 hcell (by simp) (by simp)
    | full=>simp [AV.laid] at hx; subst hx; exact one _ _ h0 h2 hcell (by simp) (by simp)
    | lit i=>simp [AV.laid] at hx; subst hx; exact one _ _ bor trivial hcell (by simp) (by simp)
    | own i z =>
      simp only [AV.laid] at hx
      split at hx
      · cases hx; exact one _ _ bor trivial hcell (by simp) (by simp)
      · rename_i hg; cases hx; exact one _ _ h0 h2 hcell (fun n ys i z h=>by cases h; exact hg) (by simp)
  | ptr b off =>
    have h0:=h1
    simp only [RV] at h1
    obtain ⟨k,_,rfl⟩:=h1
    simp [AV.laid] at hx; subst hx; exact one _ _ h0 h2 rfl (by simp) (by simp)
  | iptr xs' =>
    have h0:=h1
    simp only [RV] at h1
    obtain ⟨k,o,us,rfl,_⟩:=h1
    simp [AV.laid] at hx; subst hx; exact one _ _ h0 h2 rfl (by simp) (by simp)
  | view b off n c sz =>
    have h0:=h1
    simp only [RV] at h1
    obtain ⟨k,o,_,_,rfl,_⟩:=h1
    simp [AV.laid] at hx; subst hx; exact one _ _ h0 h2 rfl (by simp) (by simp)
  | fn f xs' =>
    have h0:=h1
    simp only [RV] at h1
    obtain ⟨us,rfl,_⟩:=h1
    simp [AV.laid] at hx; subst hx; exact one _ _ h0 h2 rfl (by simp) (by simp)
theorem out_box (hv : Valid N g box w) (hρ : Rel g w a ρ) (t : TypeId) (x : Operand) (ho : o.op = .box t x) {cs : List AV} (hc : (ρ x).laid = some cs) :
    GOut P N g box w o a d { v:=.ptr (.own N.lvl d (g.U d + 1)) 0,bump:=true,cont:=some cs }:=by
  obtain ⟨l1,l2,l3⟩:=laid_rel (hρ x) hc
  refine out_newbox hv (us:=(a.eval x).cells.toList) (w1:=w.alloc (.cells (a.eval x).cells t)) (u:=.pointer (some ⟨w.heap.size,0,none⟩)) l1 (below_alloc' _ _) w.heap.size (Nat.le_refl _) (alloc_at _ _) ?_ ?_ ?_ ?_ (fun _=>trivial) l2 l3
  · simp
  · intro j _; simp
  · refine run_value (s := Instr.box t (a.eval x)) ?_ (by unfold execOp; rw [ho])
    simp [Instr.box,newVar,newRow]
  · simp only [RV]; exact ⟨w.heap.size,by simp,rfl⟩
theorem out_boximm (hv : Valid N g box w) (hρ : Rel g w a ρ) (t : TypeId) (x : Operand) (ho : o.op = .box t x) {cs : List AV} (hc : (ρ x).laid = some cs) :
    GOut P N g box w o a d { v:=.iptr cs }:=by
  obtain ⟨l1,l2,l3⟩:=laid_rel (hρ x) hc
  have hb : Below w.heap.size w (w.alloc (.cells (a.eval x).cells t)):=below_alloc' _ _
  have hv1:=hv.world hb
  obtain ⟨n1,n2,n3⟩:=hv.noneAt (Nat.le_refl w.heap.size)
  have hw0:=hv.chg.size
  have hcs : ∀ j,j < (a.eval x).cells.toList.length→at_ (w.alloc (.cells (a.eval x).cells t)) w.heap.size j = (a.eval x).cells.toList[j]?:=fun j hj=>by
    rw [at_row (alloc_at _ _)]; simp
  have hv2:=hv1.addG (fun k' j=>k' = w.heap.size ∧ j < (a.eval x).cells.toList.length) (by
    rintro k' j ⟨rfl,hj⟩
    exact ⟨by rw [hcs j hj]; simp at hj ⊢; exact hj,fun h=>by omega,n2,fun i lo hi h=>absurd h (n3 i lo hi)⟩)
  have hle:=(hv.le_world hb).trans (Le.addG (g:=g) (w:=w.alloc (.cells (a.eval x).cells t)) (fun k' j=>k' = w.heap.size ∧ j < (a.eval x).cells.toList.length))
  refine ⟨.pointer (some ⟨w.heap.size,0,none⟩),_,_,?_,hv2,hle,rfl,rfl,?_,trivial⟩
  · refine run_value (s := Instr.box t (a.eval x)) ?_ (by unfold execOp; rw [ho])
    simp [Instr.box,newVar,newRow]
  · simp only [RV]
    exact ⟨w.heap.size,0,_,rfl,RVs.le hle l1,fun j hj=>⟨by rw [Nat.zero_add]; exact hcs j hj,.inr ⟨rfl,by omega⟩⟩⟩
end
end Go.Abs
namespace Go.Abs
set_option linter.unusedSimpArgs false
set_option linter.unusedVariables false
open Go Go.RowKit
section
variable {P : Program} {N : Ent} {g : Ghost} {box : Boxes} {w : World} {o : Oper} {a : Act} {d : Nat} {ρ : Operand→AV} {te : TypeId→Option TI}
theorem Top.strip (v : AV) (u : Value) : Top g (strip v) u:=by
  cases v <;> trivial
theorem part_rel (hte : TeOK P te) {t : TypeId} {cs : List AV} {us : List Value} (hr : RVs g.μ g.G w cs us) {off : Nat} {v : AV} (h : partV te t cs off = some v) :
    ∃ ti,te t = some ti ∧ if isAggK ti.kind then off + ti.size ≤ cs.length ∧ v = .agg ((cs.drop off).take ti.size) else ∃ x,cs[off]? = some x ∧ v = strip x:=by
  unfold partV at h
  cases e : te t with
  | none=>rw [e] at h; simp at h
  | some ti =>
    rw [e] at h
    simp only [Option.bind_some] at h
    refine ⟨ti,rfl,?_⟩
    split at h
    · rw [if_pos ‹_›]
      split at h
      · cases h; exact ⟨‹_›,rfl⟩
      · cases h
    · rw [if_neg ‹_›]
      simp only [Option.map_eq_some_iff] at h
      obtain ⟨x,h1,h2⟩:=h
      exact ⟨x,h1,h2.symm⟩
theorem run_loadVar_rel (hte : TeOK P te) {t : TypeId} {cs : List AV} {us : List Value} {k b off : Nat} (hr : RVs g.μ g.G w cs us) (hm : ∀ j,j < us.length → at_ w k (b + j) = us[j]?)
    {v : AV} (h : partV te t cs off = some v) : ∃ u,(loadVar t ⟨k,b + off,none⟩).run P w = .ok u w ∧ RV g.μ g.G w v u ∧ Top g v u:=by
  obtain ⟨ti,ht,h1⟩:=part_rel (w:=w) (g:=g) hte hr h
  have hl:=hr.length
  split at h1
  · rename_i hagg
    obtain ⟨h2,rfl⟩:=h1
    obtain ⟨dd,hu,hk⟩:=(hte t ti ht).under
    obtain ⟨i,z,hi,hs,_⟩:=(hte t ti ht).info
    have hrow : dd.isRow = true:=by
      cases hkk : ti.kind <;> rw [hkk] at hk hagg <;> simp only [isAggK,TKis] at hk hagg <;> try (cases hagg)
      · subst hk; rfl
      · obtain ⟨f,rfl,_⟩:=hk; rfl
    refine ⟨_,run_loadVar_mid w k (b + off) t ((us.drop off).take ti.size) dd ?_ hu hrow (by simp [hi,hs,hl]; omega),?_,trivial⟩
    · intro j v hv
      have hj : j < ti.size:=by
        rcases Nat.lt_or_ge j ti.size with h | h
        · exact h
        · rw [List.getElem?_eq_none (by simp; omega)] at hv; cases hv
      rw [List.getElem?_take,if_pos hj,List.getElem?_drop] at hv
      have:=hm (off + j) (by rcases Nat.lt_or_ge (off + j) us.length with h | h; exact h; rw [List.getElem?_eq_none h] at hv; cases hv)
      rw [Nat.add_assoc]; exact this.trans hv
    · simp only [RV]; exact ⟨_,rfl,(hr.drop off).take ti.size⟩
  · rename_i hagg
    obtain ⟨x,hx,rfl⟩:=h1
    obtain ⟨u,hu,hrv⟩:=hr.get off x hx
    have hlt : off < us.length:=by rw [hl]; exact (List.getElem?_eq_some_iff.1 hx).1
    refine ⟨u,?_,hrv.strip,Top.strip _ _⟩
    have hc : w.cell? ⟨k,b + off,none⟩ = some u:=(hm off hlt).trans hu
    simp [loadVar,run_isAgg hte ht,hagg,load,Sem.run,hc]
theorem run_loadBox_rel (hte : TeOK P te) (hv : Valid N g box w) {t : TypeId} {b : Bx} {k off : Nat} {cs : List AV} (hb : g.μ b = some k) (hx : box b = some cs) {v : AV} (h : partB te t cs off = some v) :
    ∃ u,(loadVar t ⟨k,off,none⟩).run P w = .ok u w ∧ RV g.μ g.G w v u ∧ Top g v u:=by
  obtain ⟨us0,el,us,hr1,hr2,hr3,hr⟩:=hv.cont b k cs hb hx
  have hm : ∀ j,j < us.length→at_ w k j = us[j]?:=fun j hj=>by rw [at_row hr1]; exact hr3 j hj
  have hl:=hr.length
  unfold partB at h
  simp only [Option.bind_eq_some_iff] at h
  obtain ⟨ti,ht,h⟩:=h
  split at h
  · rename_i hagg
    split at h
    · rename_i hle
      cases h
      have h' : partV te t cs off = some (.agg ((cs.drop off).take ti.size)):=by
        unfold partV
        rw [ht,Option.bind_some,if_pos hagg,if_pos hle]
      obtain ⟨u,h1,h2,h3⟩:=run_loadVar_rel (k:=k) (b:=0) (P:=P) hte hr (by simpa using hm) h'
      exact ⟨u,by simpa using h1,h2,trivial⟩
    · cases h
  · rename_i hagg
    simp only [Option.bind_eq_some_iff] at h
    obtain ⟨x,hx',h⟩:=h
    have hvx : v = x ∧ ∀ vs,x ≠ .tup vs:=by
      split at h
      · cases h
      · cases h; rename_i hn; exact ⟨rfl,fun vs e=>hn vs e⟩
    obtain ⟨rfl,hnt⟩:=hvx
    obtain ⟨u,hu,hrv⟩:=hr.get off _ hx'
    have hlt : off < us.length:=by rw [hl]; exact (List.getElem?_eq_some_iff.1 hx').1
    have hat : at_ w k off = some u:=(hm off hlt).trans hu
    refine ⟨u,?_,hrv,?_⟩
    · have hc : w.cell? ⟨k,off,none⟩ = some u := hat
      simp [loadVar,run_isAgg hte ht,hagg,load,Sem.run,hc]
    · cases v with
      | sl n xs fl=>exact hv.ctop b k cs hb hx off n xs fl u hx' hat
      | tup vs=>exact absurd rfl (hnt vs)
      | _=>trivial
theorem Valid.box_cells (hv : Valid N g box w) {b : Bx} {k : Nat} {xs : List AV} (hb : g.μ b = some k) (hx : box b = some xs) :
    ∃ us,RVs g.μ g.G w xs us ∧ (∀ j,j < us.length→at_ w k j = us[j]?) ∧ (∀ j,j < us.length→w.frozen? ⟨k,j,none⟩ = false):=by
  obtain ⟨cs,el,us,h1,h2,h3,h4⟩:=hv.cont b k xs hb hx
  exact ⟨us,h4,fun j hj=>by rw [at_row h1]; exact h3 j hj,fun j _=>frozen_row h1⟩
theorem out_load (hte : TeOK P te) (hv : Valid N g box w) (hρ : Rel g w a ρ) (t : TypeId) (x : Operand) (ho : o.op = .load t x) {v : AV} (h : loadV te box t (ρ x) = some v) : GOut P N g box w o a d { v }:=by
  have hx:=(hρ x).1
  have key : ∀ (k off : Nat) (v : AV) (u : Value),a.eval x = .pointer (some ⟨k,off,none⟩)→(loadVar t ⟨k,off,none⟩).run P w = .ok u w→(execOp a.eval o).run P w = .ok (.value u) w:=fun k off v u he hl=>by
    refine run_value (s:=Instr.loadAt t (a.eval x)) ?_ (by unfold execOp; rw [ho])
    simp only [he,Instr.loadAt,Instr.sureAddr,Sem.run_bind,Sem.run_pure,Result.andThen_ok,hl]
  unfold loadV at h
  split at h
  · rename_i b off e
    rw [e] at hx; simp only [RV] at hx
    obtain ⟨k,hk,he⟩:=hx
    simp only [Option.bind_eq_some_iff] at h
    obtain ⟨xs,hxs,h⟩:=h
    obtain ⟨u,hu,h6,h7⟩:=run_loadBox_rel (P:=P) hte hv hk hxs h
    exact .pure hv (key k off v u he hu) h6 h7
  · rename_i xs e
    rw [e] at hx; simp only [RV] at hx
    obtain ⟨k,off,us,he,h4,h5⟩:=hx
    obtain ⟨u,hu,h6,h7⟩:=run_loadVar_rel (k:=k) (b:=off) hte h4 (fun j hj=>(h5 j hj).1) h
    exact .pure hv (key k off v u he (by simpa using hu)) h6 h7
  · cases h
theorem out_nilCheck (hv : Valid N g box w) (hρ : Rel g w a ρ) (x : Operand) (ho : o.op = .nilCheck x) {v : AV} (h : (match ρ x with | .ptr b o => some (AV.ptr b o) | .iptr xs => some (.iptr xs) | .fn f cs => some (.fn f cs) | _ => none) = some v) :
    GOut P N g box w o a d { v }:=by
  have hx:=(hρ x).1
  have hvx : v = ρ x:=by
    revert h; cases ρ x <;> intro h <;> simp only [reduceCtorEq,Option.some.injEq] at h <;> exact h.symm
  subst hvx
  refine .pure hv (u:=a.eval x) ?_ (hρ x).1 (hρ x).2
  have hx:=(hρ x).1
  revert h hx
  cases ρ x <;> intro h hx <;> simp only [reduceCtorEq] at h <;> simp only [RV] at hx
  · obtain ⟨k,_,he⟩:=hx; unfold execOp; rw [ho]; simp only [he]; rfl
  · obtain ⟨k,off,us,he,_⟩:=hx; unfold execOp; rw [ho]; simp only [he]; rfl
  · obtain ⟨us,he,_⟩:=hx; unfold execOp; rw [ho]; simp only [he]; rfl
theorem out_unOp (hv : Valid N g box w) (hρ : Rel g w a ρ) (op : UnOp) (t : TypeId) (x : Operand) (ho : o.op = .unOp op t x) {v : AV} (h : unV op (ρ x) = some v) : GOut P N g box w o a d { v }:=by
  have hx:=(hρ x).1
  have key : ∀ u : Value,(Op.unary op (a.eval x)).run P w = .ok u w→(execOp a.eval o).run P w = .ok (.value u) w:=fun u hu=>run_value hu (by unfold execOp; rw [ho])
  have fin : ∀ u : Value,(Op.unary op (a.eval x)).run P w = .ok u w→RV g.μ g.G w v u→Top g v u→GOut P N g box w o a d { v }:=fun u h1 h2 h3=>.pure hv (key u h1) h2 h3
  clear key hρ
  revert h hx fin
  generalize a.eval x = u0
  generalize ρ x = x0
  intro h hx fin
  unfold unV at h
  split at h
  · cases h; simp only [RV] at hx; subst hx; exact fin _ rfl (by simp only [RV]) trivial
  · cases h; simp only [RV] at hx; subst hx; exact fin _ rfl (by simp only [RV]) trivial
  · cases h; simp only [RV] at hx; subst hx; exact fin _ rfl (by simp only [RV]) trivial
  · cases h; simp only [RV] at hx; obtain ⟨b,rfl⟩:=hx; exact fin (.bool !b) rfl (by simp only [RV]; exact ⟨_,rfl⟩) trivial
  · cases h
theorem out_extract (hv : Valid N g box w) (hρ : Rel g w a ρ) (x : Operand) (i : Nat) (ho : o.op = .extract x i) {vs : List AV} (he : ρ x = .tup vs) {v : AV} (h : vs[i]? = some v) (hnt : ∀ vs,v ≠ .tup vs) : GOut P N g box w o a d { v }:=by
  have hx:=(hρ x).1
  have ht:=(hρ x).2
  rw [he] at hx ht; simp only [RV] at hx; simp only [Top] at ht
  obtain ⟨us,hu,hr⟩:=hx
  obtain ⟨us',hu',ht⟩:=ht
  obtain ⟨u,h1,h2⟩:=hr.get i v h
  refine .pure hv (u:=u) ?_ h2 ?_
  · refine run_value (s := Instr.extract (a.eval x) i) ?_ (by unfold execOp; rw [ho])
    rw [hu]; simp [Instr.extract,h1]
  · rw [hu] at hu'; cases hu'
    cases v with
    | sl n xs fl=>exact ht i n xs fl u h (by simpa using h1)
    | tup vs=>exact absurd rfl (hnt vs)
    | _=>trivial
theorem out_makeFunc (hv : Valid N g box w) (hρ : Rel g w a ρ) (f : FuncId) (first caps : Array Operand) (ho : o.op = .makeFunc (.func f) first caps) (h0 : first.size = 0) :
    GOut P N g box w o a d { v:=.fn f (caps.toList.map ρ) }:=by
  refine .pure hv (u:=.func (.func f) #[] (caps.map a.eval)) ?_ ?_ trivial
  · refine run_value (s := Instr.makeFunc (.func f) (first.map a.eval) (caps.map a.eval)) ?_ (by unfold execOp; rw [ho])
    have : first = #[]:=Array.eq_empty_of_size_eq_zero h0
    subst this; simp [Instr.makeFunc]
  · simp only [RV]
    refine ⟨caps.toList.map a.eval,by rw [← Array.toList_map,Array.toArray_toList],RVs.of_get (by simp) fun j x u hx hu=>?_⟩
    simp only [List.getElem?_map,Option.map_eq_some_iff] at hx hu
    obtain ⟨y,h1,rfl⟩:=hx
    obtain ⟨y',h2,rfl⟩:=hu
    rw [h1] at h2; cases h2
    exact (hρ y).1
end
end Go.Abs
namespace Go.Abs
set_option linter.unusedSimpArgs false
set_option linter.unusedVariables false
open Go Go.RowKit
section
variable {P : Program} {N : Ent} {g : Ghost} {box : Boxes} {w : World} {o : Oper} {a : Act} {d : Nat} {ρ : Operand→AV} {te : TypeId→Option TI}
theorem run_eqGuard_plain (op : BinOp) (t : TypeId) (x y : Operand) (u v : Value) (h1 : ∀ cs,u ≠ .agg cs) (h2 : u ≠ .nilIface) : (eqGuard op t x y u v).run P w = .ok () w:=by
  unfold eqGuard
  cases op <;> simp <;> (cases u <;> first | rfl | exact absurd rfl (h1 _) | exact absurd rfl h2)
theorem run_shift {op : BinOp} {k k' : IntKind} {x y : Int} {v : AV} (h : shiftV op k x y = some v) : ∃ u,v = .raw u ∧ (Op.shift op k x k' y).run P w = .ok u w:=by
  unfold shiftV at h
  split at h
  · cases h
  · rename_i hy
    split at h
    · cases h; exact ⟨_,rfl,by simp [Op.shift,hy]⟩
    · cases h; exact ⟨_,rfl,by simp [Op.shift,hy]⟩
    · cases h
theorem run_int {op : BinOp} {t : TypeId} {k : IntKind} {x y : Int} {v : AV} (h : intV op k x y = some v) : ∃ u,v = .raw u ∧ (binOp op t (.int k x) (.int k y)).run P w = .ok u w:=by
  unfold intV at h
  split at h
  case h_4 => split at h; · cases h
              · rename_i hy; cases h; exact ⟨_,rfl,by simp [binOp,Op.intDiv,hy]⟩
  case h_5 => split at h; · cases h
              · rename_i hy; cases h; exact ⟨_,rfl,by simp [binOp,Op.intDiv,hy]⟩
  all_goals first
    | (cases h; exact ⟨_,rfl,by simp [binOp,Op.intArith,Op.intBits,Op.intCmp]⟩)
    | (cases h)
theorem asInts_rel {μ : Bx → Option Nat} {G : Nat → Nat → Prop} : ∀ {xs : List AV} {us : List Value} {zs : List (IntKind × Int)},RVs μ G w xs us → asInts xs = some zs → us = zs.map fun z => .int z.1 z.2
  | [],us,zs,hr,h=>by simp only [RVs] at hr; simp [asInts] at h; subst h hr; rfl
  | x :: xs,us,zs,hr,h=>by
    simp only [RVs] at hr
    obtain ⟨u,us',rfl,h1,h2⟩:=hr
    unfold asInts at h
    split at h
    · rename_i heq; cases heq
    · rename_i heq
      cases heq
      simp only [Option.map_eq_some_iff] at h
      obtain ⟨zs',h3,rfl⟩:=h
      simp only [RV] at h1
      subst h1
      rw [asInts_rel h2 h3]; rfl
    · cases h
theorem run_eqItems_int {P : Program} {w : World} (D : Nat) {e : TypeId} {k : IntKind} (he : P.underlying e = some (.int k)) (us vs : List (IntKind × Int)) (hu : ∀ z ∈ us,z.1 = k) (hv : ∀ z ∈ vs,z.1 = k) :
    ∀ (is : List Nat),(∀ i ∈ is,i < us.length ∧ i < vs.length) → (Op.eqItems (D + 1) e 1 (us.map fun z => Value.int z.1 z.2).toArray (vs.map fun z => Value.int z.1 z.2).toArray is).run P w
      = .ok (is.all fun i=>(us[i]?).map (·.2) == (vs[i]?).map (·.2)) w
  | [],_=>rfl
  | i :: is,h=>by
    obtain ⟨h1,h2⟩:=h i (by simp)
    have ih:=run_eqItems_int (w:=w) D he us vs hu hv is (fun j hj=>h j (by simp [hj]))
    have hp : ∀ (zs : List (IntKind × Int)) (hz : ∀ z ∈ zs,z.1 = k) (hi : i < zs.length),(part e (zs.map fun z=>Value.int z.1 z.2).toArray (i * 1)).run P w = .ok (.int k zs[i].2) w:=fun zs hz hi=>by
      have hk : zs[i].1 = k:=hz _ (List.getElem_mem hi)
      simp [part,isAgg,run_underlying he,hi,hk]
    simp only [Op.eqItems,Sem.run_bind,hp us hu h1,hp vs hv h2,Result.andThen_ok,run_equalIn_int w D e k k _ _ he,List.all_cons,List.getElem?_eq_getElem h1,List.getElem?_eq_getElem h2,Option.map_some]
    by_cases hx : us[i].2 = vs[i].2
    · simp [hx,ih]
    · simp [hx]
theorem all_eq_iff (us vs : List Int) (h : us.length = vs.length) : ((List.range us.length).all fun i=>us[i]? == vs[i]?) = (us == vs):=by
  rw [Bool.eq_iff_iff,List.all_eq_true,beq_iff_eq]
  constructor
  · intro h1
    refine List.ext_getElem? fun i=>?_
    rcases Nat.lt_or_ge i us.length with hi | hi
    · simpa using h1 i (by simpa using hi)
    · rw [List.getElem?_eq_none hi,List.getElem?_eq_none (by omega)]
  · rintro rfl i _; simp
theorem run_equal_ints {t e : TypeId} {n : Nat} {k : IntKind} {ti : TI} (hte : TeOK P te) (h1 : P.underlying t = some (.array n e)) (h2 : te e = some ti) (h3 : ti.kind = .int k) (h4 : ti.size = 1)
    (us vs : List (IntKind × Int)) (hu : us.length = n) (hv : vs.length = n) (ku : ∀ z ∈ us,z.1 = k) (kv : ∀ z ∈ vs,z.1 = k) :
    (Op.equal t (.agg (us.map fun z=>Value.int z.1 z.2).toArray) (.agg (vs.map fun z=>Value.int z.1 z.2).toArray)).run P w = .ok (us.map (·.2) == vs.map (·.2)) w:=by
  obtain ⟨d,hd,hk⟩:=(hte e ti h2).under
  obtain ⟨i,z,hi,hs,_⟩:=(hte e ti h2).info
  rw [h3] at hk; simp only [TKis] at hk; subst hk
  have:=run_equalIn_array (P:=P) w 9999 (us.map fun z=>Value.int z.1 z.2).toArray (vs.map fun z=>Value.int z.1 z.2).toArray h1 hi
  have hc : P.cellsOf e = 1:=by simp [Program.cellsOf,hi,hs,h4]
  unfold Op.equal
  rw [show Op.maxDepth = 9999 + 1 from rfl,this,hc,run_eqItems_int 9998 hd us vs ku kv (List.range n) (fun i hi=>by simp at hi; omega)]
  congr 1
  have:=all_eq_iff (us.map (·.2)) (vs.map (·.2)) (by simp [hu,hv])
  rw [← this]
  simp [hu]
theorem run_eqGuard_array {op : BinOp} {t e : TypeId} {n : Nat} {k : IntKind} (h1 : P.underlying t = some (.array n e)) (h2 : P.underlying e = some (.int k)) (x y : Operand) (xs ys : Array Value) :
    (eqGuard op t x y (.agg xs) (.agg ys)).run P w = .ok () w:=by
  have hg : P.eqGuardType P.depth t = false:=by
    have hd : ∃ m,P.depth = m + 2:=⟨2 * (P.types.size + Made.depth),rfl⟩
    obtain ⟨m,hm⟩:=hd
    rw [hm]; simp [Program.eqGuardType,h1,h2]
  unfold eqGuard
  cases op <;> simp [hg]
theorem run_eqFields_i64 (D : Nat) (us vs : List (IntKind × Int)) (hu : ∀ z ∈ us,z.1 = .i64) (hv : ∀ z ∈ vs,z.1 = .i64) :
    ∀ (fs : List Field), (∀ f ∈ fs, f.name ≠ "_" ∧ P.underlying f.type = some (.int .i64) ∧ f.offset < us.length ∧ f.offset < vs.length) → (Op.eqFields (D + 1) (us.map fun z => Value.int z.1 z.2).toArray (vs.map fun z => Value.int z.1 z.2).toArray fs).run P w
      = .ok (fs.all fun f=>(us[f.offset]?).map (·.2) == (vs[f.offset]?).map (·.2)) w
  | [],_=>rfl
  | f :: fs,h=>by
    obtain ⟨hn,he,h1,h2⟩:=h f (by simp)
    have ih:=run_eqFields_i64 D us vs hu hv fs (fun j hj=>h j (by simp [hj]))
    have hp : ∀ (zs : List (IntKind × Int)) (hz : ∀ z ∈ zs,z.1 = .i64) (hi : f.offset < zs.length),(part f.type (zs.map fun z=>Value.int z.1 z.2).toArray f.offset).run P w = .ok (.int .i64 zs[f.offset].2) w:=fun zs hz hi=>by
      have hk : zs[f.offset].1 = .i64:=hz _ (List.getElem_mem hi)
      simp [part,isAgg,run_underlying he,hi,hk]
    simp only [Op.eqFields,hn,ne_eq,not_false_eq_true,if_true,Sem.run_bind,hp us hu h1,hp vs hv h2,Result.andThen_ok,run_equalIn_int w D f.type .i64 .i64 _ _ he,List.all_cons,List.getElem?_eq_getElem h1,List.getElem?_eq_getElem h2,Option.map_some]
    by_cases hx : us[f.offset].2 = vs[f.offset].2
    · simp [hx,ih]
    · simp [hx]
theorem run_equal_st {t : TypeId} {fs : Array Field} (h1 : P.underlying t = some (.struct fs)) (hn : ∀ f ∈ fs.toList, f.name ≠ "_") (ht : ∀ f ∈ fs.toList, P.underlying f.type = some (.int .i64)) (hs : P.stoodInHeld t = false)
    (us vs : List (IntKind × Int)) (ho : fs.toList.map (·.offset) = List.range us.length) (hl : vs.length = us.length) (ku : ∀ z ∈ us,z.1 = .i64) (kv : ∀ z ∈ vs,z.1 = .i64) :
    (Op.equal t (.agg (us.map fun z=>Value.int z.1 z.2).toArray) (.agg (vs.map fun z=>Value.int z.1 z.2).toArray)).run P w = .ok (us.map (·.2) == vs.map (·.2)) w:=by
  have hfs : P.fieldsOf t = fs:=by simp [Program.fieldsOf,h1]
  have hlt : ∀ f ∈ fs.toList,f.offset < us.length:=fun f hf=>by
    have : f.offset ∈ fs.toList.map (·.offset):=List.mem_map_of_mem hf
    rw [ho] at this; simpa using this
  unfold Op.equal
  rw [show Op.maxDepth = 9999 + 1 from rfl,run_equalIn_struct w 9999 t _ _ (by rw [hfs]; exact h1) hs,hfs,run_eqFields_i64 9998 us vs ku kv fs.toList (fun f hf=>⟨hn f hf,ht f hf,hlt f hf,by rw [hl]; exact hlt f hf⟩)]
  congr 1
  have:=all_eq_iff (us.map (·.2)) (vs.map (·.2)) (by simp [hl])
  rw [← this,List.length_map,← ho,List.all_map]
  simp [Function.comp_def]
theorem run_eqGuard_st {op : BinOp} {t : TypeId} {fs : Array Field} (h1 : P.underlying t = some (.struct fs)) (h2 : ∀ f ∈ fs.toList,P.underlying f.type = some (.int .i64)) (x y : Operand) (xs ys : Array Value) :
    (eqGuard op t x y (.agg xs) (.agg ys)).run P w = .ok () w:=by
  have hg : P.eqGuardType P.depth t = false:=by
    have hd : ∃ m,P.depth = m + 2:=⟨2 * (P.types.size + Made.depth),rfl⟩
    obtain ⟨m,hm⟩:=hd
    rw [hm,Program.eqGuardType,h1]
    show (fs.any fun f => f.name != "_" && P.eqGuardType (m + 1) f.type) = false
    rw [← Bool.not_eq_true,← Array.any_toList,List.any_eq_true]
    rintro ⟨f,hf,hb⟩
    simp [Program.eqGuardType,h2 f hf] at hb
  unfold eqGuard
  cases op <;> simp [hg]
theorem isI64_of {k : TK} (h : TK.isI64 k = true) : k = .int .i64:=by
  unfold TK.isI64 at h
  split at h
  · rfl
  · cases h
theorem run_binop_plain {op : BinOp} {t : TypeId} {xo yo : Operand} {u v r : Value} {ty : TypeId} (ho : o.op = .binOp op t xo yo ty) (hu : a.eval xo = u) (hv : a.eval yo = v)
    (hg : (eqGuard op t xo yo u v).run P w = .ok () w) (hb : (binOp op t u v).run P w = .ok r w) : (execOp a.eval o).run P w = .ok (.value r) w:=by
  refine run_value (s:=do eqGuard op t xo yo (a.eval xo) (a.eval yo); binOp op t (a.eval xo) (a.eval yo)) ?_ (by unfold execOp; rw [ho])
  rw [hu,hv,Sem.run_bind,hg]; exact hb
theorem run_eql {op : BinOp} {t : TypeId} {u v : Value} {b : Bool} {r : AV} (he : (Op.equal t u v).run P w = .ok b w) (h : eqNeg op b = some r)
    (hbin : ∀ op',op' = .eql ∨ op' = .neq→binOp op' t u v = (match op' with | .eql=>(do pure (.bool (← Op.equal t u v))) | _=>(do pure (.bool (!(← Op.equal t u v)))))) :
    ∃ x,r = .raw x ∧ (binOp op t u v).run P w = .ok x w:=by
  unfold eqNeg at h
  split at h
  · cases h; refine ⟨_,rfl,?_⟩; rw [hbin _ (.inl rfl)]; simp [he]
  · cases h; refine ⟨_,rfl,?_⟩; rw [hbin _ (.inr rfl)]; simp [he]
  · cases h
theorem run_equal_ptr_nil {t e : TypeId} (h : P.underlying t = some (.pointer e)) (p : Option Addr) : (Op.equal t (.pointer p) (.pointer none)).run P w = .ok p.isNone w:=by
  have hp : P.pointee t = e:=by simp [Program.pointee,h]
  rw [run_equal_pointer_nil w t p (by rw [hp]; exact h)]
theorem run_equal_slice_nil' {t e : TypeId} (h : P.underlying t = some (.slice e)) (x : Option Addr) (n c : Nat) : (Op.equal t (.slice x n c) (.slice none 0 0)).run P w = .ok x.isNone w:=run_equal_slice_nil w t e x n c h
theorem out_binOp (hte : TeOK P te) (hv : Valid N g box w) (hρ : Rel g w a ρ) (op : BinOp) (t : TypeId) (x y : Operand) (ty : TypeId) (ho : o.op = .binOp op t x y ty) {v : AV} (h : binV te op t (ρ x) (ρ y) = some v) :
    GOut P N g box w o a d { v }:=by
  have hx:=(hρ x).1
  have hy:=(hρ y).1
  have fin : ∀ u1 u2 r : Value,a.eval x = u1→a.eval y = u2→(eqGuard op t x y u1 u2).run P w = .ok () w→(binOp op t u1 u2).run P w = .ok r w→RV g.μ g.G w v r→Top g v r→GOut P N g box w o a d { v } :=
    fun u1 u2 r e1 e2 e3 e4 e5 e6=>.pure hv (run_binop_plain ho e1 e2 e3 e4) e5 e6
  have pl : ∀ u v : Value,(∀ cs,u ≠ .agg cs)→u ≠ .nilIface→(eqGuard op t x y u v).run P w = .ok () w:=fun u v h1 h2=>run_eqGuard_plain op t x y u v h1 h2
  revert h hx hy fin pl
  generalize ρ x = x0
  generalize ρ y = y0
  generalize a.eval x = u1
  generalize a.eval y = u2
  intro h hx hy fin pl
  unfold binV at h
  split at h
  · -- whole numbers
    simp only [RV] at hx hy; subst hx; subst hy
    rename_i k aa k' bb
    split at h
    · obtain ⟨u,rfl,hr⟩ := run_shift (P := P) (w := w) (k' := k') h
      exact fin _ _ u rfl rfl (pl _ _ (by simp) (by simp)) (by simpa [binOp] using hr) (by simp only [RV]) trivial
    · obtain ⟨u,rfl,hr⟩ := run_shift (P := P) (w := w) (k' := k') h
      exact fin _ _ u rfl rfl (pl _ _ (by simp) (by simp)) (by simpa [binOp] using hr) (by simp only [RV]) trivial
    · split at h
      · rename_i hk; subst hk
        obtain ⟨u,rfl,hr⟩:=run_int (P:=P) (w:=w) (t:=t) h
        exact fin _ _ u rfl rfl (pl _ _ (by simp) (by simp)) hr (by simp only [RV]) trivial
      · cases h
  · -- bools
    simp only [RV] at hx hy; subst hx; subst hy
    split at h
    · rename_i hk
      obtain ⟨_,_,_,dd,hd,hk2⟩:=kd_some hte hk (by simp)
      simp only [TKis] at hk2; subst hk2
      obtain ⟨r,rfl,hr⟩:=run_eql (run_equal_bool w t _ _ hd) h (by rintro op' (rfl | rfl) <;> rfl)
      exact fin _ _ r rfl rfl (pl _ _ (by simp) (by simp)) hr (by simp only [RV]) trivial
    · cases h
  · -- strings
    simp only [RV] at hx hy; subst hx; subst hy
    rename_i sa sb
    split at h
    · cases h
      refine fin _ _ (.bool (sa.data.toList == sb.data.toList)) rfl rfl (pl _ _ (by simp) (by simp)) ?_ (by simp only [RV]) trivial
      rw [← ByteArray.toList_eq,← ByteArray.toList_eq]; simp [binOp,Op.stringOp]
    · cases h
      refine fin _ _ (.bool !(sa.data.toList == sb.data.toList)) rfl rfl (pl _ _ (by simp) (by simp)) ?_ (by simp only [RV]) trivial
      rw [← ByteArray.toList_eq,← ByteArray.toList_eq]; simp [binOp,Op.stringOp]
    · split at h
      · rename_i hsz
        cases h
        refine fin _ _ (.string (sa ++ sb)) rfl rfl (pl _ _ (by simp) (by simp)) ?_ (by simp only [RV]) trivial
        have h2 : IntKind.i64.max = 9223372036854775807:=rfl
        have : ¬ ((sa.size : Int) + (sb.size : Int) > IntKind.i64.max):=by omega
        simp [binOp,Op.stringOp,this]
        omega
      · cases h
    · cases h
  · simp only [RV] at hx hy; subst hx; subst hy
    split at h
    · rename_i e hk
      obtain ⟨_,_,_,dd,hd,hk2⟩:=kd_some hte hk (by simp)
      simp only [TKis] at hk2; subst hk2
      obtain ⟨r,rfl,hr⟩:=run_eql (run_equal_slice_nil' hd none 0 0) h (by rintro op' (rfl | rfl) <;> rfl)
      exact fin _ _ r rfl rfl (pl _ _ (by simp) (by simp)) hr (by simp only [RV]) trivial
    · cases h
  · -- a slice and nil
    simp only [RV] at hy; subst hy
    rename_i n xs fl
    have hsl : ∃ A c,u1 = .slice A n c ∧ (n ≠ 0→A ≠ none):=by
      simp only [RV] at hx
      rcases hx with ⟨⟨A,rfl⟩,rfl,_⟩ | ⟨k,off,c,us,rfl,_⟩
      · exact ⟨A,0,rfl,fun h=>absurd rfl h⟩
      · exact ⟨_,c,rfl,fun _=>by simp⟩
    obtain ⟨A,c,rfl,hA⟩:=hsl
    split at h
    · rename_i e hk
      obtain ⟨_,_,_,dd,hd,hk2⟩:=kd_some hte hk (by simp)
      simp only [TKis] at hk2; subst hk2
      cases h
      refine fin _ _ (.bool A.isNone) rfl rfl (pl _ _ (by simp) (by simp)) (by simp [binOp,run_equal_slice_nil' hd]) ?_ (by split <;> trivial)
      split
      · simp only [RV]; exact ⟨_,rfl⟩
      · rename_i hn; have:=hA hn; simp only [RV]; cases A <;> simp_all
    · rename_i e hk
      obtain ⟨_,_,_,dd,hd,hk2⟩:=kd_some hte hk (by simp)
      simp only [TKis] at hk2; subst hk2
      cases h
      refine fin _ _ (.bool !A.isNone) rfl rfl (pl _ _ (by simp) (by simp)) (by simp [binOp,run_equal_slice_nil' hd]) ?_ (by split <;> trivial)
      split
      · simp only [RV]; exact ⟨_,rfl⟩
      · rename_i hn; have:=hA hn; simp only [RV]; cases A <;> simp_all
    · cases h
  · simp only [RV] at hx hy; subst hy
    obtain ⟨k,off,_,_,rfl,_⟩:=hx
    split at h
    · rename_i e hk
      obtain ⟨_,_,_,dd,hd,hk2⟩:=kd_some hte hk (by simp)
      simp only [TKis] at hk2; subst hk2
      obtain ⟨r,rfl,hr⟩:=run_eql (b:=false) (run_equal_slice_nil' hd (some ⟨k,off,none⟩) _ _) h (by rintro op' (rfl | rfl) <;> rfl)
      exact fin _ _ r rfl rfl (pl _ _ (by simp) (by simp)) hr (by simp only [RV]) trivial
    · cases h
  · -- pointers and nil
    simp only [RV] at hx hy; subst hy
    obtain ⟨k,_,rfl⟩:=hx
    split at h
    · rename_i e hk
      obtain ⟨_,_,_,dd,hd,hk2⟩:=kd_some hte hk (by simp)
      simp only [TKis] at hk2; subst hk2
      obtain ⟨r,rfl,hr⟩:=run_eql (P:=P) (w:=w) (u:=.pointer (some ⟨k,_,none⟩)) (v:=.pointer none) (b:=false) (by rw [run_equal_ptr_nil hd]; rfl) h (by rintro op' (rfl | rfl) <;> rfl)
      exact fin _ _ r rfl rfl (pl _ _ (by simp) (by simp)) hr (by simp only [RV]) trivial
    · cases h
  · simp only [RV] at hx hy; subst hy
    obtain ⟨k,off,_,rfl,_⟩:=hx
    split at h
    · rename_i e hk
      obtain ⟨_,_,_,dd,hd,hk2⟩:=kd_some hte hk (by simp)
      simp only [TKis] at hk2; subst hk2
      obtain ⟨r,rfl,hr⟩:=run_eql (P:=P) (w:=w) (u:=.pointer (some ⟨k,off,none⟩)) (v:=.pointer none) (b:=false) (by rw [run_equal_ptr_nil hd]; rfl) h (by rintro op' (rfl | rfl) <;> rfl)
      exact fin _ _ r rfl rfl (pl _ _ (by simp) (by simp)) hr (by simp only [RV]) trivial
    · cases h
  · simp only [RV] at hx hy; subst hx; subst hy
    split at h
    · rename_i e hk
      obtain ⟨_,_,_,dd,hd,hk2⟩:=kd_some hte hk (by simp)
      simp only [TKis] at hk2; subst hk2
      obtain ⟨r,rfl,hr⟩:=run_eql (P:=P) (w:=w) (u:=.pointer none) (v:=.pointer none) (b:=true) (by rw [run_equal_ptr_nil hd]; rfl) h (by rintro op' (rfl | rfl) <;> rfl)
      exact fin _ _ r rfl rfl (pl _ _ (by simp) (by simp)) hr (by simp only [RV]) trivial
    · cases h
  · -- arrays of whole numbers
    simp only [RV] at hx hy
    obtain ⟨us,rfl,hx⟩:=hx
    obtain ⟨vs,rfl,hy⟩:=hy
    split at h
    · rename_i n e zx zy hk hzx hzy
      obtain ⟨_,_,_,dd,hd,hk2⟩:=kd_some hte hk (by simp)
      simp only [TKis] at hk2; subst hk2
      split at h
      · rename_i k bts z hte'
        split at h
        · rename_i hc
          obtain ⟨c1,c2,c3,c4⟩:=hc
          obtain ⟨d',hd',hk'⟩:=(hte _ _ hte').under
          simp only [TKis] at hk'; subst hk'
          rw [asInts_rel hx hzx,asInts_rel hy hzy] at *
          obtain ⟨r,rfl,hr⟩:=run_eql (run_equal_ints (w:=w) hte hd hte' rfl rfl zx zy c1 c2 (by simpa using c3) (by simpa using c4)) h (by rintro op' (rfl | rfl) <;> rfl)
          exact fin _ _ r rfl rfl (run_eqGuard_array hd hd' _ _ _ _) hr (by simp only [RV]) trivial
        · cases h
      · cases h
    · rename_i fs zx zy hk hzx hzy
      obtain ⟨ti,hti,_,dd,hd,hk2⟩:=kd_some hte hk (by simp)
      obtain ⟨fields,rfl,hfs⟩:=hk2
      split at h
      · rename_i hc
        obtain ⟨c1,c2,c3,c4,c5⟩:=hc
        obtain ⟨_,hnm,hst⟩:=(hte _ _ hti).fields fields hd
        rw [List.all_eq_true] at hnm c5
        have hty : ∀ f ∈ fields.toList,P.underlying f.type = some (.int .i64):=fun f hf=>by
          have h5:=isI64_of (c5 (f.offset,f.type) (by rw [hfs]; exact List.mem_map_of_mem (f:=fun f : Field=>(f.offset,f.type)) hf))
          obtain ⟨_,_,_,d',hd',hk'⟩:=kd_some hte h5 (by simp)
          simp only [TKis] at hk'; subst hk'
          exact hd'
        rw [hfs,List.map_map] at c1
        rw [asInts_rel hx hzx,asInts_rel hy hzy] at *
        obtain ⟨r,rfl,hr⟩:=run_eql (run_equal_st (w:=w) hd (fun f hf=>by simpa using hnm f hf) hty hst zx zy c1 c2 (by simpa using c3) (by simpa using c4)) h (by rintro op' (rfl | rfl) <;> rfl)
        exact fin _ _ r rfl rfl (run_eqGuard_st hd hty _ _ _ _) hr (by simp only [RV]) trivial
      · cases h
    · cases h
  · cases h
end
end Go.Abs
namespace Go.Abs
set_option linter.unusedSimpArgs false
set_option linter.unusedVariables false
open Go Go.RowKit
section
variable {P : Program} {N : Ent} {g : Ghost} {box : Boxes} {w : World} {o : Oper} {a : Act} {d : Nat} {ρ : Operand→AV} {te : TypeId→Option TI}
theorem addr_add (k o j : Nat) : (⟨k,o,none⟩ : Addr).add j = ⟨k,o + j,none⟩:=by unfold Addr.add; split <;> simp_all
theorem st_fields {fs : List (Nat × TypeId)} {dd : TypeDesc} (h : TKis (.st fs) dd) : ∃ fields : Array Field,dd = .struct fields ∧ ∀ (i : Nat) (p : Nat × TypeId),fs[i]? = some p→∃ f : Field,fields[i]? = some f ∧ f.offset = p.1 ∧ f.type = p.2:=by
  obtain ⟨fields,rfl,rfl⟩:=h
  refine ⟨fields,rfl,fun i p hp=>?_⟩
  simp only [List.getElem?_map,Option.map_eq_some_iff] at hp
  obtain ⟨f,h1,rfl⟩:=hp
  exact ⟨f,by simpa using h1,rfl,rfl⟩
theorem run_fieldAt (hte : TeOK P te) {s : TypeId} {fs : List (Nat × TypeId)} (hk : kd te s = .st fs) {i : Nat} {p : Nat × TypeId} (hp : fs[i]? = some p) {ti : TI} (ht : te p.2 = some ti) (h0 : ti.size ≠ 0) (k off : Nat) :
    (Instr.fieldAt s (.pointer (some ⟨k,off,none⟩)) i).run P w = .ok (.pointer (some ⟨k,off + p.1,none⟩)) w:=by
  obtain ⟨_,_,_,dd,hd,hk2⟩:=kd_some hte hk (by simp)
  obtain ⟨fields,rfl,hf⟩:=st_fields hk2
  obtain ⟨f,h1,h2,h3⟩:=hf i p hp
  rw [← h3] at ht
  simp [Instr.fieldAt,run_underlying hd,h1,Instr.sureAddr,fieldPlace,run_sizeOf hte ht,h0,addr_add,h2]
theorem out_fieldAddr (hte : TeOK P te) (hv : Valid N g box w) (hρ : Rel g w a ρ) (s : TypeId) (x : Operand) (i : Nat) (ho : o.op = .fieldAddr s x i) {v : AV} (h : fieldAddrV te s i (ρ x) = some v) : GOut P N g box w o a d { v }:=by
  have hx:=(hρ x).1
  have key : ∀ u r : Value,a.eval x = u→(Instr.fieldAt s u i).run P w = .ok r w→(execOp a.eval o).run P w = .ok (.value r) w:=fun u r he hr=>run_value (by rw [← he] at hr; exact hr) (by unfold execOp; rw [ho])
  revert h hx key
  generalize ρ x = x0
  generalize a.eval x = u0
  intro h hx key
  unfold fieldAddrV at h
  split at h
  · rename_i fs b off hk
    simp only [RV] at hx
    obtain ⟨k,hb,rfl⟩:=hx
    simp only [Option.bind_eq_some_iff] at h
    obtain ⟨p,hp,ti,ht,h⟩:=h
    split at h
    · cases h
    · cases h
      exact .pure hv (key _ _ rfl (run_fieldAt hte hk hp ht ‹_› k off)) (by simp only [RV]; exact ⟨k,hb,rfl⟩) trivial
  · rename_i fs xs hk
    simp only [RV] at hx
    obtain ⟨k,off,us,rfl,hr,hd⟩:=hx
    simp only [Option.bind_eq_some_iff] at h
    obtain ⟨p,hp,ti,ht,h⟩:=h
    split at h
    · cases h
    · cases h
      exact .pure hv (key _ _ rfl (run_fieldAt hte hk hp ht ‹_› k off)) (by simp only [RV]; exact ⟨k,off + p.1,us.drop p.1,rfl,hr.drop _,hd.drop _⟩) trivial
  · cases h
theorem run_part (hte : TeOK P te) {t : TypeId} {cs : List AV} {us : List Value} (hr : RVs g.μ g.G w cs us) {off : Nat} {v : AV} (h : partV te t cs off = some v) :
    ∃ u,(part t us.toArray off).run P w = .ok u w ∧ RV g.μ g.G w v u ∧ Top g v u:=by
  obtain ⟨ti,ht,h1⟩:=part_rel (w:=w) (g:=g) hte hr h
  have hl:=hr.length
  split at h1
  · rename_i hagg
    obtain ⟨h2,rfl⟩:=h1
    refine ⟨.agg ((us.drop off).take ti.size).toArray,?_,?_,trivial⟩
    · simp only [part,Sem.run_bind,run_isAgg hte ht,Result.andThen_ok,hagg,if_true,run_sizeOf hte ht,Sem.run_pure]
      congr 2
      apply Array.ext'
      simp [List.take_drop,Nat.add_comm]
    · simp only [RV]; exact ⟨_,rfl,(hr.drop off).take ti.size⟩
  · rename_i hagg
    obtain ⟨x,hx,rfl⟩:=h1
    obtain ⟨u,hu,hrv⟩:=hr.get off x hx
    refine ⟨u,?_,hrv.strip,Top.strip _ _⟩
    simp [part,run_isAgg hte ht,hagg,hu]
theorem out_field (hte : TeOK P te) (hv : Valid N g box w) (hρ : Rel g w a ρ) (t : TypeId) (x : Operand) (i : Nat) (ho : o.op = .field t x i) {v : AV} (h : fieldV te t i (ρ x) = some v) : GOut P N g box w o a d { v }:=by
  have hx:=(hρ x).1
  have key : ∀ u r : Value,a.eval x = u→(Instr.field t u i).run P w = .ok r w→(execOp a.eval o).run P w = .ok (.value r) w:=fun u r he hr=>run_value (by rw [← he] at hr; exact hr) (by unfold execOp; rw [ho])
  revert h hx key
  generalize ρ x = x0
  generalize a.eval x = u0
  intro h hx key
  unfold fieldV at h
  split at h
  · rename_i fs cs hk
    simp only [RV] at hx
    obtain ⟨us,rfl,hr⟩:=hx
    simp only [Option.bind_eq_some_iff] at h
    obtain ⟨p,hp,h⟩:=h
    obtain ⟨_,_,_,dd,hd,hk2⟩:=kd_some hte hk (by simp)
    obtain ⟨fields,rfl,hf⟩:=st_fields hk2
    obtain ⟨f,h1,h2,h3⟩:=hf i p hp
    obtain ⟨u,hu,h4,h5⟩:=run_part (P:=P) (w:=w) (g:=g) hte hr h
    refine .pure hv (key _ u rfl ?_) h4 h5
    simp only [Instr.field,Sem.run_bind,run_underlying hd,Result.andThen_ok,h1,asAgg,Sem.run_pure,h2,h3,hu]
  · cases h
theorem out_index (hte : TeOK P te) (hv : Valid N g box w) (hρ : Rel g w a ρ) (t : TypeId) (x ix : Operand) (ho : o.op = .index t x ix) {v : AV} (h : indexV te t (ρ x) (ρ ix) = some v) : GOut P N g box w o a d { v }:=by
  have hx:=(hρ x).1
  have hi:=(hρ ix).1
  have key : ∀ u1 u2 r : Value,a.eval x = u1→a.eval ix = u2→(Instr.index t u1 u2).run P w = .ok r w→(execOp a.eval o).run P w = .ok (.value r) w:=fun u1 u2 r e1 e2 hr=>run_value (by rw [← e1,← e2] at hr; exact hr) (by unfold execOp; rw [ho])
  revert h hx hi key
  generalize ρ x = x0
  generalize ρ ix = i0
  generalize a.eval x = u1
  generalize a.eval ix = u2
  intro h hx hi key
  unfold indexV at h
  split at h
  · rename_i k i
    simp only [RV] at hi; subst hi
    split at h
    · rename_i n e cs hk
      simp only [RV] at hx
      obtain ⟨us,rfl,hr⟩:=hx
      simp only [Option.bind_eq_some_iff] at h
      obtain ⟨ti,ht,h⟩:=h
      obtain ⟨_,_,_,dd,hd,hk2⟩:=kd_some hte hk (by simp)
      simp only [TKis] at hk2; subst hk2
      split at h
      · rename_i hb
        obtain ⟨u,hu,h4,h5⟩:=run_part (P:=P) (w:=w) (g:=g) hte hr h
        refine .pure hv (key _ _ u rfl rfl ?_) h4 h5
        simp only [Instr.index,asIntOf,Sem.run_bind,Sem.run_pure,Result.andThen_ok,run_underlying hd,hb,and_self,if_true,run_sizeOf hte ht,hu]
      · cases h
    · rename_i s hk
      simp only [RV] at hx; subst hx
      obtain ⟨_,_,_,dd,hd,hk2⟩:=kd_some hte hk (by simp)
      simp only [TKis] at hk2; subst hk2
      split at h
      · rename_i hb
        simp only [Option.map_eq_some_iff] at h
        obtain ⟨b,hb2,rfl⟩:=h
        refine .pure hv (key _ _ (.int .u8 b.toNat) rfl rfl ?_) (by simp only [RV]) trivial
        have hs : s[i.toNat]? = some b:=by
          obtain ⟨⟨l⟩⟩:=s
          have hl : i.toNat < l.length:=(List.getElem?_eq_some_iff.1 hb2).1
          have:=(List.getElem?_eq_some_iff.1 hb2).2
          have h2 : l[i.toNat]'hl = b:=by simpa using this
          rw [getElem?_pos _ _ (by simpa [ByteArray.size] using hl)]
          exact congrArg some h2
        simp [Instr.index,asIntOf,run_underlying hd,hb,hs]
      · cases h
    · cases h
  · cases h
theorem out_indexAddr (hte : TeOK P te) (hv : Valid N g box w) (hρ : Rel g w a ρ) (t : TypeId) (x ix : Operand) (ho : o.op = .indexAddr t x ix) {v : AV} (h : indexAddrV te t (ρ x) (ρ ix) = some v) : GOut P N g box w o a d { v }:=by
  have hx:=(hρ x).1
  have hi:=(hρ ix).1
  have key : ∀ u1 u2 r : Value,a.eval x = u1→a.eval ix = u2→(Instr.indexAt t u1 u2).run P w = .ok r w→(execOp a.eval o).run P w = .ok (.value r) w:=fun u1 u2 r e1 e2 hr=>run_value (by rw [← e1,← e2] at hr; exact hr) (by unfold execOp; rw [ho])
  revert h hx hi key
  generalize ρ x = x0
  generalize ρ ix = i0
  generalize a.eval x = u1
  generalize a.eval ix = u2
  intro h hx hi key
  unfold indexAddrV at h
  split at h
  · rename_i k i
    simp only [RV] at hi; subst hi
    have hrun : ∀ (A : Addr) (n : Nat) (e : TypeId) (ti : TI),A.spot = none → te e = some ti → (0 ≤ i ∧ i < n) → P.underlying t = some (.array n e) →
        (Instr.indexAt t (.pointer (some A)) (.int k i)).run P w = .ok (.pointer (some (A.add (i.toNat * ti.size)))) w:=fun A n e ti hA ht hb hd=>by
      simp [Instr.indexAt,asIntOf,run_underlying hd,Instr.sureAddr,hb,run_sizeOf hte ht]
    have hrun2 : ∀ (A : Addr) (n c : Nat) (e : TypeId) (ti : TI),te e = some ti → (0 ≤ i ∧ i < n) → P.underlying t = some (.slice e) →
        (Instr.indexAt t (.slice (some A) n c) (.int k i)).run P w = .ok (.pointer (some (A.add (i.toNat * ti.size)))) w:=fun A n c e ti ht hb hd=>by
      simp [Instr.indexAt,asIntOf,run_underlying hd,hb,run_sizeOf hte ht]
    split at h
    · rename_i n e b off hk
      simp only [RV] at hx
      obtain ⟨kk,hb,rfl⟩:=hx
      simp only [Option.bind_eq_some_iff] at h
      obtain ⟨ti,ht,h⟩:=h
      obtain ⟨_,_,_,dd,hd,hk2⟩:=kd_some hte hk (by simp)
      simp only [TKis] at hk2; subst hk2
      split at h
      · cases h
        exact .pure hv (key _ _ _ rfl rfl (hrun _ n e ti rfl ht ‹_› hd)) (by simp only [RV]; exact ⟨kk,hb,by rw [addr_add]⟩) trivial
      · cases h
    · rename_i n e xs hk
      simp only [RV] at hx
      obtain ⟨kk,off,us,rfl,hr,hdd⟩:=hx
      simp only [Option.bind_eq_some_iff] at h
      obtain ⟨ti,ht,h⟩:=h
      obtain ⟨_,_,_,dd,hd,hk2⟩:=kd_some hte hk (by simp)
      simp only [TKis] at hk2; subst hk2
      split at h
      · cases h
        exact .pure hv (key _ _ _ rfl rfl (hrun _ n e ti rfl ht ‹_› hd)) (by simp only [RV]; exact ⟨kk,_,us.drop (i.toNat * ti.size),by rw [addr_add],hr.drop _,hdd.drop _⟩) trivial
      · cases h
    · rename_i e n xs fl hk
      simp only [Option.bind_eq_some_iff] at h
      obtain ⟨ti,ht,h⟩:=h
      obtain ⟨_,_,_,dd,hd,hk2⟩:=kd_some hte hk (by simp)
      simp only [TKis] at hk2; subst hk2
      split at h
      · rename_i hb
        cases h
        simp only [RV] at hx
        rcases hx with ⟨_,rfl,_⟩ | ⟨kk,off,c,us,rfl,_,hr,hdd⟩
        · omega
        · exact .pure hv (key _ _ _ rfl rfl (hrun2 _ n c e ti ht hb hd)) (by simp only [RV]; exact ⟨kk,_,us.drop (i.toNat * ti.size),by rw [addr_add],hr.drop _,hdd.drop _⟩) trivial
      · cases h
    · rename_i e b off n c z hk
      simp only [Option.bind_eq_some_iff] at h
      obtain ⟨ti,ht,h⟩:=h
      obtain ⟨_,_,_,dd,hd,hk2⟩:=kd_some hte hk (by simp)
      simp only [TKis] at hk2; subst hk2
      split at h
      · rename_i hb
        cases h
        simp only [RV] at hx
        obtain ⟨kk,oo,c',hm,rfl,_,hnc,hoo⟩:=hx
        have : oo = off := by rcases hoo with h | h; · exact h
                              · omega
        subst this
        exact .pure hv (key _ _ _ rfl rfl (hrun2 _ n _ e ti ht ⟨hb.1,hb.2.1⟩ hd)) (by simp only [RV]; exact ⟨kk,hm,by rw [addr_add]⟩) trivial
      · cases h
    · cases h
  · cases h
theorem out_len (hte : TeOK P te) (hv : Valid N g box w) (hρ : Rel g w a ρ) (x : Operand) (t : TypeId) (args : Array Operand) (ts : Array TypeId) (ho : o.op = .call { callee := .builtin .len,args := args,argTypes := ts })
    (h1 : args.toList = [x]) (rest : List TypeId) (h2 : ts.toList = t :: rest) {v : AV} (h : lenV te t (ρ x) = some v) : GOut P N g box w o a d { v }:=by
  have hx:=(hρ x).1
  have ha : args = #[x]:=by rw [← Array.toArray_toList (xs:=args),h1]
  have hts : ts[0]? = some t:=by rw [← Array.toArray_toList (xs:=ts),h2]; simp
  have key : ∀ u r : Value,a.eval x = u→(Builtin.len_ ts o.type #[u]).run P w = .ok r w→(execOp a.eval o).run P w = .ok (.value r) w:=fun u r he hr=>by
    subst ha
    unfold execOp; rw [ho]
    simp only [resolve,Sem.run_bind,Sem.run_pure,Result.andThen_ok,invoke,builtin]
    simp [he,hr]
  revert h hx key
  generalize ρ x = x0
  generalize a.eval x = u0
  intro h hx key
  have fin : ∀ r : Value,(Builtin.len_ ts o.type #[u0]).run P w = .ok r w→v = .raw r→GOut P N g box w o a d { v }:=fun r h1 h2=>by subst h2; exact .pure hv (key _ _ rfl h1) (by simp only [RV]) trivial
  unfold lenV at h
  split at h
  · rename_i s hk
    obtain ⟨_,_,_,dd,hd,hk2⟩:=kd_some hte hk (by simp)
    simp only [TKis] at hk2; subst hk2; cases h
    simp only [RV] at hx; subst hx
    exact fin _ (by simp [Builtin.len_,hts,run_underlying hd,goInt]) rfl
  · rename_i n e hk
    obtain ⟨_,_,_,dd,hd,hk2⟩:=kd_some hte hk (by simp)
    simp only [TKis] at hk2; subst hk2; cases h
    exact fin _ (by simp [Builtin.len_,hts,run_underlying hd,goInt]) rfl
  · rename_i e hk
    obtain ⟨_,_,_,dd,hd,hk2⟩:=kd_some hte hk (by simp)
    simp only [TKis] at hk2; subst hk2; cases h
    simp only [RV] at hx; subst hx
    exact fin _ (by simp [Builtin.len_,hts,run_underlying hd,goInt]) rfl
  · rename_i e n xs fl hk
    obtain ⟨_,_,_,dd,hd,hk2⟩:=kd_some hte hk (by simp)
    simp only [TKis] at hk2; subst hk2; cases h
    simp only [RV] at hx
    rcases hx with ⟨⟨A,rfl⟩,rfl,_⟩ | ⟨kk,off,c,us,rfl,_,hr,hdd⟩
    · exact fin _ (by simp [Builtin.len_,hts,run_underlying hd,goInt]) rfl
    · exact fin _ (by simp [Builtin.len_,hts,run_underlying hd,goInt]) rfl
  · rename_i e b off n c z hk
    obtain ⟨_,_,_,dd,hd,hk2⟩:=kd_some hte hk (by simp)
    simp only [TKis] at hk2; subst hk2; cases h
    simp only [RV] at hx
    obtain ⟨kk,oo,c',hm,rfl,_,hnc,hoo⟩:=hx
    exact fin _ (by simp [Builtin.len_,hts,run_underlying hd,goInt]) rfl
  · cases h
theorem out_min (hv : Valid N g box w) (hρ : Rel g w a ρ) (x y : Operand) (args : Array Operand) (ts : Array TypeId) (ho : o.op = .call { callee := .builtin .min,args := args,argTypes := ts })
    (h1 : args.toList = [x,y]) {v : AV} (h : min2V (ρ x) (ρ y) = some v) : GOut P N g box w o a d { v }:=by
  have hx:=(hρ x).1
  have hy:=(hρ y).1
  have ha : args = #[x,y]:=by rw [← Array.toArray_toList (xs:=args),h1]
  have key : ∀ u1 u2 r : Value,a.eval x = u1→a.eval y = u2→(Builtin.min_ ts o.type #[u1,u2]).run P w = .ok r w→(execOp a.eval o).run P w = .ok (.value r) w:=fun u1 u2 r e1 e2 hr=>by
    subst ha
    unfold execOp; rw [ho]
    simp only [resolve,Sem.run_bind,Sem.run_pure,Result.andThen_ok,invoke,builtin]
    simp [e1,e2,hr]
  revert h hx hy key
  generalize ρ x = x0
  generalize a.eval x = u0
  generalize ρ y = y0
  generalize a.eval y = u1
  intro h hx hy key
  unfold min2V at h
  split at h
  · cases h
    simp only [RV] at hx hy; subst hx; subst hy
    rename_i k x k' y
    exact .pure hv (key _ _ (.int k (if y < x then y else x)) rfl rfl (by simp [Builtin.min_,Builtin.min2])) (by simp only [RV]) trivial
  · cases h
theorem out_toArray (hte : TeOK P te) (hv : Valid N g box w) (hρ : Rel g w a ρ) (t : TypeId) (x : Operand) (ho : o.op = .sliceToArrayPointer t x) {v : AV}
    (h : (match kd te t,ρ x with | .arr n _,.sl m xs _=>if n ≤ m ∧ 0 < n then some (AV.iptr xs) else none | .arr n _,.view b off m _ _=>if n ≤ m ∧ 0 < n then some (.ptr b off) else none | _,_=>none) = some v) : GOut P N g box w o a d { v }:=by
  have hx:=(hρ x).1
  have key : ∀ u r : Value,a.eval x = u→(Instr.arrayAt t u).run P w = .ok r w→(execOp a.eval o).run P w = .ok (.value r) w:=fun u r he hr=>run_value (by rw [← he] at hr; exact hr) (by unfold execOp; rw [ho])
  revert h hx key
  generalize ρ x = x0
  generalize a.eval x = u0
  intro h hx key
  split at h
  · rename_i n e m xs fl hk
    obtain ⟨_,_,_,dd,hd,hk2⟩:=kd_some hte hk (by simp)
    simp only [TKis] at hk2; subst hk2
    split at h
    · rename_i hn
      cases h
      simp only [RV] at hx
      rcases hx with ⟨_,rfl,_⟩ | ⟨kk,off,c,us,rfl,_,hr,hdd⟩
      · omega
      · refine .pure hv (key _ (.pointer (some ⟨kk,off,none⟩)) rfl ?_) (by simp only [RV]; exact ⟨kk,off,us,rfl,hr,hdd⟩) trivial
        simp [Instr.arrayAt,run_underlying hd,hn.1,Nat.not_lt.2 hn.1]
    · cases h
  · rename_i n e b off m c z hk
    obtain ⟨_,_,_,dd,hd,hk2⟩:=kd_some hte hk (by simp)
    simp only [TKis] at hk2; subst hk2
    split at h
    · rename_i hn
      cases h
      simp only [RV] at hx
      obtain ⟨kk,oo,c',hm,rfl,_,hnc,hoo⟩:=hx
      have : oo = off := by rcases hoo with h | h; · exact h
                            · omega
      subst this
      refine .pure hv (key _ (.pointer (some ⟨kk,oo,none⟩)) rfl ?_) (by simp only [RV]; exact ⟨kk,hm,rfl⟩) trivial
      simp [Instr.arrayAt,run_underlying hd,Nat.not_lt.2 hn.1]
    · cases h
  · cases h
end
end Go.Abs
namespace Go.Abs
set_option linter.unusedSimpArgs false
set_option linter.unusedVariables false
open Go Go.RowKit
section
variable {P : Program} {N : Ent} {g : Ghost} {box : Boxes} {w : World} {o : Oper} {a : Act} {d : Nat} {ρ : Operand→AV} {te : TypeId→Option TI}
theorem bound_rel {m : Nat} {v : AV} {n : Nat} (h : bound m v = some n) {μ : Bx → Option Nat} {G : Nat → Nat → Prop} {u : Value} (hr : RV μ G w v u) :
    ∃ k : IntKind,∃ i : Int,u = .int k i ∧ 0 ≤ i ∧ i ≤ m ∧ n = i.toNat:=by
  unfold bound at h
  split at h
  · split at h
    · rename_i k i hb
      cases h; simp only [RV] at hr
      exact ⟨k,i,hr,hb.1,hb.2,rfl⟩
    · cases h
  · cases h
theorem run_sliceBound' {k : IntKind} {i : Int} {y : Nat} {c : BoundsCode} (h0 : 0 ≤ i) (h1 : i ≤ y) : (Instr.sliceBound (.int k i) y c).run P w = .ok i.toNat w:=by
  simp [Instr.sliceBound,asIntOf,h0,h1]
def ORel (g : Ghost) (w : World) (x : Option AV) (u : Option Value) : Prop :=
  match x,u with
  | none,none=>True
  | some v,some u=>RV g.μ g.G w v u
  | _,_=>False
theorem ORel.of (hρ : Rel g w a ρ) (x : Option Operand) : ORel g w (x.map ρ) (x.map a.eval):=by
  cases x with
  | none=>trivial
  | some x=>exact (hρ x).1
theorem run_sliceBounds {isS : Bool} {len cap cap' : Nat} (hlc : len ≤ cap) (hc : cap' ≤ cap) {lo hi mx : Option AV} {lo' hi' mx' : Option Value} (hl : ORel g w lo lo') (hh : ORel g w hi hi') (hm : ORel g w mx mx')
    {l h m : Nat} (hb : bounds len cap' lo hi mx = some (l,h,m)) :
    (Instr.sliceBounds isS len cap lo' hi' mx').run P w = .ok (l,h,if mx.isSome then m else cap) w ∧ l ≤ h ∧ (hi ≠ none ∨ h = len) ∧ (mx.isSome = true→h ≤ m ∧ m ≤ cap') ∧ (mx.isSome = false→hi ≠ none→h ≤ cap'):=by
  unfold bounds at hb
  simp only [Option.bind_eq_some_iff,Option.map_eq_some_iff] at hb
  obtain ⟨m',h1,h'',h2,l',h3,h4⟩:=hb
  cases h4
  have hlo : (lo' = none ∧ l = 0) ∨ ∃ k i,lo' = some (.int k i) ∧ 0 ≤ i ∧ i ≤ h ∧ l = i.toNat:=by
    cases lo with
    | none => cases lo' with
      | none=>cases h3; exact .inl ⟨rfl,rfl⟩
      | some _=>exact hl.elim
    | some v => cases lo' with
      | none=>exact hl.elim
      | some u =>
        obtain ⟨k,i,rfl,i0,i1,rfl⟩:=bound_rel h3 hl
        exact .inr ⟨k,i,rfl,i0,i1,rfl⟩
  have hhi : (hi = none ∧ hi' = none ∧ mx = none ∧ h = len) ∨ ∃ k i,hi ≠ none ∧ hi' = some (.int k i) ∧ 0 ≤ i ∧ i ≤ m ∧ h = i.toNat:=by
    cases hi with
    | none => cases hi' with
      | some _=>exact hh.elim
      | none => cases mx with
        | none=>cases h2; exact .inl ⟨rfl,rfl,rfl,rfl⟩
        | some _=>cases h2
    | some v => cases hi' with
      | none=>exact hh.elim
      | some u =>
        have h2' : bound m v = some h:=by cases mx <;> exact h2
        obtain ⟨k,i,rfl,i0,i1,rfl⟩:=bound_rel h2' hh
        exact .inr ⟨k,i,by simp,rfl,i0,i1,rfl⟩
  have hmx : (mx = none ∧ mx' = none ∧ m = cap') ∨ ∃ k i,mx.isSome = true ∧ mx' = some (.int k i) ∧ 0 ≤ i ∧ i ≤ cap' ∧ m = i.toNat:=by
    cases mx with
    | none => cases mx' with
      | none=>cases h1; exact .inl ⟨rfl,rfl,rfl⟩
      | some _=>exact hm.elim
    | some v => cases mx' with
      | none=>exact hm.elim
      | some u =>
        obtain ⟨k,i,rfl,i0,i1,rfl⟩:=bound_rel h1 hm
        exact .inr ⟨k,i,rfl,rfl,i0,i1,rfl⟩
  clear h1 h2 h3 hl hh hm
  have hlh : l ≤ h:=by rcases hlo with ⟨_,e⟩ | ⟨_,i,_,e1,e2,e3⟩ <;> omega
  refine ⟨?_,hlh,?_,?_,?_⟩
  · rcases hmx with ⟨rfl,rfl,e⟩ | ⟨km,im,e1,rfl,m0,m1,rfl⟩
    · rcases hhi with ⟨rfl,rfl,_,rfl⟩ | ⟨kh,ih,_,rfl,h0,h1,rfl⟩
      · rcases hlo with ⟨rfl,rfl⟩ | ⟨kl,il,rfl,l0,l1,rfl⟩
        · simp [Instr.sliceBounds]
        · simp [Instr.sliceBounds,Instr.sliceBound,asIntOf,l0,l1]
      · have h1' : ih ≤ cap := by omega
        rcases hlo with ⟨rfl,rfl⟩ | ⟨kl,il,rfl,l0,l1,rfl⟩
        · simp [Instr.sliceBounds,Instr.sliceBound,asIntOf,h0,h1']
        · simp [Instr.sliceBounds,run_sliceBound' l0 l1,run_sliceBound' h0 h1']
    · have m1' : im ≤ cap := by omega
      rcases hhi with ⟨_,_,e2,_⟩ | ⟨kh,ih,_,rfl,h0,h1,rfl⟩
      · rw [e2] at e1; cases e1
      · rcases hlo with ⟨rfl,rfl⟩ | ⟨kl,il,rfl,l0,l1,rfl⟩
        · simp [Instr.sliceBounds,run_sliceBound' h0 h1,run_sliceBound' m0 m1',e1]
        · simp [Instr.sliceBounds,run_sliceBound' l0 l1,run_sliceBound' h0 h1,run_sliceBound' m0 m1',e1]
  · rcases hhi with ⟨_,_,_,e⟩ | ⟨_,_,e,_⟩
    · exact .inr e
    · exact .inl e
  · intro hs
    rcases hmx with ⟨rfl,_⟩ | ⟨km,im,e1,rfl,m0,m1,e4⟩
    · cases hs
    · rcases hhi with ⟨_,_,e2,_⟩ | ⟨kh,ih,_,_,h0,h1,e5⟩
      · rw [e2] at e1; cases e1
      · exact ⟨by omega,by omega⟩
  · intro hs hne
    rcases hmx with ⟨rfl,_,e⟩ | ⟨km,im,e1,_⟩
    · rcases hhi with ⟨e2,_⟩ | ⟨kh,ih,_,_,h0,h1,e5⟩
      · exact absurd e2 hne
      · omega
    · rw [hs] at e1; cases e1
end
section
variable {P : Program} {N : Ent} {g : Ghost} {box : Boxes} {w : World} {o : Oper} {a : Act} {d : Nat} {ρ : Operand→AV} {te : TypeId→Option TI}
theorem FlOK.cut {g : Ghost} {fl : Fl} {xs : List AV} {n c sz l h m M : Nat} {full : Bool} {k o : Nat} (hn : n ≤ c) (hf : FlOK g fl xs.length (.slice (some ⟨k,o,none⟩) n c)) (hlh : l ≤ h) (hM : M = if full then m else c)
    (hmh : full = true→h ≤ m ∧ m ≤ n) (hhn : h ≤ M) (A : Option Addr) (hA : A = some ⟨k,if M = l then o else o + l * sz,none⟩) :
    FlOK g (cutFl sz n l h m full fl) ((xs.drop (l * sz)).take ((h - l) * sz)).length (.slice A (h - l) (M - l)):=by
  subst hA
  cases full with
  | true =>
    simp only [if_true] at hM
    subst hM
    have : cutFl sz n l h M true fl = if M = h then .full else .bor:=by cases fl <;> rfl
    rw [this]
    split
    · simp only [FlOK]; omega
    · trivial
  | false =>
    simp only [Bool.false_eq_true,if_false] at hM
    subst hM
    cases fl with
    | bor=>trivial
    | lit i=>simp only [cutFl,Bool.false_eq_true,if_false]; trivial
    | full =>
      simp only [cutFl,Bool.false_eq_true,if_false]
      simp only [FlOK] at hf
      split
      · simp only [FlOK]; omega
      · trivial
    | own i z =>
      simp only [cutFl,Bool.false_eq_true,if_false]
      simp only [FlOK] at hf
      split
      · rename_i hh
        obtain ⟨rfl,rfl⟩:=hh
        simp only [FlOK]
        refine ⟨hf.1,?_⟩
        rcases hf.2 with h1 | ⟨h1,_⟩ | ⟨k',o',lo',hi',e1,e2,e3,e4⟩
        · exact .inl h1
        · cases h1
        · cases e1
          have h1 : (h - l) * z = h * z - l * z:=Nat.sub_mul _ _ _
          have h2 : (M - l) * z = M * z - l * z:=Nat.sub_mul _ _ _
          have h3 : l * z ≤ h * z:=Nat.mul_le_mul_right _ hlh
          have h4 : h * z ≤ M * z:=Nat.mul_le_mul_right _ hn
          have h5 : ((xs.drop (l * z)).take ((h - l) * z)).length = (h - l) * z:=by simp only [List.length_take,List.length_drop]; omega
          refine .inr (.inr ⟨k,_,lo',hi',rfl,h5,e3,?_⟩)
          rcases e4 with e4 | ⟨e4,e5⟩
          · exact .inl (by omega)
          · by_cases hcl : M = l
            · exact .inl (by omega)
            · rw [if_neg hcl,h5]
              exact .inr ⟨by omega,by omega⟩
      · trivial
theorem out_slice (hte : TeOK P te) (hv : Valid N g box w) (hρ : Rel g w a ρ) (t : TypeId) (x : Operand) (lo hi mx : Option Operand) (ho : o.op = .slice t x lo hi mx) {v : AV}
    (h : sliceV te t (ρ x) (lo.map ρ) (hi.map ρ) (mx.map ρ) = some v) : GOut P N g box w o a d { v }:=by
  have hx:=(hρ x)
  have key : ∀ u r : Value,a.eval x = u→(Instr.sliceAt t u (lo.map a.eval) (hi.map a.eval) (mx.map a.eval)).run P w = .ok r w→(execOp a.eval o).run P w = .ok (.value r) w:=fun u r he hr=>run_value (by rw [← he] at hr; exact hr) (by unfold execOp; rw [ho])
  have hl:=ORel.of hρ lo
  have hh:=ORel.of hρ hi
  have hm:=ORel.of hρ mx
  revert h hx key hl hh hm
  generalize ρ x = x0
  generalize a.eval x = u0
  generalize lo.map ρ = lo0
  generalize hi.map ρ = hi0
  generalize mx.map ρ = mx0
  generalize lo.map a.eval = lo1
  generalize hi.map a.eval = hi1
  generalize mx.map a.eval = mx1
  intro h hx key hl hh hm
  unfold sliceV at h
  split at h
  · rename_i s hk
    obtain ⟨_,_,_,dd,hd,hk2⟩:=kd_some hte hk (by simp)
    simp only [TKis] at hk2; subst hk2
    have hx:=hx.1
    simp only [RV] at hx; subst hx
    split at h
    · cases h
    · rename_i hmn
      simp only [Option.map_eq_some_iff] at h
      obtain ⟨⟨l,hi',m⟩,hb,rfl⟩:=h
      cases mx0 with
      | some _=>simp at hmn
      | none =>
        cases mx1 with
        | some _=>exact hm.elim
        | none =>
          obtain ⟨r1,r2,_⟩:=run_sliceBounds (P:=P) (isS:=false) (Nat.le_refl s.size) (Nat.le_refl _) hl hh hm hb
          refine .pure hv (key _ (.string (s.extract l hi')) rfl ?_) (by simp only [RV]) trivial
          simp [Instr.sliceAt,run_underlying hd,Instr.slice,r1]
  · rename_i e hk
    obtain ⟨_,_,_,dd,hd,hk2⟩:=kd_some hte hk (by simp)
    simp only [TKis] at hk2; subst hk2
    have hx:=hx.1
    simp only [RV] at hx; subst hx
    simp only [Option.bind_eq_some_iff,Option.map_eq_some_iff] at h
    obtain ⟨ti,ht,⟨l,hi',m⟩,hb,rfl⟩:=h
    obtain ⟨r1,r2,r3,r4,r5⟩:=run_sliceBounds (P:=P) (isS:=true) (Nat.le_refl 0) (Nat.le_refl _) hl hh hm hb
    have z0 : (if mx0.isSome then m else 0) = 0 ∧ hi' = 0:=by
      rcases r3 with r3 | r3
      · cases hs : mx0.isSome with
        | true=>have:=r4 hs; simp; omega
        | false=>have:=r5 hs r3; simp; omega
      · cases hs : mx0.isSome with
        | true=>have:=r4 hs; simp; omega
        | false=>simp; omega
    have z3 : l = 0:=by omega
    rw [z0.1,z0.2,z3] at r1
    refine .pure hv (key _ (.slice none 0 0) rfl ?_) (by simp only [RV]) trivial
    simp [Instr.sliceAt,run_underlying hd,Instr.slice,r1,run_sizeOf hte ht]
  · -- a slice by value
    rename_i e n xs fl hk
    obtain ⟨_,_,_,dd,hd,hk2⟩:=kd_some hte hk (by simp)
    simp only [TKis] at hk2; subst hk2
    simp only [Option.bind_eq_some_iff,Option.map_eq_some_iff] at h
    obtain ⟨ti,ht,⟨l,h',m⟩,hb,rfl⟩:=h
    obtain ⟨hx,htop⟩:=hx
    simp only [RV] at hx
    rcases hx with ⟨⟨A,rfl⟩,rfl,rfl⟩ | ⟨k,off,c,us,rfl,hnc,hr,hdd⟩
    · obtain ⟨r1,r2,r3,r4,r5⟩ := run_sliceBounds (P := P) (isS := true) (Nat.le_refl 0) (Nat.le_refl _) hl hh hm hb
      have z0 : (if mx0.isSome then m else 0) = 0 ∧ h' = 0:=by
        rcases r3 with r3 | r3
        · cases hs : mx0.isSome with
          | true=>have:=r4 hs; simp; omega
          | false=>have:=r5 hs r3; simp; omega
        · cases hs : mx0.isSome with
          | true=>have:=r4 hs; simp; omega
          | false=>simp; omega
      have z3 : l = 0:=by omega
      rw [z0.1,z0.2,z3] at r1
      refine .pure hv (u:=.slice A 0 0) (key _ (.slice A 0 0) rfl ?_) ?_ ?_
      · simp [Instr.sliceAt,run_underlying hd,Instr.slice,r1,run_sizeOf hte ht]
      · simp only [RV]; exact .inl ⟨⟨A,rfl⟩,by omega,by simp⟩
      · simp only [Top] at htop ⊢
        have e2:=z0.2
        cases fl with
        | bor => simp only [cutFl]; repeat' split
                 all_goals simp only [FlOK]
        | full => simp only [cutFl]; repeat' split
                  all_goals simp only [FlOK]
        | lit i => simp only [cutFl]; repeat' split
                   all_goals simp only [FlOK]
        | own i z =>
          simp only [cutFl]; repeat' split
          all_goals simp only [FlOK] at htop ⊢
          simpa using htop
    · obtain ⟨r1,r2,r3,r4,r5⟩ := run_sliceBounds (P := P) (isS := true) (cap := c) hnc hnc hl hh hm hb
      have hM : h' ≤ (if mx0.isSome then m else c):=by
        cases hs : mx0.isSome with
        | true=>exact (r4 hs).1
        | false =>
          rcases r3 with r3 | r3
          · have:=r5 hs r3; simp; omega
          · simp; omega
      generalize hMe : (if mx0.isSome then m else c) = M at r1 hM
      refine .pure hv (key _ (.slice (some ⟨k,if M = l then off else off + l * ti.size,none⟩) (h' - l) (M - l)) rfl ?_) ?_ ?_
      · simp only [Instr.sliceAt,Sem.run_bind,run_underlying hd,Result.andThen_ok,Instr.slice,r1,run_sizeOf hte ht,Sem.run_pure,Option.map_some,addr_add]
        by_cases hq : M = l <;> simp [hq]
      · simp only [RV]
        refine .inr ⟨k,_,_,(us.drop (l * ti.size)).take ((h' - l) * ti.size),rfl,by omega,(hr.drop _).take _,?_⟩
        split
        · have : h' - l = 0 := by omega
          rw [this]; intro j hj; simp at hj
        · exact (hdd.drop _).take _
      · simp only [Top] at htop ⊢
        exact htop.cut hnc r2 hMe.symm (fun hs=>r4 hs) hM _ rfl
  · -- a view
    rename_i e b off n c z hk
    obtain ⟨_,_,_,dd,hd,hk2⟩:=kd_some hte hk (by simp)
    simp only [TKis] at hk2; subst hk2
    simp only [Option.bind_eq_some_iff] at h
    obtain ⟨ti,ht,h⟩:=h
    split at h
    · rename_i hz
      simp only [Option.map_eq_some_iff] at h
      obtain ⟨⟨l,h',m⟩,hb,rfl⟩:=h
      have hx:=hx.1
      simp only [RV] at hx
      obtain ⟨k,oo,c',hmu,rfl,hcc,hnc,hoo⟩:=hx
      obtain ⟨r1,r2,r3,r4,r5⟩:=run_sliceBounds (P:=P) (isS:=true) (Nat.le_trans hnc hcc) hcc hl hh hm hb
      have hMe : (if mx0.isSome then m else c) = m:=by
        cases hs : mx0 with
        | some _=>simp
        | none =>
          unfold bounds at hb
          rw [hs] at hb
          simp only [Option.bind_eq_some_iff,Option.map_eq_some_iff] at hb
          obtain ⟨m',h1,h'',h2,l',h3,h4⟩:=hb
          cases h4; cases h1; simp
      have hM : h' ≤ m:=by
        cases hs : mx0.isSome with
        | true=>exact (r4 hs).1
        | false =>
          rw [hs] at hMe; simp at hMe
          rcases r3 with r3 | r3
          · have:=r5 hs r3; omega
          · omega
      have hmc : m ≤ c:=by
        cases hs : mx0.isSome with
        | true=>exact (r4 hs).2
        | false=>rw [hs] at hMe; simp at hMe; omega
      have hMM : m ≤ (if mx0.isSome then m else c'):=by
        split
        · exact Nat.le_refl _
        · omega
      generalize (if mx0.isSome then m else c') = M at r1 hMM
      refine .pure hv (key _ (.slice (some ⟨k,if M = l then oo else oo + l * ti.size,none⟩) (h' - l) (M - l)) rfl ?_) ?_ ?_
      · simp only [Instr.sliceAt,Sem.run_bind,run_underlying hd,Result.andThen_ok,Instr.slice,r1,run_sizeOf hte ht,Sem.run_pure,Option.map_some,addr_add]
        by_cases hq : M = l <;> simp [hq]
      · by_cases hml : m = l
        · simp only [if_pos hml,RV]
          exact ⟨k,_,_,hmu,by rw [show h' - l = 0 by omega],Nat.zero_le _,Nat.le_refl _,.inr (by trivial)⟩
        · simp only [if_neg hml,RV]
          rw [if_neg (show ¬ M = l by omega)]
          exact ⟨k,_,_,hmu,rfl,by omega,by omega,.inl (by rw [hz]; rcases hoo with h | h <;> omega)⟩
      · show Top g (if m = l then _ else _) _
        split <;> trivial
    · cases h
  · -- an array in a box
    rename_i n e b off hk
    obtain ⟨_,_,_,dd,hd,hk2⟩:=kd_some hte hk (by simp)
    simp only [TKis] at hk2; subst hk2
    simp only [Option.bind_eq_some_iff,Option.map_eq_some_iff] at h
    obtain ⟨ti,ht,⟨l,h',m⟩,hb,rfl⟩:=h
    have hx:=hx.1
    simp only [RV] at hx
    obtain ⟨k,hmu,rfl⟩:=hx
    obtain ⟨r1,r2,r3,r4,r5⟩:=run_sliceBounds (P:=P) (isS:=false) (Nat.le_refl n) (Nat.le_refl n) hl hh hm hb
    have hMe : (if mx0.isSome then m else n) = m:=by
      cases hs : mx0 with
      | some _=>simp
      | none =>
        unfold bounds at hb
        rw [hs] at hb
        simp only [Option.bind_eq_some_iff,Option.map_eq_some_iff] at hb
        obtain ⟨m',h1,h'',h2,l',h3,h4⟩:=hb
        cases h4; cases h1; simp
    rw [hMe] at r1
    have hM : h' ≤ m:=by
      cases hs : mx0.isSome with
      | true=>exact (r4 hs).1
      | false =>
        rw [hs] at hMe; simp at hMe
        rcases r3 with r3 | r3
        · have:=r5 hs r3; omega
        · omega
    refine .pure hv (key _ (.slice (some ⟨k,if m = l then off else off + l * ti.size,none⟩) (h' - l) (m - l)) rfl ?_) ?_ ?_
    · simp only [Instr.sliceAt,Instr.sureAddr,Sem.run_bind,run_underlying hd,Result.andThen_ok,r1,run_sizeOf hte ht,Sem.run_pure,addr_add]
      by_cases hq : m = l <;> simp [hq]
    · by_cases hml : m = l
      · simp only [if_pos hml,RV]
        exact ⟨k,_,_,hmu,by rw [show h' - l = 0 by omega],Nat.zero_le _,Nat.le_refl _,.inr (by trivial)⟩
      · simp only [if_neg hml,RV]
        exact ⟨k,_,_,hmu,rfl,Nat.le_refl _,by omega,.inl rfl⟩
    · show Top g (if m = l then _ else _) _
      split <;> trivial
  · cases h
end
end Go.Abs
namespace Go.Abs
set_option linter.unusedSimpArgs false
set_option linter.unusedVariables false
open Go Go.RowKit
section
variable {P : Program} {N : Ent} {g : Ghost} {box : Boxes} {w : World} {o : Oper} {a : Act} {d : Nat} {ρ : Operand→AV} {te : TypeId→Option TI}
theorem foldl_set : ∀ (vs : List Value) (off j : Nat) (cs : List Value),off + j + vs.length ≤ cs.length →
    (vs.zipIdx j).foldl (fun (cs : Array Value) (p : Value × Nat)=>cs.setIfInBounds (off + p.2) p.1) cs.toArray = (cs.take (off + j) ++ vs ++ cs.drop (off + j + vs.length)).toArray
  | [],off,j,cs,_=>by simp
  | v :: vs,off,j,cs,h=>by
    rw [List.zipIdx_cons,List.foldl_cons]
    have e : cs.toArray.setIfInBounds (off + j) v = (cs.set (off + j) v).toArray:=by simp
    show List.foldl _ (cs.toArray.setIfInBounds (off + j) v) _ = _
    rw [e,foldl_set vs off (j + 1) (cs.set (off + j) v) (by simp at h ⊢; omega)]
    congr 1
    have:=list_seg_step cs (off + j) v vs (by simp at h; omega)
    rw [show off + (j + 1) = off + j + 1 by omega]
    simpa [Nat.add_assoc] using this
theorem fill_rel {μ : Bx → Option Nat} {G : Nat → Nat → Prop} (pl : Nat → Option (Nat × Nat)) (k : TK) (hpl : ∀ i p,place te k i = some p → pl i = some p) :
    ∀ (ps : List (Nat × AV)) (qs : List (Nat × Value)) (cs cs' : List AV) (us : List Value),ps.length = qs.length → (∀ (j : Nat) p q,ps[j]? = some p → qs[j]? = some q → p.1 = q.1 ∧ RV μ G w p.2 q.2) →
      RVs μ G w cs us→fillV te k cs ps = some cs'→∃ us',Instr.fill pl us.toArray qs = some us'.toArray ∧ RVs μ G w cs' us' ∧ cs'.length = cs.length
  | [],[],cs,cs',us,_,_,hr,h=>by simp [fillV] at h; subst h; exact ⟨us,rfl,hr,rfl⟩
  | [],_ :: _,_,_,_,hl,_,_,_=>by simp at hl
  | _ :: _,[],_,_,_,hl,_,_,_=>by simp at hl
  | (i,v) :: ps,(i',u) :: qs,cs,cs',us,hl,hj,hr,h=>by
    obtain ⟨e1,e2⟩:=hj 0 _ _ rfl rfl
    simp only at e1 e2; subst e1
    unfold fillV at h
    split at h
    · cases h
    · rename_i off size hp
      split at h
      · rename_i ys hy
        split at h
        · rename_i hc
          have hyr:=cells_rel e2 hy
          have hyl:=hyr.length
          have hul:=hr.length
          have hsz : u.cells.size = ys.length:=by rw [← hyl]; simp
          unfold Instr.fill
          rw [hpl i _ hp]
          have hcond : (u.cells.size != size || decide (off + u.cells.size > us.toArray.size)) = false:=by
            simp; omega
          simp only [ne_eq,List.size_toArray] at *
          have hfold : Array.foldl (fun (cs : Array Value) (x : Value × Nat)=>match x with | (c,j)=>cs.setIfInBounds (off + j) c) us.toArray u.cells.zipIdx = (us.take off ++ u.cells.toList ++ us.drop (off + u.cells.toList.length)).toArray:=by
            rw [← Array.foldl_toList,Array.toList_zipIdx]
            have:=foldl_set u.cells.toList off 0 us (by simp; omega)
            simpa using this
          have hrel : RVs μ G w (splice cs off ys) (us.take off ++ u.cells.toList ++ us.drop (off + u.cells.toList.length)):=by
            unfold splice
            rw [show u.cells.toList.length = ys.length from hyl]
            exact ((hr.take off).append hyr).append (hr.drop _)
          obtain ⟨us',h1,h2,h3⟩:=fill_rel pl k hpl ps qs _ cs' _ (by simpa using hl) (fun j p q hp hq=>hj (j + 1) p q (by simpa using hp) (by simpa using hq)) hrel h
          refine ⟨us',?_,h2,?_⟩
          · rw [if_neg (by simp; omega)]
            rw [hfold]; exact h1
          · rw [h3]; unfold splice; simp; omega
        · cases h
      · cases h
theorem parts_rel (hρ : Rel g w a ρ) (ps : Array (Nat × Operand)) : (ps.toList.map fun p => (p.1,ρ p.2)).length = (ps.map fun p => (p.1,a.eval p.2)).toList.length ∧
    ∀ (j : Nat) p q,(ps.toList.map fun p=>(p.1,ρ p.2))[j]? = some p→(ps.map fun p=>(p.1,a.eval p.2)).toList[j]? = some q→p.1 = q.1 ∧ RV g.μ g.G w p.2 q.2:=by
  refine ⟨by simp,fun j p q hp hq=>?_⟩
  simp only [List.getElem?_map,Option.map_eq_some_iff,Array.toList_map] at hp hq
  obtain ⟨x,h1,rfl⟩:=hp
  obtain ⟨y,h2,rfl⟩:=hq
  rw [h1] at h2; cases h2
  exact ⟨rfl,(hρ _).1⟩
theorem mapM_places : ∀ (l : List Field),l.all (fun f => (P.info? f.type).isSome) = true →
    l.mapM (fun f=>(P.info? f.type).map fun i=>(f.offset,i.size)) = some (l.map fun f=>(f.offset,P.cellsOf f.type))
  | [],_=>rfl
  | f :: l,h=>by
    simp only [List.all_cons,Bool.and_eq_true] at h
    obtain ⟨i,hi⟩:=Option.isSome_iff_exists.1 h.1
    have ih:=mapM_places l h.2
    simp only [List.mapM_cons,hi,Option.map_some,ih,List.map_cons,Program.cellsOf,Option.getD_some]
    rfl
theorem cellsOf_te (hte : TeOK P te) {t : TypeId} {ti : TI} (h : te t = some ti) : P.cellsOf t = ti.size:=by
  obtain ⟨i,z,h1,h2,_⟩:=(hte t ti h).info
  simp [Program.cellsOf,h1,h2]
theorem out_build (hte : TeOK P te) (hv : Valid N g box w) (hρ : Rel g w a ρ) (t : TypeId) (ps : Array (Nat × Operand)) (ho : o.op = .build t ps) {ti : TI} (ht : te t = some ti) (hagg : isAggK ti.kind = true) (harr : arrOK te ti.kind = true) {cs : List AV}
    (h : fillV te ti.kind (ti.zero.map .raw) (ps.toList.map fun p=>(p.1,ρ p.2)) = some cs) : GOut P N g box w o a d { v:=.agg cs }:=by
  obtain ⟨dd,hu,hk⟩:=(hte t ti ht).under
  obtain ⟨it,z,hi,hs,hb,hz,hzc,_⟩:=(hte t ti ht).info
  obtain ⟨p1,p2⟩:=parts_rel hρ ps
  have fin : ∀ us' : List Value,P.built t (ps.map fun p=>(p.1,a.eval p.2)).toList = some us'.toArray→RVs g.μ g.G w cs us'→GOut P N g box w o a d { v:=.agg cs }:=fun us' h1 h2=>by
    refine .pure hv (u:=.agg us'.toArray) ?_ (by simp only [RV]; exact ⟨us',rfl,h2⟩) trivial
    exact run_value (run_build w t (ps.map fun p=>(p.1,a.eval p.2)) us'.toArray h1) (by unfold execOp; rw [ho])
  have hzz : z.cells = ti.zero.toArray:=by rw [← hzc]
  cases hkk : ti.kind with
  | arr n e =>
    rw [hkk] at hk h harr; simp only [TKis] at hk; simp only [arrOK] at harr; subst hk
    obtain ⟨te',hte'⟩:=Option.isSome_iff_exists.1 harr
    obtain ⟨ie,ze,hie,hse,_⟩:=(hte e te' hte').info
    obtain ⟨us',h1,h2,_⟩:=fill_rel (fun i=>some (i * ie.size,ie.size)) (.arr n e) (fun i p hp=>by
      simp only [place,hte',Option.map_some,Option.some.injEq] at hp
      rw [← hp,hse]) _ _ _ _ ti.zero p1 p2 (RVs.raws _) h
    refine fin us' ?_ h2
    unfold Program.built
    simp only [hi,hu,hz,hie,hzz]
    exact h1
  | st fs =>
    rw [hkk] at hk h; simp only [TKis] at hk
    obtain ⟨fields,rfl,hf⟩:=hk
    have hm:=mapM_places (P:=P) fields.toList ((hte t ti ht).fields fields hu).1
    obtain ⟨us',h1,h2,_⟩:=fill_rel (fun i=>(fields.toList.map fun f=>(f.offset,P.cellsOf f.type)).toArray[i]?) (.st fs) (fun i p hp=>by
      simp only [place,Option.bind_eq_some_iff,Option.map_eq_some_iff] at hp
      obtain ⟨q,hq,ti',ht',rfl⟩:=hp
      rw [hf] at hq
      simp only [List.getElem?_map,Option.map_eq_some_iff] at hq
      obtain ⟨f,hfi,rfl⟩:=hq
      simp only [List.getElem?_toArray,List.getElem?_map,hfi,Option.map_some,cellsOf_te hte ht']) _ _ _ _ ti.zero p1 p2 (RVs.raws _) h
    refine fin us' ?_ h2
    unfold Program.built
    simp only [hi,hu,hz,hm,hzz]
    exact h1
  | _=>rw [hkk] at hagg; simp [isAggK] at hagg
theorem rep_map {α β : Type} (f : α→β) (n : Nat) (xs : List α) : (rep n xs).map f = rep n (xs.map f):=by
  induction n with
  | zero=>rfl
  | succ n ih=>simp [rep,ih]
theorem rep_length {α : Type} (n : Nat) (xs : List α) : (rep n xs).length = n * xs.length:=by
  induction n with
  | zero=>simp [rep]
  | succ n ih=>simp [rep,ih,Nat.succ_mul]; omega
theorem rep_get {α : Type} [Inhabited α] (xs : List α) : ∀ (n j : Nat),j < n * xs.length → (rep n xs)[j]? = some xs[j % xs.length]!
  | 0,j,h=>by simp at h
  | n + 1,j,h=>by
    have hx : 0 < xs.length:=by
      rcases Nat.eq_zero_or_pos xs.length with h0 | h0
      · rw [h0] at h; simp at h
      · exact h0
    unfold rep
    by_cases hj : j < xs.length
    · rw [List.getElem?_append_left hj,Nat.mod_eq_of_lt hj,List.getElem?_eq_getElem hj,getElem!_pos xs j hj]
    · rw [List.getElem?_append_right (by omega),rep_get xs n (j - xs.length) (by rw [Nat.succ_mul] at h; omega)]
      have : j % xs.length = (j - xs.length) % xs.length:=by rw [Nat.mod_eq_sub_mod (by omega)]
      rw [this]
theorem madeCells_rep (z : Array Value) (zs : List Value) (hz : z.toList = zs) (n : Nat) : ((Array.range (n * zs.length)).map (z[· % z.size]!)) = (rep n zs).toArray:=by
  subst hz
  apply Array.ext'
  simp only [Array.toList_map,Array.toList_range]
  refine List.ext_getElem? fun j=>?_
  simp only [List.getElem?_map]
  rcases Nat.lt_or_ge j (n * z.toList.length) with h | h
  · rw [rep_get z.toList n j h,List.getElem?_range h]
    simp only [Option.map_some,Array.length_toList,Option.some.injEq]
    simp [getElem!_def]
  · rw [List.getElem?_eq_none (by simpa using h),List.getElem?_eq_none (by rw [rep_length]; exact h)]
    rfl
theorem Valid.unmade (hv : Valid N g box w) {d c n : Nat} (hn : g.U d < n) : ¬ made g ⟨N.lvl,d,c,n⟩:=by
  unfold made
  rw [hv.lev,hv.kn]
  rintro (⟨h,_⟩ | h | ⟨_,h⟩)
  · have h : n = 0 := h
    omega
  · exact absurd (hv.klow _ h) (Nat.lt_irrefl _)
  · exact absurd h (by simp; omega)
theorem Valid.madeLow (hv : Valid N g box w) {i : Id} (h : made g i) : i.lvl ≤ N.lvl:=by
  unfold made at h
  rw [hv.lev,hv.kn] at h
  rcases h with ⟨_,h⟩ | h | ⟨h,_⟩
  · exact h
  · exact Nat.le_of_lt (hv.klow _ h)
  · exact Nat.le_of_eq h
theorem Valid.unT (hv : Valid N g box w) {d c n : Nat} (hn : g.U d < n) : g.T ⟨N.lvl,d,c,n⟩ = none:=by
  cases e : g.T ⟨N.lvl,d,c,n⟩ with
  | none=>rfl
  | some r=>obtain ⟨k',lo,hi⟩:=r; exact absurd (hv.tail _ _ _ _ e).2.2.1 (hv.unmade hn)
theorem Valid.unD (hv : Valid N g box w) {d c n : Nat} (hn : g.U d < n) : g.D ⟨N.lvl,d,c,n⟩ = false:=by
  cases e : g.D ⟨N.lvl,d,c,n⟩ with
  | false=>rfl
  | true=>exact absurd (hv.dgen _ e) (hv.unmade hn)
theorem madeNew {g : Ghost} {l d c n : Nat} (h : g.L = l) (hn : n ≤ g.U d) : made g ⟨l,d,c,n⟩:=.inr (.inr ⟨h.symm,hn⟩)
theorem out_newimm (hv : Valid N g box w) {xs : List AV} {us : List Value} {w1 : World} (hrel : RVs g.μ g.G w xs us) (hb : Below w.heap.size w w1) (k : Nat) (hk : w.heap.size ≤ k) {n c : Nat} (hnc : n ≤ c)
    (hcs : ∀ j,j < us.length→at_ w1 k j = us[j]?) (hr : (execOp a.eval o).run P w = .ok (.value (.slice (some ⟨k,0,none⟩) n c)) w1) :
    (c = n→GOut P N g box w o a d { v:=.sl n xs .full }) ∧
    (c = n→k < w1.heap.size→GOut P N g box w o a d { v:=.sl n xs (.lit ⟨N.lvl,d,0,g.U d + 1⟩),bump:=true }) ∧
    ∀ sz,k < w1.heap.size → us.length = n * sz → (∀ j,us.length ≤ j → j < c * sz → (at_ w1 k j).isSome ∧ w1.frozen? ⟨k,j,none⟩ = false) →
      GOut P N g box w o a d { v:=.sl n xs (.own ⟨N.lvl,d,0,g.U d + 1⟩ sz),bump:=true }:=by
  have hv1:=hv.world hb
  obtain ⟨n1,n2,n3⟩:=hv.noneAt hk
  have hw0:=hv.chg.size
  have hv2:=hv1.addG (fun k' j=>k' = k ∧ j < us.length) (by
    rintro k' j ⟨rfl,hj⟩
    exact ⟨by rw [hcs j hj]; simp [hj],fun h=>by omega,n2,fun i lo hi h=>absurd h (n3 i lo hi)⟩)
  have hle:=(hv.le_world hb).trans (Le.addG (g:=g) (w:=w1) (fun k' j=>k' = k ∧ j < us.length))
  have hread : Read w1 (fun k' j=>g.G k' j ∨ (k' = k ∧ j < us.length)) k 0 us:=fun j hj=>⟨by rw [Nat.zero_add]; exact hcs j hj,.inr ⟨rfl,by omega⟩⟩
  refine ⟨fun hc=>?_,fun hc hk1=>?_,fun sz hk1 hl hroom=>?_⟩
  · refine ⟨_,w1,_,hr,hv2,hle,rfl,rfl,?_,?_⟩
    · simp only [RV]; exact .inr ⟨k,0,c,us,rfl,hnc,RVs.le hle hrel,hread⟩
    · exact hc
  · have hU : ∀ s,g.U s ≤ upd g.U d (g.U d + 1) s := fun s => by unfold upd; split <;> simp_all
    have hv3:=hv2.bump _ hU
    have hTn : g.T ⟨N.lvl,d,0,g.U d + 1⟩ = none:=hv.unT (Nat.lt_succ_self _)
    have hDn : g.D ⟨N.lvl,d,0,g.U d + 1⟩ = false:=hv.unD (Nat.lt_succ_self _)
    have hv4 := hv3.addT ⟨N.lvl,d,0,g.U d + 1⟩ k us.length us.length (.inl (by omega)) hk1 (madeNew hv.lev (by simp [upd])) rfl hDn hTn (Nat.le_refl _)
      (fun j h1 h2=>by omega) n2 (fun j lo hi _=>n3 j lo hi)
    have hle2:=(hle.trans (Le.bump _ hU)).trans (Le.addT (g:={ g with G:=fun k' j=>g.G k' j ∨ (k' = k ∧ j < us.length),U:=upd g.U d (g.U d + 1) }) (w:=w1) ⟨N.lvl,d,0,g.U d + 1⟩ (k,us.length,us.length) hTn)
    refine ⟨_,w1,_,hr,hv4,hle2,by simp,rfl,?_,?_⟩
    · simp only [RV]; exact .inr ⟨k,0,c,us,rfl,hnc,RVs.le hle hrel,hread⟩
    · simp only [Top,FlOK]
      exact ⟨madeNew hv.lev (by simp [upd]),hc,.inr ⟨k,0,us.length,rfl,by simp⟩⟩
  · have hU : ∀ s,g.U s ≤ upd g.U d (g.U d + 1) s := fun s => by unfold upd; split <;> simp_all
    have hv3:=hv2.bump _ hU
    have hTn : g.T ⟨N.lvl,d,0,g.U d + 1⟩ = none:=hv.unT (Nat.lt_succ_self _)
    have hDn : g.D ⟨N.lvl,d,0,g.U d + 1⟩ = false:=hv.unD (Nat.lt_succ_self _)
    have hv4 := hv3.addT ⟨N.lvl,d,0,g.U d + 1⟩ k us.length (c * sz) (.inl (by omega)) hk1 (madeNew hv.lev (by simp [upd])) rfl hDn hTn (by rw [hl]; exact Nat.mul_le_mul_right _ hnc)
      (fun j h1 h2=>by
        obtain ⟨e1,e2⟩:=hroom j h1 h2
        refine ⟨e1,e2,?_⟩
        rintro (h | ⟨_,h⟩)
        · exact n1 _ h
        · omega) n2 (fun j lo hi _=>n3 j lo hi)
    have hle2:=(hle.trans (Le.bump _ hU)).trans (Le.addT (g:={ g with G:=fun k' j=>g.G k' j ∨ (k' = k ∧ j < us.length),U:=upd g.U d (g.U d + 1) }) (w:=w1) ⟨N.lvl,d,0,g.U d + 1⟩ (k,us.length,c * sz) hTn)
    refine ⟨_,w1,_,hr,hv4,hle2,by simp,rfl,?_,?_⟩
    · simp only [RV]; exact .inr ⟨k,0,c,us,rfl,hnc,RVs.le hle hrel,hread⟩
    · simp only [Top,FlOK]
      refine ⟨madeNew hv.lev (by simp [upd]),.inr (.inr ⟨k,0,us.length,c * sz,rfl,?_,by simp,.inr ⟨?_,?_⟩⟩)⟩
      · rw [← hrel.length]; exact hl
      · rw [← hrel.length]; simp
      · simp
theorem Top.view (g : Ghost) (b : Bx) (off n c sz : Nat) (u : Value) : Top g (.view b off n c sz) u:=trivial
theorem out_newview (hv : Valid N g box w) {xs : List AV} {us : List Value} {w1 : World} {el : TypeId} {cs : Array Value} (hrel : RVs g.μ g.G w xs us) (hb : Below w.heap.size w w1) (k : Nat) (hk : w.heap.size ≤ k)
    (hc : w1.heap[k]? = some (.cells cs el (0,0))) (hl : us.length ≤ cs.size) (hcs : ∀ j,j < us.length→cs[j]? = us[j]?) {n c c' sz : Nat} (hnc : n ≤ c)
    (hr : (execOp a.eval o).run P w = .ok (.value (.slice (some ⟨k,0,none⟩) n c')) w1) (hcc : c ≤ c')
    (htop : ∀ (j n : Nat) (ys : List AV) (fl : Fl) (u : Value),xs[j]? = some (.sl n ys fl)→us[j]? = some u→FlOK g fl ys.length u) (hok : CellsOK xs) :
    GOut P N g box w o a d { v:=.view (.own N.lvl d (g.U d + 1)) 0 n c sz,bump:=true,cont:=some xs } :=
  out_newbox hv hrel hb k hk hc hl hcs hr (by simp only [RV]; exact ⟨k,0,c',by simp,rfl,hcc,hnc,.inl (by trivial)⟩) (fun _=>trivial) htop hok
theorem out_buildSlice {E : Env} (hE : E.te = te) (hte : TeOK P te) (hv : Valid N g box w) (hρ : Rel g w a ρ) (t : TypeId) (n : Nat) (ps : Array (Nat × Operand)) (ho : o.op = .buildSlice t n ps) {e : TypeId} (hk : kd te t = .slice e) {ti : TI} (ht : te e = some ti)
    (hn : n * ti.size ≤ 16777216) {cs : List AV} (h : fillV te (.slice e) (zerosOf ti n) (ps.toList.map fun p=>(p.1,ρ p.2)) = some cs) : GOut P N g box w o a d (freshSl E N.lvl d (g.U d + 1) n ti.size cs):=by
  obtain ⟨_,_,_,dd,hd,hk2⟩:=kd_some hte hk (by simp)
  simp only [TKis] at hk2; subst hk2
  obtain ⟨p1,p2⟩:=parts_rel hρ ps
  obtain ⟨it,z,hi,hs,hb,hz,hzc,hzl⟩:=(hte e ti ht).info
  have hzr : zerosOf ti n = (rep n ti.zero).map .raw:=by unfold zerosOf; rw [rep_map]
  rw [hzr] at h
  obtain ⟨us',h1,h2,h3⟩:=fill_rel (fun i=>some (i * ti.size,ti.size)) (.slice e) (fun i p hp=>by
      simp only [place,ht,Option.map_some,Option.some.injEq] at hp
      rw [← hp]) _ _ _ _ (rep n ti.zero) p1 p2 (RVs.raws _) h
  have hrun : (execOp a.eval o).run P w = .ok (.value (.slice (some ⟨w.heap.size,0,none⟩) n n)) (w.alloc (.cells us'.toArray e)):=by
    refine run_value (s:=Instr.buildSlice t n (ps.map fun p=>(p.1,a.eval p.2))) ?_ (by unfold execOp; rw [ho])
    have hlt : ¬ (16777216 < n * ti.size):=by omega
    by_cases h0 : n * ti.size = 0
    · have hr0 : rep n ti.zero = [] := List.length_eq_zero_iff.1 (by rw [rep_length,hzl]; exact h0)
      rw [hr0] at h1
      rw [Array.toList_map] at h1
      simp [Instr.buildSlice,run_underlying hd,run_sizeOf hte ht,h0,newRow,Array.range_zero']
      rw [h1]; simp
    · have hm := madeCells_rep z.cells ti.zero hzc n
      rw [hzl] at hm
      simp [Instr.buildSlice,run_underlying hd,run_sizeOf hte ht,hlt,h0,newRow,zeroValue,typeInfo,hi,hz]
      rw [Array.toList_map] at h1
      rw [hm,h1]
      simp
  have hul:=h2.length
  unfold freshSl
  split
  · split
    · exact (out_newimm hv h2 (below_alloc' _ _) w.heap.size (Nat.le_refl _) (Nat.le_refl _) (fun j hj=>by rw [at_row (alloc_at _ _)]; simp) hrun).1 rfl
    exact out_newview hv h2.strips (below_alloc' _ _) w.heap.size (Nat.le_refl _) (alloc_at _ _) (by simp) (by simp) (Nat.le_refl _) hrun (Nat.le_refl _) (fun j n ys fl u hj _=>by simp only [List.getElem?_map,Option.map_eq_some_iff] at hj; obtain ⟨_,_,hj⟩:=hj; rw [strip_sl hj]; trivial) (cellsOK_strips _)
  split
  · exact (out_newimm hv h2 (below_alloc' _ _) w.heap.size (Nat.le_refl _) (Nat.le_refl _) (fun j hj=>by rw [at_row (alloc_at _ _)]; simp) hrun).2.1 rfl (by show w.heap.size < (w.heap.push _).size; simp)
  · refine (out_newimm hv h2 (below_alloc' _ _) w.heap.size (Nat.le_refl _) (Nat.le_refl _) (fun j hj => by rw [at_row (alloc_at _ _)]; simp) hrun).2.2 ti.size ?_ ?_ (fun j h1 h2 => ?_)
    · show w.heap.size < (w.heap.push _).size; simp
    · rw [hul,h3,List.length_map,rep_length,hzl]
    · rw [hul,h3,List.length_map,rep_length,hzl] at h1; omega
theorem asBytes_rel {μ : Bx → Option Nat} {G : Nat → Nat → Prop} : ∀ {xs : List AV} {us : List Value} {bs : List UInt8},RVs μ G w xs us → asBytes xs = some bs →
    ∃ ns : List Int,us = ns.map (Value.int .u8) ∧ bs = ns.map fun n=>UInt8.ofNat n.toNat
  | [],us,bs,hr,h=>by simp only [RVs] at hr; simp [asBytes] at h; subst h hr; exact ⟨[],rfl,rfl⟩
  | x :: xs,us,bs,hr,h=>by
    simp only [RVs] at hr
    obtain ⟨u,us',rfl,h1,h2⟩:=hr
    unfold asBytes at h
    split at h
    · rename_i heq; cases heq
    · rename_i heq
      cases heq
      simp only [Option.map_eq_some_iff] at h
      obtain ⟨bs',h3,rfl⟩:=h
      obtain ⟨ns,rfl,rfl⟩:=asBytes_rel h2 h3
      simp only [RV] at h1
      subst h1
      exact ⟨_ :: ns,rfl,rfl⟩
    · cases h
theorem foldl_push_list : ∀ (ns : List Int) (r : ByteArray),ns.foldl (fun r n => r.push (UInt8.ofNat n.toNat)) r = ⟨r.data ++ (ns.map fun n => UInt8.ofNat n.toNat).toArray⟩
  | [],r=>by simp
  | n :: ns,r=>by
    rw [List.foldl_cons,foldl_push_list ns]
    simp [ByteArray.push]
theorem slCells_rel (hv : Valid N g box w) {sz : Nat} {v : AV} {u : Value} (hr : RV g.μ g.G w v u) {n : Nat} {xs : List AV} (h : slCells box sz v = some (n,xs)) :
    (∃ s,u = .string s ∧ sz = 1 ∧ n = s.size ∧ xs = s.data.toList.map fun b=>.raw (.int .u8 b.toNat)) ∨
    ((∃ A,u = .slice A 0 0) ∧ n = 0 ∧ xs = []) ∨ ∃ k off c us,u = .slice (some ⟨k,off,none⟩) n c ∧ n ≤ c ∧ RVs g.μ g.G w xs us ∧ (∀ j,j < us.length→at_ w k (off + j) = us[j]?) ∧ us.length = n * sz:=by
  unfold slCells at h
  split at h
  · cases h; simp only [RV] at hr; exact .inr (.inl ⟨⟨none,hr⟩,rfl,rfl⟩)
  · split at h
    · rename_i hxl
      cases h
      simp only [RV] at hr
      rcases hr with ⟨⟨A,rfl⟩,rfl,rfl⟩ | ⟨k,off,c,us,rfl,h2,h3,h4⟩
      · exact .inr (.inl ⟨⟨A,rfl⟩,rfl,rfl⟩)
      · exact .inr (.inr ⟨k,off,c,us,rfl,h2,h3,fun j hj=>(h4 j hj).1,by rw [h3.length,hxl]⟩)
    · cases h
  · rename_i b off n' c z
    simp only [RV] at hr
    obtain ⟨k,oo,c',hm,rfl,hcc,hnc,hoo⟩:=hr
    simp only [Option.bind_eq_some_iff] at h
    obtain ⟨ys,hy,h⟩:=h
    split at h
    · rename_i hc
      cases h
      obtain ⟨us,h4,h5,_⟩:=hv.box_cells hm hy
      have hlen:=h4.length
      by_cases hc0 : c = 0
      · have hn0 : n = 0 := by omega
        subst hn0
        refine .inr (.inr ⟨k,oo,c',[],rfl,Nat.zero_le _,?_,fun j hj=>by simp at hj,by simp⟩)
        simp; exact RVs.nil
      · have : oo = off := by rcases hoo with h | h; · exact h
                              · exact absurd h hc0
        subst this
        refine .inr (.inr ⟨k,oo,c',_,rfl,Nat.le_trans hnc hcc,(h4.drop oo).take (n * sz),fun j hj=>?_,by rw [List.length_take,List.length_drop]; omega⟩)
        rw [List.length_take,List.length_drop] at hj
        rw [List.getElem?_take,if_pos (by omega),List.getElem?_drop]
        exact h5 _ (by omega)
    · cases h
  · split at h
    · rename_i s hs
      cases h; simp only [RV] at hr
      exact .inl ⟨s,hr,hs,rfl,rfl⟩
    · cases h
  · cases h
theorem out_convert {E : Env} (hE : E.te = te) (hte : TeOK P te) (hv : Valid N g box w) (hρ : Rel g w a ρ) (src dst : TypeId) (x : Operand) (ho : o.op = .convert src dst x) {r : GR} (h : convV E N.lvl d (g.U d + 1) box src dst (ρ x) = some r) :
    GOut P N g box w o a d r:=by
  have hx:=(hρ x).1
  have key : ∀ (u r : Value) (w' : World),a.eval x = u→(convert src dst u).run P w = .ok r w'→(execOp a.eval o).run P w = .ok (.value r) w':=fun u r w' he hr=>run_value (by rw [← he] at hr; exact hr) (by unfold execOp; rw [ho])
  revert h hx key
  generalize ρ x = x0
  generalize a.eval x = u0
  intro h hx key
  unfold convV at h
  rw [hE] at h
  split at h
  · rename_i k1 k2 k3 n hk1 hk2
    obtain ⟨_,_,_,d1,hd1,hk1'⟩:=kd_some hte hk1 (by simp)
    obtain ⟨_,_,_,d2,hd2,hk2'⟩:=kd_some hte hk2 (by simp)
    simp only [TKis] at hk1' hk2'; subst hk1'; subst hk2'
    simp only [RV] at hx; subst hx; cases h
    exact .pure hv (key _ (.int k2 (k2.wrap n)) w rfl (by simp [convert,run_underlying hd1,run_underlying hd2,Conv.intToInt])) (by simp only [RV]) trivial
  · rename_i s hk1 hk2
    obtain ⟨_,_,_,d1,hd1,hk1'⟩:=kd_some hte hk1 (by simp)
    obtain ⟨_,_,_,d2,hd2,hk2'⟩:=kd_some hte hk2 (by simp)
    simp only [TKis] at hk1' hk2'; subst hk1'; subst hk2'
    simp only [RV] at hx; subst hx; cases h
    exact .pure hv (key _ (.string s) w rfl (by simp [convert,run_underlying hd1,run_underlying hd2])) (by simp only [RV]) trivial
  · rename_i e s hk1 hk2
    obtain ⟨_,_,_,d1,hd1,hk1'⟩:=kd_some hte hk1 (by simp)
    obtain ⟨_,_,_,d2,hd2,hk2'⟩:=kd_some hte hk2 (by simp)
    simp only [TKis] at hk1' hk2'; subst hk1'; subst hk2'
    simp only [RV] at hx; subst hx
    split at h
    · rename_i hke
      obtain ⟨_,_,_,d3,hd3,hk3'⟩:=kd_some hte hke (by simp)
      simp only [TKis] at hk3'; subst hk3'
      split at h
      · cases h
      · cases h
        have hsz : (bytesRow s (grownCap w s.size 0 e)).size = grownCap w s.size 0 e:=by
          have:=grownCap_ge w s.size 0 e
          simp only [bytesRow,Array.size_append,Array.size_map,Array.size_replicate]
          have : s.data.size = s.size:=rfl
          omega
        have hg:=grownCap_ge w s.size 0 e
        have hat : (w.drew.alloc (.cells (bytesRow s (grownCap w s.size 0 e)) e ((bytesRow s (grownCap w s.size 0 e)).size,(bytesRow s (grownCap w s.size 0 e)).size + 1))).heap[w.heap.size]? = some (.cells (bytesRow s (grownCap w s.size 0 e)) e ((bytesRow s (grownCap w s.size 0 e)).size,(bytesRow s (grownCap w s.size 0 e)).size + 1)):=alloc_at w.drew _
        have hlen : (s.data.toList.map fun b=>Value.int .u8 (b.toNat : Int)).length = s.size:=by rw [List.length_map]; rfl
        have hp:=(out_newimm (P:=P) (o:=o) (a:=a) (d:=d) hv (xs:=s.data.toList.map fun b=>.raw (.int .u8 b.toNat)) (us:=s.data.toList.map fun b=>.int .u8 b.toNat) (by
            have:=RVs.raws (μ:=g.μ) (G:=g.G) (w:=w) (s.data.toList.map fun b=>Value.int .u8 (b.toNat : Int))
            rwa [List.map_map] at this)
          ((below_alloc' w.drew _ : Below w.drew.heap.size w.drew _).mono (Nat.le_refl _) |> fun h=>(Below.refl w.heap.size w).drew.trans h) w.heap.size (Nat.le_refl _) hg ?_
          (key _ _ _ rfl (run_bytes_of_string w src dst e s hd1 hd2 hd3))).2.2 1 ?_ ?_ ?_
        · exact hp
        · intro j hj
          rw [hlen] at hj
          rw [at_row hat,bytesRow_at s _ j hj]
          simp [List.getElem?_map,hj]
        · show w.heap.size < (w.heap.push _).size; simp
        · rw [hlen]; omega
        · intro j h1 h2
          rw [hlen] at h1
          refine ⟨?_,?_⟩
          · rw [at_row hat]
            simp; rw [hsz]; omega
          · unfold World.frozen?
            rw [hat]
            simp; rw [hsz]; omega
    · cases h
  · rename_i e hk1 hk2
    obtain ⟨_,_,_,d1,hd1,hk1'⟩:=kd_some hte hk1 (by simp)
    obtain ⟨_,_,_,d2,hd2,hk2'⟩:=kd_some hte hk2 (by simp)
    simp only [TKis] at hk1' hk2'; subst hk1'; subst hk2'
    split at h
    · rename_i hke
      obtain ⟨_,_,_,d3,hd3,hk3'⟩:=kd_some hte hke (by simp)
      simp only [TKis] at hk3'; subst hk3'
      split at h
      · cases h
      · rename_i hns
        simp only [Option.bind_eq_some_iff,Option.map_eq_some_iff] at h
        obtain ⟨⟨n,xs⟩,h1,bs,h2,rfl⟩:=h
        simp only at h2
        rcases slCells_rel hv hx h1 with ⟨s,rfl,_,_,rfl⟩ | ⟨⟨A,rfl⟩,rfl,rfl⟩ | ⟨k,off,c,us,rfl,hnc,hr,hm,hl⟩
        · unfold slCells at h1
          split at h1
          · simp only [RV] at hx; cases hx
          · simp only [RV] at hx
            rcases hx with ⟨⟨_,h⟩,_⟩ | ⟨_,_,_,_,h,_⟩ <;> cases h
          · simp only [RV] at hx
            obtain ⟨_,_,_,_,h,_⟩:=hx; cases h
          · exact absurd rfl (hns _)
          · cases h1
        · simp [asBytes] at h2; subst h2
          refine .pure hv (key _ (.string ⟨#[]⟩) w rfl ?_) (by simp only [RV]) trivial
          rw [run_convert_bytes_string w src dst e A 0 0 hd1 hd3 hd2]; cases A <;> rfl
        · obtain ⟨ns,rfl,rfl⟩ := asBytes_rel hr h2
          refine .pure hv (u:=.string ⟨(ns.map fun n=>UInt8.ofNat n.toNat).toArray⟩) (key _ _ w rfl ?_) (by simp only [RV]) trivial
          rw [run_convert_bytes_string w src dst e (some ⟨k,off,none⟩) n c hd1 hd3 hd2]
          have hn : (ns.map (Value.int .u8)).length = n:=by rw [hl,Nat.mul_one]
          rw [run_bytesToString w ⟨k,off,none⟩ n c ns]
          · rw [foldl_push_list]; simp
          · rw [← hn]
            exact run_loadCells_list w ⟨k,off,none⟩ _ (fun j v hv=>by
              have hj : j < (ns.map (Value.int .u8)).length:=(List.getElem?_eq_some_iff.1 hv).1
              rw [addr_add]; exact (hm j hj).trans hv)
    · cases h
  · cases h
end
section
variable {P : Program} {N : Ent} {g : Ghost} {box : Boxes} {w : World} {o : Oper} {a : Act} {d : Nat} {ρ : Operand→AV} {te : TypeId→Option TI}
theorem freeze_heap (w : World) (p : Addr) (n k : Nat) (hn : n ≠ 0) : (w.freeze p n).heap[k]? = if p.block = k then (w.heap[k]?).map (fun ob => match ob with
    | .cells c elem (lo,hi)=>.cells c elem (if lo == hi then (p.off,p.off + n) else (min lo p.off,max hi (p.off + n)))
    | o=>o) else w.heap[k]?:=by
  rw [World.freeze,if_neg hn]
  exact Array.getElem?_modify
theorem at_freeze (w : World) (p : Addr) (n k o : Nat) : at_ (w.freeze p n) k o = at_ w k o:=by
  by_cases hn : n = 0
  · rw [World.freeze,if_pos hn]
  · unfold at_ World.cell?
    simp only [freeze_heap w p n k hn]
    by_cases e : p.block = k
    · rw [if_pos e]
      cases w.heap[k]? with
      | none=>rfl
      | some ob=>cases ob <;> rfl
    · rw [if_neg e]
theorem Valid.mark (h : Valid N g box w) (p : Addr) (n : Nat) (hk : N.w0.heap.size ≤ p.block ∨ N.may p.block) (hT : ∀ i lo hi,g.T i = some (p.block,lo,hi)→hi ≤ lo) (hm : ∀ b,g.μ b ≠ some p.block) : Valid N g box (w.freeze p n):=by
  have hb : ∀ j,j ≠ p.block→(w.freeze p n).heap[j]? = w.heap[j]?:=fun j hj=>by
    by_cases hn : n = 0
    · rw [World.freeze,if_pos hn]
    · rw [freeze_heap w p n j hn,if_neg (Ne.symm hj)]
  have hsz : (w.freeze p n).heap.size = w.heap.size:=by
    unfold World.freeze
    split
    · rfl
    · simp
  have hos : (w.freeze p n).os = w.os ∧ (w.freeze p n).tape = w.tape ∧ (w.freeze p n).output = w.output:=by
    unfold World.freeze
    split <;> exact ⟨rfl,rfl,rfl⟩
  have hat : ∀ k o,at_ (w.freeze p n) k o = at_ w k o:=fun k o=>at_freeze w p n k o
  refine { h with chg:=?_,keep:=?_,cell:=?_,cont:=?_,ctop:=?_,tail:=?_ }
  · exact ⟨hos.1.trans h.chg.os,hos.2.1.trans h.chg.tape,hos.2.2.trans h.chg.output,by rw [hsz]; exact h.chg.size,fun i hi hn=>(hb i (fun e=>by
      rcases hk with hk | hk
      · omega
      · rw [e] at hn; exact hn hk)).trans (h.chg.block i hi hn)⟩
  · intro k o hg; rw [hat]; exact h.keep k o hg
  · intro k o hg; rw [hat]; exact h.cell k o hg
  · intro b k xs hbk hx
    exact (h.cont b k xs hbk hx).mono (hb k (fun e=>hm b (by rw [hbk,e]))) (fun _ _ h=>h) (fun _ _ h=>h) (fun k o _=>hat k o)
  · intro b k xs hbk hx j n ys fl u hj hu
    rw [hat] at hu
    exact h.ctop b k xs hbk hx j n ys fl u hj hu
  · intro i k lo hi ht
    obtain ⟨s1,s2,s3,s4,s5,s6,s7⟩:=h.tail i k lo hi ht
    refine ⟨s1,by rw [hsz]; exact s2,s3,s4,s5,fun o ho ho'=>?_,s7⟩
    obtain ⟨e1,e2,e3⟩:=s6 o ho ho'
    have hne : k ≠ p.block:=fun e=>by have:=hT i lo hi (by rw [ht,e]); omega
    exact ⟨by rw [hat]; exact e1,by rw [frozen_of_block (hb k hne)]; exact e2,e3⟩
theorem out_convSelf {used : Id → Bool} (hD : g.D = used) (hte : TeOK P te) (hv : Valid N g box w) (hρ : Rel g w a ρ) (src dst : TypeId) (x : Operand) (ho : o.op = .convert src dst x) {r : GR} (h : convSelf te used src dst (ρ x) = some r) :
    GOut P N g box w o a d r:=by
  obtain ⟨hx,ht⟩:=hρ x
  have key : ∀ (u r : Value) (w' : World),a.eval x = u→(convert src dst u).run P w = .ok r w'→(execOp a.eval o).run P w = .ok (.value r) w':=fun u r w' he hr=>run_value (by rw [← he] at hr; exact hr) (by unfold execOp; rw [ho])
  revert h hx ht key
  generalize ρ x = x0
  generalize a.eval x = u0
  intro h hx ht key
  unfold convSelf at h
  split at h
  · rename_i n xs i z
    split at h
    · rename_i e hk1
      split at h
      · rename_i hk2
        split at h
        · rename_i hc
          obtain ⟨rfl,hu,hn⟩:=hc
          cases h
          obtain ⟨_,_,_,d1,hd1,hk1'⟩:=kd_some hte hk1 (by simp)
          obtain ⟨_,_,_,d2,hd2,hk2'⟩:=kd_some hte hk2 (by simp)
          simp only [TKis] at hk1' hk2'; subst hk1'; subst hk2'
          simp only [RV] at hx
          rcases hx with ⟨_,h0,_⟩ | ⟨k,off,c,us,rfl,h2,h3,h4⟩
          · exact absurd h0 hn
          · simp only [Top,FlOK] at ht
            obtain ⟨hgen,ht⟩:=ht
            rcases ht with ht | ⟨ht,_⟩ | ⟨k',o',lo,hi,e1,_,e3,_⟩
            · rw [hD,hu] at ht; cases ht
            · cases ht
            · cases e1
              obtain ⟨t1,t2,t3,t4,t5,t6,t7⟩:=hv.tail _ _ _ _ e3
              have v1:=hv.dropT i hgen
              have l1:=Le.dropT (g:=g) (w:=w) i
              have hno : ∀ j lo' hi',({ g with T:=fun j=>if j = i then none else g.T j,D:=updI g.D i } : Ghost).T j ≠ some (k,lo',hi'):=by
                intro j lo' hi' hj
                change (if j = i then none else g.T j) = _ at hj
                split at hj
                · cases hj
                · rename_i hne; exact hne (hv.tinj _ _ _ _ _ _ _ hj e3)
              have rel : ∀ w',(∀ k o,at_ w' k o = at_ w k o)→RV g.μ g.G w' (.sl n xs .bor) (.slice (some ⟨k,off,none⟩) n c):=fun w' hat=>by
                simp only [RV]
                refine .inr ⟨k,off,c,us,rfl,h2,RVs.mono (fun _ _ h=>h) (fun _ _ h=>h) (fun k o _=>hat k o) _ _ h3,fun j hj=>?_⟩
                rw [hat]; exact h4 j hj
              cases hsh : w.shape? k with
              | none =>
                exact ⟨_,w,_,key _ (.slice (some ⟨k,off,none⟩) n c) w rfl (by simp [convert,run_underlying hd1,run_underlying hd2,markStringish,hsh]),v1,l1,by simp,rfl,rel w (fun _ _=>rfl),trivial⟩
              | some p =>
                obtain ⟨el,sz⟩:=p
                refine ⟨_,w.freeze ⟨k,sz,none⟩ 1,_,key _ (.slice (some ⟨k,off,none⟩) n c) _ rfl (by simp [convert,run_underlying hd1,run_underlying hd2,markStringish,hsh]),v1.mark ⟨k,sz,none⟩ 1 (t1.imp id fun ⟨j,lo',hi',h,_⟩=>.inr ⟨j,lo',hi',h⟩) (fun i lo hi h=>absurd h (hno i lo hi)) t7,l1.trans ⟨rfl,rfl,fun _ _ h=>h,fun _ _ h=>h,fun k o _=>at_freeze w _ _ k o,fun _=>Nat.le_refl _,fun _ h=>h,fun _ _ h=>.inl h⟩,by simp,rfl,rel _ (fun k o=>at_freeze w _ _ k o),trivial⟩
        · cases h
      · cases h
    · cases h
  · rename_i n xs i
    split at h
    · rename_i e hk1
      split at h
      · rename_i hk2
        split at h
        · rename_i hc
          obtain ⟨rfl,hu,hn⟩:=hc
          cases h
          obtain ⟨_,_,_,d1,hd1,hk1'⟩:=kd_some hte hk1 (by simp)
          obtain ⟨_,_,_,d2,hd2,hk2'⟩:=kd_some hte hk2 (by simp)
          simp only [TKis] at hk1' hk2'; subst hk1'; subst hk2'
          simp only [RV] at hx
          rcases hx with ⟨_,h0,_⟩ | ⟨k,off,c,us,rfl,h2,h3,h4⟩
          · exact absurd h0 hn
          · simp only [Top,FlOK] at ht
            obtain ⟨hgen,hcn,ht⟩:=ht
            rcases ht with ht | ⟨k',o',lo,e1,e3⟩
            · rw [hD,hu] at ht; cases ht
            · cases e1
              obtain ⟨t1,t2,t3,t4,t5,t6,t7⟩:=hv.tail _ _ _ _ e3
              have v1:=hv.dropT i hgen
              have l1:=Le.dropT (g:=g) (w:=w) i
              have hno : ∀ j lo' hi',({ g with T:=fun j=>if j = i then none else g.T j,D:=updI g.D i } : Ghost).T j ≠ some (k,lo',hi'):=by
                intro j lo' hi' hj
                change (if j = i then none else g.T j) = _ at hj
                split at hj
                · cases hj
                · rename_i hne; exact hne (hv.tinj _ _ _ _ _ _ _ hj e3)
              have rel : ∀ w',(∀ k o,at_ w' k o = at_ w k o)→RV g.μ g.G w' (.sl n xs .full) (.slice (some ⟨k,off,none⟩) n c):=fun w' hat=>by
                simp only [RV]
                refine .inr ⟨k,off,c,us,rfl,h2,RVs.mono (fun _ _ h=>h) (fun _ _ h=>h) (fun k o _=>hat k o) _ _ h3,fun j hj=>?_⟩
                rw [hat]; exact h4 j hj
              cases hsh : w.shape? k with
              | none =>
                exact ⟨_,w,_,key _ (.slice (some ⟨k,off,none⟩) n c) w rfl (by simp [convert,run_underlying hd1,run_underlying hd2,markStringish,hsh]),v1,l1,by simp,rfl,rel w (fun _ _=>rfl),hcn⟩
              | some p =>
                obtain ⟨el,sz⟩:=p
                refine ⟨_,w.freeze ⟨k,sz,none⟩ 1,_,key _ (.slice (some ⟨k,off,none⟩) n c) _ rfl (by simp [convert,run_underlying hd1,run_underlying hd2,markStringish,hsh]),v1.mark ⟨k,sz,none⟩ 1 (t1.imp id fun ⟨j,lo',hi',h,_⟩=>.inr ⟨j,lo',hi',h⟩) (fun i lo hi h=>absurd h (hno i lo hi)) t7,l1.trans ⟨rfl,rfl,fun _ _ h=>h,fun _ _ h=>h,fun k o _=>at_freeze w _ _ k o,fun _=>Nat.le_refl _,fun _ h=>h,fun _ _ h=>.inl h⟩,by simp,rfl,rel _ (fun k o=>at_freeze w _ _ k o),hcn⟩
        · cases h
      · cases h
    · cases h
  · cases h
end
end Go.Abs
namespace Go.Abs
set_option linter.unusedSimpArgs false
set_option linter.unusedVariables false
open Go Go.RowKit
theorem oneA_rel {μ : Bx→Option Nat} {G : Nat→Nat→Prop} {w : World} {v : AV} {u : Value} (h : RV μ G w v u) (ho : oneA v = true) : u.oneCell' = true:=by
  cases v with
  | raw x=>simp only [RV] at h; subst h; cases u <;> first | rfl | (simp [oneA] at ho)
  | anyb=>simp only [RV] at h; obtain ⟨b,rfl⟩:=h; rfl
  | sl n xs fl=>simp only [RV] at h; rcases h with ⟨⟨_,rfl⟩,_⟩ | ⟨_,_,_,_,rfl,_⟩ <;> rfl
  | ptr b off=>simp only [RV] at h; obtain ⟨_,_,rfl⟩:=h; rfl
  | iptr xs=>simp only [RV] at h; obtain ⟨_,_,_,rfl,_⟩:=h; rfl
  | view b off n c sz=>simp only [RV] at h; obtain ⟨_,_,_,_,rfl,_⟩:=h; rfl
  | fn f cs=>simp only [RV] at h; obtain ⟨_,rfl,_⟩:=h; rfl
  | _=>simp [oneA] at ho
theorem oneAs_rel {μ : Bx→Option Nat} {G : Nat→Nat→Prop} {w : World} {xs : List AV} {us : List Value} (h : RVs μ G w xs us) (ho : xs.all oneA = true) : ∀ u ∈ us,u.oneCell' = true:=by
  intro u hu
  obtain ⟨j,hj⟩:=List.getElem?_of_mem hu
  have hl:=h.length
  have hjl : j < xs.length:=by rw [← hl]; exact (List.getElem?_eq_some_iff.1 hj).1
  obtain ⟨u',h1,h2⟩:=h.get j xs[j] (List.getElem?_eq_getElem hjl)
  rw [hj] at h1; cases h1
  exact oneA_rel h2 (List.all_eq_true.1 ho _ (List.getElem_mem hjl))
section
variable {P : Program} {N : Ent} {g : Ghost} {box : Boxes} {w : World} {o : Oper} {a : Act} {d : Nat} {ρ : Operand→AV} {te : TypeId→Option TI}
structure App (P : Program) (w : World) (t t1 ty e : TypeId) (i : TypeInfo) (z : Value) (x : Value) (m : Nat) (news : List Value) : Prop where
  len : news.length = m * i.size
  room : ∀ (k off n c : Nat),n + m ≤ c → (∀ j,j < news.length → (at_ w k (off + n * i.size + j)).isSome = true) → (∀ j,j < news.length → w.frozen? ⟨k,off + n * i.size + j,none⟩ = false) →
    (Builtin.append_ #[t,t1] ty #[.slice (some ⟨k,off,none⟩) n c,x]).run P w = .ok (.slice (some ⟨k,off,none⟩) (n + m) c) (w.setCells k (off + n * i.size) news)
  grow : ∀ (A : Option Addr) (n c : Nat) (olds : List Value),(Builtin.firstCells i.size n (.slice A n c)).run P w.drew = .ok olds.toArray w.drew → c < n + m → (n + m + (n + m) / 4 + 192) * i.bytes ≤ 281474976710656 → n + m ≤ 225179981368371 →
    (Builtin.append_ #[t,t1] ty #[.slice A n c,x]).run P w = .ok (.slice (some ⟨w.heap.size,0,none⟩) (n + m) (grownCap w (n + m) c e))
      (w.drew.alloc (.cells ((olds ++ news).toArray ++ Builtin.zeroCells z.cells (grownCap w (n + m) c e - (n + m))) e))
  nil : m = 0→∀ A,(Builtin.append_ #[t,t1] ty #[.slice A 0 0,x]).run P w = .ok (.slice A 0 0) w
theorem App.src {t t1 ty e : TypeId} {i : TypeInfo} {z x : Value} {m : Nat} {news : List Value} (ht : P.underlying t = some (.slice e)) (hi : P.info? e = some i) (hz : i.zero = some z) (hs : Src P i.size t1 x m news w) : App P w t t1 ty e i z x m news:=by
  refine ⟨hs.newsLen,fun k off n c h1 h2 h3=>run_append_room_src w t t1 ty e i ht hi k off n c x m news hs h1 h2 h3,fun A n c olds h1 h2 h3 h4=>?_,fun hm=>?_⟩
  · exact run_append_grow_src w t t1 ty e i z ht hi hz A n c olds h1 x m news hs h2 (by omega) (growslice_fits_wide h2 h3)
  · intro A
    subst hm
    have hn : news = []:=List.length_eq_zero_iff.1 (by rw [hs.newsLen]; simp)
    subst hn
    rcases hs.kind with ⟨e',hk⟩ | hk <;> cases A <;> simp [Builtin.append_,run_underlying ht,run_underlying hk,sizeOf,typeInfo,hi,hs.len,hs.cells,storeCells]
theorem App.zeros {t t1 ty e : TypeId} {i : TypeInfo} {z : Value} {k1 kx : IntKind} {m : Nat} (ht : P.underlying t = some (.slice e)) (ht1 : P.underlying t1 = some (.int k1)) (hi : P.info? e = some i) (hz : i.zero = some z) (hzs : z.cells.size = i.size)
    (h1 : ∀ u ∈ z.cells.toList,u.oneCell' = true) (hmb : m * i.bytes ≤ 281474976710656) (hm : m ≤ 225179981368371) : App P w t t1 ty e i z (.int kx m) m (rep m z.cells.toList):=by
  have hw : IntKind.i64.wrap (m : Int) = m:=by rw [IntKind.wrap_i64]; omega
  have hneg : ¬ ((m : Int) < 0):=by omega
  have hbig : ¬ (281474976710656 < (m : Int) * (i.bytes : Int)):=by rw [← Int.natCast_mul]; omega
  have hzc : Builtin.zeroCells z.cells m = (rep m z.cells.toList).toArray:=by
    unfold Builtin.zeroCells
    have:=madeCells_rep z.cells z.cells.toList rfl m
    simpa using this
  have hl : (rep m z.cells.toList).length = m * i.size:=by rw [rep_length,Array.length_toList,hzs]
  have hmem : ∀ m,∀ u ∈ rep m z.cells.toList,u.oneCell' = true:=by
    intro m
    induction m with
    | zero=>intro u hu; simp [rep] at hu
    | succ m ih=>intro u hu; simp only [rep,List.mem_append] at hu; exact hu.elim (h1 u) (ih u)
  have hnil0 : m * i.size = 0→rep m z.cells.toList = []:=fun h0=>List.length_eq_zero_iff.1 (by rw [hl]; exact h0)
  refine ⟨hl,fun k off n c g1 g2 g3=>?_,fun A n c olds g1 g2 g3 g4=>?_,fun g1=>?_⟩
  · have hst := run_storeCells_cells (P := P) k (off + n * i.size) (rep m z.cells.toList) 0 w (by simpa [at_] using g2) (by simpa using g3) (hmem m)
    simp only [Nat.add_zero] at hst
    by_cases h0 : m * i.size = 0
    · have hr := hnil0 h0
      rw [hr] at hst
      simp [Builtin.append_,run_underlying ht,run_underlying ht1,sizeOf,typeInfo,hi,asInt,asIntOf,hw,hneg,hbig,g1,h0,addr_add,hst,hr]
    · simp [Builtin.append_,run_underlying ht,run_underlying ht1,sizeOf,typeInfo,hi,asInt,asIntOf,hw,hneg,hbig,g1,h0,addr_add,hst,zeroValue,hz,hzc]
  · have hn : ¬ (n + m ≤ c) := by omega
    have h63' : ¬ (9223372036854775807 < ((n : Int) + (m : Int))):=by omega
    have hfit:=growslice_fits_wide g2 g3
    have h48' : ¬ (281474976710656 < Builtin.nextslicecap (n + m) c * i.bytes):=by omega
    by_cases h0 : m * i.size = 0
    · have hr := hnil0 h0
      simp [Builtin.append_,run_underlying ht,run_underlying ht1,sizeOf,typeInfo,zeroValue,hi,hz,asInt,asIntOf,hw,hneg,hbig,hn,h63',h48',Question.forced,g1,newRow,grownCap,h0,hr]
    · simp [Builtin.append_,run_underlying ht,run_underlying ht1,sizeOf,typeInfo,zeroValue,hi,hz,asInt,asIntOf,hw,hneg,hbig,hn,h63',h48',Question.forced,g1,newRow,grownCap,h0,hzc]
      congr 2
      apply Array.ext'
      simp [List.append_assoc]
  · intro A
    subst g1
    have hw0 : IntKind.i64.wrap 0 = 0:=by rw [IntKind.wrap_i64]; rfl
    cases A <;> simp [Builtin.append_,run_underlying ht,run_underlying ht1,sizeOf,typeInfo,hi,asInt,asIntOf,hw0,storeCells]
theorem at_setCells_out {k p : Nat} {vs : List Value} {k' o' : Nat} (h : k' = k→o' < p ∨ p + vs.length ≤ o') : at_ (w.setCells k p vs) k' o' = at_ w k' o' :=
  World.cell?_setCells_out k vs p w ⟨k',o',none⟩ (fun e _=>h e)
theorem Valid.tailwrite (h : Valid N g box w) {i : Id} {k lo hi : Nat} (hT : g.T i = some (k,lo,hi)) {p : Nat} {vs : List Value} (h1 : lo ≤ p) (h2 : p + vs.length ≤ hi) :
    Valid N g box (w.setCells k p vs) ∧ Le g w g (w.setCells k p vs):=by
  obtain ⟨t1,t2,t3,t4,t5,t6,t7⟩:=h.tail i k lo hi hT
  have hb : ∀ k',k' < w.heap.size→k' ≠ k→(w.setCells k p vs).heap[k']? = w.heap[k']?:=fun k' h1 h2=>World.heap_setCells_other w k p vs h1 h2
  have hbel : Below k w (w.setCells k p vs):=Lib.below_setCells_w (Nat.le_refl k) vs p w
  have hsize:=hbel.size
  have hat : ∀ k' o,g.G k' o→at_ (w.setCells k p vs) k' o = at_ w k' o:=fun k' o hg=>at_setCells_out (fun e=>by
    subst e
    rcases Nat.lt_or_ge o p with h | h
    · exact .inl h
    · rcases Nat.lt_or_ge o hi with h' | h'
      · exact absurd hg (t6 o (by omega) h').2.2
      · exact .inr (by omega))
  have hsome : ∀ o,(at_ w k o).isSome→(at_ (w.setCells k p vs) k o).isSome:=fun o ho=>World.isSome_setCells k vs p w ⟨k,o,none⟩ ho
  refine ⟨{ h with chg:=?_,keep:=?_,cell:=?_,cont:=?_,ctop:=?_,tail:=?_ },⟨rfl,rfl,fun _ _ h=>h,fun _ _ h=>h,hat,fun _=>Nat.le_refl _,fun _ h=>h,fun _ _ h=>.inl h⟩⟩
  · refine ⟨hbel.os.trans h.chg.os,hbel.tape.trans h.chg.tape,hbel.output.trans h.chg.output,Nat.le_trans h.chg.size hsize,fun i hi hn => ?_⟩
    refine (hb i (Nat.lt_of_lt_of_le hi h.chg.size) (fun e=>?_)).trans (h.chg.block i hi hn)
    rcases t1 with t1 | ⟨j,lo',hi',t1,_⟩
    · omega
    · exact hn (.inr ⟨j,lo',hi',by rw [e]; exact t1⟩)
  · intro k' o hg; rw [hat k' o (h.sub k' o hg)]; exact h.keep k' o hg
  · intro k' o hg; rw [hat k' o hg]; exact h.cell k' o hg
  · intro b k' xs hm hx
    exact (h.cont b k' xs hm hx).mono (hb k' (h.muLt hm) (fun e=>by subst e; exact t7 b hm)) (fun _ _ h=>h) (fun _ _ h=>h) hat
  · intro b k' xs hm hx j n ys fl u hj hu
    rw [at_of_block (hb k' (h.muLt hm) (fun e=>by subst e; exact t7 b hm))] at hu
    exact h.ctop b k' xs hm hx j n ys fl u hj hu
  · intro i' k' lo' hi' ht
    obtain ⟨s1,s2,s3,s4,s5,s6,s7⟩:=h.tail i' k' lo' hi' ht
    refine ⟨s1,Nat.lt_of_lt_of_le s2 hsize,s3,s4,s5,fun o ho ho'=>?_,s7⟩
    obtain ⟨e1,e2,e3⟩:=s6 o ho ho'
    refine ⟨?_,by rw [World.frozen?_setCells]; exact e2,e3⟩
    by_cases hk : k' = k
    · subst hk; exact hsome o e1
    · rw [at_setCells_out (fun e=>absurd e hk)]; exact e1
def useOf (u : Option Id) (g : Ghost) : Ghost := match u with
  | some i=>{ g with T:=fun j=>if j = i then none else g.T j,D:=updI g.D i }
  | none=>g
theorem Valid.use (h : Valid N g box w) (u : Option Id) (hu : ∀ i,u = some i→made g i) : Valid N (useOf u g) box w:=by
  cases u with
  | none=>exact h
  | some i=>exact h.dropT i (hu i rfl)
theorem Le.use (u : Option Id) : Le g w (useOf u g) w:=by
  cases u with
  | none=>exact Le.refl _ _
  | some i=>exact Le.dropT i
theorem useOf_L (u : Option Id) : (useOf u g).L = g.L:=by cases u <;> rfl
theorem useOf_mu (u : Option Id) : (useOf u g).μ = g.μ:=by cases u <;> rfl
theorem useOf_G (u : Option Id) : (useOf u g).G = g.G:=by cases u <;> rfl
theorem useOf_U (u : Option Id) : (useOf u g).U = g.U:=by cases u <;> rfl
theorem GOut.after (u : Option Id) (hu : ∀ i,u = some i→made g i) {v : AV} {b : Bool} {c : Option (List AV)} (h : GOut P N (useOf u g) box w o a d { v,bump:=b,cont:=c }) : GOut P N g box w o a d { v,bump:=b,cont:=c,use:=u }:=by
  obtain ⟨x,w',g',h1,h2,h3,h4,h5,h6,h7⟩:=h
  refine ⟨x,w',g',h1,?_,(Le.use u).trans h3,?_,?_,h6,h7⟩
  · simpa [useOf_U] using h2
  · simpa [useOf_U] using h4
  · simp only at h5 ⊢; rw [h5]; cases u <;> rfl
theorem out_same (hv : Valid N g box w) {v : AV} {u : Value} (hr : (execOp a.eval o).run P w = .ok (.value u) w) (h1 : RV g.μ g.G w v u) (h2 : ∀ g',g'.L = g.L→g'.U = upd g.U d (g.U d + 1)→Top g' v u) : GOut P N g box w o a d { v,bump:=true }:=by
  have hU : ∀ s,g.U s ≤ upd g.U d (g.U d + 1) s:=fun s=>by unfold upd; split <;> simp_all
  exact ⟨u,w,_,hr,hv.bump _ hU,Le.bump _ hU,by simp,by simp,h1,h2 _ rfl rfl⟩
theorem out_grow {t t1 e : TypeId} {ti : TI} {i : TypeInfo} {z : Value} (hs : i.size = ti.size) (hb : i.bytes = ti.bytes) (hzc : z.cells.toList = ti.zero) (hzl : ti.zero.length = ti.size) (hv : Valid N g box w) {x : Value} {m : Nat} {news : List Value} (happ : App P w t t1 o.type e i z x m news)
    {xs ys : List AV} {olds : List Value} {A : Option Addr} {n c : Nat} (key : ∀ r w',(Builtin.append_ #[t,t1] o.type #[.slice A n c,x]).run P w = .ok r w'→(execOp a.eval o).run P w = .ok (.value r) w')
    (hxs : RVs g.μ g.G w xs olds) (hol : olds.length = n * ti.size) (hys : RVs g.μ g.G w ys news) (hf : (Builtin.firstCells i.size n (.slice A n c)).run P w.drew = .ok olds.toArray w.drew) (hc : c < n + m)
    (hbound : (n + m + (n + m) / 4 + 192) * ti.bytes ≤ 281474976710656) (hbound2 : n + m ≤ 225179981368371) :
    GOut P N g box w o a d { v:=.sl (n + m) (xs ++ ys) (.own ⟨N.lvl,d,0,g.U d + 1⟩ ti.size),bump:=true }:=by
  have hg:=grownCap_ge w (n + m) c e
  have hr:=key _ _ (happ.grow A n c olds hf hc (by rw [hb]; exact hbound) hbound2)
  have hat : (w.drew.alloc (.cells ((olds ++ news).toArray ++ Builtin.zeroCells z.cells (grownCap w (n + m) c e - (n + m))) e)).heap[w.heap.size]? = some (.cells ((olds ++ news).toArray ++ Builtin.zeroCells z.cells (grownCap w (n + m) c e - (n + m))) e):=alloc_at w.drew _
  have hln : news.length = m * ti.size:=by rw [happ.len,hs]
  have hl : (olds ++ news).length = (n + m) * ti.size:=by rw [List.length_append,hol,hln,Nat.add_mul]
  have hzs : (Builtin.zeroCells z.cells (grownCap w (n + m) c e - (n + m))).size = (grownCap w (n + m) c e - (n + m)) * ti.size:=by
    unfold Builtin.zeroCells; rw [Array.size_map,Array.size_range,← Array.length_toList,hzc,hzl]
  refine (out_newimm (P:=P) (o:=o) (a:=a) (d:=d) hv (hxs.append hys) ((Below.refl w.heap.size w).drew.trans (below_alloc' w.drew _ : Below w.drew.heap.size w.drew _)) w.heap.size (Nat.le_refl _) hg ?_ hr).2.2 ti.size ?_ hl ?_
  · intro j hj
    rw [at_row hat,Array.getElem?_append_left (by simpa using hj)]
    simp
  · show w.heap.size < (w.heap.push _).size; simp
  · intro j h1 h2
    refine ⟨?_,frozen_row hat⟩
    rw [at_row hat]
    have hlt : j < ((olds ++ news).toArray ++ Builtin.zeroCells z.cells (grownCap w (n + m) c e - (n + m))).size:=by
      rw [Array.size_append,hzs,List.size_toArray,hl,← Nat.add_mul]
      rw [show n + m + (grownCap w (n + m) c e - (n + m)) = grownCap w (n + m) c e by omega]; exact h2
    rw [Array.getElem?_eq_getElem hlt]; rfl
theorem out_growview {t t1 e : TypeId} {ti : TI} {i : TypeInfo} {z : Value} (hs : i.size = ti.size) (hb : i.bytes = ti.bytes) (hzc : z.cells.toList = ti.zero) (hzl : ti.zero.length = ti.size) (hv : Valid N g box w) {x : Value} {m : Nat} {news : List Value} (happ : App P w t t1 o.type e i z x m news)
    {xs ys : List AV} {olds : List Value} {A : Option Addr} {n c : Nat} (key : ∀ r w',(Builtin.append_ #[t,t1] o.type #[.slice A n c,x]).run P w = .ok r w'→(execOp a.eval o).run P w = .ok (.value r) w')
    (hxs : RVs g.μ g.G w xs olds) (hol : olds.length = n * ti.size) (hys : RVs g.μ g.G w ys news) (hf : (Builtin.firstCells i.size n (.slice A n c)).run P w.drew = .ok olds.toArray w.drew) (hc : c < n + m)
    (hbound : (n + m + (n + m) / 4 + 192) * ti.bytes ≤ 281474976710656) (hbound2 : n + m ≤ 225179981368371) :
    GOut P N g box w o a d { v:=.view (.own N.lvl d (g.U d + 1)) 0 (n + m) (n + m) ti.size,bump:=true,cont:=some ((xs ++ ys).map strip) }:=by
  have hg:=grownCap_ge w (n + m) c e
  have hr:=key _ _ (happ.grow A n c olds hf hc (by rw [hb]; exact hbound) hbound2)
  refine out_newview (P:=P) (o:=o) (a:=a) (d:=d) hv (hxs.append hys).strips ((Below.refl w.heap.size w).drew.trans (below_alloc' w.drew _ : Below w.drew.heap.size w.drew _)) w.heap.size (Nat.le_refl _) (alloc_at w.drew _) ?_ ?_ (Nat.le_refl _) hr hg ?_ (cellsOK_strips _)
  · simp
  · intro j hj
    rw [Array.getElem?_append_left (by simpa using hj)]
    simp
  · intro j n ys fl u hj _
    simp only [List.getElem?_map,Option.map_eq_some_iff] at hj
    obtain ⟨_,_,hj⟩:=hj
    rw [strip_sl hj]; trivial
theorem firstCells_zero (w : World) (size : Nat) (A : Option Addr) : (Builtin.firstCells size 0 (.slice A 0 0)).run P w = .ok ([] : List Value).toArray w:=by
  cases A with
  | none=>exact run_firstCells_none w size 0 0 0
  | some a=>exact run_firstCells_some w size 0 a 0 0 [] (by simp) (by simp)
theorem out_append_view {t t1 e : TypeId} {ti : TI} {i : TypeInfo} {z : Value} (hs : i.size = ti.size) (hb : i.bytes = ti.bytes) (hzc : z.cells.toList = ti.zero) (hzl : ti.zero.length = ti.size) (hv : Valid N g box w) {x : Value} {m : Nat} {news : List Value}
    (happ : App P w t t1 o.type e i z x m news) {s : AV} {us : Value} (hs0 : RV g.μ g.G w s us) (hst : Top g s us) (key : ∀ r w',(Builtin.append_ #[t,t1] o.type #[us,x]).run P w = .ok r w'→(execOp a.eval o).run P w = .ok (.value r) w')
    (hroom : room ti.size m g.D s = some none) (hm0 : m ≠ 0) {n : Nat} {xs : List AV} (hsl : slCells box ti.size s = some (n,xs)) {ys : List AV} (hys : RVs g.μ g.G w ys news)
    (hbound : (n + m + (n + m) / 4 + 192) * ti.bytes ≤ 281474976710656) (hbound2 : n + m ≤ 225179981368371) :
    GOut P N g box w o a d { v:=.view (.own N.lvl d (g.U d + 1)) 0 (n + m) (n + m) ti.size,bump:=true,cont:=some ((xs ++ ys).map strip) }:=by
  have nilCase : (∃ A,us = .slice A 0 0)→n = 0→xs = []→GOut P N g box w o a d { v:=.view (.own N.lvl d (g.U d + 1)) 0 (n + m) (n + m) ti.size,bump:=true,cont:=some ((xs ++ ys).map strip) }:=by
    rintro ⟨A,rfl⟩ rfl rfl
    exact out_growview hs hb hzc hzl hv happ key RVs.nil (by simp) hys (firstCells_zero w.drew i.size A) (by omega) hbound hbound2
  have fullCase : ∀ (k off c : Nat) (olds : List Value),us = .slice (some ⟨k,off,none⟩) n c → RVs g.μ g.G w xs olds → (∀ j,j < olds.length → at_ w k (off + j) = olds[j]?) → olds.length = n * ti.size → c < n + m →
      GOut P N g box w o a d { v:=.view (.own N.lvl d (g.U d + 1)) 0 (n + m) (n + m) ti.size,bump:=true,cont:=some ((xs ++ ys).map strip) }:=by
    rintro k off c olds rfl hx1 hx2 hx3 hm
    refine out_growview hs hb hzc hzl hv happ key hx1 hx3 hys ?_ hm hbound hbound2
    exact run_firstCells_some w.drew i.size n ⟨k,off,none⟩ n c olds (by rw [hx3,hs]) (fun j v hv=>by
      have hj : j < olds.length:=(List.getElem?_eq_some_iff.1 hv).1
      rw [addr_add]
      exact (show w.drew.cell? ⟨k,off + j,none⟩ = w.cell? ⟨k,off + j,none⟩ from rfl) ▸ (hx2 j hj).trans hv)
  unfold room at hroom
  split at hroom
  · simp [slCells] at hsl
    simp only [RV] at hs0
    exact nilCase ⟨none,hs0⟩ hsl.1.symm hsl.2
  · rename_i n' xs'
    simp only [slCells] at hsl
    split at hsl
    · cases hsl
      simp only [RV] at hs0
      rcases hs0 with ⟨h1,h2,h3⟩ | ⟨k,off,c,olds,h1,h2,h3,h4⟩
      · exact nilCase h1 h2 h3
      · subst h1
        simp only [Top,FlOK] at hst
        split at hroom
        · cases hroom
        · exact fullCase k off c olds rfl h3 (fun j hj=>(h4 j hj).1) (by rw [h3.length]; assumption) (by omega)
    · cases hsl
  · split at hroom <;> cases hroom
  · cases hroom
theorem out_append_core {t t1 e : TypeId} {ti : TI} {i : TypeInfo} {z : Value} (hs : i.size = ti.size) (hb : i.bytes = ti.bytes) (hzc : z.cells.toList = ti.zero) (hzl : ti.zero.length = ti.size) (hv : Valid N g box w) {x : Value} {m : Nat} {news : List Value}
    (happ : App P w t t1 o.type e i z x m news) {s : AV} {us : Value} (hs0 : RV g.μ g.G w s us) (hst : Top g s us) (key : ∀ r w',(Builtin.append_ #[t,t1] o.type #[us,x]).run P w = .ok r w'→(execOp a.eval o).run P w = .ok (.value r) w')
    {u : Option Id} (hroom : room ti.size m g.D s = some u) {n : Nat} {xs : List AV} (hsl : slCells box ti.size s = some (n,xs)) {ys : List AV} (hys : RVs g.μ g.G w ys news)
    (hbound : (n + m + (n + m) / 4 + 192) * ti.bytes ≤ 281474976710656) (hbound2 : n + m ≤ 225179981368371) :
    GOut P N g box w o a d { v:=.sl (n + m) (xs ++ ys) (.own ⟨N.lvl,d,0,g.U d + 1⟩ ti.size),bump:=true,use:=u }:=by
  have hln : news.length = m * ti.size:=by rw [happ.len,hs]
  have hyl:=hys.length
  have hu : ∀ i,u = some i→made g i:=by
    intro i hi; subst hi
    unfold room at hroom
    split at hroom
    · cases hroom
    · split at hroom <;> cases hroom
    · split at hroom
      · cases hroom
        simp only [Top] at hst
        cases us <;> first | exact hst.1 | (simp only [FlOK] at hst)
      · cases hroom
    · cases hroom
  -- a nil slice
  have nilCase : ∀ A,us = .slice A 0 0→(m = 0→A = none)→n = 0→xs = []→GOut P N g box w o a d { v:=.sl (n + m) (xs ++ ys) (.own ⟨N.lvl,d,0,g.U d + 1⟩ ti.size),bump:=true,use:=u }:=by
    rintro A rfl hA rfl rfl
    refine GOut.after u hu ?_
    have hv':=hv.use u hu
    rw [show g.U d = (useOf u g).U d by rw [useOf_U]]
    by_cases hm : m = 0
    · cases hA hm
      have hn : ys = []:=List.length_eq_zero_iff.1 (by rw [← hyl,hln,hm]; simp)
      subst hn; subst hm
      refine out_same hv' (key _ _ (happ.nil rfl none)) (by simp [RV]) (fun g' hl hg'=>?_)
      simp only [Top,FlOK]; exact ⟨madeNew (by rw [hl,useOf_L]; exact hv.lev) (by rw [hg']; simp [upd]),.inr (.inl ⟨by trivial,by trivial,by trivial⟩)⟩
    · exact out_grow hs hb hzc hzl hv' happ key (by rw [useOf_mu,useOf_G]; exact RVs.nil) (by simp) (by rw [useOf_mu,useOf_G]; exact hys) (firstCells_zero w.drew i.size A) (by omega) hbound hbound2
  -- a slice with no room
  have fullCase : ∀ (k off c : Nat) (olds : List Value),us = .slice (some ⟨k,off,none⟩) n c → RVs g.μ g.G w xs olds → (∀ j,j < olds.length → at_ w k (off + j) = olds[j]?) → olds.length = n * ti.size → c < n + m →
      GOut P N g box w o a d { v:=.sl (n + m) (xs ++ ys) (.own ⟨N.lvl,d,0,g.U d + 1⟩ ti.size),bump:=true,use:=u }:=by
    rintro k off c olds rfl hx1 hx2 hx3 hm
    refine GOut.after u hu ?_
    have hv':=hv.use u hu
    rw [show g.U d = (useOf u g).U d by rw [useOf_U]]
    refine out_grow hs hb hzc hzl hv' happ key (by rw [useOf_mu,useOf_G]; exact hx1) hx3 (by rw [useOf_mu,useOf_G]; exact hys) ?_ hm hbound hbound2
    exact run_firstCells_some w.drew i.size n ⟨k,off,none⟩ n c olds (by rw [hx3,hs]) (fun j v hv=>by
      have hj : j < olds.length:=(List.getElem?_eq_some_iff.1 hv).1
      rw [addr_add]
      exact (show w.drew.cell? ⟨k,off + j,none⟩ = w.cell? ⟨k,off + j,none⟩ from rfl) ▸ (hx2 j hj).trans hv)
  unfold room at hroom
  split at hroom
  · simp [slCells] at hsl
    simp only [RV] at hs0
    exact nilCase none hs0 (fun _=>rfl) hsl.1.symm hsl.2
  · rename_i n' xs'
    simp only [slCells] at hsl
    split at hsl
    · cases hsl
      simp only [RV] at hs0
      rcases hs0 with ⟨⟨A,h1⟩,h2,h3⟩ | ⟨k,off,c,olds,h1,h2,h3,h4⟩
      · refine nilCase A h1 (fun hm => ?_) h2 h3
        rw [if_pos hm] at hroom
        cases hroom
      · subst h1
        simp only [Top,FlOK] at hst
        split at hroom
        · cases hroom
        · exact fullCase k off c olds rfl h3 (fun j hj=>(h4 j hj).1) (by rw [h3.length]; assumption) (by omega)
    · cases hsl
  · rename_i n' xs' i' z'
    split at hroom
    · rename_i hcond
      cases hroom
      simp only [slCells] at hsl
      split at hsl
      · rename_i hxl
        cases hsl
        simp only [RV] at hs0
        have hs0 : (us = .slice none 0 0 ∧ n = 0 ∧ xs = []) ∨ ∃ k off c olds,us = .slice (some ⟨k,off,none⟩) n c ∧ n ≤ c ∧ RVs g.μ g.G w xs olds ∧ Read w g.G k off olds:=by
          rcases hs0 with ⟨⟨A,h1⟩,h2,h3⟩ | h
          · subst h1; subst h2; subst h3
            simp only [Top,FlOK] at hst
            rcases hst.2 with hD | ⟨h,_⟩ | ⟨k',o',lo,hi,e1,_⟩
            · rw [hcond.1] at hD; cases hD
            · subst h; exact .inl ⟨rfl,rfl,rfl⟩
            · subst e1; exact .inr ⟨k',o',0,[],rfl,Nat.le_refl _,RVs.nil,fun j hj=>by simp at hj⟩
          · exact .inr h
        rcases hs0 with ⟨h1,h2,h3⟩ | ⟨k,off,c,olds,h1,h2,h3,h4⟩
        · exact nilCase none h1 (fun _=>rfl) h2 h3
        · subst h1
          simp only [Top,FlOK] at hst
          obtain ⟨hgen,hst⟩:=hst
          have hol : olds.length = n * ti.size:=by rw [h3.length,hxl]
          rcases hst with hD | ⟨h,_⟩ | ⟨k',o',lo,hi,e1,e2,e3,e4⟩
          · rw [hcond.1] at hD; cases hD
          · cases h
          · cases e1
            rw [hcond.2] at e4 e2
            have hne : (⟨N.lvl,d,0,g.U d + 1⟩ : Id) ≠ i':=fun e=>hv.unmade (Nat.lt_succ_self _) (e ▸ hgen)
            have hTn : (if (⟨N.lvl,d,0,g.U d + 1⟩ : Id) = i' then none else g.T ⟨N.lvl,d,0,g.U d + 1⟩) = none:=by
              rw [if_neg hne]; exact hv.unT (Nat.lt_succ_self _)
            have hDn : updI g.D i' ⟨N.lvl,d,0,g.U d + 1⟩ = false:=by
              unfold updI; rw [if_neg hne]; exact hv.unD (Nat.lt_succ_self _)
            have hU : ∀ s,g.U s ≤ upd g.U d (g.U d + 1) s:=fun s=>by unfold upd; split <;> simp_all
            obtain ⟨t1',t2,t3,t4,t5,t6,t7⟩:=hv.tail _ _ _ _ e3
            by_cases hc : c < n + m
            · exact fullCase k off c olds rfl h3 (fun j hj=>(h4 j hj).1) hol hc
            · rcases e4 with e4 | ⟨e4,e5⟩
              · -- nothing was appended,and there is no room
                have hm0 : m = 0:=by omega
                subst e4; subst hm0
                have hn : ys = []:=List.length_eq_zero_iff.1 (by rw [← hyl,hln]; simp)
                have hn' : news = []:=List.length_eq_zero_iff.1 (by rw [hln]; simp)
                subst hn; subst hn'
                have hr:=happ.room k off c c (by omega) (by simp) (by simp)
                simp only [World.setCells,Nat.add_zero] at hr
                have v2:=(hv.dropT i' hgen).bump _ hU
                have v3:=v2.addT ⟨N.lvl,d,0,g.U d + 1⟩ k lo lo (t1'.imp id fun ⟨j,lo',hi',h1,h2,h3⟩=>⟨j,lo',hi',h1,h2,by omega⟩) t2 (madeNew hv.lev (by simp [upd])) rfl hDn hTn (Nat.le_refl _) (fun j h1 h2=>by omega) t7 (fun i2 lo2 hi2 _ h=>by
                  have h' : (if i2 = i' then none else g.T i2) = some (k,lo2,hi2):=h
                  split at h'
                  · cases h'
                  · rename_i hne; exact absurd (hv.tinj _ _ _ _ _ _ _ h' e3) hne)
                have l3:=((Le.dropT (g:=g) (w:=w) i').trans (Le.bump _ hU)).trans (Le.addT (w:=w) ⟨N.lvl,d,0,g.U d + 1⟩ (k,lo,lo) hTn)
                refine ⟨_,w,_,key _ _ hr,v3,l3,by simp,rfl,?_,?_⟩
                · simp only [RV,Nat.add_zero,List.append_nil]
                  exact .inr ⟨k,off,c,olds,rfl,Nat.le_refl _,RVs.le l3 h3,h4⟩
                · simp only [Top,FlOK]
                  exact ⟨madeNew hv.lev (by simp [upd]),.inr (.inr ⟨k,off,lo,lo,rfl,by simpa using hxl,by simp,.inl (by simp)⟩)⟩
              -- there is room
              subst e4; subst e5
              have hcm : n + m ≤ c:=by omega
              have hmul : (n + m) * ti.size ≤ c * ti.size:=Nat.mul_le_mul_right _ hcm
              rw [Nat.add_mul] at hmul
              have hin : ∀ j,j < news.length→(at_ w k (off + n * ti.size + j)).isSome = true ∧ w.frozen? ⟨k,off + n * ti.size + j,none⟩ = false:=fun j hj=>by
                obtain ⟨q1,q2,_⟩:=t6 (off + n * ti.size + j) (by omega) (by omega)
                exact ⟨q1,q2⟩
              have hr:=happ.room k off n c hcm (by rw [hs]; exact fun j hj=>(hin j hj).1) (by rw [hs]; exact fun j hj=>(hin j hj).2)
              rw [hs] at hr
              obtain ⟨v1,l1⟩:=hv.tailwrite e3 (p:=off + n * ti.size) (vs:=news) (by omega) (by omega)
              have v2:=v1.dropT i' hgen
              have v3:=v2.addG (fun k' j=>k' = k ∧ off + n * ti.size ≤ j ∧ j < off + n * ti.size + news.length) (by
                rintro k' j ⟨rfl,hj1,hj2⟩
                refine ⟨?_,fun h=>(t1'.resolve_left (by omega)).elim fun j ⟨lo',hi',h1,h2,h3⟩=>.inr ⟨j,lo',hi',h1,by omega,by omega⟩,t7,fun i2 lo2 hi2 h=>?_⟩
                · have := (hin (j - (off + n * ti.size)) (by omega)).1
                  rw [show off + n * ti.size + (j - (off + n * ti.size)) = j by omega] at this
                  exact World.isSome_setCells k' news _ w ⟨k',j,none⟩ this
                · have h' : (if i2 = i' then none else g.T i2) = some (k',lo2,hi2) := h
                  split at h'
                  · cases h'
                  · rename_i hne; exact absurd (hv.tinj _ _ _ _ _ _ _ h' e3) hne)
              have v4:=v3.bump _ hU
              have v5 := v4.addT ⟨N.lvl,d,0,g.U d + 1⟩ k (off + (n + m) * ti.size) (off + c * ti.size) (t1'.imp id fun ⟨j,lo',hi',h1,h2,h3⟩ => ⟨j,lo',hi',h1,by rw [Nat.add_mul]; omega,by omega⟩) (Nat.lt_of_lt_of_le t2 (Lib.below_setCells_w (Nat.le_refl k) news _ w).size) (madeNew hv.lev (by simp [upd])) rfl hDn hTn
                (by rw [Nat.add_mul]; omega)
                (fun j h1 h2=>by
                  rw [Nat.add_mul] at h1
                  obtain ⟨q1,q2,q3⟩:=t6 j (by omega) (by omega)
                  refine ⟨World.isSome_setCells k news _ w ⟨k,j,none⟩ q1,by rw [World.frozen?_setCells]; exact q2,?_⟩
                  rintro (h | ⟨_,h3,h4⟩)
                  · exact q3 h
                  · omega) t7
                (fun i2 lo2 hi2 _ h=>by
                  have h' : (if i2 = i' then none else g.T i2) = some (k,lo2,hi2):=h
                  split at h'
                  · cases h'
                  · rename_i hne; exact absurd (hv.tinj _ _ _ _ _ _ _ h' e3) hne)
              have l5:=(((l1.trans (Le.dropT i')).trans (Le.addG (fun k' j=>k' = k ∧ off + n * ti.size ≤ j ∧ j < off + n * ti.size + news.length))).trans (Le.bump _ hU)).trans (Le.addT (w:=w.setCells k (off + n * ti.size) news) ⟨N.lvl,d,0,g.U d + 1⟩ (k,off + (n + m) * ti.size,off + c * ti.size) hTn)
              refine ⟨_,_,_,key _ _ hr,v5,l5,by simp,rfl,?_,?_⟩
              · simp only [RV]
                refine .inr ⟨k,off,c,olds ++ news,rfl,hcm,RVs.le l5 (h3.append hys),fun j hj=>?_⟩
                by_cases hjo : j < olds.length
                · rw [List.getElem?_append_left hjo]
                  exact ⟨(l5.at' _ _ (h4 j hjo).2).trans (h4 j hjo).1,l5.G _ _ (h4 j hjo).2⟩
                · rw [List.length_append] at hj
                  rw [List.getElem?_append_right (by omega)]
                  have hin2:=World.cell?_setCells_in k news (off + n * ti.size) w (fun j hj=>(hin j hj).1) (j - olds.length) (by omega)
                  rw [show off + n * ti.size + (j - olds.length) = off + j by omega] at hin2
                  refine ⟨?_,.inr ⟨rfl,by omega,by omega⟩⟩
                  show (w.setCells k (off + n * ti.size) news).cell? ⟨k,off + j,none⟩ = _
                  rw [hin2]; simp
              · simp only [Top,FlOK]
                refine ⟨madeNew hv.lev (by simp [upd]),.inr (.inr ⟨k,off,off + (n + m) * ti.size,off + c * ti.size,rfl,?_,by simp,.inr ⟨?_,rfl⟩⟩)⟩
                · rw [List.length_append,hxl,← hyl,hln,Nat.add_mul]
                · rw [List.length_append,hxl,← hyl,hln,← Nat.add_mul]
      · cases hsl
    · cases hroom
  · cases hroom
end
end Go.Abs
namespace Go.Abs
set_option linter.unusedSimpArgs false
set_option linter.unusedVariables false
open Go Go.RowKit
section
variable {P : Program} {N : Ent} {g : Ghost} {box : Boxes} {w : World} {o : Oper} {a : Act} {d : Nat} {ρ : Operand→AV} {te : TypeId→Option TI}
theorem Src.of (hv : Valid N g box w) {t1 : TypeId} (hk : (∃ e',P.underlying t1 = some (.slice e')) ∨ P.underlying t1 = some .string) {sz : Nat} {x : AV} {u : Value} (hx : RV g.μ g.G w x u) {m : Nat} {ys : List AV}
    (h : slCells box sz x = some (m,ys)) (h1 : ys.all oneA = true) : ∃ news,Src P sz t1 u m news w ∧ RVs g.μ g.G w ys news:=by
  rcases slCells_rel hv hx h with ⟨s,rfl,rfl,rfl,rfl⟩ | ⟨⟨A,rfl⟩,rfl,rfl⟩ | ⟨k,off,c,us,rfl,hnc,hr,hm,hl⟩
  · refine ⟨byteCells s,⟨hk,fun _ => rfl,firstCells_string s w,firstCells_string s w.drew,by rw [byteCells_length,Nat.mul_one],fun u hu => ?_⟩,?_⟩
    · obtain ⟨_,_,rfl⟩:=List.mem_map.1 hu; rfl
    · have := RVs.raws (μ := g.μ) (G := g.G) (w := w) (byteCells s)
      unfold byteCells at this ⊢
      rwa [List.map_map] at this
  · exact ⟨[],⟨hk,fun _=>rfl,firstCells_zero w sz A,firstCells_zero w.drew sz A,by simp,fun _ h=>by cases h⟩,RVs.nil⟩
  · have hc : ∀ j v,us[j]? = some v→w.cell? ((⟨k,off,none⟩ : Addr).add j) = some v:=fun j v hv=>by
      have hj : j < us.length:=(List.getElem?_eq_some_iff.1 hv).1
      rw [addr_add]; exact (hm j hj).trans hv
    exact ⟨us,⟨hk,fun _=>rfl,run_firstCells_some w sz m ⟨k,off,none⟩ m c us hl hc,run_firstCells_some w.drew sz m ⟨k,off,none⟩ m c us hl (fun j v hv=>(hc j v hv)),hl,oneAs_rel hr h1⟩,hr⟩
theorem out_append {E : Env} (hE : E.te = te) (hte : TeOK P te) (hv : Valid N g box w) (hρ : Rel g w a ρ) (s x : Operand) (args : Array Operand) (ts : Array TypeId) (ho : o.op = .call { callee := .builtin .append,args := args,argTypes := ts })
    (ha : args.toList = [s,x]) {r : GR} (h : appendV E N.lvl d (g.U d + 1) box g.D ts.toList (ρ s) (ρ x) = some r) : GOut P N g box w o a d r:=by
  have ha' : args = #[s,x]:=by rw [← Array.toArray_toList (xs:=args),ha]
  unfold appendV at h
  rw [hE] at h
  split at h
  · rename_i t0 t1 hts
    have hts' : ts = #[t0,t1]:=by rw [← Array.toArray_toList (xs:=ts),hts]
    split at h
    · rename_i e hk
      obtain ⟨_,_,_,d0,hd0,hk0⟩:=kd_some hte hk (by simp)
      simp only [TKis] at hk0; subst hk0
      simp only [Option.bind_eq_some_iff] at h
      obtain ⟨ti,ht,⟨n,xs⟩,hsl,⟨m,ys⟩,hsrc,h⟩:=h
      have hsrc0:=hsrc
      split at h
      · rename_i hfn
        cases h
        obtain ⟨i,z,hi,hs,hb,hz,hzc,hzl⟩:=(hte e ti ht).info
        have key : ∀ r w',(Builtin.append_ #[t0,t1] o.type #[a.eval s,a.eval x]).run P w = .ok r w'→(execOp a.eval o).run P w = .ok (.value r) w':=fun r w' hr=>by
          subst ha'
          unfold execOp; rw [ho]
          simp only [resolve,Sem.run_bind,Sem.run_pure,Result.andThen_ok,invoke,builtin]
          simp [hts',hr]
        obtain ⟨n',xs',hse,hm0⟩ : ∃ n' xs',ρ s = .sl n' xs' .full ∧ m = 0:=by
          unfold fullNil at hfn
          split at hfn
          · rename_i n' xs' h1 h2; exact ⟨_,_,h1,h2⟩
          · cases hfn
        subst hm0
        have hsr:=(hρ s).1
        have hst:=(hρ s).2
        rw [hse] at hsr hst hsl
        simp only [slCells] at hsl
        split at hsl
        · cases hsl
          have fin : ∀ news,App P w t0 t1 o.type e i z (a.eval x) 0 news→GOut P N g box w o a d { v:=ρ s }:=fun news h1=>by
            have hnews : news = []:=List.length_eq_zero_iff.1 (by rw [h1.len]; simp)
            subst hnews
            simp only [RV] at hsr
            rcases hsr with ⟨⟨A,h2⟩,h3,h4⟩ | ⟨k,off,c,us,h2,h3,h4,h5⟩
            · refine .pure hv (u := .slice A 0 0) (key _ _ (by rw [h2]; exact h1.nil rfl A)) ?_ ?_
              · rw [hse]; simp only [RV]; exact .inl ⟨⟨A,rfl⟩,h3,h4⟩
              · rw [hse]; simp only [Top,FlOK]
            · have hc : c = n := by rw [h2] at hst; simpa only [Top,FlOK] using hst
              have hr:=h1.room k off n c (by omega) (by simp) (by simp)
              simp only [World.setCells,Nat.add_zero] at hr
              refine .pure hv (u:=.slice (some ⟨k,off,none⟩) n c) (key _ _ (by rw [h2]; exact hr)) ?_ ?_
              · rw [hse]; simp only [RV]; exact .inr ⟨k,off,c,us,rfl,h3,h4,h5⟩
              · rw [hse]; simp only [Top,FlOK]; exact hc
          unfold srcV at hsrc
          split at hsrc
          · rename_i k0 k1 mm hk1 hxe
            obtain ⟨_,_,_,d1,hd1,hk1'⟩:=kd_some hte hk1 (by simp)
            simp only [TKis] at hk1'; subst hk1'
            have hx:=(hρ x).1
            rw [hxe] at hx; simp only [RV] at hx
            split at hsrc
            · rename_i hm
              have hm1 : mm.toNat = 0:=by injection hsrc with h; injection h
              have hm2 : mm = ((0 : Nat) : Int):=by omega
              have hone : ∀ q ∈ z.cells.toList,q.oneCell' = true:=by
                rw [hzc]; exact (hte e ti ht).zero1
              have happ:=App.zeros (P:=P) (w:=w) (ty:=o.type) (kx:=k1) (m:=0) hd0 hd1 hi hz (by rw [← Array.length_toList,hzc,hzl,hs]) hone (by simp) (by omega)
              rw [← hm2,← hx] at happ
              exact fin _ happ
            · cases hsrc
          · rename_i e1 hk1
            obtain ⟨_,_,_,d1,hd1,hk1'⟩:=kd_some hte hk1 (by simp)
            simp only [TKis] at hk1'; subst hk1'
            have hys : ys = []:=by
              rcases slCells_rel hv (hρ x).1 hsrc with ⟨s',_,_,h1,h2⟩ | ⟨_,_,h2⟩ | ⟨k,off,c,us,_,_,h3,_,h5⟩
              · rw [h2]
                have h1 : s'.data.size = 0:=h1.symm
                have : s'.data.toList = []:=by
                  apply List.length_eq_zero_iff.1
                  rw [Array.length_toList]; exact h1
                rw [this]; rfl
              · exact h2
              · have := h3.length
                exact List.length_eq_zero_iff.1 (by omega)
            obtain ⟨news,h1,h2⟩:=Src.of (P:=P) hv (.inl ⟨_,hd1⟩) (hρ x).1 hsrc (by rw [hys]; rfl)
            exact fin news (App.src hd0 hi hz (by rw [hs]; exact h1))
          · rename_i hk1
            obtain ⟨_,_,_,d1,hd1,hk1'⟩:=kd_some hte hk1 (by simp)
            simp only [TKis] at hk1'; subst hk1'
            have hys : ys = []:=by
              rcases slCells_rel hv (hρ x).1 hsrc with ⟨s',_,_,h1,h2⟩ | ⟨_,_,h2⟩ | ⟨k,off,c,us,_,_,h3,_,h5⟩
              · rw [h2]
                have h1 : s'.data.size = 0:=h1.symm
                have : s'.data.toList = []:=by
                  apply List.length_eq_zero_iff.1
                  rw [Array.length_toList]; exact h1
                rw [this]; rfl
              · exact h2
              · have := h3.length
                exact List.length_eq_zero_iff.1 (by omega)
            obtain ⟨news,h1,h2⟩:=Src.of (P:=P) hv (.inr hd1) (hρ x).1 hsrc (by rw [hys]; rfl)
            exact fin news (App.src hd0 hi hz (by rw [hs]; exact h1))
          · cases hsrc
        · cases hsl
      simp only [Option.bind_eq_some_iff] at h
      obtain ⟨u,hroom,h⟩:=h
      split at h
      · rename_i hc
        obtain ⟨c1,c2,c3⟩:=hc
        try simp only at c1 c2 c3 hroom
        obtain ⟨i,z,hi,hs,hb,hz,hzc,hzl⟩:=(hte e ti ht).info
        have key : ∀ r w',(Builtin.append_ #[t0,t1] o.type #[a.eval s,a.eval x]).run P w = .ok r w'→(execOp a.eval o).run P w = .ok (.value r) w':=fun r w' hr=>by
          subst ha'
          unfold execOp; rw [ho]
          simp only [resolve,Sem.run_bind,Sem.run_pure,Result.andThen_ok,invoke,builtin]
          simp [hts',hr]
        have fin : ∀ news,App P w t0 t1 o.type e i z (a.eval x) m news→RVs g.μ g.G w ys news→GOut P N g box w o a d r:=fun news h1 h2=>by
          split at h
          · cases h
            exact out_append_core hs hb hzc hzl hv h1 (hρ s).1 (hρ s).2 key hroom hsl h2 c1 c2
          · split at h
            · rename_i hcc
              obtain ⟨hcu,hcm⟩:=hcc
              cases h; subst hcu
              exact out_append_view hs hb hzc hzl hv h1 (hρ s).1 (hρ s).2 key hroom hcm hsl h2 c1 c2
            · cases h
        unfold srcV at hsrc
        split at hsrc
        · rename_i k0 k1 mm hk1 hxe
          obtain ⟨_,_,_,d1,hd1,hk1'⟩:=kd_some hte hk1 (by simp)
          simp only [TKis] at hk1'; subst hk1'
          have hx:=(hρ x).1
          rw [hxe] at hx; simp only [RV] at hx
          split at hsrc
          · rename_i hm
            cases hsrc
            obtain ⟨mn,rfl⟩:=Int.eq_ofNat_of_zero_le hm.1
            simp only [Int.toNat_natCast] at *
            have hone : ∀ q ∈ z.cells.toList,q.oneCell' = true:=by
              rw [hzc]; exact (hte e ti ht).zero1
            have hmb : mn * i.bytes ≤ 281474976710656:=by
              rw [hb]
              have : mn * ti.bytes ≤ (n + mn + (n + mn) / 4 + 192) * ti.bytes:=Nat.mul_le_mul_right _ (by omega)
              omega
            have happ:=App.zeros (P:=P) (w:=w) (ty:=o.type) (kx:=k1) hd0 hd1 hi hz (by rw [← Array.length_toList,hzc,hzl,hs]) hone hmb (by omega)
            rw [← hx] at happ
            refine fin _ happ ?_
            unfold zerosOf; rw [← hzc,← rep_map]; exact RVs.raws _
          · cases hsrc
        · rename_i e1 hk1
          obtain ⟨_,_,_,d1,hd1,hk1'⟩:=kd_some hte hk1 (by simp)
          simp only [TKis] at hk1'; subst hk1'
          obtain ⟨news,h1,h2⟩:=Src.of (P:=P) hv (.inl ⟨_,hd1⟩) (hρ x).1 hsrc c3
          exact fin news (App.src hd0 hi hz (by rw [hs]; exact h1)) h2
        · rename_i hk1
          obtain ⟨_,_,_,d1,hd1,hk1'⟩:=kd_some hte hk1 (by simp)
          simp only [TKis] at hk1'; subst hk1'
          obtain ⟨news,h1,h2⟩:=Src.of (P:=P) hv (.inr hd1) (hρ x).1 hsrc c3
          exact fin news (App.src hd0 hi hz (by rw [hs]; exact h1)) h2
        · cases hsrc
      · cases h
    · cases h
  · cases h
theorem raws_top (g : Ghost) (zs : List Value) : ∀ (j n : Nat) (ys : List AV) (fl : Fl) (u : Value),(zs.map AV.raw)[j]? = some (.sl n ys fl)→zs[j]? = some u→FlOK g fl ys.length u:=by
  intro j n ys fl u hj _
  simp only [List.getElem?_map,Option.map_eq_some_iff] at hj
  obtain ⟨_,_,hj⟩:=hj
  cases hj
theorem out_make {E : Env} (hE : E.te = te) (hte : TeOK P te) (hv : Valid N g box w) (hρ : Rel g w a ρ) (t : TypeId) (l c : Operand) (ho : o.op = .makeSlice t l c) {r : GR} (h : makeV E N.lvl d (g.U d + 1) t (ρ l) (ρ c) = some r) : GOut P N g box w o a d r:=by
  have hl:=(hρ l).1
  have hc:=(hρ c).1
  unfold makeV at h
  rw [hE] at h
  split at h
  · rename_i e k1 li k2 ci hk hle hce
    rw [hle] at hl; rw [hce] at hc
    simp only [RV] at hl hc
    obtain ⟨_,_,_,d0,hd0,hk0⟩:=kd_some hte hk (by simp)
    simp only [TKis] at hk0; subst hk0
    simp only [Option.bind_eq_some_iff] at h
    obtain ⟨ti,ht,h⟩:=h
    obtain ⟨i,z,hi,hs,hb,hz,hzc,hzl⟩:=(hte e ti ht).info
    split at h
    · rename_i hcond
      obtain ⟨c1,c2,c3,c4⟩:=hcond
      have hbytes : (i.bytes : Int) * ci ≤ 281474976710656:=by rw [hb,Int.mul_comm]; exact c3
      have hrun : (execOp a.eval o).run P w = .ok (.value (.slice (some ⟨w.heap.size,0,none⟩) li.toNat ci.toNat)) (w.alloc (.cells (madeCells z.cells (ci.toNat * i.size)) e)) :=
        run_value (s:=Instr.makeSlice t (a.eval l) (a.eval c)) (by rw [hl,hc]; exact run_make w t e i z hd0 hi hz k1 k2 li ci c1 c2 hbytes (by omega)) (by unfold execOp; rw [ho])
      have hmc : madeCells z.cells (ci.toNat * i.size) = (rep ci.toNat ti.zero).toArray:=by
        unfold madeCells
        have:=madeCells_rep z.cells ti.zero hzc ci.toNat
        rw [hzl,← hs] at this; exact this
      rw [hmc] at hrun
      have hzr : ∀ n,zerosOf ti n = (rep n ti.zero).map .raw:=fun n=>by unfold zerosOf; rw [rep_map]
      split at h
      · cases h
        rw [hzr]
        exact out_newview hv (RVs.raws _) (below_alloc' _ _) w.heap.size (Nat.le_refl _) (alloc_at _ _) (by simp) (by simp) (by omega) hrun (Nat.le_refl _) (raws_top _ _) (cellsOK_raws _)
      · cases h
        rw [hzr]
        have hat:=alloc_at w (.cells (rep ci.toNat ti.zero).toArray e)
        have hpre : ∀ n m j,n ≤ m→j < (rep n ti.zero).length→(rep m ti.zero)[j]? = (rep n ti.zero)[j]?:=by
          intro n m j hnm hj
          rw [rep_length] at hj
          rw [rep_get ti.zero n j hj,rep_get ti.zero m j (Nat.lt_of_lt_of_le hj (Nat.mul_le_mul_right _ hnm))]
        refine (out_newimm (P:=P) hv (xs:=(rep li.toNat ti.zero).map .raw) (us:=rep li.toNat ti.zero) (RVs.raws _) (below_alloc' _ _) w.heap.size (Nat.le_refl _) (by omega) ?_ hrun).2.2 ti.size ?_ ?_ ?_
        · intro j hj
          rw [at_row hat,List.getElem?_toArray]
          exact hpre _ _ j (by omega) hj
        · show w.heap.size < (w.heap.push _).size; simp
        · rw [rep_length,hzl]
        · intro j h1 h2
          refine ⟨?_,frozen_row hat⟩
          rw [at_row hat,List.getElem?_toArray,List.getElem?_eq_getElem (by rw [rep_length,hzl]; exact h2)]; rfl
    · cases h
  · cases h
end
end Go.Abs
namespace Go.Abs
set_option linter.unusedSimpArgs false
set_option linter.unusedVariables false
open Go Go.RowKit
section
variable {P : Program} {N : Ent} {g : Ghost} {box : Boxes} {w : World} {o : Oper} {a : Act} {d : Nat} {ρ : Operand→AV} {te : TypeId→Option TI}
def WOut (P : Program) (N : Ent) (g : Ghost) (w : World) (o : Oper) (a : Act) (v : AV) (box' : Boxes) : Prop :=
  ∃ u w',((execOp a.eval o).run P w = .ok (.value u) w' ∨ ((execOp a.eval o).run P w = .ok .skip w' ∧ u = undef)) ∧ Valid N g box' w' ∧ Le g w g w' ∧ RV g.μ g.G w' v u ∧ Top g v u
theorem take_drop_get {α : Type} (cur vs : List α) (off : Nat) (h : off + vs.length ≤ cur.length) (j : Nat) :
    (cur.take off ++ vs ++ cur.drop (off + vs.length))[j]? = if j < off then cur[j]? else if j < off + vs.length then vs[j - off]? else cur[j]?:=by
  rw [List.append_assoc]
  by_cases h1 : j < off
  · rw [if_pos h1,List.getElem?_append_left (by rw [List.length_take]; omega),List.getElem?_take,if_pos h1]
  · rw [if_neg h1,List.getElem?_append_right (by rw [List.length_take]; omega),List.length_take,Nat.min_eq_left (by omega)]
    by_cases h2 : j < off + vs.length
    · rw [if_pos h2,List.getElem?_append_left (by omega)]
    · rw [if_neg h2,List.getElem?_append_right (by omega),List.getElem?_drop]
      congr 1; omega
theorem Valid.write (hv : Valid N g box w) {b : Bx} {k : Nat} {xs ys : List AV} {vs : List Value} {off : Nat} (hb : g.μ b = some k) (hx : box b = some xs) (hy : RVs g.μ g.G w ys vs) (hoff : off + ys.length ≤ xs.length)
    (hytop : ∀ (j n : Nat) (zs : List AV) (fl : Fl) (u : Value),ys[j]? = some (.sl n zs fl)→vs[j]? = some u→FlOK g fl zs.length u) (hyok : CellsOK ys) :
    ∃ cur el,w.heap[k]? = some (.cells cur el (0,0)) ∧ off + vs.length ≤ cur.size ∧
      Valid N g (updB box b (splice xs off ys)) (w.setRow k (cur.toList.take off ++ vs ++ cur.toList.drop (off + vs.length)).toArray) ∧
      Le g w g (w.setRow k (cur.toList.take off ++ vs ++ cur.toList.drop (off + vs.length)).toArray):=by
  obtain ⟨cur,el,us,h1,h2,h3,h4⟩:=hv.cont b k xs hb hx
  have hul:=h4.length
  have hvl:=hy.length
  have hle : off + vs.length ≤ cur.size:=by omega
  refine ⟨cur,el,h1,hle,?_⟩
  generalize hnew : (cur.toList.take off ++ vs ++ cur.toList.drop (off + vs.length)).toArray = new
  have hget : ∀ j,new[j]? = if j < off then cur[j]? else if j < off + vs.length then vs[j - off]? else cur[j]?:=fun j=>by
    rw [← hnew,List.getElem?_toArray,take_drop_get _ _ _ (by simpa using hle)]
    simp
  have hsz : new.size = cur.size:=by rw [← hnew]; simp; omega
  have hat : ∀ k' o,g.G k' o→at_ (w.setRow k new) k' o = at_ w k' o:=fun k' o hg=>cell_setRow_other w k new ⟨k',o,none⟩ (fun e=>by
    have e' : k' = k:=e
    subst e'; exact hv.gmu k' o b hg hb)
  have hrow:=setRow_heap w k cur new el (0,0) h1
  have hoth : ∀ k',k' ≠ k→(w.setRow k new).heap[k']? = w.heap[k']?:=fun k' h=>setRow_other w k k' new h
  refine ⟨{ hv with chg:=?_,keep:=?_,cell:=?_,dom:=?_,cont:=?_,cok:=?_,ctop:=?_,tail:=?_ },⟨rfl,rfl,fun _ _ h=>h,fun _ _ h=>h,hat,fun _=>Nat.le_refl _,fun _ h=>h,fun _ _ h=>.inl h⟩⟩
  · refine ⟨hv.chg.os,hv.chg.tape,hv.chg.output,by rw [size_setRow]; exact hv.chg.size,fun i hi hn => ?_⟩
    rw [hoth i (fun e=>by
      subst e
      rcases hv.lv b i hb with h | ⟨_,h⟩
      · exact hn (.inl ⟨b,h⟩)
      · omega)]
    exact hv.chg.block i hi hn
  · intro k' o hg; rw [hat k' o (hv.sub k' o hg)]; exact hv.keep k' o hg
  · intro k' o hg; rw [hat k' o hg]; exact hv.cell k' o hg
  · intro b'
    unfold updB
    split
    · rename_i e; subst e; rw [hb]; rfl
    · exact hv.dom b'
  · intro b' k' xs' hm hx'
    by_cases hbb : b' = b
    · subst hbb
      rw [hb] at hm; cases hm
      unfold updB at hx'; rw [if_pos rfl] at hx'; cases hx'
      refine ⟨new,el,us.take off ++ vs ++ us.drop (off + vs.length),hrow,?_,?_,?_⟩
      · rw [hsz]; simp; omega
      · intro j hj
        rw [hget,take_drop_get _ _ _ (by omega)]
        have hj' : j < us.length:=by simp at hj; omega
        split
        · exact h3 j hj'
        · split
          · rfl
          · exact h3 j hj'
      · have h4' := RVs.mono (w' := w.setRow k new) (fun _ _ h => h) (fun _ _ h => h) hat _ _ h4
        have hy':=RVs.mono (w':=w.setRow k new) (fun _ _ h=>h) (fun _ _ h=>h) hat _ _ hy
        unfold splice
        rw [hvl]
        exact ((h4'.take off).append hy').append (h4'.drop _)
    · have hk : k' ≠ k := fun e => hbb (hv.inj b' b k (by rw [← e]; exact hm) hb)
      unfold updB at hx'; rw [if_neg hbb] at hx'
      exact (hv.cont b' k' xs' hm hx').mono (hoth k' hk) (fun _ _ h=>h) (fun _ _ h=>h) hat
  · intro b' xs' hx'
    by_cases hbb : b' = b
    · subst hbb
      unfold updB at hx'; rw [if_pos rfl] at hx'; cases hx'
      intro x hxm
      have h0:=hv.cok b' xs hx
      unfold splice at hxm
      rcases List.mem_append.1 hxm with h | h
      · rcases List.mem_append.1 h with h | h
        · exact h0 x (List.mem_of_mem_take h)
        · exact hyok x h
      · exact h0 x (List.mem_of_mem_drop h)
    · unfold updB at hx'; rw [if_neg hbb] at hx'
      exact hv.cok b' xs' hx'
  · intro b' k' xs' hm hx' j n zs fl u hj hu
    by_cases hbb : b' = b
    · subst hbb
      rw [hb] at hm; cases hm
      unfold updB at hx'; rw [if_pos rfl] at hx'; cases hx'
      have hjx : j < xs.length:=by
        have:=(List.getElem?_eq_some_iff.1 hj).1
        simp only [splice,List.length_append,List.length_take,List.length_drop] at this
        omega
      rw [at_row hrow,hget] at hu
      unfold splice at hj
      rw [take_drop_get _ _ _ hoff] at hj
      have hold : at_ w k j = cur[j]?:=at_row h1
      by_cases c1 : j < off
      · rw [if_pos c1] at hj hu
        exact hv.ctop b' k xs hb hx j n zs fl u hj (by rw [hold]; exact hu)
      · rw [if_neg c1] at hj hu
        by_cases c2 : j < off + ys.length
        · rw [if_pos c2] at hj
          rw [if_pos (by omega)] at hu
          exact hytop _ n zs fl u hj hu
        · rw [if_neg c2] at hj
          rw [if_neg (by omega)] at hu
          exact hv.ctop b' k xs hb hx j n zs fl u hj (by rw [hold]; exact hu)
    · have hk : k' ≠ k := fun e => hbb (hv.inj b' b k (by rw [← e]; exact hm) hb)
      unfold updB at hx'; rw [if_neg hbb] at hx'
      rw [at_of_block (hoth k' hk)] at hu
      exact hv.ctop b' k' xs' hm hx' j n zs fl u hj hu
  · intro i k' lo hi ht
    obtain ⟨s1,s2,s3,s4,s5,s6,s7⟩:=hv.tail i k' lo hi ht
    have hk : k' ≠ k:=fun e=>s7 b (by rw [e]; exact hb)
    refine ⟨s1,by rw [size_setRow]; exact s2,s3,s4,s5,fun o h1 h2=>?_,s7⟩
    obtain ⟨e1,e2,e3⟩:=s6 o h1 h2
    exact ⟨by rw [at_of_block (hoth k' hk)]; exact e1,by rw [frozen_of_block (hoth k' hk)]; exact e2,e3⟩
theorem out_store (hte : TeOK P te) (hv : Valid N g box w) (hρ : Rel g w a ρ) (t : TypeId) (x y : Operand) (ho : o.op = .store t x y) {box' : Boxes} (h : storeV te box t (ρ x) (ρ y) = some box') : WOut P N g w o a .dead box':=by
  have hx:=(hρ x).1
  have hy:=(hρ y).1
  unfold storeV at h
  split at h
  · rename_i b off e1
    rw [e1] at hx; simp only [RV] at hx
    obtain ⟨k,hk,he⟩:=hx
    simp only [Option.bind_eq_some_iff] at h
    obtain ⟨ti,ht,xs,hxs,ys,hys,h⟩:=h
    split at h
    · rename_i hc
      cases h
      obtain ⟨hyr,hyt,hyo⟩:=laid_rel (hρ y) hys
      obtain ⟨cur,el,h1,h2,h3,h4⟩:=hv.write (vs:=(a.eval y).cells.toList) (off:=off) hk hxs hyr (by omega) hyt hyo
      have hyl:=hyr.length
      refine ⟨undef,_,.inr ⟨?_,rfl⟩,h3,h4,by simp only [RV],trivial⟩
      have hst:=run_storeCells_at P k off el (a.eval y).cells.toList 0 cur w h1 (by simpa using h2) (oneAs_rel hyr hc.2.2)
      have hrun : (Instr.storeAt t (a.eval x) (a.eval y)).run P w = .ok () (w.setRow k (cur.toList.take off ++ (a.eval y).cells.toList ++ cur.toList.drop (off + (a.eval y).cells.toList.length)).toArray):=by
        rw [he]
        have hsz : (a.eval y).cells.size = ti.size:=by rw [← Array.length_toList,hyl,hc.1]
        simp only [Instr.storeAt,Instr.sureAddr,storeVar,Sem.run_bind,Sem.run_pure,Result.andThen_ok,run_sizeOf hte ht,hsz]
        simpa using hst
      unfold execOp; rw [ho]
      simp only [Sem.run_bind,hrun,Result.andThen_ok,Sem.run_pure]
    · cases h
  · cases h
theorem out_copy (hte : TeOK P te) (hv : Valid N g box w) (hρ : Rel g w a ρ) (x y : Operand) (args : Array Operand) (ts : Array TypeId) (t : TypeId) (rest : List TypeId) (ho : o.op = .call { callee := .builtin .copy,args := args,argTypes := ts })
    (ha : args.toList = [x,y]) (hts : ts.toList = t :: rest) {n : Nat} {box' : Boxes} (h : copyV te box t (ρ x) (ρ y) = some (n,box')) : WOut P N g w o a (.raw (.int .i64 n)) box':=by
  have hx:=(hρ x).1
  have hy:=(hρ y).1
  have ha' : args = #[x,y]:=by rw [← Array.toArray_toList (xs:=args),ha]
  have hts' : ts[0]? = some t:=by rw [← Array.toArray_toList (xs:=ts),hts]; simp
  unfold copyV at h
  split at h
  · rename_i e b off nd cd z hk e1
    rw [e1] at hx; simp only [RV] at hx
    obtain ⟨k,oo,cd',hb,he,hcc,hnc,hoo⟩:=hx
    obtain ⟨_,_,_,d0,hd0,hk0⟩:=kd_some hte hk (by simp)
    simp only [TKis] at hk0; subst hk0
    split at h
    · cases h
    rename_i hnstr
    simp only [Option.bind_eq_some_iff] at h
    obtain ⟨ti,ht,h⟩:=h
    split at h
    · rename_i hz
      simp only [Option.bind_eq_some_iff] at h
      obtain ⟨⟨m,ys⟩,hsl,xs,hxs,h⟩:=h
      split at h
      · rename_i hc
        cases h
        obtain ⟨c1,c2⟩:=hc
        simp only at c2
        obtain ⟨i,zz,hi,hs,_⟩:=(hte e ti ht).info
        -- what is copied
        have hsrc : ∃ vs : List Value,RVs g.μ g.G w (ys.take (min m nd * z)) vs ∧ (Builtin.firstCells ti.size (min m nd) (a.eval y)).run P w = .ok vs.toArray w ∧ (∀ w',(Builtin.lenOf (a.eval y)).run P w' = .ok m w') ∧ vs.length = min m nd * z:=by
          rcases slCells_rel hv hy hsl with ⟨s,hs1,hs2,hs3,hs4⟩ | ⟨h1,h2,h3⟩ | ⟨k2,off2,c2',us,h1,h2,h3,h4,h5⟩
          · obtain ⟨y0,hy0⟩ : ∃ y0,ρ y = y0 := ⟨_,rfl⟩
            rw [hy0] at hsl hy hnstr
            rw [hs1] at hy
            unfold slCells at hsl
            split at hsl
            · simp only [RV] at hy; cases hy
            · simp only [RV] at hy
              rcases hy with ⟨⟨_,h⟩,_⟩ | ⟨_,_,_,_,h,_⟩ <;> cases h
            · simp only [RV] at hy
              obtain ⟨_,_,_,_,h,_⟩:=hy; cases h
            · exact absurd rfl hnstr
            · cases hsl
          · obtain ⟨A,h1⟩ := h1
            subst h2; subst h3
            refine ⟨[],?_,?_,?_,by simp⟩
            · simp; exact RVs.nil
            · rw [h1,show min 0 nd = 0 by omega]; exact firstCells_zero w ti.size A
            · rw [h1]; exact fun _=>rfl
          · refine ⟨us.take (min m nd * z),h3.take _,?_,?_,?_⟩
            · rw [h1]
              have hml : min m nd * z ≤ m * z:=Nat.mul_le_mul_right _ (Nat.min_le_left _ _)
              refine run_firstCells_some w ti.size (min m nd) ⟨k2,off2,none⟩ m c2' _ ?_ (fun j v hv=>?_)
              · rw [List.length_take,h5,hz]; rw [hz] at hml; omega
              · have hj : j < us.length:=by
                  have:=(List.getElem?_eq_some_iff.1 hv).1
                  rw [List.length_take] at this; omega
                rw [List.getElem?_take] at hv
                split at hv
                · rw [addr_add]; exact (h4 j hj).trans hv
                · cases hv
            · rw [h1]; exact fun _=>rfl
            · have hml : min m nd * z ≤ m * z := Nat.mul_le_mul_right _ (Nat.min_le_left _ _)
              rw [List.length_take,h5]; omega
        obtain ⟨vs,v1,v2,v3,v4⟩:=hsrc
        have v1l:=v1.length
        have hmn : min m nd * z ≤ nd * z:=Nat.mul_le_mul_right _ (Nat.min_le_right _ _)
        obtain ⟨cur,el,h1,h2,h3,h4⟩:=hv.write (ys:=(ys.take (min m nd * z)).map strip) (off:=off) hb hxs v1.strips (by rw [List.length_map]; omega) (fun j n zs fl u hj _=>by
          simp only [List.getElem?_map,Option.map_eq_some_iff] at hj
          obtain ⟨_,_,hj⟩:=hj
          rw [strip_sl hj]; trivial) (cellsOK_strips _)
        have hst:=run_storeCells_at P k off el vs 0 cur w h1 (by simpa using h2) (oneAs_rel v1 c2)
        refine ⟨_,_,.inl ?_,h3,h4,by simp only [RV]; rfl,trivial⟩
        subst ha'
        unfold execOp; rw [ho]
        simp only [resolve,Sem.run_bind,Sem.run_pure,Result.andThen_ok,invoke,builtin]
        have hz0 : oo = off ∨ vs = []:=by
          rcases hoo with h | h
          · exact .inl h
          · right; exact List.length_eq_zero_iff.1 (by rw [v4,show nd = 0 by omega]; simp)
        have hrun : (Builtin.copy_ ts o.type #[a.eval x,a.eval y]).run P w = .ok (.int .i64 (min m nd : Nat)) (w.setRow k (cur.toList.take off ++ vs ++ cur.toList.drop (off + vs.length)).toArray):=by
          rw [he]
          have hst' : (storeCells ⟨k,oo,none⟩ vs 0).run P w = .ok () (w.setRow k (cur.toList.take off ++ vs ++ cur.toList.drop (off + vs.length)).toArray):=by
            rcases hz0 with h | h
            · rw [h]; simpa using hst
            · subst h
              have hself : (cur.toList.take off ++ [] ++ cur.toList.drop (off + 0)).toArray = cur:=by simp
              simp only [storeCells,List.length_nil]
              rw [hself,setRow_self w k cur el (0,0) h1]; rfl
          have hmin : Nat.min m nd = min m nd:=rfl
          simp [Builtin.copy_,hts',run_underlying hd0,v3,sizeOf,typeInfo,hi,hs,hmin,v2,hst',goInt]
        simp [hrun]
      · cases h
    · cases h
  · cases h
end
end Go.Abs
namespace Go.Abs
set_option linter.unusedSimpArgs false
set_option linter.unusedVariables false
open Go Go.RowKit
abbrev noMu : Bx→Option Nat:=fun _=>none
structure PreV (glob : Nat → Option (List AV)) (G : Nat → Nat → Prop) (w : World) (args : List AV) (vals : List Value) : Prop where
  cell : ∀ k o,G k o→(at_ w k o).isSome
  glob : ∀ gi xs,glob gi = some xs→RV noMu G w (.iptr xs) (.pointer (some ⟨gi,0,none⟩))
  args : RVs noMu G w args vals
def resG (G' : Nat→Nat→Prop) (T : Nat→Option (Nat × Nat × Nat)) : Ghost :=
  { L:=0,K:=fun _=>False,μ:=noMu,G:=G',T:=fun i=>if i.lvl = 0 ∧ i.slot = 0 ∧ i.gen = 0 then T i.comp else none,U:=fun _=>0,D:=fun _=>false }
structure PostV (G : Nat → Nat → Prop) (w : World) (r : AV) (u : Value) (G' : Nat → Nat → Prop) (w' : World) (T : Nat → Option (Nat × Nat × Nat)) : Prop where
  below : Below w.heap.size w w'
  sub : ∀ k o,G k o→G' k o
  old : ∀ k o,G' k o→k < w.heap.size→G k o
  cell : ∀ k o,G' k o→(at_ w' k o).isSome
  rel : RV noMu G' w' r u
  top : Top (resG G' T) r u
  tail : ∀ c k lo hi,T c = some (k,lo,hi)→w.heap.size ≤ k ∧ k < w'.heap.size ∧ lo ≤ hi ∧ (∀ o,lo ≤ o→o < hi→(at_ w' k o).isSome ∧ w'.frozen? ⟨k,o,none⟩ = false ∧ ¬ G' k o)
  tinj : ∀ c c' k lo hi lo' hi',T c = some (k,lo,hi)→T c' = some (k,lo',hi')→c = c'
def SoundV (P : Program) (glob : Nat→Option (List AV)) (f : FuncId) (pf : List AV→Option AV) : Prop :=
  (∀ (args : Array Value) (w : World),(callFunc f args).run P w = .ok (.enter f args) w) ∧
  ∀ (args : List AV) (r : AV),pf args = some r → ∀ (G : Nat → Nat → Prop) (w : World) (vals : List Value),PreV glob G w args vals →
    Calls P f vals.toArray w fun e w'=>∃ u G' T,e = .returned u ∧ PostV G w r u G' w' T
mutual
theorem RV.pure {μ μ' : Bx → Option Nat} {G : Nat → Nat → Prop} {w : World} : ∀ (v : AV) (u : Value),pureA v = true → RV μ G w v u → RV μ' G w v u
  | .dead,_,_,_=>by simp only [RV]
  | .raw _,_,_,h=>by simpa only [RV] using h
  | .anyb,_,_,h=>by simpa only [RV] using h
  | .sl n xs fl,u,hp,h=>by
    simp only [RV,pureA] at h hp ⊢
    rcases h with h | ⟨k,o,c,us,h1,h2,h3,h4⟩
    · exact .inl h
    · exact .inr ⟨k,o,c,us,h1,h2,RVs.pure xs us hp h3,h4⟩
  | .iptr xs,u,hp,h=>by
    simp only [RV,pureA] at h hp ⊢
    obtain ⟨k,o,us,h1,h3,h4⟩:=h
    exact ⟨k,o,us,h1,RVs.pure xs us hp h3,h4⟩
  | .agg xs,u,hp,h=>by
    simp only [RV,pureA] at h hp ⊢
    obtain ⟨us,h1,h2⟩:=h
    exact ⟨us,h1,RVs.pure xs us hp h2⟩
  | .tup xs,u,hp,h=>by
    simp only [RV,pureA] at h hp ⊢
    obtain ⟨us,h1,h2⟩:=h
    exact ⟨us,h1,RVs.pure xs us hp h2⟩
  | .fn f xs,u,hp,h=>by
    simp only [RV,pureA] at h hp ⊢
    obtain ⟨us,h1,h2⟩:=h
    exact ⟨us,h1,RVs.pure xs us hp h2⟩
  | .ptr _ _,_,hp,_=>by simp [pureA] at hp
  | .view ..,_,hp,_=>by simp [pureA] at hp
  | .nptr _,_,hp,_=>by simp [pureA] at hp
theorem RVs.pure {μ μ' : Bx → Option Nat} {G : Nat → Nat → Prop} {w : World} : ∀ (xs : List AV) (us : List Value),pureL xs = true → RVs μ G w xs us → RVs μ' G w xs us
  | [],_,_,h=>by simpa only [RVs] using h
  | x :: xs,us,hp,h=>by
    simp only [RVs,pureL,Bool.and_eq_true] at h hp ⊢
    obtain ⟨u,us',h1,h2,h3⟩:=h
    exact ⟨u,us',h1,RV.pure x u hp.1 h2,RVs.pure xs us' hp.2 h3⟩
end
theorem flat_rel {μ μ' : Bx → Option Nat} {G G' : Nat → Nat → Prop} {w w' : World} : ∀ {xs ys : List AV} {us : List Value},flatL xs = some ys → RVs μ G w xs us → RVs μ' G' w' xs us ∧ ys = xs
  | [],ys,us,h,hr=>by simp [flatL] at h; subst h; exact ⟨hr,rfl⟩
  | x :: xs,ys,us,h,hr=>by
    unfold flatL at h
    split at h
    · rename_i heq; cases heq
    · rename_i v xs' heq
      cases heq
      simp only [Option.map_eq_some_iff] at h
      obtain ⟨ys',h1,rfl⟩:=h
      simp only [RVs] at hr ⊢
      obtain ⟨u,us',rfl,h2,h3⟩:=hr
      obtain ⟨h4,h5⟩:=flat_rel (μ':=μ') (G':=G') (w':=w') h1 h3
      exact ⟨⟨u,us',rfl,h2,h4⟩,by rw [h5]⟩
    · cases h
section
variable {P : Program} {N : Ent} {g : Ghost} {box : Boxes} {w : World} {o : Oper} {a : Act} {d : Nat} {ρ : Operand→AV} {te : TypeId→Option TI}
def boxG (g : Ghost) (box : Boxes) : Nat→Nat→Prop:=fun k o=>g.G k o ∨ ∃ b xs,g.μ b = some k ∧ box b = some xs ∧ o < xs.length
theorem up_G (b : Bool) {k o : Nat} (h : g.G k o) : (if b then boxG g box else g.G) k o:=by
  cases b
  · exact h
  · exact .inl h
mutual
theorem snap_rel (hv : Valid N g box w) : ∀ (v v' : AV) (u : Value),snap box v = some v' → RV g.μ g.G w v u → RV noMu (if hasView v then boxG g box else g.G) w v' u
  | .dead,v',u,h,_=>by simp [snap] at h; subst h; simp only [RV]
  | .raw x,v',u,h,hr=>by simp [snap] at h; subst h; simpa only [RV] using hr
  | .anyb,v',u,h,hr=>by simp [snap] at h; subst h; simpa only [RV] using hr
  | .sl n xs fl,v',u,h,hr=>by
    simp only [snap,Option.map_eq_some_iff] at h
    obtain ⟨ys,h1,rfl⟩:=h
    simp only [RV,hasView] at hr ⊢
    have hl:=snapL_len xs ys h1
    rcases hr with ⟨⟨A,rfl⟩,h2,h3⟩ | ⟨k,off,c,us,rfl,h2,h3,h4⟩
    · exact .inl ⟨⟨A,rfl⟩,h2,by rw [h3] at hl; exact List.length_eq_zero_iff.1 hl⟩
    · refine .inr ⟨k,off,c,us,rfl,h2,snapL_rel hv xs ys us h1 h3,fun j hj => ⟨(h4 j hj).1,?_⟩⟩
      exact up_G _ (h4 j hj).2
  | .view b off n c z,v',u,h,hr=>by
    simp only [snap,Option.bind_eq_some_iff] at h
    obtain ⟨xs,hx,h⟩:=h
    split at h
    · rename_i hc
      simp only [Option.map_eq_some_iff] at h
      obtain ⟨ys,h1,rfl⟩:=h
      simp only [RV,hasView,if_true] at hr ⊢
      obtain ⟨k,oo,c',hm,rfl,hcc,hnc,hoo⟩:=hr
      obtain ⟨us,h4,h5,_⟩:=hv.box_cells hm hx
      have hul:=h4.length
      right
      by_cases hc0 : c = 0
      · have hn0 : n = 0 := by omega
        subst hn0
        simp [flatL] at h1; subst h1
        exact ⟨k,oo,c',[],rfl,Nat.zero_le _,RVs.nil,fun j hj=>by simp at hj⟩
      · have : oo = off := by rcases hoo with h | h; · exact h
                              · exact absurd h hc0
        subst this
        obtain ⟨h6,h7⟩:=flat_rel (μ':=noMu) (G':=boxG g box) (w':=w) h1 ((h4.drop oo).take (n * z))
        rw [h7]
        refine ⟨k,oo,c',_,rfl,Nat.le_trans hnc hcc,h6,fun j hj=>?_⟩
        rw [List.length_take,List.length_drop] at hj
        refine ⟨?_,.inr ⟨b,xs,hm,hx,by omega⟩⟩
        rw [List.getElem?_take,if_pos (by omega),List.getElem?_drop]
        exact h5 _ (by omega)
    · cases h
  | .agg xs,v',u,h,hr=>by
    simp only [snap,Option.map_eq_some_iff] at h
    obtain ⟨ys,h1,rfl⟩:=h
    simp only [RV,hasView] at hr ⊢
    obtain ⟨us,rfl,h2⟩:=hr
    exact ⟨us,rfl,snapL_rel hv xs ys us h1 h2⟩
  | .tup xs,v',u,h,hr=>by
    simp only [snap,Option.map_eq_some_iff] at h
    obtain ⟨ys,h1,rfl⟩:=h
    simp only [RV,hasView] at hr ⊢
    obtain ⟨us,rfl,h2⟩:=hr
    exact ⟨us,rfl,snapL_rel hv xs ys us h1 h2⟩
  | .fn f caps,v',u,h,hr=>by
    simp only [snap] at h
    split at h
    · rename_i hc
      cases h
      have : caps = []:=by simpa using hc
      subst this
      simp only [RV,RVs] at hr ⊢
      exact hr
    · cases h
  | .ptr b off,v',u,h,hr=>by
    simp only [snap,Option.bind_eq_some_iff] at h
    obtain ⟨xs,hx,h⟩:=h
    split at h
    · rename_i hp
      cases h
      simp only [RV,hasView,if_true] at hr ⊢
      obtain ⟨k,hm,rfl⟩:=hr
      obtain ⟨us,h4,h5,_⟩:=hv.box_cells hm hx
      have hul:=h4.length
      have h6:=RVs.strips (RVs.mono (fun _ _ h=>h) (fun k o h=>Or.inl h) (fun _ _ _=>rfl) _ _ (RVs.pure (μ':=noMu) _ _ hp (h4.drop off)) : RVs noMu (boxG g box) w _ _)
      refine ⟨k,off,_,rfl,h6,fun j hj=>?_⟩
      rw [List.length_drop] at hj
      refine ⟨?_,.inr ⟨b,xs,hm,hx,by omega⟩⟩
      rw [List.getElem?_drop]
      exact h5 _ (by omega)
    · cases h
  | .iptr _,_,_,h,_=>by simp [snap] at h
  | .nptr _,_,_,h,_=>by simp [snap] at h
theorem snapL_rel (hv : Valid N g box w) : ∀ (xs ys : List AV) (us : List Value),snapL box xs = some ys → RVs g.μ g.G w xs us → RVs noMu (if hasViewL xs then boxG g box else g.G) w ys us
  | [],ys,us,h,hr=>by simp [snapL] at h; subst h; simpa only [RVs] using hr
  | x :: xs,ys,us,h,hr=>by
    simp only [snapL,Option.bind_eq_some_iff,Option.map_eq_some_iff] at h
    obtain ⟨y,h1,ys',h2,rfl⟩:=h
    simp only [RVs] at hr ⊢
    obtain ⟨u,us',rfl,h3,h4⟩:=hr
    have up : ∀ (b b' : Bool) v u,(b = true→b' = true)→RV noMu (if b then boxG g box else g.G) w v u→RV noMu (if b' then boxG g box else g.G) w v u:=fun b b' v u hbb h =>
      RV.mono (fun _ _ h=>h) (fun k o h=>by
        cases b <;> cases b' <;> simp at h hbb ⊢
        · exact h
        · exact .inl h
        · exact h) (fun _ _ _=>rfl) v u h
    have ups : ∀ (b b' : Bool) v u,(b = true→b' = true)→RVs noMu (if b then boxG g box else g.G) w v u→RVs noMu (if b' then boxG g box else g.G) w v u:=fun b b' v u hbb h =>
      RVs.mono (fun _ _ h=>h) (fun k o h=>by
        cases b <;> cases b' <;> simp at h hbb ⊢
        · exact h
        · exact .inl h
        · exact h) (fun _ _ _=>rfl) v u h
    exact ⟨u,us',rfl,up _ _ _ _ (by simp only [hasViewL]; intro h; rw [h]; rfl) (snap_rel hv x y u h1 h3),ups _ _ _ _ (by simp only [hasViewL]; intro h; rw [h]; simp) (snapL_rel hv xs ys' us' h2 h4)⟩
theorem snapL_len : ∀ (xs ys : List AV),snapL box xs = some ys → ys.length = xs.length
  | [],ys,h=>by simp [snapL] at h; subst h; rfl
  | x :: xs,ys,h=>by
    simp only [snapL,Option.bind_eq_some_iff,Option.map_eq_some_iff] at h
    obtain ⟨y,h1,ys',h2,rfl⟩:=h
    simp [snapL_len xs ys' h2]
end
def SOut (P : Program) (N : Ent) (g : Ghost) (box : Boxes) (w : World) (o : Oper) (a : Act) (d : Nat) (r : GR) : Prop :=
  ∀ (K : Act → World → Prop) (Q : Exit → Act → World → Prop),(∀ u w' g',Valid N g' (applyW (match r.cont with | some c => updB box (.own N.lvl d (g.U d + 1)) c | none => box) r.wr) w' → Le g w g' w' →
    g'.U = (if r.bump then upd g.U d (g.U d + 1) else g.U)→g'.D = useL (match r.use with | some i=>updI g.D i | none=>g.D) r.uses→RV g'.μ g'.G w' r.v u→Top g' r.v u→K (a.put o.dst u) w')→o.wp P a w K Q
theorem GOut.step {r : GR} (h : GOut P N g box w o a d r) (hp : r.wr = [] ∧ r.uses = []) : SOut P N g box w o a d r:=by
  intro K Q hK
  obtain ⟨u,w',g',h1,h2,h3,h4,h5,h6,h7⟩:=h
  unfold Oper.wp
  rw [h1]
  exact hK u w' g' (by rw [hp.1]; exact h2) h3 h4 (by rw [hp.2]; exact h5) h6 h7
theorem Valid.addTs (h : Valid N g box w) (n : Nat) (hn : g.U d < n) (T : Nat → Option (Nat × Nat × Nat))
    (hT : ∀ c k lo hi,T c = some (k,lo,hi)→(N.w0.heap.size ≤ k ∨ ∃ j lo' hi',N.T0 j = some (k,lo',hi') ∧ lo' ≤ lo ∧ hi ≤ hi') ∧ k < w.heap.size ∧ lo ≤ hi ∧ (∀ o,lo ≤ o→o < hi→(at_ w k o).isSome ∧ w.frozen? ⟨k,o,none⟩ = false ∧ ¬ g.G k o) ∧ (∀ b,g.μ b ≠ some k) ∧ ∀ j lo hi,g.T j ≠ some (k,lo,hi))
    (hinj : ∀ c c' k lo hi lo' hi',T c = some (k,lo,hi)→T c' = some (k,lo',hi')→c = c') (U : Nat→Nat) (hU : ∀ s,g.U s ≤ U s) (hUd : n ≤ U d) :
    Valid N { g with U,T:=fun j=>if j.lvl = N.lvl ∧ j.slot = d ∧ j.gen = n then T j.comp else g.T j } box w ∧ Le g w { g with U,T:=fun j=>if j.lvl = N.lvl ∧ j.slot = d ∧ j.gen = n then T j.comp else g.T j } w:=by
  have hun : ∀ j : Id,j.lvl = N.lvl→j.slot = d→j.gen = n→¬ made g j:=fun j h0 h1 h2=>by
    cases j; simp only at h0 h1 h2; subst h0; subst h1; subst h2; exact h.unmade hn
  have hD : ∀ j : Id,j.lvl = N.lvl→j.slot = d→j.gen = n→g.D j = false:=fun j h0 h1 h2=>by
    cases e : g.D j with
    | false=>rfl
    | true=>exact absurd (h.dgen j e) (hun j h0 h1 h2)
  have hle : Le g w { g with U,T:=fun j=>if j.lvl = N.lvl ∧ j.slot = d ∧ j.gen = n then T j.comp else g.T j } w:=by
    refine ⟨rfl,rfl,fun _ _ h=>h,fun _ _ h=>h,fun _ _ _=>rfl,hU,fun _ h=>h,fun i r hr=>.inl ?_⟩
    show (if _ then _ else _) = _
    rw [if_neg]
    · exact hr
    · rintro ⟨h0,h1,h2⟩
      obtain ⟨k,lo,hi⟩:=r
      exact hun i h0 h1 h2 (h.tail i k lo hi hr).2.2.1
  refine ⟨{ h with fresh:=fun s n k hm=>Nat.le_trans (h.fresh s n k hm) (hU s),dgen:=fun i hi=>(h.dgen i hi).le hle,ctop:=fun b k xs hm hx j n ys fl u hj hu=>FlOK.le hle (h.ctop b k xs hm hx j n ys fl u hj hu),tail:=?_,tnew:=?_,tkeep:=fun i r hr=>(h.tkeep i r hr).elim (fun h1=>hle.T i r h1) .inr,tinj:=?_ },hle⟩
  · intro j k lo hi ht
    change (if _ then _ else _) = _ at ht
    split at ht
    · rename_i e
      obtain ⟨t1,t2,t3,t4,t5,t6⟩:=hT _ _ _ _ ht
      refine ⟨t1,t2,.inr (.inr ⟨by rw [e.1]; exact h.lev.symm,?_⟩),hD j e.1 e.2.1 e.2.2,t3,t4,t5⟩
      show j.gen ≤ U j.slot
      rw [e.2.1,e.2.2]; exact hUd
    · obtain ⟨t1,t2,t3,t4⟩ := h.tail j k lo hi ht
      exact ⟨t1,t2,t3.le hle,t4⟩
  · intro j r ht
    change (if _ then _ else _) = _ at ht
    split at ht
    · rename_i e; exact .inl e.1
    · exact h.tnew j r ht
  · intro j j' k lo hi lo' hi' ht ht'
    change (if _ then _ else _) = _ at ht
    change (if _ then _ else _) = _ at ht'
    split at ht <;> split at ht'
    · rename_i e e'
      have:=hinj _ _ _ _ _ _ _ ht ht'
      cases j; cases j'; simp_all
    · exact absurd ht' ((hT _ _ _ _ ht).2.2.2.2.2 _ _ _)
    · exact absurd ht ((hT _ _ _ _ ht').2.2.2.2.2 _ _ _)
    · exact h.tinj _ _ _ _ _ _ _ ht ht'
theorem RV.ren1 {l n : Nat} {G : Nat→Nat→Prop} {v : AV} {u : Value} (h : RV noMu G w v u) : RV noMu G w (ren1 l d n v) u:=by
  cases v with
  | sl n' xs fl=>simpa only [Abs.ren1,RV] using h
  | ptr b o=>simp only [RV] at h; obtain ⟨k,h,_⟩:=h; cases h
  | view b o n c z=>simp only [RV] at h; obtain ⟨k,_,_,h,_⟩:=h; cases h
  | _=>exact h
theorem RV.takeR {l n : Nat} {G : Nat→Nat→Prop} {v : AV} {u : Value} (h : RV noMu G w v u) : RV noMu G w (takeR l d n v) u:=by
  cases v with
  | tup vs =>
    simp only [Abs.takeR,RV] at h ⊢
    obtain ⟨us,rfl,hr⟩:=h
    refine ⟨us,rfl,RVs.of_get (by simp [hr.length]) fun j x u hx hu=>?_⟩
    simp only [List.getElem?_map,Option.map_eq_some_iff] at hx
    obtain ⟨y,h1,rfl⟩:=hx
    obtain ⟨u',h2,h3⟩:=hr.get j y h1
    rw [hu] at h2; cases h2
    exact RV.ren1 (l:=l) (n:=n) (d:=d) h3
  | _=>exact RV.ren1 (l:=l) (n:=n) (d:=d) h
theorem FlOK.takeR {G' : Nat→Nat→Prop} {T : Nat→Option (Nat × Nat × Nat)} {g' : Ghost} {l n m : Nat} (hL : g'.L = l) (hT : ∀ c,g'.T ⟨l,d,c,n⟩ = T c) (hU : n ≤ g'.U d) {fl : Fl} {u : Value} (h : FlOK (resG G' T) fl m u) : FlOK g' (renF l d n fl) m u:=by
  cases fl with
  | bor=>trivial
  | lit i=>trivial
  | full=>cases u <;> first | exact h | (simp only [FlOK] at h)
  | own i z =>
    cases u with
    | slice A n' c =>
      simp only [FlOK,resG,made,renF] at h ⊢
      obtain ⟨h0,h⟩:=h
      have hi : i.gen = 0:=by rcases h0 with ⟨h0,_⟩ | h0 | ⟨h0,h1⟩ <;> first | exact h0.elim | omega
      rw [if_pos hi]
      simp only [FlOK]
      refine ⟨madeNew (c:=i.comp) hL hU,?_⟩
      rcases h with h1 | h1 | ⟨k,o,lo,hi,e1,e2,e3,e4⟩
      · cases h1
      · exact .inr (.inl h1)
      · split at e3
        · exact .inr (.inr ⟨k,o,lo,hi,e1,e2,by rw [hT]; exact e3,e4⟩)
        · cases e3
    | _=>simp only [FlOK] at h
theorem Top.ren1 {G' : Nat→Nat→Prop} {T : Nat→Option (Nat × Nat × Nat)} {g' : Ghost} {l n : Nat} (hL : g'.L = l) (hT : ∀ c,g'.T ⟨l,d,c,n⟩ = T c) (hU : n ≤ g'.U d) {v : AV} {u : Value} (h : Top (resG G' T) v u) (hn : ∀ vs,v ≠ .tup vs) : Top g' (ren1 l d n v) u:=by
  cases v with
  | sl n' xs fl=>exact FlOK.takeR hL hT hU h
  | tup vs=>exact absurd rfl (hn vs)
  | _=>trivial
theorem Top.takeR {G' : Nat→Nat→Prop} {T : Nat→Option (Nat × Nat × Nat)} {g' : Ghost} {l n : Nat} (hL : g'.L = l) (hT : ∀ c,g'.T ⟨l,d,c,n⟩ = T c) (hU : n ≤ g'.U d) {v : AV} {u : Value} (h : Top (resG G' T) v u) : Top g' (takeR l d n v) u:=by
  cases v with
  | tup vs =>
    simp only [Abs.takeR,Top] at h ⊢
    obtain ⟨us,rfl,h2⟩:=h
    refine ⟨us,rfl,fun j n' xs fl v hj hv=>?_⟩
    simp only [List.getElem?_map,Option.map_eq_some_iff] at hj
    obtain ⟨y,h3,h4⟩:=hj
    cases y <;> simp only [Abs.ren1] at h4 <;> cases h4
    exact FlOK.takeR hL hT hU (h2 j _ _ _ v h3 hv)
  | sl n' xs fl=>exact Top.ren1 hL hT hU h (fun _ h=>by cases h)
  | _=>trivial
theorem freshC_rel {G' G1 : Nat → Nat → Prop} {w' : World} {T : Nat → Option (Nat × Nat × Nat)} (hG : ∀ k o,G' k o → w.heap.size ≤ k → G1 k o) (hT : ∀ c k lo hi,T c = some (k,lo,hi) → w.heap.size ≤ k) {v : AV} {u : Value}
    (hf : freshC v = true) (h : RV noMu G' w' v u) (ht : ∀ n xs fl,v = .sl n xs fl→FlOK (resG G' T) fl xs.length u) : RV noMu G1 w' v u:=by
  unfold freshC at hf
  split at hf
  · simpa only [RV] using h
  · simpa only [RV] using h
  · simp only [RV]
  · rename_i n xs i z
    obtain ⟨ys,hy⟩:=Option.isSome_iff_exists.1 hf
    have hfl:=ht n xs _ rfl
    simp only [RV] at h ⊢
    rcases h with h | ⟨k,o,c,us,rfl,h2,h3,h4⟩
    · exact .inl h
    · refine .inr ⟨k,o,c,us,rfl,h2,(flat_rel (μ' := noMu) (G' := G1) (w' := w') hy h3).1,fun j hj => ⟨(h4 j hj).1,hG _ _ (h4 j hj).2 ?_⟩⟩
      simp only [FlOK,resG] at hfl
      rcases hfl.2 with h1 | ⟨h1,_⟩ | ⟨k',o',lo,hi,e1,e2,e3,e4⟩
      · cases h1
      · cases h1
      · cases e1
        split at e3
        · exact hT _ _ _ _ e3
        · cases e3
  · rename_i xs
    obtain ⟨ys,hy⟩:=Option.isSome_iff_exists.1 hf
    simp only [RV] at h ⊢
    obtain ⟨us,rfl,h2⟩:=h
    exact ⟨us,rfl,(flat_rel (μ':=noMu) (G':=G1) (w':=w') hy h2).1⟩
  · cases hf
theorem snapAll_rel (hv : Valid N g box w) : ∀ (xs ys : List AV) (us : List Value),snapAll box xs = some ys→RVs g.μ g.G w xs us→RVs noMu (if hasViewL xs then boxG g box else g.G) w ys us:=by
  intro xs ys us h hr
  have e : ∀ xs,snapAll box xs = snapL box xs:=by
    intro xs
    induction xs with
    | nil=>rfl
    | cons x xs ih=>simp only [snapAll,snapL,ih]
  exact snapL_rel hv xs ys us (by rw [← e]; exact h) hr
theorem run_call (hv : Valid N g box w) (hρ : Rel g w a ρ) (f : Operand) (args : Array Operand) (ts : Array TypeId)
    (ho : o.op = .call { callee:=.value f,args:=args,argTypes:=ts }) {fid : FuncId} {caps : List AV} (hf : ρ f = .fn fid caps) (hc : ∀ (args : Array Value) (w : World),(callFunc fid args).run P w = .ok (.enter fid args) w) :
    ∃ vals : List Value,RVs g.μ g.G w (args.toList.map ρ ++ caps) vals ∧ (∀ (j : Nat) v u,(args.toList.map ρ)[j]? = some v→vals[j]? = some u→Top g v u) ∧ (execOp a.eval o).run P w = .ok (.enter fid vals.toArray) w:=by
  have hfv:=(hρ f).1
  rw [hf] at hfv; simp only [RV] at hfv
  obtain ⟨us0,hfe,hcaps⟩:=hfv
  have hargs : RVs g.μ g.G w (args.toList.map ρ) (args.toList.map a.eval):=RVs.of_get (by simp) fun j x u hx hu=>by
    simp only [List.getElem?_map,Option.map_eq_some_iff] at hx hu
    obtain ⟨y,h1,rfl⟩:=hx
    obtain ⟨y',h2,rfl⟩:=hu
    rw [h1] at h2; cases h2
    exact (hρ y).1
  refine ⟨args.toList.map a.eval ++ us0,hargs.append hcaps,fun j v u hj hu=>?_,?_⟩
  · have hjl := (List.getElem?_eq_some_iff.1 hj).1
    rw [List.getElem?_append_left (by simpa using hjl)] at hu
    simp only [List.getElem?_map,Option.map_eq_some_iff] at hj hu
    obtain ⟨y,h1,rfl⟩:=hj
    obtain ⟨y',h2,rfl⟩:=hu
    rw [h1] at h2; cases h2
    exact (hρ y).2
  · unfold execOp; rw [ho]
    simp only [resolve,hfe,Deferred.ofValue,Sem.run_bind,Sem.run_pure,Result.andThen_ok,invoke]
    have:=hc (args.map a.eval ++ us0.toArray) w
    have e : (args.toList.map a.eval ++ us0).toArray = args.map a.eval ++ us0.toArray:=by
      apply Array.ext'
      simp
    rw [e]
    simpa using this
theorem out_callV {glob : Nat → Option (List AV)} (hglob : ∀ gi xs,glob gi = some xs → RV noMu g.G w (.iptr xs) (.pointer (some ⟨gi,0,none⟩))) (hv : Valid N g box w) (hρ : Rel g w a ρ) (f : Operand) (args : Array Operand) (ts : Array TypeId)
    (ho : o.op = .call { callee:=.value f,args:=args,argTypes:=ts }) {fid : FuncId} {caps : List AV} (hf : ρ f = .fn fid caps) {pf : List AV→Option AV} (hs : SoundV P glob fid pf) {as : List AV} (ha : snapAll box (args.toList.map ρ ++ caps) = some as) {r : AV} (hr : pf as = some r)
    (hc : hasViewL (args.toList.map ρ ++ caps) = false ∨ freshR r = true) : SOut P N g box w o a d { v:=takeR N.lvl d (g.U d + 1) r,bump:=true }:=by
  intro K Q hK
  obtain ⟨vals,hargs,_,hrun⟩:=run_call hv hρ f args ts ho hf hs.1
  have hsn:=snapAll_rel hv _ _ _ ha hargs
  generalize hview : hasViewL (args.toList.map ρ ++ caps) = bv at hsn hc
  have hGc : ∀ k o,(if bv then boxG g box else g.G) k o→(at_ w k o).isSome:=by
    intro k o h
    cases bv with
    | false=>exact hv.cell k o h
    | true =>
      rcases h with h | ⟨b,xs,h1,h2,h3⟩
      · exact hv.cell k o h
      · obtain ⟨us,h4,h5,_⟩ := hv.box_cells h1 h2
        rw [h5 o (by rw [h4.length]; exact h3)]
        have : o < us.length:=by rw [h4.length]; exact h3
        simp [this]
  have hGsub : ∀ k o,g.G k o→(if bv then boxG g box else g.G) k o:=by
    intro k o h
    cases bv with
    | false=>exact h
    | true=>exact .inl h
  have hpre : PreV glob (if bv then boxG g box else g.G) w as vals :=
    ⟨hGc,fun gi xs h=>RV.mono (fun _ _ h=>h) hGsub (fun _ _ _=>rfl) _ _ (hglob gi xs h),hsn⟩
  unfold Oper.wp
  rw [hrun,Oper.upon_enter]
  have hcall:=hs.2 as r hr _ w _ hpre
  refine hcall.mono ?_
  rintro e w' ⟨u,G',T,rfl,hp⟩
  show K (a.put o.dst u) w'
  have v1:=hv.world hp.below
  have v2:=v1.addG (fun k o=>G' k o ∧ w.heap.size ≤ k) (by
    rintro k o ⟨h1,h2⟩
    obtain ⟨n1,n2,n3⟩:=hv.noneAt h2
    exact ⟨hp.cell k o h1,fun h=>by have:=hv.chg.size; omega,n2,fun i lo hi h=>absurd h (n3 i lo hi)⟩)
  have hU : ∀ s,g.U s ≤ upd g.U d (g.U d + 1) s:=fun s=>by unfold upd; split <;> simp_all
  obtain ⟨v3,l3⟩:=v2.addTs (d:=d) (g.U d + 1) (by simp) T (by
    intro c k lo hi ht
    obtain ⟨t1,t2,t3,t4⟩:=hp.tail c k lo hi ht
    obtain ⟨n1,n2,n3⟩:=hv.noneAt t1
    refine ⟨.inl (Nat.le_trans hv.chg.size t1),t2,t3,fun o h1 h2=>?_,n2,fun j lo hi=>n3 j lo hi⟩
    obtain ⟨e1,e2,e3⟩:=t4 o h1 h2
    exact ⟨e1,e2,fun h=>h.elim (n1 o) (fun h=>e3 h.1)⟩) hp.tinj (upd g.U d (g.U d + 1)) hU (by simp [upd])
  have hle:=((hv.le_world hp.below).trans (Le.addG (g:=g) (w:=w') (fun k o=>G' k o ∧ w.heap.size ≤ k))).trans l3
  refine hK u w' _ v3 hle (by simp) rfl ?_ ?_
  · -- the result
    have h1 : RV noMu (fun k o=>g.G k o ∨ (G' k o ∧ w.heap.size ≤ k)) w' r u:=by
      cases bv with
      | false =>
        refine RV.mono (fun _ _ h=>h) (fun k o h=>?_) (fun _ _ _=>rfl) _ _ hp.rel
        rcases Nat.lt_or_ge k w.heap.size with h' | h'
        · exact .inl (hp.old k o h h')
        · exact .inr ⟨h,h'⟩
      | true =>
        have hfr : freshR r = true:=hc.resolve_left (by simp)
        have hG1 : ∀ k o,G' k o→w.heap.size ≤ k→(g.G k o ∨ (G' k o ∧ w.heap.size ≤ k)):=fun k o h1 h2=>.inr ⟨h1,h2⟩
        have hTn : ∀ c k lo hi,T c = some (k,lo,hi)→w.heap.size ≤ k:=fun c k lo hi h=>(hp.tail c k lo hi h).1
        have hrel:=hp.rel
        have htop:=hp.top
        cases r with
        | tup vs =>
          simp only [freshR] at hfr
          simp only [RV] at hrel ⊢
          simp only [Top] at htop
          obtain ⟨us,hu,hr2⟩:=hrel
          obtain ⟨us',hu',ht⟩:=htop
          refine ⟨us,hu,RVs.of_get hr2.length fun j x v hx hvv=>?_⟩
          obtain ⟨v',h1,h2⟩:=hr2.get j x hx
          rw [hvv] at h1; cases h1
          refine freshC_rel hG1 hTn (List.all_eq_true.1 hfr x (List.mem_of_getElem? hx)) h2 ?_
          rintro n xs fl rfl
          rw [hu] at hu'; cases hu'
          exact ht j n xs fl v hx (by simpa using hvv)
        | sl n xs fl=>exact freshC_rel hG1 hTn hfr hrel (fun n xs fl e=>by cases e; exact htop)
        | _=>exact freshC_rel hG1 hTn hfr hrel (fun n xs fl e=>by cases e)
    have h2:=RV.takeR (d:=d) (l:=N.lvl) (n:=g.U d + 1) h1
    exact RV.mono (fun _ _ h=>by cases h) (fun _ _ h=>h) (fun _ _ _=>rfl) _ _ h2
  · refine Top.takeR (T := T) (G' := G') ?_ ?_ ?_ hp.top
    · exact hv.lev
    · intro c; simp
    · simp [upd]
def SoundG (P : Program) (glob : Nat→Option (List AV)) (f : FuncId) (gf : List AV→Boxes→(Id→Bool)→Option CR) : Prop :=
  (∀ (args : Array Value) (w : World),(callFunc f args).run P w = .ok (.enter f args) w) ∧
  ∀ (N : Ent) (g : Ghost) (box : Boxes) (w : World),Valid N g box w → (∀ gi xs,glob gi = some xs → RV noMu g.G w (.iptr xs) (.pointer (some ⟨gi,0,none⟩))) →
    ∀ (args : List AV) (vals : List Value) (cr : CR) (v : AV) (d : Nat),RVs g.μ g.G w args vals → (∀ (j : Nat) v u,args[j]? = some v → vals[j]? = some u → Top g v u) → gf args box g.D = some cr → cr.v = .ret v →
      Calls P f vals.toArray w fun e w' => ∃ u g',e = .returned u ∧
        Valid N g' (applyW (match (cr.gr N.lvl d (g.U d + 1) v).cont with | some c=>updB box (.own N.lvl d (g.U d + 1)) c | none=>box) (cr.gr N.lvl d (g.U d + 1) v).wr) w' ∧ Le g w g' w' ∧
        g'.U = upd g.U d (g.U d + 1) ∧ g'.D = useL g.D cr.use ∧ RV g'.μ g'.G w' (takeR N.lvl d (g.U d + 1) v) u ∧ Top g' (takeR N.lvl d (g.U d + 1) v) u
theorem out_callG {glob : Nat → Option (List AV)} (hglob : ∀ gi xs,glob gi = some xs → RV noMu g.G w (.iptr xs) (.pointer (some ⟨gi,0,none⟩))) (hv : Valid N g box w) (hρ : Rel g w a ρ) (f : Operand) (args : Array Operand) (ts : Array TypeId)
    (ho : o.op = .call { callee:=.value f,args:=args,argTypes:=ts }) {fid : FuncId} {caps : List AV} (hf : ρ f = .fn fid caps) {gf : List AV→Boxes→(Id→Bool)→Option CR} (hs : SoundG P glob fid gf) {cr : CR} {v : AV}
    (hr : gf (args.toList.map ρ ++ caps.map strip) box g.D = some cr) (hcv : cr.v = .ret v) : SOut P N g box w o a d (cr.gr N.lvl d (g.U d + 1) v):=by
  intro K Q hK
  obtain ⟨vals,hargs,htops,hrun⟩:=run_call hv hρ f args ts ho hf hs.1
  unfold Oper.wp
  rw [hrun,Oper.upon_enter]
  have hargs' : RVs g.μ g.G w (args.toList.map ρ ++ caps.map strip) vals:=RVs.of_get (by rw [hargs.length]; simp) fun j v u hj hu=>by
    by_cases hlt : j < (args.toList.map ρ).length
    · rw [List.getElem?_append_left hlt] at hj
      obtain ⟨u',h1,h2⟩:=hargs.get j v (by rw [List.getElem?_append_left hlt]; exact hj)
      rw [hu] at h1; cases h1; exact h2
    · rw [List.getElem?_append_right (by omega),List.getElem?_map,Option.map_eq_some_iff] at hj
      obtain ⟨y,hy,rfl⟩:=hj
      obtain ⟨u',h1,h2⟩:=hargs.get j y (by rw [List.getElem?_append_right (by omega)]; exact hy)
      rw [hu] at h1; cases h1; exact h2.strip
  have hcall:=hs.2 N g box w hv hglob (args.toList.map ρ ++ caps.map strip) vals cr v d hargs' (fun j v u hj hu=>by
    by_cases hlt : j < (args.toList.map ρ).length
    · rw [List.getElem?_append_left hlt] at hj
      exact htops j v u hj hu
    · rw [List.getElem?_append_right (by omega),List.getElem?_map,Option.map_eq_some_iff] at hj
      obtain ⟨y,hy,rfl⟩:=hj
      exact Top.strip _ _) hr hcv
  refine hcall.mono ?_
  rintro e w' ⟨u,g',rfl,h1,h2,h3,h4,h5,h6⟩
  exact hK u w' g' h1 h2 h3 h4 h5 h6
end
end Go.Abs
namespace Go.Abs
set_option linter.unusedSimpArgs false
set_option linter.unusedVariables false
open Go Go.RowKit
structure EnvOK (P : Program) (E : Env) : Prop where
  te : TeOK P E.te
  tbl : ∀ f pf,E.tbl f = some (.val pf)→SoundV P E.glob f pf
  gen : ∀ f gf,E.tbl f = some (.gen gf)→SoundG P E.glob f gf
structure EntOK (E : Env) (N : Ent) : Prop where
  cell : ∀ k o,N.G0 k o→(at_ N.w0 k o).isSome
  glob : ∀ gi xs,E.glob gi = some xs→RV noMu N.G0 N.w0 (.iptr xs) (.pointer (some ⟨gi,0,none⟩))
section
variable {P : Program} {N : Ent} {g : Ghost} {box : Boxes} {w : World} {o : Oper} {a : Act} {d : Nat} {ρ : Operand→AV} {E : Env}
theorem Valid.globs (hv : Valid N g box w) (hN : EntOK E N) : ∀ gi xs,E.glob gi = some xs→RV noMu g.G w (.iptr xs) (.pointer (some ⟨gi,0,none⟩)):=fun gi xs h =>
  RV.mono (fun _ _ h=>h) hv.sub (fun k o h0=>hv.keep k o h0) _ _ (hN.glob gi xs h)
theorem ev_rel (hv : Valid N g box w) (hN : EntOK E N) {sl : Nat→AV} (hs : Slots g w sl a) : Rel g w a (ev E sl):=by
  intro x
  cases x with
  | tmp t=>exact hs t
  | const v =>
    refine ⟨RV.ofV v,?_⟩
    cases v <;> trivial
  | global gi =>
    simp only [ev,Act.eval]
    split
    · rename_i xs h
      exact ⟨RV.mono (fun _ _ h=>by cases h) (fun _ _ h=>h) (fun _ _ _=>rfl) _ _ (hv.globs hN gi xs h),trivial⟩
    · exact ⟨by simp only [RV],trivial⟩
  | func f =>
    simp only [ev,Act.eval]
    exact ⟨by simp only [RV,RVs]; exact ⟨[],rfl,rfl⟩,trivial⟩
theorem loadV_if {te : TypeId→Option TI} {bx : Boxes} {t : TypeId} {x v : AV} {c : Bool} (h : loadV te (if c = true then fun _=>none else bx) t x = some v) : loadV te bx t x = some v:=by
  cases c with
  | false=>exact h
  | true =>
    simp only [if_true] at h
    unfold loadV at h ⊢
    split at h
    · cases h
    · exact h
    · cases h
theorem map_plain {α : Type} {x : Option α} {f : α→GR} {r : GR} (h : x.map f = some r) (hf : ∀ v,(f v).wr = [] ∧ (f v).uses = []) : r.wr = [] ∧ r.uses = []:=by
  obtain ⟨v,_,rfl⟩:=Option.map_eq_some_iff.1 h
  exact hf v
theorem freshSl_plain {E : Env} {lvl d g n sz : Nat} {xs : List AV} : (freshSl E lvl d g n sz xs).wr = [] ∧ (freshSl E lvl d g n sz xs).uses = []:=by unfold freshSl; split <;> (try split) <;> (try split) <;> exact ⟨rfl,rfl⟩
theorem grow_plain {lvl n : Nat} {bx : Boxes} {used : Id→Bool} {op : Op} {r : GR} (h : grow E lvl d n ρ bx used op = some r) (hg : isGen E op = false) : r.wr = [] ∧ r.uses = []:=by
  have pl : ∀ {v : AV} {b : Bool} {c : Option (List AV)} {u : Option Id},({ v,bump:=b,cont:=c,use:=u } : GR).wr = [] ∧ ({ v,bump:=b,cont:=c,use:=u } : GR).uses = []:=⟨rfl,rfl⟩
  cases op with
  | call c =>
    obtain ⟨callee,args,ts⟩:=c
    cases callee with
    | builtin b =>
      cases b with
      | append =>
        simp only [grow] at h
        split at h
        · unfold appendV at h
          split at h
          · split at h
            · simp only [Option.bind_eq_some_iff] at h
              obtain ⟨ti,h1,p,h2,q,h3,h⟩:=h
              split at h
              · cases h; exact pl
              simp only [Option.bind_eq_some_iff] at h
              obtain ⟨u,h4,h5⟩:=h
              split at h5
              · split at h5
                · cases h5; exact pl
                · split at h5
                  · cases h5; exact pl
                  · cases h5
              · cases h5
            · cases h
          · cases h
        · cases h
      | len =>
        simp only [grow] at h
        split at h
        · exact map_plain h fun _=>pl
        · cases h
      | min =>
        simp only [grow] at h
        split at h
        · exact map_plain h fun _=>pl
        · cases h
      | _=>simp only [grow] at h; cases h
    | value f =>
      simp only [grow] at h
      split at h
      · split at h
        · simp only [Option.bind_eq_some_iff] at h
          obtain ⟨_,_,_,_,h⟩:=h
          split at h
          · cases h; exact pl
          · cases h
        · rw [if_neg (by rw [hg]; simp)] at h; cases h
        · cases h
      · cases h
    | invoke x m=>simp only [grow] at h; cases h
  | move x=>simp only [grow] at h; cases h; exact pl
  | assign x=>simp only [grow] at h; cases h; exact pl
  | pick c x y =>
    simp only [grow] at h
    split at h
    · cases h; exact pl
    · cases h
  | alloc t=>simp only [grow] at h; exact map_plain h fun _=>pl
  | box t x =>
    simp only [grow,Option.bind_eq_some_iff] at h
    obtain ⟨ti,ht,cs,hc,h⟩:=h
    split at h
    · split at h
      · cases h; exact pl
      · cases h; exact pl
    · cases h
  | build t ps =>
    simp only [grow,Option.bind_eq_some_iff] at h
    obtain ⟨ti,ht,h⟩:=h
    split at h
    · exact map_plain h fun _=>pl
    · cases h
  | buildSlice t n ps =>
    simp only [grow] at h
    split at h
    · simp only [Option.bind_eq_some_iff] at h
      obtain ⟨ti,ht,h⟩:=h
      split at h
      · exact map_plain h fun _=>freshSl_plain
      · cases h
    · cases h
  | load t x=>simp only [grow] at h; exact map_plain h fun _=>pl
  | nilCheck x =>
    simp only [grow] at h
    split at h
    · cases h; exact pl
    · cases h; exact pl
    · cases h; exact pl
    · cases h
  | binOp op t x y ty=>simp only [grow] at h; exact map_plain h fun _=>pl
  | unOp op t x=>simp only [grow] at h; exact map_plain h fun _=>pl
  | convert s t x =>
    simp only [grow] at h
    split at h
    · unfold convSelf at h
      split at h
      · split at h
        · split at h
          · split at h
            · cases h; exact pl
            · cases h
          · cases h
        · cases h
      · split at h
        · split at h
          · split at h
            · cases h; exact pl
            · cases h
          · cases h
        · cases h
      · cases h
    · unfold convV at h
      split at h
      · cases h; exact pl
      · cases h; exact pl
      · split at h
        · split at h
          · cases h
          · cases h; exact pl
        · cases h
      · split at h
        · split at h
          · cases h
          · simp only [Option.bind_eq_some_iff] at h
            obtain ⟨_,_,h⟩:=h
            exact map_plain h fun _=>pl
        · cases h
      · cases h
  | sliceToArrayPointer t x =>
    simp only [grow] at h
    split at h
    · split at h
      · cases h; exact pl
      · cases h
    · split at h
      · cases h; exact pl
      · cases h
    · cases h
  | makeFunc fn first caps =>
    simp only [grow] at h
    split at h
    · split at h
      · cases h; exact pl
      · cases h
    · cases h
  | makeSlice t l c =>
    simp only [grow,makeV] at h
    split at h
    · simp only [Option.bind_eq_some_iff] at h
      obtain ⟨_,_,h⟩:=h
      split at h
      · split at h
        · cases h; exact pl
        · cases h; exact pl
      · cases h
    · cases h
  | slice t x lo hi mx=>simp only [grow] at h; exact map_plain h fun _=>pl
  | fieldAddr s x f=>simp only [grow] at h; exact map_plain h fun _=>pl
  | field t x f=>simp only [grow] at h; exact map_plain h fun _=>pl
  | indexAddr t x i=>simp only [grow] at h; exact map_plain h fun _=>pl
  | index t x i=>simp only [grow] at h; exact map_plain h fun _=>pl
  | extract x i =>
    simp only [grow] at h
    split at h
    · split at h
      · cases h
      · cases h; exact pl
      · cases h
    · cases h
  | _=>simp only [grow] at h; cases h
theorem grow_sound (hE : EnvOK P E) (hN : EntOK E N) (hv : Valid N g box w) (hρ : Rel g w a ρ) {r : GR} (h : grow E N.lvl d (g.U d + 1) ρ box g.D o.op = some r) : SOut P N g box w o a d r:=by
  have hte:=hE.te
  have hpl:=grow_plain h
  cases hop : o.op with
  | move x=>rw [hop] at h; simp only [grow] at h; cases h; exact (out_move hv hρ x (.inl hop)).step (hpl (by rw [hop]; rfl))
  | assign x=>rw [hop] at h; simp only [grow] at h; cases h; exact (out_move hv hρ x (.inr hop)).step (hpl (by rw [hop]; rfl))
  | pick c x y =>
    rw [hop] at h; simp only [grow] at h
    split at h
    · cases h; exact (out_pick hv hρ c x y hop ‹_›).step (hpl (by rw [hop]; rfl))
    · cases h
  | alloc t =>
    rw [hop] at h; simp only [grow,Option.map_eq_some_iff] at h
    obtain ⟨ti,ht,rfl⟩:=h
    exact (out_alloc hte hv t ht hop).step (hpl (by rw [hop]; rfl))
  | box t x =>
    rw [hop] at h; simp only [grow,Option.bind_eq_some_iff] at h
    obtain ⟨ti,ht,cs,hc,h⟩:=h
    split at h
    · split at h
      · cases h; exact (out_boximm hv hρ t x hop hc).step (hpl (by rw [hop]; rfl))
      · cases h; exact (out_box hv hρ t x hop hc).step (hpl (by rw [hop]; rfl))
    · cases h
  | build t ps =>
    rw [hop] at h; simp only [grow,Option.bind_eq_some_iff] at h
    obtain ⟨ti,ht,h⟩:=h
    split at h
    · rename_i hc
      simp only [Option.map_eq_some_iff] at h
      obtain ⟨cs,h1,rfl⟩:=h
      exact (out_build hte hv hρ t ps hop ht hc.1 hc.2 h1).step (hpl (by rw [hop]; rfl))
    · cases h
  | buildSlice t n ps =>
    rw [hop] at h; simp only [grow] at h
    split at h
    · rename_i e hk
      simp only [Option.bind_eq_some_iff] at h
      obtain ⟨ti,ht,h⟩:=h
      split at h
      · rename_i hn
        simp only [Option.map_eq_some_iff] at h
        obtain ⟨cs,h1,rfl⟩:=h
        exact (out_buildSlice rfl hte hv hρ t n ps hop hk ht hn h1).step (hpl (by rw [hop]; rfl))
      · cases h
    · cases h
  | load t x =>
    rw [hop] at h; simp only [grow,Option.map_eq_some_iff] at h
    obtain ⟨v,h1,rfl⟩:=h
    exact (out_load hte hv hρ t x hop (loadV_if h1)).step (hpl (by rw [hop]; rfl))
  | nilCheck x =>
    rw [hop] at h; simp only [grow] at h
    refine (GOut.step ?_ (hpl (by rw [hop]; rfl)))
    have : ∃ v,r = { v } ∧ (match ρ x with | .ptr b o=>some (AV.ptr b o) | .iptr xs=>some (.iptr xs) | .fn f cs=>some (.fn f cs) | _=>none) = some v:=by
      revert h; cases ρ x <;> intro h <;> simp only [reduceCtorEq,Option.some.injEq] at h <;> exact ⟨_,h.symm,rfl⟩
    obtain ⟨v,rfl,h1⟩:=this
    exact out_nilCheck hv hρ x hop h1
  | binOp op t x y ty =>
    rw [hop] at h; simp only [grow,Option.map_eq_some_iff] at h
    obtain ⟨v,h1,rfl⟩:=h
    exact (out_binOp hte hv hρ op t x y ty hop h1).step (hpl (by rw [hop]; rfl))
  | unOp op t x =>
    rw [hop] at h; simp only [grow,Option.map_eq_some_iff] at h
    obtain ⟨v,h1,rfl⟩:=h
    exact (out_unOp hv hρ op t x hop h1).step (hpl (by rw [hop]; rfl))
  | convert s t x =>
    rw [hop] at h; simp only [grow] at h
    split at h
    · exact (out_convSelf rfl hte hv hρ s t x hop h).step (hpl (by rw [hop]; rfl))
    · exact (out_convert rfl hte hv hρ s t x hop h).step (hpl (by rw [hop]; rfl))
  | sliceToArrayPointer t x =>
    rw [hop] at h; simp only [grow] at h
    refine (GOut.step ?_ (hpl (by rw [hop]; rfl)))
    have : ∃ v,r = { v } ∧ (match kd E.te t,ρ x with | .arr n _,.sl m xs _=>if n ≤ m ∧ 0 < n then some (AV.iptr xs) else none | .arr n _,.view b off m _ _=>if n ≤ m ∧ 0 < n then some (.ptr b off) else none | _,_=>none) = some v:=by
      split at h
      · split at h
        · cases h; exact ⟨_,rfl,by simp only [*]; simp⟩
        · cases h
      · split at h
        · cases h; exact ⟨_,rfl,by simp only [*]; simp⟩
        · cases h
      · cases h
    obtain ⟨v,rfl,h1⟩:=this
    exact out_toArray hte hv hρ t x hop h1
  | makeFunc fn first caps =>
    rw [hop] at h; simp only [grow] at h
    split at h
    · split at h
      · cases h; exact (out_makeFunc hv hρ _ first caps hop ‹_›).step (hpl (by rw [hop]; rfl))
      · cases h
    · cases h
  | makeSlice t l c=>rw [hop] at h; simp only [grow] at h; exact (out_make rfl hte hv hρ t l c hop h).step (hpl (by rw [hop]; rfl))
  | slice t x lo hi mx =>
    rw [hop] at h; simp only [grow,Option.map_eq_some_iff] at h
    obtain ⟨v,h1,rfl⟩:=h
    exact (out_slice hte hv hρ t x lo hi mx hop h1).step (hpl (by rw [hop]; rfl))
  | fieldAddr s x f =>
    rw [hop] at h; simp only [grow,Option.map_eq_some_iff] at h
    obtain ⟨v,h1,rfl⟩:=h
    exact (out_fieldAddr hte hv hρ s x f hop h1).step (hpl (by rw [hop]; rfl))
  | field t x f =>
    rw [hop] at h; simp only [grow,Option.map_eq_some_iff] at h
    obtain ⟨v,h1,rfl⟩:=h
    exact (out_field hte hv hρ t x f hop h1).step (hpl (by rw [hop]; rfl))
  | indexAddr t x i =>
    rw [hop] at h; simp only [grow,Option.map_eq_some_iff] at h
    obtain ⟨v,h1,rfl⟩:=h
    exact (out_indexAddr hte hv hρ t x i hop h1).step (hpl (by rw [hop]; rfl))
  | index t x i =>
    rw [hop] at h; simp only [grow,Option.map_eq_some_iff] at h
    obtain ⟨v,h1,rfl⟩:=h
    exact (out_index hte hv hρ t x i hop h1).step (hpl (by rw [hop]; rfl))
  | extract x i =>
    rw [hop] at h; simp only [grow] at h
    split at h
    · rename_i vs hx
      split at h
      · cases h
      · rename_i v hnt hvi
        cases h
        exact (out_extract hv hρ x i hop hx hvi (fun vs e=>by subst e; exact hnt vs rfl)).step (hpl (by rw [hop]; rfl))
      · cases h
    · cases h
  | call c =>
    obtain ⟨callee,args,ts⟩:=c
    rw [hop] at h
    cases callee with
    | builtin b =>
      cases b with
      | append =>
        simp only [grow] at h
        split at h
        · exact (out_append rfl hte hv hρ _ _ args ts hop ‹_› h).step (hpl (by rw [hop]; rfl))
        · cases h
      | len =>
        simp only [grow] at h
        split at h
        · simp only [Option.map_eq_some_iff] at h
          obtain ⟨v,h1,rfl⟩:=h
          exact (out_len hte hv hρ _ _ args ts hop ‹_› _ ‹_› h1).step (hpl (by rw [hop]; rfl))
        · cases h
      | min =>
        simp only [grow] at h
        split at h
        · simp only [Option.map_eq_some_iff] at h
          obtain ⟨v,h1,rfl⟩:=h
          exact (out_min hv hρ _ _ args ts hop ‹_› h1).step (hpl (by rw [hop]; rfl))
        · cases h
      | _=>simp only [grow] at h; cases h
    | value f =>
      simp only [grow] at h
      split at h
      · rename_i fid hf
        split at h
        · rename_i pf hp
          simp only [Option.bind_eq_some_iff] at h
          obtain ⟨as,h1,r',h2,h3⟩:=h
          split at h3
          · rename_i hc
            cases h3
            exact out_callV (hv.globs hN) hv hρ f args ts hop hf (hE.tbl _ _ hp) h1 h2 hc.2
          · cases h3
        · rename_i gf hp
          split at h
          · simp only [Option.bind_eq_some_iff] at h
            obtain ⟨cr,h1,h2⟩:=h
            split at h2
            · rename_i v hcv
              cases h2
              exact out_callG (hv.globs hN) hv hρ f args ts hop hf (hE.gen _ _ hp) h1 hcv
            · cases h2
          · cases h
        · cases h
      · cases h
    | invoke r m=>simp only [grow] at h; cases h
  | _=>rw [hop] at h; simp only [grow] at h; cases h
theorem write_sound (hE : EnvOK P E) (hv : Valid N g box w) (hρ : Rel g w a ρ) {v : AV} {box' : Boxes} (h : write E ρ box o.op = some (v,box')) : WOut P N g w o a v box':=by
  have hte:=hE.te
  cases hop : o.op with
  | store t x y =>
    rw [hop] at h; simp only [write,Option.map_eq_some_iff] at h
    obtain ⟨b,h1,h2⟩:=h
    cases h2
    exact out_store hte hv hρ t x y hop h1
  | call c =>
    obtain ⟨callee,args,ts⟩:=c
    rw [hop] at h
    cases callee with
    | builtin b =>
      cases b with
      | copy =>
        simp only [write] at h
        split at h
        · simp only [Option.map_eq_some_iff] at h
          obtain ⟨⟨n,b⟩,h1,h2⟩:=h
          cases h2
          exact out_copy hte hv hρ _ _ args ts _ _ hop ‹_› ‹_› h1
        · cases h
      | _=>simp only [write] at h; cases h
    | _=>simp only [write] at h; cases h
  | _=>rw [hop] at h; simp only [write] at h; cases h
end
end Go.Abs
