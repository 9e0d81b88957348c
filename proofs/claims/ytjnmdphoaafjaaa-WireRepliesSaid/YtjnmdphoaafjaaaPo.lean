/- Check: what its walk comes to. -/
import Derived.Test.YtjnmdphoaafjaaaPn
namespace Go.Proofs.Ytjnmdphoaafjaaa
set_option linter.unusedSimpArgs false
set_option linter.unusedVariables false
set_option linter.defProp false
open Go Go.Abs
set_option maxHeartbeats 8000000
noncomputable def E10 : Env := (E9.knowG 90 gf90).knowG 93 gf93
theorem ok10 : EnvOK Try.prog E10 := (ok9.knowG sound90).knowG sound93
theorem E10_te : E10.te = te := rfl
theorem E10_glob : E10.glob = glob := rfl
theorem E10_mu (d : Nat) : E10.mu d = false := rfl
theorem E10_gs : E10.gs = [93, 90, 89, 99, 98, 97, 96, 95, 94, 92] := rfl
theorem E10_dyn : E10.dyn = true := rfl
theorem E10_w : E10.tbl 91 = some (.val pf91) := rfl
theorem E10_n : E10.tbl 89 = some (.gen gf89) := rfl
theorem E10_i : E10.tbl 90 = some (.gen gf90) := rfl
theorem E10_d : E10.tbl 93 = some (.gen gf93) := rfl
section
variable {b1 b3 b4 b5 : Bx} {bx : Boxes} {us : Abs.Id → Bool} {g : Nat} {m : Bool} {lo hi : Int}
theorem name_is : gf89 [.raw (.bool m), .fn g [.ptr b3 0], .ptr b4 0] bx us = (clrF g).bind fun t => (bx b3).bind fun cs => (cmd? cs).bind fun c => (bx b4).bind fun os => match os with
    | [.raw (.bool o)] => if b4 ≠ b3 then some { v := .ret (.tup []), wr := [(b4, [.raw (.bool (o && m))]), (b3, cmdA (t c))] } else none
    | _ => none := rfl
theorem id_is : gf90 [.ptr b5 0, .ptr b1 0, .ptr b3 0] bx us = (bx b5).bind fun fs => match fs with
    | [.fn g [.ptr b4 0]] => if g = 89 then (bx b1).bind fun cs0 => (cmd? cs0).bind fun c0 => (bx b3).bind fun cs => (cmd? cs).bind fun c => (bx b4).bind fun os => match os with
      | [.raw (.bool o)] => if b4 ≠ b3 then some { v := .ret (.tup []), wr := [(b4, [.raw (.bool (o && inW c0.i 1 1099511627776))]), (b3, cmdA { c with i := 0 })] } else none
      | _ => none
      else none
    | _ => none := rfl
theorem data_is : gf93 [.raw (.int .i64 lo), .raw (.int .i64 hi), .ptr b5 0, .ptr b1 0, .ptr b3 0] bx us = (bx b5).bind fun fs => match fs with
    | [.fn g [.ptr b4 0]] => if g = 89 then (bx b1).bind fun cs0 => (cmd? cs0).bind fun c0 => (bx b3).bind fun cs => (cmd? cs).bind fun c => (bx b4).bind fun os => match os with
      | [.raw (.bool o)] => if b4 ≠ b3 then some { v := .ret (.tup []), wr := [(b4, [.raw (.bool (o && inW (blen0 c0.d) lo hi))]), (b3, cmdA { c with d := none })] } else none
      | _ => none
      else none
    | _ => none := rfl
end
theorem clr_id : clrF 92 = some fun c => { c with i := 0 } := rfl
theorem clr_data : clrF 94 = some fun c => { c with d := none } := rfl
theorem clr_ss : clrF 95 = some fun c => { c with s := 0, q := 0 } := rfl
theorem clr_nf : clrF 96 = some fun c => { c with n := 0 } := rfl
theorem clr_ns : clrF 97 = some fun c => { c with n := 0 } := rfl
theorem clr_bs : clrF 98 = some fun c => { c with b := none } := rfl
theorem clr_be : clrF 99 = some fun c => { c with b := none } := rfl
theorem cmdA_len (c : Cmd) : (cmdA c).length = 7 := rfl
theorem cmdA_0 (c : Cmd) : (cmdA c)[0]? = some (.raw (.int .i64 c.k)) := rfl
theorem cmdA_1 (c : Cmd) : (cmdA c)[1]? = some (.raw (.int .i64 c.s)) := rfl
theorem cmdA_2 (c : Cmd) : (cmdA c)[2]? = some (.raw (.int .i64 c.q)) := rfl
theorem cmdA_4 (c : Cmd) : (cmdA c)[4]? = some (.raw (.int .i64 c.n)) := rfl
theorem cmdA_6 (c : Cmd) : (cmdA c)[6]? = some (btA c.b) := rfl
theorem btA_strip (x : Option (List (BitVec 8))) : strip (btA x) = btA x := by cases x <;> rfl
theorem cmdA_strip (c : Cmd) : (cmdA c).map strip = cmdA c := by simp only [cmdA, List.map_cons, List.map_nil, btA_strip]; rfl
theorem btA_one (x : Option (List (BitVec 8))) : oneA (btA x) = true := by cases x <;> rfl
theorem cmdA_one (c : Cmd) : (cmdA c).all oneA = true := by simp only [cmdA, List.all_cons, btA_one]; rfl
theorem cmdA_take (c : Cmd) : (cmdA c).take 7 = cmdA c := rfl
theorem cmdA_splice (c : Cmd) (x y z u v w t : AV) : splice [x, y, z, u, v, w, t] 0 (cmdA c) = cmdA c := by simp [splice, cmdA_len]
theorem cmdA_zero (c : Cmd) : splice (List.map AV.raw (List.replicate 5 (Value.int .i64 0) ++ [Value.slice none 0 0, Value.slice none 0 0])) 0 (cmdA c) = cmdA c := by simp [splice, cmdA_len]
theorem cmdA_set0 (c : Cmd) (x : Int) : (cmdA c).set 0 (.raw (.int .i64 x)) = cmdA { c with k := x } := rfl
theorem cmdA_k (c : Cmd) (x : Int) : splice (cmdA c) 0 [.raw (.int .i64 x)] = cmdA { c with k := x } := rfl
/-- a check's steps -/
def nameS (m : Bool) (t : Cmd → Cmd) (p : Bool × Cmd) : Bool × Cmd := (p.1 && m, t p.2)
def idS (c : Cmd) : Bool × Cmd → Bool × Cmd := nameS (inW c.i 1 1099511627776) fun r => { r with i := 0 }
def dataS (c : Cmd) (lo hi : Int) : Bool × Cmd → Bool × Cmd := nameS (inW (blen0 c.d) lo hi) fun r => { r with d := none }
def leB (a b : Int) : Bool := decide (a ≤ b)
def gtB (a b : Int) : Bool := decide (a > b)
def besS (c : Cmd) : Bool × Cmd → Bool × Cmd := nameS (leB (blen0 c.b) 32) fun r => { r with b := none }
def numS (m : Bool) : Bool × Cmd → Bool × Cmd := nameS m fun r => { r with n := 0 }
def headS (c : Cmd) : Bool × Cmd := if inW c.k 3 10 then nameS (inW c.s 1 1099511627776 && inW c.q 1 1099511627776) (fun r => { r with s := 0, q := 0 }) (true, { c with k := 0 }) else (true, { c with k := 0 })
def leftS (p : Bool × Cmd) : Bool := !p.1 || p.2.s != 0 || p.2.q != 0 || p.2.i != 0 || p.2.n != 0 || gtB (blen0 p.2.d) 0 || gtB (blen0 p.2.b) 0
def stepsS (c : Cmd) : Option (Bool × Cmd) :=
  if c.k = 1 ∨ c.k = 3 then some (headS c)
  else if c.k = 2 ∨ c.k = 4 then some (idS c (headS c))
  else if c.k = 5 then some (numS (inW c.n 0 1) (idS c (headS c)))
  else if c.k = 6 then some (numS (decide (c.n ≥ 1)) (idS c (headS c)))
  else if c.k = 7 then some (besS c (dataS c 0 64 (idS c (headS c))))
  else if c.k = 8 ∨ c.k = 9 then some (besS c (dataS c 0 128 (headS c)))
  else if c.k = 10 then some (dataS c 1 64 (headS c))
  else none
def checkF (c : Cmd) : Int := match stepsS c with
  | none => 1
  | some p => if leftS p then 1 else 0
noncomputable def pf44 : List AV → Option AV
  | [.agg cs] => (cmd? (cs.map strip)).bind fun c => some (.raw (.int .i64 (checkF c)))
  | _ => none
theorem iw1 : inW (blen0 none) 0 64 = true := by decide
theorem iw2 : inW (blen0 none) 0 128 = true := by decide
theorem iw3 : inW (blen0 none) 1 64 = false := by decide
/-- a kind's commands alone -/
noncomputable def pfK (j : Int) : List AV → Option AV
  | [.agg cs] => (cmd? (cs.map strip)).bind fun c => if c.k = j then some (.raw (.int .i64 (checkF c))) else none
  | _ => none
noncomputable def pfR : List AV → Option AV
  | [.agg cs] => (cmd? (cs.map strip)).bind fun c => if c.k ≠ 1 ∧ c.k ≠ 2 ∧ c.k ≠ 3 ∧ c.k ≠ 4 ∧ c.k ≠ 5 ∧ c.k ≠ 6 ∧ c.k ≠ 7 ∧ c.k ≠ 8 ∧ c.k ≠ 9 ∧ c.k ≠ 10 then some (.raw (.int .i64 (checkF c))) else none
  | _ => none
end Go.Proofs.Ytjnmdphoaafjaaa
