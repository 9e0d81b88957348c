/- The document's hash and pressing, with the tables known: what the walks of the functions come to. -/
import Derived.Test.YtddeffdgldjdjaaDoorIe
import Derived.Test.YtddeffdgldjdjaaDoorKe
namespace Go.Proofs.YtddeffdgldjdjaaDoor
set_option linter.unusedSimpArgs false
set_option linter.unusedVariables false
set_option linter.defProp false
open Go Go.Abs

def pf47' : List AV → Option AV
  | [] => some (.agg (.sl 64 (nums .u32 addL) .bor :: nums .u32 beginL))
  | _ => none
def pf75' : List AV → Option AV
  | [] => some (.sl 64 (nums .u32 addL) .bor)
  | _ => none
theorem sound47' : SoundV Tryd.prog globS 47 pf47' := by
  have e : pf47 = pf47' := by
    funext args
    cases args with
    | nil => simp only [pf47, pf47', thirds_eq, secs_eq]
    | cons => rfl
  rw [← e]; exact sound47
theorem sound75' : SoundV Tryd.prog globS 75 pf75' := by
  have e : pf75 = pf75' := by
    funext args
    cases args with
    | nil => simp only [pf75, pf75', thirds_eq]
    | cons => rfl
  rw [← e]; exact sound75
theorem shaB_len (b : List (BitVec 8)) : (shaB b).length = 32 := by rw [shaB, outB_len]
set_option maxHeartbeats 4000000
def ES10 : Env := ((ES0.know 47 pf47').know 74 (fun xs => pf74 (xs.map norm))).know 75 pf75'
theorem okS10 : EnvOK Tryd.prog ES10 := ((okS0.know sound47').know sound74.norm).know sound75'
theorem ES10_te : ES10.te = te := rfl
theorem ES10_gs : ES10.gs = [] := rfl
theorem ES10_dyn : ES10.dyn = false := rfl
theorem ES10_glob : ES10.glob = globS := rfl
theorem ES10_mu (d : Nat) : ES10.mu d = false := rfl
theorem ES10_47 : ES10.tbl 47 = some (.val pf47') := rfl
theorem ES10_74 : ES10.tbl 74 = some (.val (fun xs => pf74 (xs.map norm))) := rfl
theorem ES10_75 : ES10.tbl 75 = some (.val pf75') := rfl
theorem pf74_at {n l : Nat} {K H : List (BitVec 32)} {m : List (BitVec 8)} {fl fl' : Fl} (h1 : n = K.length) (h2 : K.length = 64) (h3 : H.length = 8) (h4 : l = m.length) (h5 : m.length ≤ 1099511627776) : pf74 [.agg (.sl n (nums .u32 K) fl :: nums .u32 H), .sl l (nums .u8 m) fl'] = some (.agg (nums .u8 (sumK K H m))) := by
  simp only [pf74, tab?, row?_at h1, row?_at h4, deNums_nums, Option.bind_some, h2, h3, h5, and_self, if_true]
theorem pf47_at : pf47' [] = some (.agg (.sl 64 (nums .u32 addL) .bor :: nums .u32 beginL)) := rfl
theorem pf75_at : pf75' [] = some (.sl 64 (nums .u32 addL) .bor) := rfl
theorem addL_len : addL.length = 64 := by decide
theorem beginL_len : beginL.length = 8 := by decide
theorem sumK_len (K H : List (BitVec 32)) (b : List (BitVec 8)) : (sumK K H b).length = 32 := by rw [sumK, outB_len]
end Go.Proofs.YtddeffdgldjdjaaDoor
