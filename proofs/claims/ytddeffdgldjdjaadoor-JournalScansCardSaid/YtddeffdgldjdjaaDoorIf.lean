/- The document's hash and pressing,with the tables known: what the walks of the functions come to. -/
import Derived.Test.YtddeffdgldjdjaaDoorIe
import Derived.Test.YtddeffdgldjdjaaDoorKe
namespace Go.Proofs.YtddeffdgldjdjaaDoor
set_option linter.unusedSimpArgs false
set_option linter.unusedVariables false
set_option linter.defProp false
open Go Go.Abs
def pf47' : List AV → Option AV
  | []=>some (.agg (.sl 64 (nums .u32 addL) .bor :: nums .u32 beginL))
  | _=>none
theorem sound47' : SoundV Tryd.prog globS 47 pf47':=by
  have e : pf47 = pf47':=by
    funext args
    cases args with
    | nil=>simp only [pf47,pf47',thirds_eq,secs_eq]
    | cons=>rfl
  rw [← e]; exact sound47
set_option maxHeartbeats 4000000
theorem pf74_at {n l : Nat} {K H : List (BitVec 32)} {m : List (BitVec 8)} {fl fl' : Fl} (h1 : n = K.length) (h2 : K.length = 64) (h3 : H.length = 8) (h4 : l = m.length) (h5 : m.length ≤ 1099511627776) : pf74 [.agg (.sl n (nums .u32 K) fl :: nums .u32 H),.sl l (nums .u8 m) fl'] = some (.agg (nums .u8 (sumK K H m))):=by
  simp only [pf74,tab?,row?_at h1,row?_at h4,deNums_nums,Option.bind_some,h2,h3,h5,and_self,if_true]
theorem addL_len : addL.length = 64:=by decide
theorem beginL_len : beginL.length = 8:=by decide
end Go.Proofs.YtddeffdgldjdjaaDoor
