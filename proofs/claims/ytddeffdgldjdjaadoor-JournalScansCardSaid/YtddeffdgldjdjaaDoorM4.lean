/- The abstract machine: loops walked round by round. -/
import Derived.Test.YtddeffdgldjdjaaDoorM3
import Derived.LoopN
namespace Go.Abs
set_option linter.unusedSimpArgs false
set_option linter.unusedVariables false
set_option linter.defProp false
open Go Go.RowKit
section
variable {P : Program} {N : Ent} {E : Env} {Q : AX→AS→Prop} {σ : AS}
end
section
variable {E : Env} {ks : List (Nat × Nat)} {lvl n : Nat} {Q : AX→AS→Prop} {σ : AS} {r : Option Nat}
end
end Go.Abs
