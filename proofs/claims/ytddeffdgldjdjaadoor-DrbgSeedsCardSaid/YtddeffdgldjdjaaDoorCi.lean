/- From the functions' promises to the rows: beside what Ch has, the walk of DrbgSeeds. -/
import Derived.Test.YtddeffdgldjdjaaDoorCh
import Derived.Test.YtddeffdgldjdjaaDoorJg
namespace Go.Proofs.YtddeffdgldjdjaaDoor
set_option linter.unusedSimpArgs false
set_option linter.unusedVariables false
set_option linter.defProp false
open Go Go.Abs
def pf5 : List AV → Option AV := op3 (fun _ _ _ _ _ => true)
end Go.Proofs.YtddeffdgldjdjaaDoor
