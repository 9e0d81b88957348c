/- From the functions' promises to the rows: beside what Ch has, the walk of DrbgBytes. -/
import Derived.Test.YtddeffdgldjdjaaDoorCh
import Derived.Test.YtddeffdgldjdjaaDoorJh
namespace Go.Proofs.YtddeffdgldjdjaaDoor
set_option linter.unusedSimpArgs false
set_option linter.unusedVariables false
set_option linter.defProp false
end Go.Proofs.YtddeffdgldjdjaaDoor
