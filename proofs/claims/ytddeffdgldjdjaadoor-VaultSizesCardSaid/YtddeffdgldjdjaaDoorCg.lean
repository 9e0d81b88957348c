/- From the functions' promises to the rows: beside what Cd has, the walk of VaultSizes. -/
import Derived.Test.YtddeffdgldjdjaaDoorCd
import Derived.Test.YtddeffdgldjdjaaDoorGk
namespace Go.Proofs.YtddeffdgldjdjaaDoor
set_option linter.unusedSimpArgs false
set_option linter.unusedVariables false
set_option linter.defProp false
end Go.Proofs.YtddeffdgldjdjaaDoor
