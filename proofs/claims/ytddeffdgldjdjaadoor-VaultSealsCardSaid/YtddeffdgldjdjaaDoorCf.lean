/- From the functions' promises to the rows: beside what Cd has, the walk of VaultSeals. -/
import Derived.Test.YtddeffdgldjdjaaDoorCd
import Derived.Test.YtddeffdgldjdjaaDoorGi
namespace Go.Proofs.YtddeffdgldjdjaaDoor
set_option linter.unusedSimpArgs false
set_option linter.unusedVariables false
set_option linter.defProp false
end Go.Proofs.YtddeffdgldjdjaaDoor
