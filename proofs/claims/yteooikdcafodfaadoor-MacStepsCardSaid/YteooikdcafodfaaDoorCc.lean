/- The rows' tools, and the walks of layer 6. -/
import Derived.Test.YteooikdcafodfaaDoorCa
import Derived.Test.YteooikdcafodfaaDoorGb
import Derived.Test.YteooikdcafodfaaDoorBu
namespace Go.Proofs.YteooikdcafodfaaDoor
theorem cells25 : Tryd.prog.cellsOf 25 = 32 := by kernel_rfl
end Go.Proofs.YteooikdcafodfaaDoor
