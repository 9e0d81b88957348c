/- The rows' tools, and the walk of ShaPieces. -/
import Derived.Test.YteooikdcafodfaaDoorCa
import Derived.Test.YteooikdcafodfaaDoorBm
