/- The third roots of some primes, as the document makes them. -/
import Derived.Test.YteooikdcafodfaaDoorBg
namespace Go.Proofs.YteooikdcafodfaaDoor
open Go Go.Abs
theorem root_59 : root 59#64 true = 3835390401#32 := by decide +kernel
theorem root_61 : root 61#64 true = 4022224774#32 := by decide +kernel
theorem root_67 : root 67#64 true = 264347078#32 := by decide +kernel
theorem root_71 : root 71#64 true = 604807628#32 := by decide +kernel
theorem root_73 : root 73#64 true = 770255983#32 := by decide +kernel
theorem root_79 : root 79#64 true = 1249150122#32 := by decide +kernel
theorem root_83 : root 83#64 true = 1555081692#32 := by decide +kernel
theorem root_89 : root 89#64 true = 1996064986#32 := by decide +kernel
theorem root_97 : root 97#64 true = 2554220882#32 := by decide +kernel
theorem root_101 : root 101#64 true = 2821834349#32 := by decide +kernel
theorem root_103 : root 103#64 true = 2952996808#32 := by decide +kernel
theorem root_107 : root 107#64 true = 3210313671#32 := by decide +kernel
theorem root_109 : root 109#64 true = 3336571891#32 := by decide +kernel
theorem root_113 : root 113#64 true = 3584528711#32 := by decide +kernel
theorem root_127 : root 127#64 true = 113926993#32 := by decide +kernel
theorem root_131 : root 131#64 true = 338241895#32 := by decide +kernel
end Go.Proofs.YteooikdcafodfaaDoor
