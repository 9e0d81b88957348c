/- The third roots of some primes, as the document makes them. -/
import Derived.Test.YtddeffdgldjdjaaDoorIc
namespace Go.Proofs.YtddeffdgldjdjaaDoor
open Go Go.Abs
theorem root_2 : root 2#64 true = 1116352408#32 := by decide +kernel
theorem root_3 : root 3#64 true = 1899447441#32 := by decide +kernel
theorem root_5 : root 5#64 true = 3049323471#32 := by decide +kernel
theorem root_7 : root 7#64 true = 3921009573#32 := by decide +kernel
theorem root_11 : root 11#64 true = 961987163#32 := by decide +kernel
theorem root_13 : root 13#64 true = 1508970993#32 := by decide +kernel
theorem root_17 : root 17#64 true = 2453635748#32 := by decide +kernel
theorem root_19 : root 19#64 true = 2870763221#32 := by decide +kernel
theorem root_23 : root 23#64 true = 3624381080#32 := by decide +kernel
theorem root_29 : root 29#64 true = 310598401#32 := by decide +kernel
theorem root_31 : root 31#64 true = 607225278#32 := by decide +kernel
theorem root_37 : root 37#64 true = 1426881987#32 := by decide +kernel
theorem root_41 : root 41#64 true = 1925078388#32 := by decide +kernel
theorem root_43 : root 43#64 true = 2162078206#32 := by decide +kernel
theorem root_47 : root 47#64 true = 2614888103#32 := by decide +kernel
theorem root_53 : root 53#64 true = 3248222580#32 := by decide +kernel
theorem root_59 : root 59#64 true = 3835390401#32 := by decide +kernel
theorem root_61 : root 61#64 true = 4022224774#32 := by decide +kernel
theorem root_67 : root 67#64 true = 264347078#32 := by decide +kernel
theorem root_71 : root 71#64 true = 604807628#32 := by decide +kernel
theorem root_73 : root 73#64 true = 770255983#32 := by decide +kernel
theorem root_79 : root 79#64 true = 1249150122#32 := by decide +kernel
theorem root_83 : root 83#64 true = 1555081692#32 := by decide +kernel
theorem root_89 : root 89#64 true = 1996064986#32 := by decide +kernel
theorem root_97 : root 97#64 true = 2554220882#32 := by decide +kernel
theorem root_101 : root 101#64 true = 2821834349#32 := by decide +kernel
theorem root_103 : root 103#64 true = 2952996808#32 := by decide +kernel
theorem root_107 : root 107#64 true = 3210313671#32 := by decide +kernel
theorem root_109 : root 109#64 true = 3336571891#32 := by decide +kernel
theorem root_113 : root 113#64 true = 3584528711#32 := by decide +kernel
theorem root_127 : root 127#64 true = 113926993#32 := by decide +kernel
theorem root_131 : root 131#64 true = 338241895#32 := by decide +kernel
end Go.Proofs.YtddeffdgldjdjaaDoor
