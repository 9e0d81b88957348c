/- The third roots of some primes, as the document makes them. -/
import Derived.Test.YteooikdcafodfaaDoorBg
namespace Go.Proofs.YteooikdcafodfaaDoor
open Go Go.Abs
theorem root_137 : root 137#64 true = 666307205#32 := by decide +kernel
theorem root_139 : root 139#64 true = 773529912#32 := by decide +kernel
theorem root_149 : root 149#64 true = 1294757372#32 := by decide +kernel
theorem root_151 : root 151#64 true = 1396182291#32 := by decide +kernel
theorem root_157 : root 157#64 true = 1695183700#32 := by decide +kernel
theorem root_163 : root 163#64 true = 1986661051#32 := by decide +kernel
theorem root_167 : root 167#64 true = 2177026350#32 := by decide +kernel
theorem root_173 : root 173#64 true = 2456956037#32 := by decide +kernel
theorem root_179 : root 179#64 true = 2730485921#32 := by decide +kernel
theorem root_181 : root 181#64 true = 2820302411#32 := by decide +kernel
theorem root_191 : root 191#64 true = 3259730800#32 := by decide +kernel
theorem root_193 : root 193#64 true = 3345764771#32 := by decide +kernel
theorem root_197 : root 197#64 true = 3516065817#32 := by decide +kernel
theorem root_199 : root 199#64 true = 3600352804#32 := by decide +kernel
theorem root_211 : root 211#64 true = 4094571909#32 := by decide +kernel
theorem root_223 : root 223#64 true = 275423344#32 := by decide +kernel
end Go.Proofs.YteooikdcafodfaaDoor
