/- The third roots of some primes, as the document makes them. -/
import Derived.Test.YtddeffdgldjdjaaDoorIc
namespace Go.Proofs.YtddeffdgldjdjaaDoor
open Go Go.Abs
theorem root_137 : root 137#64 true = 666307205#32 := by decide +kernel
theorem root_139 : root 139#64 true = 773529912#32 := by decide +kernel
theorem root_149 : root 149#64 true = 1294757372#32 := by decide +kernel
theorem root_151 : root 151#64 true = 1396182291#32 := by decide +kernel
theorem root_157 : root 157#64 true = 1695183700#32 := by decide +kernel
theorem root_163 : root 163#64 true = 1986661051#32 := by decide +kernel
theorem root_167 : root 167#64 true = 2177026350#32 := by decide +kernel
theorem root_173 : root 173#64 true = 2456956037#32 := by decide +kernel
theorem root_179 : root 179#64 true = 2730485921#32 := by decide +kernel
theorem root_181 : root 181#64 true = 2820302411#32 := by decide +kernel
theorem root_191 : root 191#64 true = 3259730800#32 := by decide +kernel
theorem root_193 : root 193#64 true = 3345764771#32 := by decide +kernel
theorem root_197 : root 197#64 true = 3516065817#32 := by decide +kernel
theorem root_199 : root 199#64 true = 3600352804#32 := by decide +kernel
theorem root_211 : root 211#64 true = 4094571909#32 := by decide +kernel
theorem root_223 : root 223#64 true = 275423344#32 := by decide +kernel
theorem root_227 : root 227#64 true = 430227734#32 := by decide +kernel
theorem root_229 : root 229#64 true = 506948616#32 := by decide +kernel
theorem root_233 : root 233#64 true = 659060556#32 := by decide +kernel
theorem root_239 : root 239#64 true = 883997877#32 := by decide +kernel
theorem root_241 : root 241#64 true = 958139571#32 := by decide +kernel
theorem root_251 : root 251#64 true = 1322822218#32 := by decide +kernel
theorem root_257 : root 257#64 true = 1537002063#32 := by decide +kernel
theorem root_263 : root 263#64 true = 1747873779#32 := by decide +kernel
theorem root_269 : root 269#64 true = 1955562222#32 := by decide +kernel
theorem root_271 : root 271#64 true = 2024104815#32 := by decide +kernel
theorem root_277 : root 277#64 true = 2227730452#32 := by decide +kernel
theorem root_281 : root 281#64 true = 2361852424#32 := by decide +kernel
theorem root_283 : root 283#64 true = 2428436474#32 := by decide +kernel
theorem root_293 : root 293#64 true = 2756734187#32 := by decide +kernel
theorem root_307 : root 307#64 true = 3204031479#32 := by decide +kernel
theorem root_311 : root 311#64 true = 3329325298#32 := by decide +kernel
end Go.Proofs.YtddeffdgldjdjaaDoor
