/- The third roots of some primes, as the document makes them. -/
import Derived.Test.YteooikdcafodfaaDoorBg
namespace Go.Proofs.YteooikdcafodfaaDoor
open Go Go.Abs
theorem root_227 : root 227#64 true = 430227734#32 := by decide +kernel
theorem root_229 : root 229#64 true = 506948616#32 := by decide +kernel
theorem root_233 : root 233#64 true = 659060556#32 := by decide +kernel
theorem root_239 : root 239#64 true = 883997877#32 := by decide +kernel
theorem root_241 : root 241#64 true = 958139571#32 := by decide +kernel
theorem root_251 : root 251#64 true = 1322822218#32 := by decide +kernel
theorem root_257 : root 257#64 true = 1537002063#32 := by decide +kernel
theorem root_263 : root 263#64 true = 1747873779#32 := by decide +kernel
theorem root_269 : root 269#64 true = 1955562222#32 := by decide +kernel
theorem root_271 : root 271#64 true = 2024104815#32 := by decide +kernel
theorem root_277 : root 277#64 true = 2227730452#32 := by decide +kernel
theorem root_281 : root 281#64 true = 2361852424#32 := by decide +kernel
theorem root_283 : root 283#64 true = 2428436474#32 := by decide +kernel
theorem root_293 : root 293#64 true = 2756734187#32 := by decide +kernel
theorem root_307 : root 307#64 true = 3204031479#32 := by decide +kernel
theorem root_311 : root 311#64 true = 3329325298#32 := by decide +kernel
end Go.Proofs.YteooikdcafodfaaDoor
