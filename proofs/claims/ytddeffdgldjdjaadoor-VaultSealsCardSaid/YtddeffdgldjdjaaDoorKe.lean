/- The document's table of third roots is the program's. -/
import Derived.Test.YtddeffdgldjdjaaDoorKa
import Derived.Test.YtddeffdgldjdjaaDoorKb
namespace Go.Proofs.YtddeffdgldjdjaaDoor
open Go Go.Abs
theorem pl_312 : pl 312 = [2#64, 3#64, 5#64, 7#64, 11#64, 13#64, 17#64, 19#64, 23#64, 29#64, 31#64, 37#64, 41#64, 43#64, 47#64, 53#64, 59#64, 61#64, 67#64, 71#64, 73#64, 79#64, 83#64, 89#64, 97#64, 101#64, 103#64, 107#64, 109#64, 113#64, 127#64, 131#64, 137#64, 139#64, 149#64, 151#64, 157#64, 163#64, 167#64, 173#64, 179#64, 181#64, 191#64, 193#64, 197#64, 199#64, 211#64, 223#64, 227#64, 229#64, 233#64, 239#64, 241#64, 251#64, 257#64, 263#64, 269#64, 271#64, 277#64, 281#64, 283#64, 293#64, 307#64, 311#64] := by decide +kernel
theorem thirds_eq : thirdsF 64 = addL := by
  simp only [thirdsF, pl_312, List.getD_cons_succ, List.getD_cons_zero, List.nil_append, List.cons_append, root_2, root_3, root_5, root_7, root_11, root_13, root_17, root_19, root_23, root_29, root_31, root_37, root_41, root_43, root_47, root_53, root_59, root_61, root_67, root_71, root_73, root_79, root_83, root_89, root_97, root_101, root_103, root_107, root_109, root_113, root_127, root_131, root_137, root_139, root_149, root_151, root_157, root_163, root_167, root_173, root_179, root_181, root_191, root_193, root_197, root_199, root_211, root_223, root_227, root_229, root_233, root_239, root_241, root_251, root_257, root_263, root_269, root_271, root_277, root_281, root_283, root_293, root_307, root_311]
  rfl
end Go.Proofs.YtddeffdgldjdjaaDoor
