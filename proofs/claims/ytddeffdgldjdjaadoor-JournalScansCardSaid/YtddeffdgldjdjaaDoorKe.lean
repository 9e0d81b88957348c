/- The third roots of some primes,as the document makes them. -/
import Derived.Test.YtddeffdgldjdjaaDoorIc
namespace Go.Proofs.YtddeffdgldjdjaaDoor
open Go Go.Abs
theorem root_2 : root 2#64 true = 1116352408#32:=by decide +kernel
theorem root_3 : root 3#64 true = 1899447441#32:=by decide +kernel
theorem root_5 : root 5#64 true = 3049323471#32:=by decide +kernel
theorem root_7 : root 7#64 true = 3921009573#32:=by decide +kernel
theorem root_11 : root 11#64 true = 961987163#32:=by decide +kernel
theorem root_13 : root 13#64 true = 1508970993#32:=by decide +kernel
theorem root_17 : root 17#64 true = 2453635748#32:=by decide +kernel
theorem root_19 : root 19#64 true = 2870763221#32:=by decide +kernel
theorem root_23 : root 23#64 true = 3624381080#32:=by decide +kernel
theorem root_29 : root 29#64 true = 310598401#32:=by decide +kernel
theorem root_31 : root 31#64 true = 607225278#32:=by decide +kernel
theorem root_37 : root 37#64 true = 1426881987#32:=by decide +kernel
theorem root_41 : root 41#64 true = 1925078388#32:=by decide +kernel
theorem root_43 : root 43#64 true = 2162078206#32:=by decide +kernel
theorem root_47 : root 47#64 true = 2614888103#32:=by decide +kernel
theorem root_53 : root 53#64 true = 3248222580#32:=by decide +kernel
theorem root_59 : root 59#64 true = 3835390401#32:=by decide +kernel
theorem root_61 : root 61#64 true = 4022224774#32:=by decide +kernel
theorem root_67 : root 67#64 true = 264347078#32:=by decide +kernel
theorem root_71 : root 71#64 true = 604807628#32:=by decide +kernel
theorem root_73 : root 73#64 true = 770255983#32:=by decide +kernel
theorem root_79 : root 79#64 true = 1249150122#32:=by decide +kernel
theorem root_83 : root 83#64 true = 1555081692#32:=by decide +kernel
theorem root_89 : root 89#64 true = 1996064986#32:=by decide +kernel
theorem root_97 : root 97#64 true = 2554220882#32:=by decide +kernel
theorem root_101 : root 101#64 true = 2821834349#32:=by decide +kernel
theorem root_103 : root 103#64 true = 2952996808#32:=by decide +kernel
theorem root_107 : root 107#64 true = 3210313671#32:=by decide +kernel
theorem root_109 : root 109#64 true = 3336571891#32:=by decide +kernel
theorem root_113 : root 113#64 true = 3584528711#32:=by decide +kernel
theorem root_127 : root 127#64 true = 113926993#32:=by decide +kernel
theorem root_131 : root 131#64 true = 338241895#32:=by decide +kernel
end Go.Proofs.YtddeffdgldjdjaaDoor
/- The third roots of some primes,as the document makes them. -/
namespace Go.Proofs.YtddeffdgldjdjaaDoor
open Go Go.Abs
theorem root_137 : root 137#64 true = 666307205#32:=by decide +kernel
theorem root_139 : root 139#64 true = 773529912#32:=by decide +kernel
theorem root_149 : root 149#64 true = 1294757372#32:=by decide +kernel
theorem root_151 : root 151#64 true = 1396182291#32:=by decide +kernel
theorem root_157 : root 157#64 true = 1695183700#32:=by decide +kernel
theorem root_163 : root 163#64 true = 1986661051#32:=by decide +kernel
theorem root_167 : root 167#64 true = 2177026350#32:=by decide +kernel
theorem root_173 : root 173#64 true = 2456956037#32:=by decide +kernel
theorem root_179 : root 179#64 true = 2730485921#32:=by decide +kernel
theorem root_181 : root 181#64 true = 2820302411#32:=by decide +kernel
theorem root_191 : root 191#64 true = 3259730800#32:=by decide +kernel
theorem root_193 : root 193#64 true = 3345764771#32:=by decide +kernel
theorem root_197 : root 197#64 true = 3516065817#32:=by decide +kernel
theorem root_199 : root 199#64 true = 3600352804#32:=by decide +kernel
theorem root_211 : root 211#64 true = 4094571909#32:=by decide +kernel
theorem root_223 : root 223#64 true = 275423344#32:=by decide +kernel
theorem root_227 : root 227#64 true = 430227734#32:=by decide +kernel
theorem root_229 : root 229#64 true = 506948616#32:=by decide +kernel
theorem root_233 : root 233#64 true = 659060556#32:=by decide +kernel
theorem root_239 : root 239#64 true = 883997877#32:=by decide +kernel
theorem root_241 : root 241#64 true = 958139571#32:=by decide +kernel
theorem root_251 : root 251#64 true = 1322822218#32:=by decide +kernel
theorem root_257 : root 257#64 true = 1537002063#32:=by decide +kernel
theorem root_263 : root 263#64 true = 1747873779#32:=by decide +kernel
theorem root_269 : root 269#64 true = 1955562222#32:=by decide +kernel
theorem root_271 : root 271#64 true = 2024104815#32:=by decide +kernel
theorem root_277 : root 277#64 true = 2227730452#32:=by decide +kernel
theorem root_281 : root 281#64 true = 2361852424#32:=by decide +kernel
theorem root_283 : root 283#64 true = 2428436474#32:=by decide +kernel
theorem root_293 : root 293#64 true = 2756734187#32:=by decide +kernel
theorem root_307 : root 307#64 true = 3204031479#32:=by decide +kernel
theorem root_311 : root 311#64 true = 3329325298#32:=by decide +kernel
end Go.Proofs.YtddeffdgldjdjaaDoor
/- The document's table of third roots is the program's. -/
namespace Go.Proofs.YtddeffdgldjdjaaDoor
open Go Go.Abs
theorem pl_312 : pl 312 = [2#64,3#64,5#64,7#64,11#64,13#64,17#64,19#64,23#64,29#64,31#64,37#64,41#64,43#64,47#64,53#64,59#64,61#64,67#64,71#64,73#64,79#64,83#64,89#64,97#64,101#64,103#64,107#64,109#64,113#64,127#64,131#64,137#64,139#64,149#64,151#64,157#64,163#64,167#64,173#64,179#64,181#64,191#64,193#64,197#64,199#64,211#64,223#64,227#64,229#64,233#64,239#64,241#64,251#64,257#64,263#64,269#64,271#64,277#64,281#64,283#64,293#64,307#64,311#64]:=by decide +kernel
theorem thirds_eq : thirdsF 64 = addL:=by
  simp only [thirdsF,pl_312,List.getD_cons_succ,List.getD_cons_zero,List.nil_append,List.cons_append,root_2,root_3,root_5,root_7,root_11,root_13,root_17,root_19,root_23,root_29,root_31,root_37,root_41,root_43,root_47,root_53,root_59,root_61,root_67,root_71,root_73,root_79,root_83,root_89,root_97,root_101,root_103,root_107,root_109,root_113,root_127,root_131,root_137,root_139,root_149,root_151,root_157,root_163,root_167,root_173,root_179,root_181,root_191,root_193,root_197,root_199,root_211,root_223,root_227,root_229,root_233,root_239,root_241,root_251,root_257,root_263,root_269,root_271,root_277,root_281,root_283,root_293,root_307,root_311]
  rfl
end Go.Proofs.YtddeffdgldjdjaaDoor
