/-
  NARROWER THAN 'FOR EVERY INPUT', by the rows' own cells (each row's printed sentence says how): ShaHashes: laid · ShaPresses: laid · ShaPieces: laid · ShaApart: laid · MacMade: laid · MacKeys: laid · MacExpands: laid · MacSteps: laid · MacSums: laid · MacSame: laid.
  DERIVED. THE GIVEN ROWS OF THIS SEAT. 10 by the template 'for every input the law returns true; each argument reads behind the call as it read before'; 0 by the template 'total and deterministic' (their statements: YteooikdcafodfaaDoorTotals.lean).
  GIVEN WITH THE SEED: the statements are not yours to turn. If you find one false, say at which input.
  Laid BY PROGRAM, IN A SANDBOX (cutbox-rows.mjs): the forced cells as the released guide's own fill.sh prints them over the translation 2be3352af1e4d246… (all of the seat's roots in one cut). By AI agents, Wed Nov 11 2026. No macro, syntax, notation, axiom, sorry.
-/
import Derived.Test.YteooikdcafodfaaDoorChecked
import GoSem.Claim
import GoSem.ClaimJoined
import GoSem.ClaimMapViews
import Derived.JoinedTies
import Derived.KernelRfl
namespace Go.Proofs.YteooikdcafodfaaDoor
/- THE CELL 'sum', in the pinned program and in every row, IS THE sha256 OF THE DUMP (.gsa) THAT YteooikdcafodfaaDoorProg.lean LOADS. Nothing in Lean hashes anything: it is a label: what it is worth is what the hold of that sum in a sandbox is worth. -/
noncomputable def Tryd.pinned : Pinned := { name := "yteooikdcafodfaadoor", sum := "2be3352af1e4d24682641947833377fc03f6d90cfd36b875d86e9cb75bc8526c", checked := Tryd.checked }
namespace Rows
def none {H : Type} : Left H := { results := [], args := [] }

/- WHAT THE LISTED PACKAGE-LEVEL VARIABLES READ AS WHEN THE CALL BEGINS. Each datum BY PROGRAM (the guide's laid-datum.mjs) off the statement by which the dump's own 'gosem.cut.vars' lays the variable. In a bare row this is a premise. The card (YteooikdcafodfaaDoorCards.lean) ties it to the program's text. -/
def laid_strongroom_sha_add {H : Type} : DataW H := .agg [.lit (.int .u32 1116352408), .lit (.int .u32 1899447441), .lit (.int .u32 3049323471), .lit (.int .u32 3921009573), .lit (.int .u32 961987163), .lit (.int .u32 1508970993), .lit (.int .u32 2453635748), .lit (.int .u32 2870763221), .lit (.int .u32 3624381080), .lit (.int .u32 310598401), .lit (.int .u32 607225278), .lit (.int .u32 1426881987), .lit (.int .u32 1925078388), .lit (.int .u32 2162078206), .lit (.int .u32 2614888103), .lit (.int .u32 3248222580), .lit (.int .u32 3835390401), .lit (.int .u32 4022224774), .lit (.int .u32 264347078), .lit (.int .u32 604807628), .lit (.int .u32 770255983), .lit (.int .u32 1249150122), .lit (.int .u32 1555081692), .lit (.int .u32 1996064986), .lit (.int .u32 2554220882), .lit (.int .u32 2821834349), .lit (.int .u32 2952996808), .lit (.int .u32 3210313671), .lit (.int .u32 3336571891), .lit (.int .u32 3584528711), .lit (.int .u32 113926993), .lit (.int .u32 338241895), .lit (.int .u32 666307205), .lit (.int .u32 773529912), .lit (.int .u32 1294757372), .lit (.int .u32 1396182291), .lit (.int .u32 1695183700), .lit (.int .u32 1986661051), .lit (.int .u32 2177026350), .lit (.int .u32 2456956037), .lit (.int .u32 2730485921), .lit (.int .u32 2820302411), .lit (.int .u32 3259730800), .lit (.int .u32 3345764771), .lit (.int .u32 3516065817), .lit (.int .u32 3600352804), .lit (.int .u32 4094571909), .lit (.int .u32 275423344), .lit (.int .u32 430227734), .lit (.int .u32 506948616), .lit (.int .u32 659060556), .lit (.int .u32 883997877), .lit (.int .u32 958139571), .lit (.int .u32 1322822218), .lit (.int .u32 1537002063), .lit (.int .u32 1747873779), .lit (.int .u32 1955562222), .lit (.int .u32 2024104815), .lit (.int .u32 2227730452), .lit (.int .u32 2361852424), .lit (.int .u32 2428436474), .lit (.int .u32 2756734187), .lit (.int .u32 3204031479), .lit (.int .u32 3329325298)]

/-- 'strongroomlaw05.ShaHashes': WHATEVER THE INPUT: true; the input reads as it did. -/
def shaHashesSpec : ChangeSpec := { name := "shaHashes", fn := fun _ => fun
  | [d] => { results := [.lit (.bool true)], args := [d] }
  | _ => none }
def shaHashesRow : OpenClaim := { program := "yteooikdcafodfaadoor", sum := "2be3352af1e4d24682641947833377fc03f6d90cfd36b875d86e9cb75bc8526c", func := "strongroom/strongroomlaw05.ShaHashes", spec := "shaHashes", named := ["strongroom/sha.add"], apart := false, laid := [("strongroom/sha.add", laid_strongroom_sha_add)] }
def ShaHashesSaid : Prop := shaHashesRow.holds Tryd.pinned (OpenSpec.ofChange shaHashesSpec)

/-- ITS FALSE NEIGHBOUR: 'it returns false'. Refute it at one input. -/
def shaHashesWrong : ChangeSpec := { name := "shaHashes", fn := fun _ => fun
  | [d] => { results := [.lit (.bool false)], args := [d] }
  | _ => none }
def ShaHashesWrongFalsely : Prop := shaHashesRow.holds Tryd.pinned (OpenSpec.ofChange shaHashesWrong)

/-- 'strongroomlaw05.ShaPresses': WHATEVER THE INPUT: true; the input reads as it did. -/
def shaPressesSpec : ChangeSpec := { name := "shaPresses", fn := fun _ => fun
  | [d1, d2] => { results := [.lit (.bool true)], args := [d1, d2] }
  | _ => none }
def shaPressesRow : OpenClaim := { program := "yteooikdcafodfaadoor", sum := "2be3352af1e4d24682641947833377fc03f6d90cfd36b875d86e9cb75bc8526c", func := "strongroom/strongroomlaw05.ShaPresses", spec := "shaPresses", named := ["strongroom/sha.add"], apart := false, laid := [("strongroom/sha.add", laid_strongroom_sha_add)] }
def ShaPressesSaid : Prop := shaPressesRow.holds Tryd.pinned (OpenSpec.ofChange shaPressesSpec)

/-- ITS FALSE NEIGHBOUR: 'it returns false'. Refute it at one input. -/
def shaPressesWrong : ChangeSpec := { name := "shaPresses", fn := fun _ => fun
  | [d1, d2] => { results := [.lit (.bool false)], args := [d1, d2] }
  | _ => none }
def ShaPressesWrongFalsely : Prop := shaPressesRow.holds Tryd.pinned (OpenSpec.ofChange shaPressesWrong)

/-- 'strongroomlaw05.ShaPieces': WHATEVER THE INPUT: true; the input reads as it did. -/
def shaPiecesSpec : ChangeSpec := { name := "shaPieces", fn := fun _ => fun
  | [d] => { results := [.lit (.bool true)], args := [d] }
  | _ => none }
def shaPiecesRow : OpenClaim := { program := "yteooikdcafodfaadoor", sum := "2be3352af1e4d24682641947833377fc03f6d90cfd36b875d86e9cb75bc8526c", func := "strongroom/strongroomlaw05.ShaPieces", spec := "shaPieces", named := ["strongroom/sha.add"], apart := false, laid := [("strongroom/sha.add", laid_strongroom_sha_add)] }
def ShaPiecesSaid : Prop := shaPiecesRow.holds Tryd.pinned (OpenSpec.ofChange shaPiecesSpec)

/-- ITS FALSE NEIGHBOUR: 'it returns false'. Refute it at one input. -/
def shaPiecesWrong : ChangeSpec := { name := "shaPieces", fn := fun _ => fun
  | [d] => { results := [.lit (.bool false)], args := [d] }
  | _ => none }
def ShaPiecesWrongFalsely : Prop := shaPiecesRow.holds Tryd.pinned (OpenSpec.ofChange shaPiecesWrong)

/-- 'strongroomlaw05.ShaApart': WHATEVER THE INPUT: true; the input reads as it did. -/
def shaApartSpec : ChangeSpec := { name := "shaApart", fn := fun _ => fun
  | [d1, d2] => { results := [.lit (.bool true)], args := [d1, d2] }
  | _ => none }
def shaApartRow : OpenClaim := { program := "yteooikdcafodfaadoor", sum := "2be3352af1e4d24682641947833377fc03f6d90cfd36b875d86e9cb75bc8526c", func := "strongroom/strongroomlaw05.ShaApart", spec := "shaApart", named := ["strongroom/sha.add"], apart := false, laid := [("strongroom/sha.add", laid_strongroom_sha_add)] }
def ShaApartSaid : Prop := shaApartRow.holds Tryd.pinned (OpenSpec.ofChange shaApartSpec)

/-- ITS FALSE NEIGHBOUR: 'it returns false'. Refute it at one input. -/
def shaApartWrong : ChangeSpec := { name := "shaApart", fn := fun _ => fun
  | [d1, d2] => { results := [.lit (.bool false)], args := [d1, d2] }
  | _ => none }
def ShaApartWrongFalsely : Prop := shaApartRow.holds Tryd.pinned (OpenSpec.ofChange shaApartWrong)

/-- 'strongroomlaw06.MacMade': WHATEVER THE INPUT: true; the input reads as it did. -/
def macMadeSpec : ChangeSpec := { name := "macMade", fn := fun _ => fun
  | [d1, d2] => { results := [.lit (.bool true)], args := [d1, d2] }
  | _ => none }
def macMadeRow : OpenClaim := { program := "yteooikdcafodfaadoor", sum := "2be3352af1e4d24682641947833377fc03f6d90cfd36b875d86e9cb75bc8526c", func := "strongroom/strongroomlaw06.MacMade", spec := "macMade", named := ["strongroom/sha.add"], apart := false, laid := [("strongroom/sha.add", laid_strongroom_sha_add)] }
def MacMadeSaid : Prop := macMadeRow.holds Tryd.pinned (OpenSpec.ofChange macMadeSpec)

/-- ITS FALSE NEIGHBOUR: 'it returns false'. Refute it at one input. -/
def macMadeWrong : ChangeSpec := { name := "macMade", fn := fun _ => fun
  | [d1, d2] => { results := [.lit (.bool false)], args := [d1, d2] }
  | _ => none }
def MacMadeWrongFalsely : Prop := macMadeRow.holds Tryd.pinned (OpenSpec.ofChange macMadeWrong)

/-- 'strongroomlaw06.MacKeys': WHATEVER THE INPUT: true; the input reads as it did. -/
def macKeysSpec : ChangeSpec := { name := "macKeys", fn := fun _ => fun
  | [d1, d2, d3] => { results := [.lit (.bool true)], args := [d1, d2, d3] }
  | _ => none }
def macKeysRow : OpenClaim := { program := "yteooikdcafodfaadoor", sum := "2be3352af1e4d24682641947833377fc03f6d90cfd36b875d86e9cb75bc8526c", func := "strongroom/strongroomlaw06.MacKeys", spec := "macKeys", named := ["strongroom/sha.add"], apart := false, laid := [("strongroom/sha.add", laid_strongroom_sha_add)] }
def MacKeysSaid : Prop := macKeysRow.holds Tryd.pinned (OpenSpec.ofChange macKeysSpec)

/-- ITS FALSE NEIGHBOUR: 'it returns false'. Refute it at one input. -/
def macKeysWrong : ChangeSpec := { name := "macKeys", fn := fun _ => fun
  | [d1, d2, d3] => { results := [.lit (.bool false)], args := [d1, d2, d3] }
  | _ => none }
def MacKeysWrongFalsely : Prop := macKeysRow.holds Tryd.pinned (OpenSpec.ofChange macKeysWrong)

/-- 'strongroomlaw06.MacExpands': WHATEVER THE INPUT: true; the input reads as it did. -/
def macExpandsSpec : ChangeSpec := { name := "macExpands", fn := fun _ => fun
  | [d1, d2, d3] => { results := [.lit (.bool true)], args := [d1, d2, d3] }
  | _ => none }
def macExpandsRow : OpenClaim := { program := "yteooikdcafodfaadoor", sum := "2be3352af1e4d24682641947833377fc03f6d90cfd36b875d86e9cb75bc8526c", func := "strongroom/strongroomlaw06.MacExpands", spec := "macExpands", named := ["strongroom/sha.add"], apart := false, laid := [("strongroom/sha.add", laid_strongroom_sha_add)] }
def MacExpandsSaid : Prop := macExpandsRow.holds Tryd.pinned (OpenSpec.ofChange macExpandsSpec)

/-- ITS FALSE NEIGHBOUR: 'it returns false'. Refute it at one input. -/
def macExpandsWrong : ChangeSpec := { name := "macExpands", fn := fun _ => fun
  | [d1, d2, d3] => { results := [.lit (.bool false)], args := [d1, d2, d3] }
  | _ => none }
def MacExpandsWrongFalsely : Prop := macExpandsRow.holds Tryd.pinned (OpenSpec.ofChange macExpandsWrong)

/-- 'strongroomlaw06.MacSteps': WHATEVER THE INPUT: true; the input reads as it did. -/
def macStepsSpec : ChangeSpec := { name := "macSteps", fn := fun _ => fun
  | [d1, d2, d3] => { results := [.lit (.bool true)], args := [d1, d2, d3] }
  | _ => none }
def macStepsRow : OpenClaim := { program := "yteooikdcafodfaadoor", sum := "2be3352af1e4d24682641947833377fc03f6d90cfd36b875d86e9cb75bc8526c", func := "strongroom/strongroomlaw06.MacSteps", spec := "macSteps", named := ["strongroom/sha.add"], apart := false, laid := [("strongroom/sha.add", laid_strongroom_sha_add)] }
def MacStepsSaid : Prop := macStepsRow.holds Tryd.pinned (OpenSpec.ofChange macStepsSpec)

/-- ITS FALSE NEIGHBOUR: 'it returns false'. Refute it at one input. -/
def macStepsWrong : ChangeSpec := { name := "macSteps", fn := fun _ => fun
  | [d1, d2, d3] => { results := [.lit (.bool false)], args := [d1, d2, d3] }
  | _ => none }
def MacStepsWrongFalsely : Prop := macStepsRow.holds Tryd.pinned (OpenSpec.ofChange macStepsWrong)

/-- 'strongroomlaw06.MacSums': WHATEVER THE INPUT: true; the input reads as it did. -/
def macSumsSpec : ChangeSpec := { name := "macSums", fn := fun _ => fun
  | [d1, d2] => { results := [.lit (.bool true)], args := [d1, d2] }
  | _ => none }
def macSumsRow : OpenClaim := { program := "yteooikdcafodfaadoor", sum := "2be3352af1e4d24682641947833377fc03f6d90cfd36b875d86e9cb75bc8526c", func := "strongroom/strongroomlaw06.MacSums", spec := "macSums", named := ["strongroom/sha.add"], apart := false, laid := [("strongroom/sha.add", laid_strongroom_sha_add)] }
def MacSumsSaid : Prop := macSumsRow.holds Tryd.pinned (OpenSpec.ofChange macSumsSpec)

/-- ITS FALSE NEIGHBOUR: 'it returns false'. Refute it at one input. -/
def macSumsWrong : ChangeSpec := { name := "macSums", fn := fun _ => fun
  | [d1, d2] => { results := [.lit (.bool false)], args := [d1, d2] }
  | _ => none }
def MacSumsWrongFalsely : Prop := macSumsRow.holds Tryd.pinned (OpenSpec.ofChange macSumsWrong)

/-- 'strongroomlaw06.MacSame': WHATEVER THE INPUT: true; the input reads as it did. -/
def macSameSpec : ChangeSpec := { name := "macSame", fn := fun _ => fun
  | [d1, d2] => { results := [.lit (.bool true)], args := [d1, d2] }
  | _ => none }
def macSameRow : OpenClaim := { program := "yteooikdcafodfaadoor", sum := "2be3352af1e4d24682641947833377fc03f6d90cfd36b875d86e9cb75bc8526c", func := "strongroom/strongroomlaw06.MacSame", spec := "macSame", named := ["strongroom/sha.add"], apart := false, laid := [("strongroom/sha.add", laid_strongroom_sha_add)] }
def MacSameSaid : Prop := macSameRow.holds Tryd.pinned (OpenSpec.ofChange macSameSpec)

/-- ITS FALSE NEIGHBOUR: 'it returns false'. Refute it at one input. -/
def macSameWrong : ChangeSpec := { name := "macSame", fn := fun _ => fun
  | [d1, d2] => { results := [.lit (.bool false)], args := [d1, d2] }
  | _ => none }
def MacSameWrongFalsely : Prop := macSameRow.holds Tryd.pinned (OpenSpec.ofChange macSameWrong)

/- THE SECOND FORM. 'bulk': how many values and letters a reading holds, each counted each time it is reached (what is shared counts as often as it is met; a slice's spare places count too). A statement '..UptoSaid' is the law's where the arguments, and the package variables that the reading takes, are together of bulk at most 1048576: NARROWER than '..Said'. Prove '..Said' where nothing that the law and all that it calls make is longer than what came in: it says more and counts as full. Else prove '..UptoSaid'. A law counts once. -/
mutual
def uptoBulk {H : Type} : DataW H → Nat
  | .lit (.string bytes) => bytes.length + 1
  | .lit _ => 1
  | .nil => 1
  | .ptr d => uptoBulk d + 1
  | .slice elems spare => uptoBulkAll elems + uptoBulkAll spare + 1
  | .agg parts => uptoBulkAll parts + 1
  | .iface _ d => uptoBulk d + 1
  | .map entries => uptoBulkEntries entries + 1
  | .held _ => 1
def uptoBulkAll {H : Type} : List (DataW H) → Nat
  | [] => 0
  | d :: r => uptoBulk d + uptoBulkAll r
def uptoBulkEntries {H : Type} : List (Lit × DataW H) → Nat
  | [] => 0
  | x :: r => uptoBulkEntry x + uptoBulkEntries r
def uptoBulkEntry {H : Type} : Lit × DataW H → Nat
  | (.string bytes, d) => bytes.length + uptoBulk d + 1
  | (_, d) => uptoBulk d + 1
 end
def uptoSmall : (H : Type) → List (DataW H) → Bool := fun _ ds => decide (uptoBulkAll ds ≤ 1048576)
def OpenSpec.upto (s : _root_.Go.ChangeSpec) : _root_.Go.OpenSpec := { _root_.Go.OpenSpec.ofChange s with cond := some uptoSmall }

/-- 'strongroomlaw05.ShaHashes', WHERE WHAT IT READS IS OF BULK AT MOST 1048576: true; the input reads as it did. -/
def shaHashesUptoRow : OpenClaim := { program := "yteooikdcafodfaadoor", sum := "2be3352af1e4d24682641947833377fc03f6d90cfd36b875d86e9cb75bc8526c", func := "strongroom/strongroomlaw05.ShaHashes", spec := "shaHashes", named := ["strongroom/sha.add"], apart := false, laid := [("strongroom/sha.add", laid_strongroom_sha_add)], narrowed := true }
def ShaHashesUptoSaid : Prop := shaHashesUptoRow.holds Tryd.pinned (OpenSpec.upto shaHashesSpec)

/-- 'strongroomlaw05.ShaPresses', WHERE WHAT IT READS IS OF BULK AT MOST 1048576: true; the input reads as it did. -/
def shaPressesUptoRow : OpenClaim := { program := "yteooikdcafodfaadoor", sum := "2be3352af1e4d24682641947833377fc03f6d90cfd36b875d86e9cb75bc8526c", func := "strongroom/strongroomlaw05.ShaPresses", spec := "shaPresses", named := ["strongroom/sha.add"], apart := false, laid := [("strongroom/sha.add", laid_strongroom_sha_add)], narrowed := true }
def ShaPressesUptoSaid : Prop := shaPressesUptoRow.holds Tryd.pinned (OpenSpec.upto shaPressesSpec)

/-- 'strongroomlaw05.ShaPieces', WHERE WHAT IT READS IS OF BULK AT MOST 1048576: true; the input reads as it did. -/
def shaPiecesUptoRow : OpenClaim := { program := "yteooikdcafodfaadoor", sum := "2be3352af1e4d24682641947833377fc03f6d90cfd36b875d86e9cb75bc8526c", func := "strongroom/strongroomlaw05.ShaPieces", spec := "shaPieces", named := ["strongroom/sha.add"], apart := false, laid := [("strongroom/sha.add", laid_strongroom_sha_add)], narrowed := true }
def ShaPiecesUptoSaid : Prop := shaPiecesUptoRow.holds Tryd.pinned (OpenSpec.upto shaPiecesSpec)

/-- 'strongroomlaw05.ShaApart', WHERE WHAT IT READS IS OF BULK AT MOST 1048576: true; the input reads as it did. -/
def shaApartUptoRow : OpenClaim := { program := "yteooikdcafodfaadoor", sum := "2be3352af1e4d24682641947833377fc03f6d90cfd36b875d86e9cb75bc8526c", func := "strongroom/strongroomlaw05.ShaApart", spec := "shaApart", named := ["strongroom/sha.add"], apart := false, laid := [("strongroom/sha.add", laid_strongroom_sha_add)], narrowed := true }
def ShaApartUptoSaid : Prop := shaApartUptoRow.holds Tryd.pinned (OpenSpec.upto shaApartSpec)

/-- 'strongroomlaw06.MacMade', WHERE WHAT IT READS IS OF BULK AT MOST 1048576: true; the input reads as it did. -/
def macMadeUptoRow : OpenClaim := { program := "yteooikdcafodfaadoor", sum := "2be3352af1e4d24682641947833377fc03f6d90cfd36b875d86e9cb75bc8526c", func := "strongroom/strongroomlaw06.MacMade", spec := "macMade", named := ["strongroom/sha.add"], apart := false, laid := [("strongroom/sha.add", laid_strongroom_sha_add)], narrowed := true }
def MacMadeUptoSaid : Prop := macMadeUptoRow.holds Tryd.pinned (OpenSpec.upto macMadeSpec)

/-- 'strongroomlaw06.MacKeys', WHERE WHAT IT READS IS OF BULK AT MOST 1048576: true; the input reads as it did. -/
def macKeysUptoRow : OpenClaim := { program := "yteooikdcafodfaadoor", sum := "2be3352af1e4d24682641947833377fc03f6d90cfd36b875d86e9cb75bc8526c", func := "strongroom/strongroomlaw06.MacKeys", spec := "macKeys", named := ["strongroom/sha.add"], apart := false, laid := [("strongroom/sha.add", laid_strongroom_sha_add)], narrowed := true }
def MacKeysUptoSaid : Prop := macKeysUptoRow.holds Tryd.pinned (OpenSpec.upto macKeysSpec)

/-- 'strongroomlaw06.MacExpands', WHERE WHAT IT READS IS OF BULK AT MOST 1048576: true; the input reads as it did. -/
def macExpandsUptoRow : OpenClaim := { program := "yteooikdcafodfaadoor", sum := "2be3352af1e4d24682641947833377fc03f6d90cfd36b875d86e9cb75bc8526c", func := "strongroom/strongroomlaw06.MacExpands", spec := "macExpands", named := ["strongroom/sha.add"], apart := false, laid := [("strongroom/sha.add", laid_strongroom_sha_add)], narrowed := true }
def MacExpandsUptoSaid : Prop := macExpandsUptoRow.holds Tryd.pinned (OpenSpec.upto macExpandsSpec)

/-- 'strongroomlaw06.MacSteps', WHERE WHAT IT READS IS OF BULK AT MOST 1048576: true; the input reads as it did. -/
def macStepsUptoRow : OpenClaim := { program := "yteooikdcafodfaadoor", sum := "2be3352af1e4d24682641947833377fc03f6d90cfd36b875d86e9cb75bc8526c", func := "strongroom/strongroomlaw06.MacSteps", spec := "macSteps", named := ["strongroom/sha.add"], apart := false, laid := [("strongroom/sha.add", laid_strongroom_sha_add)], narrowed := true }
def MacStepsUptoSaid : Prop := macStepsUptoRow.holds Tryd.pinned (OpenSpec.upto macStepsSpec)

/-- 'strongroomlaw06.MacSums', WHERE WHAT IT READS IS OF BULK AT MOST 1048576: true; the input reads as it did. -/
def macSumsUptoRow : OpenClaim := { program := "yteooikdcafodfaadoor", sum := "2be3352af1e4d24682641947833377fc03f6d90cfd36b875d86e9cb75bc8526c", func := "strongroom/strongroomlaw06.MacSums", spec := "macSums", named := ["strongroom/sha.add"], apart := false, laid := [("strongroom/sha.add", laid_strongroom_sha_add)], narrowed := true }
def MacSumsUptoSaid : Prop := macSumsUptoRow.holds Tryd.pinned (OpenSpec.upto macSumsSpec)

/-- 'strongroomlaw06.MacSame', WHERE WHAT IT READS IS OF BULK AT MOST 1048576: true; the input reads as it did. -/
def macSameUptoRow : OpenClaim := { program := "yteooikdcafodfaadoor", sum := "2be3352af1e4d24682641947833377fc03f6d90cfd36b875d86e9cb75bc8526c", func := "strongroom/strongroomlaw06.MacSame", spec := "macSame", named := ["strongroom/sha.add"], apart := false, laid := [("strongroom/sha.add", laid_strongroom_sha_add)], narrowed := true }
def MacSameUptoSaid : Prop := macSameUptoRow.holds Tryd.pinned (OpenSpec.upto macSameSpec)

end Rows
end Go.Proofs.YteooikdcafodfaaDoor
