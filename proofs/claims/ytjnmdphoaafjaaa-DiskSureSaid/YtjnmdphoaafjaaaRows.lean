/-
  No cell of these rows narrows 'for every input' (looked for: loops, veiled, ifaces, maps, wideKeys, modest, calm, conditions, laid).
  DERIVED. THE GIVEN ROWS OF THIS SEAT. 19 by the template 'for every input the law returns true; each argument reads behind the call as it read before'; 0 by the template 'total and deterministic' (their statements: YtjnmdphoaafjaaaTotals.lean).
  GIVEN WITH THE SEED: the statements are not yours to turn. If you find one false, say at which input.
  Laid BY PROGRAM, IN A SANDBOX (cutbox-rows.mjs): the forced cells as the released guide's own fill.sh prints them over the translation 5635df0ddf5cfc41… (all of the seat's roots in one cut). By AI agents, Wed Nov 11 2026. No macro, syntax, notation, axiom, sorry.
-/
import Derived.Test.YtjnmdphoaafjaaaChecked
import GoSem.Claim
import GoSem.ClaimJoined
import GoSem.ClaimMapViews
import Derived.JoinedTies
import Derived.KernelRfl
namespace Go.Proofs.Ytjnmdphoaafjaaa
/- THE CELL 'sum', in the pinned program and in every row, IS THE sha256 OF THE DUMP (.gsa) THAT YtjnmdphoaafjaaaProg.lean LOADS. Nothing in Lean hashes anything: it is a label: what it is worth is what the hold of that sum in a sandbox is worth. -/
noncomputable def Try.pinned : Pinned := { name := "ytjnmdphoaafjaaa", sum := "5635df0ddf5cfc41116a69fdb8dba4ec2675fd2c239434a31171f158eba82208", checked := Try.checked }
namespace Rows
def none {H : Type} : Left H := { results := [], args := [] }

/-- 'strongroomlaw10.DiskSure': WHATEVER THE INPUT: true; the input reads as it did. -/
def diskSureSpec : ChangeSpec := { name := "diskSure", fn := fun _ => fun
  | [d1, d2, d3] => { results := [.lit (.bool true)], args := [d1, d2, d3] }
  | _ => none }
def diskSureRow : OpenClaim := { program := "ytjnmdphoaafjaaa", sum := "5635df0ddf5cfc41116a69fdb8dba4ec2675fd2c239434a31171f158eba82208", func := "strongroom/strongroomlaw10.DiskSure", spec := "diskSure", unfollowed := true, recurses := true, apart := false }
def DiskSureSaid : Prop := diskSureRow.holds Try.pinned (OpenSpec.ofChange diskSureSpec)

/-- ITS FALSE NEIGHBOUR: 'it returns false'. Refute it at one input. -/
def diskSureWrong : ChangeSpec := { name := "diskSure", fn := fun _ => fun
  | [d1, d2, d3] => { results := [.lit (.bool false)], args := [d1, d2, d3] }
  | _ => none }
def DiskSureWrongFalsely : Prop := diskSureRow.holds Try.pinned (OpenSpec.ofChange diskSureWrong)

/-- 'strongroomlaw10.DiskFuse': WHATEVER THE INPUT: true; the input reads as it did. -/
def diskFuseSpec : ChangeSpec := { name := "diskFuse", fn := fun _ => fun
  | [d1, d2] => { results := [.lit (.bool true)], args := [d1, d2] }
  | _ => none }
def diskFuseRow : OpenClaim := { program := "ytjnmdphoaafjaaa", sum := "5635df0ddf5cfc41116a69fdb8dba4ec2675fd2c239434a31171f158eba82208", func := "strongroom/strongroomlaw10.DiskFuse", spec := "diskFuse", unfollowed := true, recurses := true, apart := false }
def DiskFuseSaid : Prop := diskFuseRow.holds Try.pinned (OpenSpec.ofChange diskFuseSpec)

/-- ITS FALSE NEIGHBOUR: 'it returns false'. Refute it at one input. -/
def diskFuseWrong : ChangeSpec := { name := "diskFuse", fn := fun _ => fun
  | [d1, d2] => { results := [.lit (.bool false)], args := [d1, d2] }
  | _ => none }
def DiskFuseWrongFalsely : Prop := diskFuseRow.holds Try.pinned (OpenSpec.ofChange diskFuseWrong)

/-- 'strongroomlaw10.DiskFiles': WHATEVER THE INPUT: true; the input reads as it did. -/
def diskFilesSpec : ChangeSpec := { name := "diskFiles", fn := fun _ => fun
  | [d] => { results := [.lit (.bool true)], args := [d] }
  | _ => none }
def diskFilesRow : OpenClaim := { program := "ytjnmdphoaafjaaa", sum := "5635df0ddf5cfc41116a69fdb8dba4ec2675fd2c239434a31171f158eba82208", func := "strongroom/strongroomlaw10.DiskFiles", spec := "diskFiles", unfollowed := true, recurses := true, apart := false }
def DiskFilesSaid : Prop := diskFilesRow.holds Try.pinned (OpenSpec.ofChange diskFilesSpec)

/-- ITS FALSE NEIGHBOUR: 'it returns false'. Refute it at one input. -/
def diskFilesWrong : ChangeSpec := { name := "diskFiles", fn := fun _ => fun
  | [d] => { results := [.lit (.bool false)], args := [d] }
  | _ => none }
def DiskFilesWrongFalsely : Prop := diskFilesRow.holds Try.pinned (OpenSpec.ofChange diskFilesWrong)

/-- 'strongroomlaw10.DiskCuts': WHATEVER THE INPUT: true; the input reads as it did. -/
def diskCutsSpec : ChangeSpec := { name := "diskCuts", fn := fun _ => fun
  | [d1, d2, d3] => { results := [.lit (.bool true)], args := [d1, d2, d3] }
  | _ => none }
def diskCutsRow : OpenClaim := { program := "ytjnmdphoaafjaaa", sum := "5635df0ddf5cfc41116a69fdb8dba4ec2675fd2c239434a31171f158eba82208", func := "strongroom/strongroomlaw10.DiskCuts", spec := "diskCuts", unfollowed := true, recurses := true, apart := false }
def DiskCutsSaid : Prop := diskCutsRow.holds Try.pinned (OpenSpec.ofChange diskCutsSpec)

/-- ITS FALSE NEIGHBOUR: 'it returns false'. Refute it at one input. -/
def diskCutsWrong : ChangeSpec := { name := "diskCuts", fn := fun _ => fun
  | [d1, d2, d3] => { results := [.lit (.bool false)], args := [d1, d2, d3] }
  | _ => none }
def DiskCutsWrongFalsely : Prop := diskCutsRow.holds Try.pinned (OpenSpec.ofChange diskCutsWrong)

/-- 'strongroomlaw10.DiskPlays': WHATEVER THE INPUT: true; the input reads as it did. -/
def diskPlaysSpec : ChangeSpec := { name := "diskPlays", fn := fun _ => fun
  | [d] => { results := [.lit (.bool true)], args := [d] }
  | _ => none }
def diskPlaysRow : OpenClaim := { program := "ytjnmdphoaafjaaa", sum := "5635df0ddf5cfc41116a69fdb8dba4ec2675fd2c239434a31171f158eba82208", func := "strongroom/strongroomlaw10.DiskPlays", spec := "diskPlays", unfollowed := true, recurses := true, apart := false }
def DiskPlaysSaid : Prop := diskPlaysRow.holds Try.pinned (OpenSpec.ofChange diskPlaysSpec)

/-- ITS FALSE NEIGHBOUR: 'it returns false'. Refute it at one input. -/
def diskPlaysWrong : ChangeSpec := { name := "diskPlays", fn := fun _ => fun
  | [d] => { results := [.lit (.bool false)], args := [d] }
  | _ => none }
def DiskPlaysWrongFalsely : Prop := diskPlaysRow.holds Try.pinned (OpenSpec.ofChange diskPlaysWrong)

/-- 'strongroomlaw09.WireCommands': WHATEVER THE INPUT: true; the input reads as it did. -/
def wireCommandsSpec : ChangeSpec := { name := "wireCommands", fn := fun _ => fun
  | [d1, d2] => { results := [.lit (.bool true)], args := [d1, d2] }
  | _ => none }
def wireCommandsRow : OpenClaim := { program := "ytjnmdphoaafjaaa", sum := "5635df0ddf5cfc41116a69fdb8dba4ec2675fd2c239434a31171f158eba82208", func := "strongroom/strongroomlaw09.WireCommands", spec := "wireCommands", unfollowed := true, recurses := true, apart := false }
def WireCommandsSaid : Prop := wireCommandsRow.holds Try.pinned (OpenSpec.ofChange wireCommandsSpec)

/-- ITS FALSE NEIGHBOUR: 'it returns false'. Refute it at one input. -/
def wireCommandsWrong : ChangeSpec := { name := "wireCommands", fn := fun _ => fun
  | [d1, d2] => { results := [.lit (.bool false)], args := [d1, d2] }
  | _ => none }
def WireCommandsWrongFalsely : Prop := wireCommandsRow.holds Try.pinned (OpenSpec.ofChange wireCommandsWrong)

/-- 'strongroomlaw09.WireLeast': WHATEVER THE INPUT: true; the input reads as it did. -/
def wireLeastSpec : ChangeSpec := { name := "wireLeast", fn := fun _ => fun
  | [d1, d2, d3] => { results := [.lit (.bool true)], args := [d1, d2, d3] }
  | _ => none }
def wireLeastRow : OpenClaim := { program := "ytjnmdphoaafjaaa", sum := "5635df0ddf5cfc41116a69fdb8dba4ec2675fd2c239434a31171f158eba82208", func := "strongroom/strongroomlaw09.WireLeast", spec := "wireLeast", unfollowed := true, recurses := true, apart := false }
def WireLeastSaid : Prop := wireLeastRow.holds Try.pinned (OpenSpec.ofChange wireLeastSpec)

/-- ITS FALSE NEIGHBOUR: 'it returns false'. Refute it at one input. -/
def wireLeastWrong : ChangeSpec := { name := "wireLeast", fn := fun _ => fun
  | [d1, d2, d3] => { results := [.lit (.bool false)], args := [d1, d2, d3] }
  | _ => none }
def WireLeastWrongFalsely : Prop := wireLeastRow.holds Try.pinned (OpenSpec.ofChange wireLeastWrong)

/-- 'strongroomlaw09.WireApart': WHATEVER THE INPUT: true; the input reads as it did. -/
def wireApartSpec : ChangeSpec := { name := "wireApart", fn := fun _ => fun
  | [d1, d2] => { results := [.lit (.bool true)], args := [d1, d2] }
  | _ => none }
def wireApartRow : OpenClaim := { program := "ytjnmdphoaafjaaa", sum := "5635df0ddf5cfc41116a69fdb8dba4ec2675fd2c239434a31171f158eba82208", func := "strongroom/strongroomlaw09.WireApart", spec := "wireApart", unfollowed := true, recurses := true, apart := false }
def WireApartSaid : Prop := wireApartRow.holds Try.pinned (OpenSpec.ofChange wireApartSpec)

/-- ITS FALSE NEIGHBOUR: 'it returns false'. Refute it at one input. -/
def wireApartWrong : ChangeSpec := { name := "wireApart", fn := fun _ => fun
  | [d1, d2] => { results := [.lit (.bool false)], args := [d1, d2] }
  | _ => none }
def WireApartWrongFalsely : Prop := wireApartRow.holds Try.pinned (OpenSpec.ofChange wireApartWrong)

/-- 'strongroomlaw04.GcmXors': WHATEVER THE INPUT: true; the input reads as it did. -/
def gcmXorsSpec : ChangeSpec := { name := "gcmXors", fn := fun _ => fun
  | [d1, d2, d3] => { results := [.lit (.bool true)], args := [d1, d2, d3] }
  | _ => none }
def gcmXorsRow : OpenClaim := { program := "ytjnmdphoaafjaaa", sum := "5635df0ddf5cfc41116a69fdb8dba4ec2675fd2c239434a31171f158eba82208", func := "strongroom/strongroomlaw04.GcmXors", spec := "gcmXors", apart := false }
def GcmXorsSaid : Prop := gcmXorsRow.holds Try.pinned (OpenSpec.ofChange gcmXorsSpec)

/-- ITS FALSE NEIGHBOUR: 'it returns false'. Refute it at one input. -/
def gcmXorsWrong : ChangeSpec := { name := "gcmXors", fn := fun _ => fun
  | [d1, d2, d3] => { results := [.lit (.bool false)], args := [d1, d2, d3] }
  | _ => none }
def GcmXorsWrongFalsely : Prop := gcmXorsRow.holds Try.pinned (OpenSpec.ofChange gcmXorsWrong)

/-- 'strongroomlaw04.GcmTags': WHATEVER THE INPUT: true; the input reads as it did. -/
def gcmTagsSpec : ChangeSpec := { name := "gcmTags", fn := fun _ => fun
  | [d1, d2] => { results := [.lit (.bool true)], args := [d1, d2] }
  | _ => none }
def gcmTagsRow : OpenClaim := { program := "ytjnmdphoaafjaaa", sum := "5635df0ddf5cfc41116a69fdb8dba4ec2675fd2c239434a31171f158eba82208", func := "strongroom/strongroomlaw04.GcmTags", spec := "gcmTags", apart := false }
def GcmTagsSaid : Prop := gcmTagsRow.holds Try.pinned (OpenSpec.ofChange gcmTagsSpec)

/-- ITS FALSE NEIGHBOUR: 'it returns false'. Refute it at one input. -/
def gcmTagsWrong : ChangeSpec := { name := "gcmTags", fn := fun _ => fun
  | [d1, d2] => { results := [.lit (.bool false)], args := [d1, d2] }
  | _ => none }
def GcmTagsWrongFalsely : Prop := gcmTagsRow.holds Try.pinned (OpenSpec.ofChange gcmTagsWrong)

/-- 'strongroomlaw04.GcmSeals': WHATEVER THE INPUT: true; the input reads as it did. -/
def gcmSealsSpec : ChangeSpec := { name := "gcmSeals", fn := fun _ => fun
  | [d1, d2, d3] => { results := [.lit (.bool true)], args := [d1, d2, d3] }
  | _ => none }
def gcmSealsRow : OpenClaim := { program := "ytjnmdphoaafjaaa", sum := "5635df0ddf5cfc41116a69fdb8dba4ec2675fd2c239434a31171f158eba82208", func := "strongroom/strongroomlaw04.GcmSeals", spec := "gcmSeals", apart := false }
def GcmSealsSaid : Prop := gcmSealsRow.holds Try.pinned (OpenSpec.ofChange gcmSealsSpec)

/-- ITS FALSE NEIGHBOUR: 'it returns false'. Refute it at one input. -/
def gcmSealsWrong : ChangeSpec := { name := "gcmSeals", fn := fun _ => fun
  | [d1, d2, d3] => { results := [.lit (.bool false)], args := [d1, d2, d3] }
  | _ => none }
def GcmSealsWrongFalsely : Prop := gcmSealsRow.holds Try.pinned (OpenSpec.ofChange gcmSealsWrong)

/-- 'strongroomlaw04.GcmBack': WHATEVER THE INPUT: true; the input reads as it did. -/
def gcmBackSpec : ChangeSpec := { name := "gcmBack", fn := fun _ => fun
  | [d1, d2, d3] => { results := [.lit (.bool true)], args := [d1, d2, d3] }
  | _ => none }
def gcmBackRow : OpenClaim := { program := "ytjnmdphoaafjaaa", sum := "5635df0ddf5cfc41116a69fdb8dba4ec2675fd2c239434a31171f158eba82208", func := "strongroom/strongroomlaw04.GcmBack", spec := "gcmBack", apart := false }
def GcmBackSaid : Prop := gcmBackRow.holds Try.pinned (OpenSpec.ofChange gcmBackSpec)

/-- ITS FALSE NEIGHBOUR: 'it returns false'. Refute it at one input. -/
def gcmBackWrong : ChangeSpec := { name := "gcmBack", fn := fun _ => fun
  | [d1, d2, d3] => { results := [.lit (.bool false)], args := [d1, d2, d3] }
  | _ => none }
def GcmBackWrongFalsely : Prop := gcmBackRow.holds Try.pinned (OpenSpec.ofChange gcmBackWrong)

/-- 'strongroomlaw04.GcmParts': WHATEVER THE INPUT: true; the input reads as it did. -/
def gcmPartsSpec : ChangeSpec := { name := "gcmParts", fn := fun _ => fun
  | [d1, d2, d3] => { results := [.lit (.bool true)], args := [d1, d2, d3] }
  | _ => none }
def gcmPartsRow : OpenClaim := { program := "ytjnmdphoaafjaaa", sum := "5635df0ddf5cfc41116a69fdb8dba4ec2675fd2c239434a31171f158eba82208", func := "strongroom/strongroomlaw04.GcmParts", spec := "gcmParts", apart := false }
def GcmPartsSaid : Prop := gcmPartsRow.holds Try.pinned (OpenSpec.ofChange gcmPartsSpec)

/-- ITS FALSE NEIGHBOUR: 'it returns false'. Refute it at one input. -/
def gcmPartsWrong : ChangeSpec := { name := "gcmParts", fn := fun _ => fun
  | [d1, d2, d3] => { results := [.lit (.bool false)], args := [d1, d2, d3] }
  | _ => none }
def GcmPartsWrongFalsely : Prop := gcmPartsRow.holds Try.pinned (OpenSpec.ofChange gcmPartsWrong)

/-- 'strongroomlaw04.GcmPieces': WHATEVER THE INPUT: true; the input reads as it did. -/
def gcmPiecesSpec : ChangeSpec := { name := "gcmPieces", fn := fun _ => fun
  | [d1, d2, d3] => { results := [.lit (.bool true)], args := [d1, d2, d3] }
  | _ => none }
def gcmPiecesRow : OpenClaim := { program := "ytjnmdphoaafjaaa", sum := "5635df0ddf5cfc41116a69fdb8dba4ec2675fd2c239434a31171f158eba82208", func := "strongroom/strongroomlaw04.GcmPieces", spec := "gcmPieces", apart := false }
def GcmPiecesSaid : Prop := gcmPiecesRow.holds Try.pinned (OpenSpec.ofChange gcmPiecesSpec)

/-- ITS FALSE NEIGHBOUR: 'it returns false'. Refute it at one input. -/
def gcmPiecesWrong : ChangeSpec := { name := "gcmPieces", fn := fun _ => fun
  | [d1, d2, d3] => { results := [.lit (.bool false)], args := [d1, d2, d3] }
  | _ => none }
def GcmPiecesWrongFalsely : Prop := gcmPiecesRow.holds Try.pinned (OpenSpec.ofChange gcmPiecesWrong)

/-- 'strongroomlaw04.GcmLengths': WHATEVER THE INPUT: true; the input reads as it did. -/
def gcmLengthsSpec : ChangeSpec := { name := "gcmLengths", fn := fun _ => fun
  | [d1, d2] => { results := [.lit (.bool true)], args := [d1, d2] }
  | _ => none }
def gcmLengthsRow : OpenClaim := { program := "ytjnmdphoaafjaaa", sum := "5635df0ddf5cfc41116a69fdb8dba4ec2675fd2c239434a31171f158eba82208", func := "strongroom/strongroomlaw04.GcmLengths", spec := "gcmLengths", apart := false }
def GcmLengthsSaid : Prop := gcmLengthsRow.holds Try.pinned (OpenSpec.ofChange gcmLengthsSpec)

/-- ITS FALSE NEIGHBOUR: 'it returns false'. Refute it at one input. -/
def gcmLengthsWrong : ChangeSpec := { name := "gcmLengths", fn := fun _ => fun
  | [d1, d2] => { results := [.lit (.bool false)], args := [d1, d2] }
  | _ => none }
def GcmLengthsWrongFalsely : Prop := gcmLengthsRow.holds Try.pinned (OpenSpec.ofChange gcmLengthsWrong)

/-- 'strongroomlaw09.WireReplies': WHATEVER THE INPUT: true; the input reads as it did. -/
def wireRepliesSpec : ChangeSpec := { name := "wireReplies", fn := fun _ => fun
  | [d1, d2] => { results := [.lit (.bool true)], args := [d1, d2] }
  | _ => none }
def wireRepliesRow : OpenClaim := { program := "ytjnmdphoaafjaaa", sum := "5635df0ddf5cfc41116a69fdb8dba4ec2675fd2c239434a31171f158eba82208", func := "strongroom/strongroomlaw09.WireReplies", spec := "wireReplies", unfollowed := true, recurses := true, apart := false }
def WireRepliesSaid : Prop := wireRepliesRow.holds Try.pinned (OpenSpec.ofChange wireRepliesSpec)

/-- ITS FALSE NEIGHBOUR: 'it returns false'. Refute it at one input. -/
def wireRepliesWrong : ChangeSpec := { name := "wireReplies", fn := fun _ => fun
  | [d1, d2] => { results := [.lit (.bool false)], args := [d1, d2] }
  | _ => none }
def WireRepliesWrongFalsely : Prop := wireRepliesRow.holds Try.pinned (OpenSpec.ofChange wireRepliesWrong)

/-- 'strongroomlaw09.WireEntries': WHATEVER THE INPUT: true; the input reads as it did. -/
def wireEntriesSpec : ChangeSpec := { name := "wireEntries", fn := fun _ => fun
  | [d1, d2] => { results := [.lit (.bool true)], args := [d1, d2] }
  | _ => none }
def wireEntriesRow : OpenClaim := { program := "ytjnmdphoaafjaaa", sum := "5635df0ddf5cfc41116a69fdb8dba4ec2675fd2c239434a31171f158eba82208", func := "strongroom/strongroomlaw09.WireEntries", spec := "wireEntries", unfollowed := true, recurses := true, apart := false }
def WireEntriesSaid : Prop := wireEntriesRow.holds Try.pinned (OpenSpec.ofChange wireEntriesSpec)

/-- ITS FALSE NEIGHBOUR: 'it returns false'. Refute it at one input. -/
def wireEntriesWrong : ChangeSpec := { name := "wireEntries", fn := fun _ => fun
  | [d1, d2] => { results := [.lit (.bool false)], args := [d1, d2] }
  | _ => none }
def WireEntriesWrongFalsely : Prop := wireEntriesRow.holds Try.pinned (OpenSpec.ofChange wireEntriesWrong)

/-- 'strongroomlaw09.WireBack': WHATEVER THE INPUT: true; the input reads as it did. -/
def wireBackSpec : ChangeSpec := { name := "wireBack", fn := fun _ => fun
  | [d1, d2, d3] => { results := [.lit (.bool true)], args := [d1, d2, d3] }
  | _ => none }
def wireBackRow : OpenClaim := { program := "ytjnmdphoaafjaaa", sum := "5635df0ddf5cfc41116a69fdb8dba4ec2675fd2c239434a31171f158eba82208", func := "strongroom/strongroomlaw09.WireBack", spec := "wireBack", unfollowed := true, recurses := true, apart := false }
def WireBackSaid : Prop := wireBackRow.holds Try.pinned (OpenSpec.ofChange wireBackSpec)

/-- ITS FALSE NEIGHBOUR: 'it returns false'. Refute it at one input. -/
def wireBackWrong : ChangeSpec := { name := "wireBack", fn := fun _ => fun
  | [d1, d2, d3] => { results := [.lit (.bool false)], args := [d1, d2, d3] }
  | _ => none }
def WireBackWrongFalsely : Prop := wireBackRow.holds Try.pinned (OpenSpec.ofChange wireBackWrong)

/-- 'strongroomlaw09.WireOnce': WHATEVER THE INPUT: true; the input reads as it did. -/
def wireOnceSpec : ChangeSpec := { name := "wireOnce", fn := fun _ => fun
  | [d] => { results := [.lit (.bool true)], args := [d] }
  | _ => none }
def wireOnceRow : OpenClaim := { program := "ytjnmdphoaafjaaa", sum := "5635df0ddf5cfc41116a69fdb8dba4ec2675fd2c239434a31171f158eba82208", func := "strongroom/strongroomlaw09.WireOnce", spec := "wireOnce", unfollowed := true, recurses := true, apart := false }
def WireOnceSaid : Prop := wireOnceRow.holds Try.pinned (OpenSpec.ofChange wireOnceSpec)

/-- ITS FALSE NEIGHBOUR: 'it returns false'. Refute it at one input. -/
def wireOnceWrong : ChangeSpec := { name := "wireOnce", fn := fun _ => fun
  | [d] => { results := [.lit (.bool false)], args := [d] }
  | _ => none }
def WireOnceWrongFalsely : Prop := wireOnceRow.holds Try.pinned (OpenSpec.ofChange wireOnceWrong)

/- THE SECOND FORM. 'bulk': how many values and letters a reading holds, each counted each time it is reached (what is shared counts as often as it is met; a slice's spare places count too). A statement '..UptoSaid' is the law's where the arguments, and the package variables that the reading takes, are together of bulk at most 1048576: NARROWER than '..Said'. Prove '..Said' where nothing that the law and all that it calls make is longer than what came in: it says more and counts as full. Else prove '..UptoSaid'. A law counts once. -/
mutual
def uptoBulk {H : Type} : DataW H → Nat
  | .lit (.string bytes) => bytes.length + 1
  | .lit _ => 1
  | .nil => 1
  | .ptr d => uptoBulk d + 1
  | .slice elems spare => uptoBulkAll elems + uptoBulkAll spare + 1
  | .agg parts => uptoBulkAll parts + 1
  | .iface _ d => uptoBulk d + 1
  | .map entries => uptoBulkEntries entries + 1
  | .held _ => 1
def uptoBulkAll {H : Type} : List (DataW H) → Nat
  | [] => 0
  | d :: r => uptoBulk d + uptoBulkAll r
def uptoBulkEntries {H : Type} : List (Lit × DataW H) → Nat
  | [] => 0
  | x :: r => uptoBulkEntry x + uptoBulkEntries r
def uptoBulkEntry {H : Type} : Lit × DataW H → Nat
  | (.string bytes, d) => bytes.length + uptoBulk d + 1
  | (_, d) => uptoBulk d + 1
 end
def uptoSmall : (H : Type) → List (DataW H) → Bool := fun _ ds => decide (uptoBulkAll ds ≤ 1048576)
def OpenSpec.upto (s : _root_.Go.ChangeSpec) : _root_.Go.OpenSpec := { _root_.Go.OpenSpec.ofChange s with cond := some uptoSmall }

/-- 'strongroomlaw10.DiskSure', WHERE WHAT IT READS IS OF BULK AT MOST 1048576: true; the input reads as it did. -/
def diskSureUptoRow : OpenClaim := { program := "ytjnmdphoaafjaaa", sum := "5635df0ddf5cfc41116a69fdb8dba4ec2675fd2c239434a31171f158eba82208", func := "strongroom/strongroomlaw10.DiskSure", spec := "diskSure", unfollowed := true, recurses := true, apart := false, narrowed := true }
def DiskSureUptoSaid : Prop := diskSureUptoRow.holds Try.pinned (OpenSpec.upto diskSureSpec)

/-- 'strongroomlaw10.DiskFuse', WHERE WHAT IT READS IS OF BULK AT MOST 1048576: true; the input reads as it did. -/
def diskFuseUptoRow : OpenClaim := { program := "ytjnmdphoaafjaaa", sum := "5635df0ddf5cfc41116a69fdb8dba4ec2675fd2c239434a31171f158eba82208", func := "strongroom/strongroomlaw10.DiskFuse", spec := "diskFuse", unfollowed := true, recurses := true, apart := false, narrowed := true }
def DiskFuseUptoSaid : Prop := diskFuseUptoRow.holds Try.pinned (OpenSpec.upto diskFuseSpec)

/-- 'strongroomlaw10.DiskFiles', WHERE WHAT IT READS IS OF BULK AT MOST 1048576: true; the input reads as it did. -/
def diskFilesUptoRow : OpenClaim := { program := "ytjnmdphoaafjaaa", sum := "5635df0ddf5cfc41116a69fdb8dba4ec2675fd2c239434a31171f158eba82208", func := "strongroom/strongroomlaw10.DiskFiles", spec := "diskFiles", unfollowed := true, recurses := true, apart := false, narrowed := true }
def DiskFilesUptoSaid : Prop := diskFilesUptoRow.holds Try.pinned (OpenSpec.upto diskFilesSpec)

/-- 'strongroomlaw10.DiskCuts', WHERE WHAT IT READS IS OF BULK AT MOST 1048576: true; the input reads as it did. -/
def diskCutsUptoRow : OpenClaim := { program := "ytjnmdphoaafjaaa", sum := "5635df0ddf5cfc41116a69fdb8dba4ec2675fd2c239434a31171f158eba82208", func := "strongroom/strongroomlaw10.DiskCuts", spec := "diskCuts", unfollowed := true, recurses := true, apart := false, narrowed := true }
def DiskCutsUptoSaid : Prop := diskCutsUptoRow.holds Try.pinned (OpenSpec.upto diskCutsSpec)

/-- 'strongroomlaw10.DiskPlays', WHERE WHAT IT READS IS OF BULK AT MOST 1048576: true; the input reads as it did. -/
def diskPlaysUptoRow : OpenClaim := { program := "ytjnmdphoaafjaaa", sum := "5635df0ddf5cfc41116a69fdb8dba4ec2675fd2c239434a31171f158eba82208", func := "strongroom/strongroomlaw10.DiskPlays", spec := "diskPlays", unfollowed := true, recurses := true, apart := false, narrowed := true }
def DiskPlaysUptoSaid : Prop := diskPlaysUptoRow.holds Try.pinned (OpenSpec.upto diskPlaysSpec)

/-- 'strongroomlaw09.WireCommands', WHERE WHAT IT READS IS OF BULK AT MOST 1048576: true; the input reads as it did. -/
def wireCommandsUptoRow : OpenClaim := { program := "ytjnmdphoaafjaaa", sum := "5635df0ddf5cfc41116a69fdb8dba4ec2675fd2c239434a31171f158eba82208", func := "strongroom/strongroomlaw09.WireCommands", spec := "wireCommands", unfollowed := true, recurses := true, apart := false, narrowed := true }
def WireCommandsUptoSaid : Prop := wireCommandsUptoRow.holds Try.pinned (OpenSpec.upto wireCommandsSpec)

/-- 'strongroomlaw09.WireLeast', WHERE WHAT IT READS IS OF BULK AT MOST 1048576: true; the input reads as it did. -/
def wireLeastUptoRow : OpenClaim := { program := "ytjnmdphoaafjaaa", sum := "5635df0ddf5cfc41116a69fdb8dba4ec2675fd2c239434a31171f158eba82208", func := "strongroom/strongroomlaw09.WireLeast", spec := "wireLeast", unfollowed := true, recurses := true, apart := false, narrowed := true }
def WireLeastUptoSaid : Prop := wireLeastUptoRow.holds Try.pinned (OpenSpec.upto wireLeastSpec)

/-- 'strongroomlaw09.WireApart', WHERE WHAT IT READS IS OF BULK AT MOST 1048576: true; the input reads as it did. -/
def wireApartUptoRow : OpenClaim := { program := "ytjnmdphoaafjaaa", sum := "5635df0ddf5cfc41116a69fdb8dba4ec2675fd2c239434a31171f158eba82208", func := "strongroom/strongroomlaw09.WireApart", spec := "wireApart", unfollowed := true, recurses := true, apart := false, narrowed := true }
def WireApartUptoSaid : Prop := wireApartUptoRow.holds Try.pinned (OpenSpec.upto wireApartSpec)

/-- 'strongroomlaw04.GcmXors', WHERE WHAT IT READS IS OF BULK AT MOST 1048576: true; the input reads as it did. -/
def gcmXorsUptoRow : OpenClaim := { program := "ytjnmdphoaafjaaa", sum := "5635df0ddf5cfc41116a69fdb8dba4ec2675fd2c239434a31171f158eba82208", func := "strongroom/strongroomlaw04.GcmXors", spec := "gcmXors", apart := false, narrowed := true }
def GcmXorsUptoSaid : Prop := gcmXorsUptoRow.holds Try.pinned (OpenSpec.upto gcmXorsSpec)

/-- 'strongroomlaw04.GcmTags', WHERE WHAT IT READS IS OF BULK AT MOST 1048576: true; the input reads as it did. -/
def gcmTagsUptoRow : OpenClaim := { program := "ytjnmdphoaafjaaa", sum := "5635df0ddf5cfc41116a69fdb8dba4ec2675fd2c239434a31171f158eba82208", func := "strongroom/strongroomlaw04.GcmTags", spec := "gcmTags", apart := false, narrowed := true }
def GcmTagsUptoSaid : Prop := gcmTagsUptoRow.holds Try.pinned (OpenSpec.upto gcmTagsSpec)

/-- 'strongroomlaw04.GcmSeals', WHERE WHAT IT READS IS OF BULK AT MOST 1048576: true; the input reads as it did. -/
def gcmSealsUptoRow : OpenClaim := { program := "ytjnmdphoaafjaaa", sum := "5635df0ddf5cfc41116a69fdb8dba4ec2675fd2c239434a31171f158eba82208", func := "strongroom/strongroomlaw04.GcmSeals", spec := "gcmSeals", apart := false, narrowed := true }
def GcmSealsUptoSaid : Prop := gcmSealsUptoRow.holds Try.pinned (OpenSpec.upto gcmSealsSpec)

/-- 'strongroomlaw04.GcmBack', WHERE WHAT IT READS IS OF BULK AT MOST 1048576: true; the input reads as it did. -/
def gcmBackUptoRow : OpenClaim := { program := "ytjnmdphoaafjaaa", sum := "5635df0ddf5cfc41116a69fdb8dba4ec2675fd2c239434a31171f158eba82208", func := "strongroom/strongroomlaw04.GcmBack", spec := "gcmBack", apart := false, narrowed := true }
def GcmBackUptoSaid : Prop := gcmBackUptoRow.holds Try.pinned (OpenSpec.upto gcmBackSpec)

/-- 'strongroomlaw04.GcmParts', WHERE WHAT IT READS IS OF BULK AT MOST 1048576: true; the input reads as it did. -/
def gcmPartsUptoRow : OpenClaim := { program := "ytjnmdphoaafjaaa", sum := "5635df0ddf5cfc41116a69fdb8dba4ec2675fd2c239434a31171f158eba82208", func := "strongroom/strongroomlaw04.GcmParts", spec := "gcmParts", apart := false, narrowed := true }
def GcmPartsUptoSaid : Prop := gcmPartsUptoRow.holds Try.pinned (OpenSpec.upto gcmPartsSpec)

/-- 'strongroomlaw04.GcmPieces', WHERE WHAT IT READS IS OF BULK AT MOST 1048576: true; the input reads as it did. -/
def gcmPiecesUptoRow : OpenClaim := { program := "ytjnmdphoaafjaaa", sum := "5635df0ddf5cfc41116a69fdb8dba4ec2675fd2c239434a31171f158eba82208", func := "strongroom/strongroomlaw04.GcmPieces", spec := "gcmPieces", apart := false, narrowed := true }
def GcmPiecesUptoSaid : Prop := gcmPiecesUptoRow.holds Try.pinned (OpenSpec.upto gcmPiecesSpec)

/-- 'strongroomlaw04.GcmLengths', WHERE WHAT IT READS IS OF BULK AT MOST 1048576: true; the input reads as it did. -/
def gcmLengthsUptoRow : OpenClaim := { program := "ytjnmdphoaafjaaa", sum := "5635df0ddf5cfc41116a69fdb8dba4ec2675fd2c239434a31171f158eba82208", func := "strongroom/strongroomlaw04.GcmLengths", spec := "gcmLengths", apart := false, narrowed := true }
def GcmLengthsUptoSaid : Prop := gcmLengthsUptoRow.holds Try.pinned (OpenSpec.upto gcmLengthsSpec)

/-- 'strongroomlaw09.WireReplies', WHERE WHAT IT READS IS OF BULK AT MOST 1048576: true; the input reads as it did. -/
def wireRepliesUptoRow : OpenClaim := { program := "ytjnmdphoaafjaaa", sum := "5635df0ddf5cfc41116a69fdb8dba4ec2675fd2c239434a31171f158eba82208", func := "strongroom/strongroomlaw09.WireReplies", spec := "wireReplies", unfollowed := true, recurses := true, apart := false, narrowed := true }
def WireRepliesUptoSaid : Prop := wireRepliesUptoRow.holds Try.pinned (OpenSpec.upto wireRepliesSpec)

/-- 'strongroomlaw09.WireEntries', WHERE WHAT IT READS IS OF BULK AT MOST 1048576: true; the input reads as it did. -/
def wireEntriesUptoRow : OpenClaim := { program := "ytjnmdphoaafjaaa", sum := "5635df0ddf5cfc41116a69fdb8dba4ec2675fd2c239434a31171f158eba82208", func := "strongroom/strongroomlaw09.WireEntries", spec := "wireEntries", unfollowed := true, recurses := true, apart := false, narrowed := true }
def WireEntriesUptoSaid : Prop := wireEntriesUptoRow.holds Try.pinned (OpenSpec.upto wireEntriesSpec)

/-- 'strongroomlaw09.WireBack', WHERE WHAT IT READS IS OF BULK AT MOST 1048576: true; the input reads as it did. -/
def wireBackUptoRow : OpenClaim := { program := "ytjnmdphoaafjaaa", sum := "5635df0ddf5cfc41116a69fdb8dba4ec2675fd2c239434a31171f158eba82208", func := "strongroom/strongroomlaw09.WireBack", spec := "wireBack", unfollowed := true, recurses := true, apart := false, narrowed := true }
def WireBackUptoSaid : Prop := wireBackUptoRow.holds Try.pinned (OpenSpec.upto wireBackSpec)

/-- 'strongroomlaw09.WireOnce', WHERE WHAT IT READS IS OF BULK AT MOST 1048576: true; the input reads as it did. -/
def wireOnceUptoRow : OpenClaim := { program := "ytjnmdphoaafjaaa", sum := "5635df0ddf5cfc41116a69fdb8dba4ec2675fd2c239434a31171f158eba82208", func := "strongroom/strongroomlaw09.WireOnce", spec := "wireOnce", unfollowed := true, recurses := true, apart := false, narrowed := true }
def WireOnceUptoSaid : Prop := wireOnceUptoRow.holds Try.pinned (OpenSpec.upto wireOnceSpec)

end Rows
end Go.Proofs.Ytjnmdphoaafjaaa
