/-
  NARROWER THAN 'FOR EVERY INPUT', by the rows' own cells (each row's printed sentence says how): DrbgOf: laid · DrbgBytes: laid · DrbgSeeds: laid · DrbgRefuses: laid · DrbgPlays: laid · VaultKeys: laid · VaultApart: laid · VaultSeals: laid · VaultBack: laid · VaultSizes: laid · JournalPuts: laid · JournalScans: laid · JournalFolds: laid · JournalBack: laid · JournalRows: laid · JournalBases: laid.
  DERIVED. THE GIVEN ROWS OF THIS SEAT. 16 by the template 'for every input the law returns true; each argument reads behind the call as it read before'; 0 by the template 'total and deterministic' (their statements: YtddeffdgldjdjaaDoorTotals.lean).
  GIVEN WITH THE SEED: the statements are not yours to turn. If you find one false, say at which input.
  Laid BY PROGRAM, IN A SANDBOX (cutbox-rows.mjs): the forced cells as the released guide's own fill.sh prints them over the translation fec4873fd6a23071… (all of the seat's roots in one cut). By AI agents, Wed Nov 11 2026. No macro, syntax, notation, axiom, sorry.
-/
import Derived.Test.YtddeffdgldjdjaaDoorChecked
import GoSem.Claim
import GoSem.ClaimJoined
import GoSem.ClaimMapViews
import Derived.JoinedTies
import Derived.KernelRfl
namespace Go.Proofs.YtddeffdgldjdjaaDoor
/- THE CELL 'sum', in the pinned program and in every row, IS THE sha256 OF THE DUMP (.gsa) THAT YtddeffdgldjdjaaDoorProg.lean LOADS. Nothing in Lean hashes anything: it is a label: what it is worth is what the hold of that sum in a sandbox is worth. -/
noncomputable def Tryd.pinned : Pinned := { name := "ytddeffdgldjdjaadoor", sum := "fec4873fd6a2307132114ddd67e1b743653e9a24c57b55f07a6de1918ae1519c", checked := Tryd.checked }
namespace Rows
def none {H : Type} : Left H := { results := [], args := [] }

/- WHAT THE LISTED PACKAGE-LEVEL VARIABLES READ AS WHEN THE CALL BEGINS. Each datum BY PROGRAM (the guide's laid-datum.mjs) off the statement by which the dump's own 'gosem.cut.vars' lays the variable. In a bare row this is a premise. The card (YtddeffdgldjdjaaDoorCards.lean) ties it to the program's text. -/
def laid_strongroom_sha_add {H : Type} : DataW H := .agg [.lit (.int .u32 1116352408), .lit (.int .u32 1899447441), .lit (.int .u32 3049323471), .lit (.int .u32 3921009573), .lit (.int .u32 961987163), .lit (.int .u32 1508970993), .lit (.int .u32 2453635748), .lit (.int .u32 2870763221), .lit (.int .u32 3624381080), .lit (.int .u32 310598401), .lit (.int .u32 607225278), .lit (.int .u32 1426881987), .lit (.int .u32 1925078388), .lit (.int .u32 2162078206), .lit (.int .u32 2614888103), .lit (.int .u32 3248222580), .lit (.int .u32 3835390401), .lit (.int .u32 4022224774), .lit (.int .u32 264347078), .lit (.int .u32 604807628), .lit (.int .u32 770255983), .lit (.int .u32 1249150122), .lit (.int .u32 1555081692), .lit (.int .u32 1996064986), .lit (.int .u32 2554220882), .lit (.int .u32 2821834349), .lit (.int .u32 2952996808), .lit (.int .u32 3210313671), .lit (.int .u32 3336571891), .lit (.int .u32 3584528711), .lit (.int .u32 113926993), .lit (.int .u32 338241895), .lit (.int .u32 666307205), .lit (.int .u32 773529912), .lit (.int .u32 1294757372), .lit (.int .u32 1396182291), .lit (.int .u32 1695183700), .lit (.int .u32 1986661051), .lit (.int .u32 2177026350), .lit (.int .u32 2456956037), .lit (.int .u32 2730485921), .lit (.int .u32 2820302411), .lit (.int .u32 3259730800), .lit (.int .u32 3345764771), .lit (.int .u32 3516065817), .lit (.int .u32 3600352804), .lit (.int .u32 4094571909), .lit (.int .u32 275423344), .lit (.int .u32 430227734), .lit (.int .u32 506948616), .lit (.int .u32 659060556), .lit (.int .u32 883997877), .lit (.int .u32 958139571), .lit (.int .u32 1322822218), .lit (.int .u32 1537002063), .lit (.int .u32 1747873779), .lit (.int .u32 1955562222), .lit (.int .u32 2024104815), .lit (.int .u32 2227730452), .lit (.int .u32 2361852424), .lit (.int .u32 2428436474), .lit (.int .u32 2756734187), .lit (.int .u32 3204031479), .lit (.int .u32 3329325298)]

/-- 'strongroomlaw07.DrbgOf': WHATEVER THE INPUT: true; the input reads as it did. -/
def drbgOfSpec : ChangeSpec := { name := "drbgOf", fn := fun _ => fun
  | [d1, d2, d3] => { results := [.lit (.bool true)], args := [d1, d2, d3] }
  | _ => none }
def drbgOfRow : OpenClaim := { program := "ytddeffdgldjdjaadoor", sum := "fec4873fd6a2307132114ddd67e1b743653e9a24c57b55f07a6de1918ae1519c", func := "strongroom/strongroomlaw07.DrbgOf", spec := "drbgOf", named := ["strongroom/sha.add"], apart := false, laid := [("strongroom/sha.add", laid_strongroom_sha_add)] }
def DrbgOfSaid : Prop := drbgOfRow.holds Tryd.pinned (OpenSpec.ofChange drbgOfSpec)

/-- ITS FALSE NEIGHBOUR: 'it returns false'. Refute it at one input. -/
def drbgOfWrong : ChangeSpec := { name := "drbgOf", fn := fun _ => fun
  | [d1, d2, d3] => { results := [.lit (.bool false)], args := [d1, d2, d3] }
  | _ => none }
def DrbgOfWrongFalsely : Prop := drbgOfRow.holds Tryd.pinned (OpenSpec.ofChange drbgOfWrong)

/-- 'strongroomlaw07.DrbgBytes': WHATEVER THE INPUT: true; the input reads as it did. -/
def drbgBytesSpec : ChangeSpec := { name := "drbgBytes", fn := fun _ => fun
  | [d1, d2, d3] => { results := [.lit (.bool true)], args := [d1, d2, d3] }
  | _ => none }
def drbgBytesRow : OpenClaim := { program := "ytddeffdgldjdjaadoor", sum := "fec4873fd6a2307132114ddd67e1b743653e9a24c57b55f07a6de1918ae1519c", func := "strongroom/strongroomlaw07.DrbgBytes", spec := "drbgBytes", named := ["strongroom/sha.add"], apart := false, laid := [("strongroom/sha.add", laid_strongroom_sha_add)] }
def DrbgBytesSaid : Prop := drbgBytesRow.holds Tryd.pinned (OpenSpec.ofChange drbgBytesSpec)

/-- ITS FALSE NEIGHBOUR: 'it returns false'. Refute it at one input. -/
def drbgBytesWrong : ChangeSpec := { name := "drbgBytes", fn := fun _ => fun
  | [d1, d2, d3] => { results := [.lit (.bool false)], args := [d1, d2, d3] }
  | _ => none }
def DrbgBytesWrongFalsely : Prop := drbgBytesRow.holds Tryd.pinned (OpenSpec.ofChange drbgBytesWrong)

/-- 'strongroomlaw07.DrbgSeeds': WHATEVER THE INPUT: true; the input reads as it did. -/
def drbgSeedsSpec : ChangeSpec := { name := "drbgSeeds", fn := fun _ => fun
  | [d1, d2, d3] => { results := [.lit (.bool true)], args := [d1, d2, d3] }
  | _ => none }
def drbgSeedsRow : OpenClaim := { program := "ytddeffdgldjdjaadoor", sum := "fec4873fd6a2307132114ddd67e1b743653e9a24c57b55f07a6de1918ae1519c", func := "strongroom/strongroomlaw07.DrbgSeeds", spec := "drbgSeeds", named := ["strongroom/sha.add"], apart := false, laid := [("strongroom/sha.add", laid_strongroom_sha_add)] }
def DrbgSeedsSaid : Prop := drbgSeedsRow.holds Tryd.pinned (OpenSpec.ofChange drbgSeedsSpec)

/-- ITS FALSE NEIGHBOUR: 'it returns false'. Refute it at one input. -/
def drbgSeedsWrong : ChangeSpec := { name := "drbgSeeds", fn := fun _ => fun
  | [d1, d2, d3] => { results := [.lit (.bool false)], args := [d1, d2, d3] }
  | _ => none }
def DrbgSeedsWrongFalsely : Prop := drbgSeedsRow.holds Tryd.pinned (OpenSpec.ofChange drbgSeedsWrong)

/-- 'strongroomlaw07.DrbgRefuses': WHATEVER THE INPUT: true; the input reads as it did. -/
def drbgRefusesSpec : ChangeSpec := { name := "drbgRefuses", fn := fun _ => fun
  | [d1, d2, d3] => { results := [.lit (.bool true)], args := [d1, d2, d3] }
  | _ => none }
def drbgRefusesRow : OpenClaim := { program := "ytddeffdgldjdjaadoor", sum := "fec4873fd6a2307132114ddd67e1b743653e9a24c57b55f07a6de1918ae1519c", func := "strongroom/strongroomlaw07.DrbgRefuses", spec := "drbgRefuses", named := ["strongroom/sha.add"], apart := false, laid := [("strongroom/sha.add", laid_strongroom_sha_add)] }
def DrbgRefusesSaid : Prop := drbgRefusesRow.holds Tryd.pinned (OpenSpec.ofChange drbgRefusesSpec)

/-- ITS FALSE NEIGHBOUR: 'it returns false'. Refute it at one input. -/
def drbgRefusesWrong : ChangeSpec := { name := "drbgRefuses", fn := fun _ => fun
  | [d1, d2, d3] => { results := [.lit (.bool false)], args := [d1, d2, d3] }
  | _ => none }
def DrbgRefusesWrongFalsely : Prop := drbgRefusesRow.holds Tryd.pinned (OpenSpec.ofChange drbgRefusesWrong)

/-- 'strongroomlaw07.DrbgPlays': WHATEVER THE INPUT: true; the input reads as it did. -/
def drbgPlaysSpec : ChangeSpec := { name := "drbgPlays", fn := fun _ => fun
  | [d1, d2] => { results := [.lit (.bool true)], args := [d1, d2] }
  | _ => none }
def drbgPlaysRow : OpenClaim := { program := "ytddeffdgldjdjaadoor", sum := "fec4873fd6a2307132114ddd67e1b743653e9a24c57b55f07a6de1918ae1519c", func := "strongroom/strongroomlaw07.DrbgPlays", spec := "drbgPlays", named := ["strongroom/sha.add"], apart := false, laid := [("strongroom/sha.add", laid_strongroom_sha_add)] }
def DrbgPlaysSaid : Prop := drbgPlaysRow.holds Tryd.pinned (OpenSpec.ofChange drbgPlaysSpec)

/-- ITS FALSE NEIGHBOUR: 'it returns false'. Refute it at one input. -/
def drbgPlaysWrong : ChangeSpec := { name := "drbgPlays", fn := fun _ => fun
  | [d1, d2] => { results := [.lit (.bool false)], args := [d1, d2] }
  | _ => none }
def DrbgPlaysWrongFalsely : Prop := drbgPlaysRow.holds Tryd.pinned (OpenSpec.ofChange drbgPlaysWrong)

/-- 'strongroomlaw12.VaultKeys': WHATEVER THE INPUT: true; the input reads as it did. -/
def vaultKeysSpec : ChangeSpec := { name := "vaultKeys", fn := fun _ => fun
  | [d1, d2] => { results := [.lit (.bool true)], args := [d1, d2] }
  | _ => none }
def vaultKeysRow : OpenClaim := { program := "ytddeffdgldjdjaadoor", sum := "fec4873fd6a2307132114ddd67e1b743653e9a24c57b55f07a6de1918ae1519c", func := "strongroom/strongroomlaw12.VaultKeys", spec := "vaultKeys", named := ["strongroom/sha.add"], apart := false, laid := [("strongroom/sha.add", laid_strongroom_sha_add)] }
def VaultKeysSaid : Prop := vaultKeysRow.holds Tryd.pinned (OpenSpec.ofChange vaultKeysSpec)

/-- ITS FALSE NEIGHBOUR: 'it returns false'. Refute it at one input. -/
def vaultKeysWrong : ChangeSpec := { name := "vaultKeys", fn := fun _ => fun
  | [d1, d2] => { results := [.lit (.bool false)], args := [d1, d2] }
  | _ => none }
def VaultKeysWrongFalsely : Prop := vaultKeysRow.holds Tryd.pinned (OpenSpec.ofChange vaultKeysWrong)

/-- 'strongroomlaw12.VaultApart': WHATEVER THE INPUT: true; the input reads as it did. -/
def vaultApartSpec : ChangeSpec := { name := "vaultApart", fn := fun _ => fun
  | [d1, d2] => { results := [.lit (.bool true)], args := [d1, d2] }
  | _ => none }
def vaultApartRow : OpenClaim := { program := "ytddeffdgldjdjaadoor", sum := "fec4873fd6a2307132114ddd67e1b743653e9a24c57b55f07a6de1918ae1519c", func := "strongroom/strongroomlaw12.VaultApart", spec := "vaultApart", named := ["strongroom/sha.add"], apart := false, laid := [("strongroom/sha.add", laid_strongroom_sha_add)] }
def VaultApartSaid : Prop := vaultApartRow.holds Tryd.pinned (OpenSpec.ofChange vaultApartSpec)

/-- ITS FALSE NEIGHBOUR: 'it returns false'. Refute it at one input. -/
def vaultApartWrong : ChangeSpec := { name := "vaultApart", fn := fun _ => fun
  | [d1, d2] => { results := [.lit (.bool false)], args := [d1, d2] }
  | _ => none }
def VaultApartWrongFalsely : Prop := vaultApartRow.holds Tryd.pinned (OpenSpec.ofChange vaultApartWrong)

/-- 'strongroomlaw12.VaultSeals': WHATEVER THE INPUT: true; the input reads as it did. -/
def vaultSealsSpec : ChangeSpec := { name := "vaultSeals", fn := fun _ => fun
  | [d1, d2, d3] => { results := [.lit (.bool true)], args := [d1, d2, d3] }
  | _ => none }
def vaultSealsRow : OpenClaim := { program := "ytddeffdgldjdjaadoor", sum := "fec4873fd6a2307132114ddd67e1b743653e9a24c57b55f07a6de1918ae1519c", func := "strongroom/strongroomlaw12.VaultSeals", spec := "vaultSeals", named := ["strongroom/sha.add"], apart := false, laid := [("strongroom/sha.add", laid_strongroom_sha_add)] }
def VaultSealsSaid : Prop := vaultSealsRow.holds Tryd.pinned (OpenSpec.ofChange vaultSealsSpec)

/-- ITS FALSE NEIGHBOUR: 'it returns false'. Refute it at one input. -/
def vaultSealsWrong : ChangeSpec := { name := "vaultSeals", fn := fun _ => fun
  | [d1, d2, d3] => { results := [.lit (.bool false)], args := [d1, d2, d3] }
  | _ => none }
def VaultSealsWrongFalsely : Prop := vaultSealsRow.holds Tryd.pinned (OpenSpec.ofChange vaultSealsWrong)

/-- 'strongroomlaw12.VaultBack': WHATEVER THE INPUT: true; the input reads as it did. -/
def vaultBackSpec : ChangeSpec := { name := "vaultBack", fn := fun _ => fun
  | [d1, d2, d3] => { results := [.lit (.bool true)], args := [d1, d2, d3] }
  | _ => none }
def vaultBackRow : OpenClaim := { program := "ytddeffdgldjdjaadoor", sum := "fec4873fd6a2307132114ddd67e1b743653e9a24c57b55f07a6de1918ae1519c", func := "strongroom/strongroomlaw12.VaultBack", spec := "vaultBack", named := ["strongroom/sha.add"], apart := false, laid := [("strongroom/sha.add", laid_strongroom_sha_add)] }
def VaultBackSaid : Prop := vaultBackRow.holds Tryd.pinned (OpenSpec.ofChange vaultBackSpec)

/-- ITS FALSE NEIGHBOUR: 'it returns false'. Refute it at one input. -/
def vaultBackWrong : ChangeSpec := { name := "vaultBack", fn := fun _ => fun
  | [d1, d2, d3] => { results := [.lit (.bool false)], args := [d1, d2, d3] }
  | _ => none }
def VaultBackWrongFalsely : Prop := vaultBackRow.holds Tryd.pinned (OpenSpec.ofChange vaultBackWrong)

/-- 'strongroomlaw12.VaultSizes': WHATEVER THE INPUT: true; the input reads as it did. -/
def vaultSizesSpec : ChangeSpec := { name := "vaultSizes", fn := fun _ => fun
  | [d1, d2, d3] => { results := [.lit (.bool true)], args := [d1, d2, d3] }
  | _ => none }
def vaultSizesRow : OpenClaim := { program := "ytddeffdgldjdjaadoor", sum := "fec4873fd6a2307132114ddd67e1b743653e9a24c57b55f07a6de1918ae1519c", func := "strongroom/strongroomlaw12.VaultSizes", spec := "vaultSizes", named := ["strongroom/sha.add"], apart := false, laid := [("strongroom/sha.add", laid_strongroom_sha_add)] }
def VaultSizesSaid : Prop := vaultSizesRow.holds Tryd.pinned (OpenSpec.ofChange vaultSizesSpec)

/-- ITS FALSE NEIGHBOUR: 'it returns false'. Refute it at one input. -/
def vaultSizesWrong : ChangeSpec := { name := "vaultSizes", fn := fun _ => fun
  | [d1, d2, d3] => { results := [.lit (.bool false)], args := [d1, d2, d3] }
  | _ => none }
def VaultSizesWrongFalsely : Prop := vaultSizesRow.holds Tryd.pinned (OpenSpec.ofChange vaultSizesWrong)

/-- 'strongroomlaw11.JournalPuts': WHATEVER THE INPUT: true; the input reads as it did. -/
def journalPutsSpec : ChangeSpec := { name := "journalPuts", fn := fun _ => fun
  | [d1, d2] => { results := [.lit (.bool true)], args := [d1, d2] }
  | _ => none }
def journalPutsRow : OpenClaim := { program := "ytddeffdgldjdjaadoor", sum := "fec4873fd6a2307132114ddd67e1b743653e9a24c57b55f07a6de1918ae1519c", func := "strongroom/strongroomlaw11.JournalPuts", spec := "journalPuts", unfollowed := true, recurses := true, named := ["strongroom/sha.add"], apart := false, laid := [("strongroom/sha.add", laid_strongroom_sha_add)] }
def JournalPutsSaid : Prop := journalPutsRow.holds Tryd.pinned (OpenSpec.ofChange journalPutsSpec)

/-- ITS FALSE NEIGHBOUR: 'it returns false'. Refute it at one input. -/
def journalPutsWrong : ChangeSpec := { name := "journalPuts", fn := fun _ => fun
  | [d1, d2] => { results := [.lit (.bool false)], args := [d1, d2] }
  | _ => none }
def JournalPutsWrongFalsely : Prop := journalPutsRow.holds Tryd.pinned (OpenSpec.ofChange journalPutsWrong)

/-- 'strongroomlaw11.JournalScans': WHATEVER THE INPUT: true; the input reads as it did. -/
def journalScansSpec : ChangeSpec := { name := "journalScans", fn := fun _ => fun
  | [d] => { results := [.lit (.bool true)], args := [d] }
  | _ => none }
def journalScansRow : OpenClaim := { program := "ytddeffdgldjdjaadoor", sum := "fec4873fd6a2307132114ddd67e1b743653e9a24c57b55f07a6de1918ae1519c", func := "strongroom/strongroomlaw11.JournalScans", spec := "journalScans", unfollowed := true, recurses := true, named := ["strongroom/sha.add"], apart := false, laid := [("strongroom/sha.add", laid_strongroom_sha_add)] }
def JournalScansSaid : Prop := journalScansRow.holds Tryd.pinned (OpenSpec.ofChange journalScansSpec)

/-- ITS FALSE NEIGHBOUR: 'it returns false'. Refute it at one input. -/
def journalScansWrong : ChangeSpec := { name := "journalScans", fn := fun _ => fun
  | [d] => { results := [.lit (.bool false)], args := [d] }
  | _ => none }
def JournalScansWrongFalsely : Prop := journalScansRow.holds Tryd.pinned (OpenSpec.ofChange journalScansWrong)

/-- 'strongroomlaw11.JournalFolds': WHATEVER THE INPUT: true; the input reads as it did. -/
def journalFoldsSpec : ChangeSpec := { name := "journalFolds", fn := fun _ => fun
  | [d] => { results := [.lit (.bool true)], args := [d] }
  | _ => none }
def journalFoldsRow : OpenClaim := { program := "ytddeffdgldjdjaadoor", sum := "fec4873fd6a2307132114ddd67e1b743653e9a24c57b55f07a6de1918ae1519c", func := "strongroom/strongroomlaw11.JournalFolds", spec := "journalFolds", unfollowed := true, recurses := true, named := ["strongroom/sha.add"], apart := false, laid := [("strongroom/sha.add", laid_strongroom_sha_add)] }
def JournalFoldsSaid : Prop := journalFoldsRow.holds Tryd.pinned (OpenSpec.ofChange journalFoldsSpec)

/-- ITS FALSE NEIGHBOUR: 'it returns false'. Refute it at one input. -/
def journalFoldsWrong : ChangeSpec := { name := "journalFolds", fn := fun _ => fun
  | [d] => { results := [.lit (.bool false)], args := [d] }
  | _ => none }
def JournalFoldsWrongFalsely : Prop := journalFoldsRow.holds Tryd.pinned (OpenSpec.ofChange journalFoldsWrong)

/-- 'strongroomlaw11.JournalBack': WHATEVER THE INPUT: true; the input reads as it did. -/
def journalBackSpec : ChangeSpec := { name := "journalBack", fn := fun _ => fun
  | [d1, d2, d3] => { results := [.lit (.bool true)], args := [d1, d2, d3] }
  | _ => none }
def journalBackRow : OpenClaim := { program := "ytddeffdgldjdjaadoor", sum := "fec4873fd6a2307132114ddd67e1b743653e9a24c57b55f07a6de1918ae1519c", func := "strongroom/strongroomlaw11.JournalBack", spec := "journalBack", unfollowed := true, recurses := true, named := ["strongroom/sha.add"], apart := false, laid := [("strongroom/sha.add", laid_strongroom_sha_add)] }
def JournalBackSaid : Prop := journalBackRow.holds Tryd.pinned (OpenSpec.ofChange journalBackSpec)

/-- ITS FALSE NEIGHBOUR: 'it returns false'. Refute it at one input. -/
def journalBackWrong : ChangeSpec := { name := "journalBack", fn := fun _ => fun
  | [d1, d2, d3] => { results := [.lit (.bool false)], args := [d1, d2, d3] }
  | _ => none }
def JournalBackWrongFalsely : Prop := journalBackRow.holds Tryd.pinned (OpenSpec.ofChange journalBackWrong)

/-- 'strongroomlaw11.JournalRows': WHATEVER THE INPUT: true; the input reads as it did. -/
def journalRowsSpec : ChangeSpec := { name := "journalRows", fn := fun _ => fun
  | [d1, d2, d3] => { results := [.lit (.bool true)], args := [d1, d2, d3] }
  | _ => none }
def journalRowsRow : OpenClaim := { program := "ytddeffdgldjdjaadoor", sum := "fec4873fd6a2307132114ddd67e1b743653e9a24c57b55f07a6de1918ae1519c", func := "strongroom/strongroomlaw11.JournalRows", spec := "journalRows", unfollowed := true, recurses := true, named := ["strongroom/sha.add"], apart := false, laid := [("strongroom/sha.add", laid_strongroom_sha_add)] }
def JournalRowsSaid : Prop := journalRowsRow.holds Tryd.pinned (OpenSpec.ofChange journalRowsSpec)

/-- ITS FALSE NEIGHBOUR: 'it returns false'. Refute it at one input. -/
def journalRowsWrong : ChangeSpec := { name := "journalRows", fn := fun _ => fun
  | [d1, d2, d3] => { results := [.lit (.bool false)], args := [d1, d2, d3] }
  | _ => none }
def JournalRowsWrongFalsely : Prop := journalRowsRow.holds Tryd.pinned (OpenSpec.ofChange journalRowsWrong)

/-- 'strongroomlaw11.JournalBases': WHATEVER THE INPUT: true; the input reads as it did. -/
def journalBasesSpec : ChangeSpec := { name := "journalBases", fn := fun _ => fun
  | [d1, d2, d3] => { results := [.lit (.bool true)], args := [d1, d2, d3] }
  | _ => none }
def journalBasesRow : OpenClaim := { program := "ytddeffdgldjdjaadoor", sum := "fec4873fd6a2307132114ddd67e1b743653e9a24c57b55f07a6de1918ae1519c", func := "strongroom/strongroomlaw11.JournalBases", spec := "journalBases", unfollowed := true, recurses := true, named := ["strongroom/sha.add"], apart := false, laid := [("strongroom/sha.add", laid_strongroom_sha_add)] }
def JournalBasesSaid : Prop := journalBasesRow.holds Tryd.pinned (OpenSpec.ofChange journalBasesSpec)

/-- ITS FALSE NEIGHBOUR: 'it returns false'. Refute it at one input. -/
def journalBasesWrong : ChangeSpec := { name := "journalBases", fn := fun _ => fun
  | [d1, d2, d3] => { results := [.lit (.bool false)], args := [d1, d2, d3] }
  | _ => none }
def JournalBasesWrongFalsely : Prop := journalBasesRow.holds Tryd.pinned (OpenSpec.ofChange journalBasesWrong)

/- THE SECOND FORM. 'bulk': how many values and letters a reading holds, each counted each time it is reached (what is shared counts as often as it is met; a slice's spare places count too). A statement '..UptoSaid' is the law's where the arguments, and the package variables that the reading takes, are together of bulk at most 1048576: NARROWER than '..Said'. Prove '..Said' where nothing that the law and all that it calls make is longer than what came in: it says more and counts as full. Else prove '..UptoSaid'. A law counts once. -/
mutual
def uptoBulk {H : Type} : DataW H → Nat
  | .lit (.string bytes) => bytes.length + 1
  | .lit _ => 1
  | .nil => 1
  | .ptr d => uptoBulk d + 1
  | .slice elems spare => uptoBulkAll elems + uptoBulkAll spare + 1
  | .agg parts => uptoBulkAll parts + 1
  | .iface _ d => uptoBulk d + 1
  | .map entries => uptoBulkEntries entries + 1
  | .held _ => 1
def uptoBulkAll {H : Type} : List (DataW H) → Nat
  | [] => 0
  | d :: r => uptoBulk d + uptoBulkAll r
def uptoBulkEntries {H : Type} : List (Lit × DataW H) → Nat
  | [] => 0
  | x :: r => uptoBulkEntry x + uptoBulkEntries r
def uptoBulkEntry {H : Type} : Lit × DataW H → Nat
  | (.string bytes, d) => bytes.length + uptoBulk d + 1
  | (_, d) => uptoBulk d + 1
 end
def uptoSmall : (H : Type) → List (DataW H) → Bool := fun _ ds => decide (uptoBulkAll ds ≤ 1048576)
def OpenSpec.upto (s : _root_.Go.ChangeSpec) : _root_.Go.OpenSpec := { _root_.Go.OpenSpec.ofChange s with cond := some uptoSmall }

/-- 'strongroomlaw07.DrbgOf', WHERE WHAT IT READS IS OF BULK AT MOST 1048576: true; the input reads as it did. -/
def drbgOfUptoRow : OpenClaim := { program := "ytddeffdgldjdjaadoor", sum := "fec4873fd6a2307132114ddd67e1b743653e9a24c57b55f07a6de1918ae1519c", func := "strongroom/strongroomlaw07.DrbgOf", spec := "drbgOf", named := ["strongroom/sha.add"], apart := false, laid := [("strongroom/sha.add", laid_strongroom_sha_add)], narrowed := true }
def DrbgOfUptoSaid : Prop := drbgOfUptoRow.holds Tryd.pinned (OpenSpec.upto drbgOfSpec)

/-- 'strongroomlaw07.DrbgBytes', WHERE WHAT IT READS IS OF BULK AT MOST 1048576: true; the input reads as it did. -/
def drbgBytesUptoRow : OpenClaim := { program := "ytddeffdgldjdjaadoor", sum := "fec4873fd6a2307132114ddd67e1b743653e9a24c57b55f07a6de1918ae1519c", func := "strongroom/strongroomlaw07.DrbgBytes", spec := "drbgBytes", named := ["strongroom/sha.add"], apart := false, laid := [("strongroom/sha.add", laid_strongroom_sha_add)], narrowed := true }
def DrbgBytesUptoSaid : Prop := drbgBytesUptoRow.holds Tryd.pinned (OpenSpec.upto drbgBytesSpec)

/-- 'strongroomlaw07.DrbgSeeds', WHERE WHAT IT READS IS OF BULK AT MOST 1048576: true; the input reads as it did. -/
def drbgSeedsUptoRow : OpenClaim := { program := "ytddeffdgldjdjaadoor", sum := "fec4873fd6a2307132114ddd67e1b743653e9a24c57b55f07a6de1918ae1519c", func := "strongroom/strongroomlaw07.DrbgSeeds", spec := "drbgSeeds", named := ["strongroom/sha.add"], apart := false, laid := [("strongroom/sha.add", laid_strongroom_sha_add)], narrowed := true }
def DrbgSeedsUptoSaid : Prop := drbgSeedsUptoRow.holds Tryd.pinned (OpenSpec.upto drbgSeedsSpec)

/-- 'strongroomlaw07.DrbgRefuses', WHERE WHAT IT READS IS OF BULK AT MOST 1048576: true; the input reads as it did. -/
def drbgRefusesUptoRow : OpenClaim := { program := "ytddeffdgldjdjaadoor", sum := "fec4873fd6a2307132114ddd67e1b743653e9a24c57b55f07a6de1918ae1519c", func := "strongroom/strongroomlaw07.DrbgRefuses", spec := "drbgRefuses", named := ["strongroom/sha.add"], apart := false, laid := [("strongroom/sha.add", laid_strongroom_sha_add)], narrowed := true }
def DrbgRefusesUptoSaid : Prop := drbgRefusesUptoRow.holds Tryd.pinned (OpenSpec.upto drbgRefusesSpec)

/-- 'strongroomlaw07.DrbgPlays', WHERE WHAT IT READS IS OF BULK AT MOST 1048576: true; the input reads as it did. -/
def drbgPlaysUptoRow : OpenClaim := { program := "ytddeffdgldjdjaadoor", sum := "fec4873fd6a2307132114ddd67e1b743653e9a24c57b55f07a6de1918ae1519c", func := "strongroom/strongroomlaw07.DrbgPlays", spec := "drbgPlays", named := ["strongroom/sha.add"], apart := false, laid := [("strongroom/sha.add", laid_strongroom_sha_add)], narrowed := true }
def DrbgPlaysUptoSaid : Prop := drbgPlaysUptoRow.holds Tryd.pinned (OpenSpec.upto drbgPlaysSpec)

/-- 'strongroomlaw12.VaultKeys', WHERE WHAT IT READS IS OF BULK AT MOST 1048576: true; the input reads as it did. -/
def vaultKeysUptoRow : OpenClaim := { program := "ytddeffdgldjdjaadoor", sum := "fec4873fd6a2307132114ddd67e1b743653e9a24c57b55f07a6de1918ae1519c", func := "strongroom/strongroomlaw12.VaultKeys", spec := "vaultKeys", named := ["strongroom/sha.add"], apart := false, laid := [("strongroom/sha.add", laid_strongroom_sha_add)], narrowed := true }
def VaultKeysUptoSaid : Prop := vaultKeysUptoRow.holds Tryd.pinned (OpenSpec.upto vaultKeysSpec)

/-- 'strongroomlaw12.VaultApart', WHERE WHAT IT READS IS OF BULK AT MOST 1048576: true; the input reads as it did. -/
def vaultApartUptoRow : OpenClaim := { program := "ytddeffdgldjdjaadoor", sum := "fec4873fd6a2307132114ddd67e1b743653e9a24c57b55f07a6de1918ae1519c", func := "strongroom/strongroomlaw12.VaultApart", spec := "vaultApart", named := ["strongroom/sha.add"], apart := false, laid := [("strongroom/sha.add", laid_strongroom_sha_add)], narrowed := true }
def VaultApartUptoSaid : Prop := vaultApartUptoRow.holds Tryd.pinned (OpenSpec.upto vaultApartSpec)

/-- 'strongroomlaw12.VaultSeals', WHERE WHAT IT READS IS OF BULK AT MOST 1048576: true; the input reads as it did. -/
def vaultSealsUptoRow : OpenClaim := { program := "ytddeffdgldjdjaadoor", sum := "fec4873fd6a2307132114ddd67e1b743653e9a24c57b55f07a6de1918ae1519c", func := "strongroom/strongroomlaw12.VaultSeals", spec := "vaultSeals", named := ["strongroom/sha.add"], apart := false, laid := [("strongroom/sha.add", laid_strongroom_sha_add)], narrowed := true }
def VaultSealsUptoSaid : Prop := vaultSealsUptoRow.holds Tryd.pinned (OpenSpec.upto vaultSealsSpec)

/-- 'strongroomlaw12.VaultBack', WHERE WHAT IT READS IS OF BULK AT MOST 1048576: true; the input reads as it did. -/
def vaultBackUptoRow : OpenClaim := { program := "ytddeffdgldjdjaadoor", sum := "fec4873fd6a2307132114ddd67e1b743653e9a24c57b55f07a6de1918ae1519c", func := "strongroom/strongroomlaw12.VaultBack", spec := "vaultBack", named := ["strongroom/sha.add"], apart := false, laid := [("strongroom/sha.add", laid_strongroom_sha_add)], narrowed := true }
def VaultBackUptoSaid : Prop := vaultBackUptoRow.holds Tryd.pinned (OpenSpec.upto vaultBackSpec)

/-- 'strongroomlaw12.VaultSizes', WHERE WHAT IT READS IS OF BULK AT MOST 1048576: true; the input reads as it did. -/
def vaultSizesUptoRow : OpenClaim := { program := "ytddeffdgldjdjaadoor", sum := "fec4873fd6a2307132114ddd67e1b743653e9a24c57b55f07a6de1918ae1519c", func := "strongroom/strongroomlaw12.VaultSizes", spec := "vaultSizes", named := ["strongroom/sha.add"], apart := false, laid := [("strongroom/sha.add", laid_strongroom_sha_add)], narrowed := true }
def VaultSizesUptoSaid : Prop := vaultSizesUptoRow.holds Tryd.pinned (OpenSpec.upto vaultSizesSpec)

/-- 'strongroomlaw11.JournalPuts', WHERE WHAT IT READS IS OF BULK AT MOST 1048576: true; the input reads as it did. -/
def journalPutsUptoRow : OpenClaim := { program := "ytddeffdgldjdjaadoor", sum := "fec4873fd6a2307132114ddd67e1b743653e9a24c57b55f07a6de1918ae1519c", func := "strongroom/strongroomlaw11.JournalPuts", spec := "journalPuts", unfollowed := true, recurses := true, named := ["strongroom/sha.add"], apart := false, laid := [("strongroom/sha.add", laid_strongroom_sha_add)], narrowed := true }
def JournalPutsUptoSaid : Prop := journalPutsUptoRow.holds Tryd.pinned (OpenSpec.upto journalPutsSpec)

/-- 'strongroomlaw11.JournalScans', WHERE WHAT IT READS IS OF BULK AT MOST 1048576: true; the input reads as it did. -/
def journalScansUptoRow : OpenClaim := { program := "ytddeffdgldjdjaadoor", sum := "fec4873fd6a2307132114ddd67e1b743653e9a24c57b55f07a6de1918ae1519c", func := "strongroom/strongroomlaw11.JournalScans", spec := "journalScans", unfollowed := true, recurses := true, named := ["strongroom/sha.add"], apart := false, laid := [("strongroom/sha.add", laid_strongroom_sha_add)], narrowed := true }
def JournalScansUptoSaid : Prop := journalScansUptoRow.holds Tryd.pinned (OpenSpec.upto journalScansSpec)

/-- 'strongroomlaw11.JournalFolds', WHERE WHAT IT READS IS OF BULK AT MOST 1048576: true; the input reads as it did. -/
def journalFoldsUptoRow : OpenClaim := { program := "ytddeffdgldjdjaadoor", sum := "fec4873fd6a2307132114ddd67e1b743653e9a24c57b55f07a6de1918ae1519c", func := "strongroom/strongroomlaw11.JournalFolds", spec := "journalFolds", unfollowed := true, recurses := true, named := ["strongroom/sha.add"], apart := false, laid := [("strongroom/sha.add", laid_strongroom_sha_add)], narrowed := true }
def JournalFoldsUptoSaid : Prop := journalFoldsUptoRow.holds Tryd.pinned (OpenSpec.upto journalFoldsSpec)

/-- 'strongroomlaw11.JournalBack', WHERE WHAT IT READS IS OF BULK AT MOST 1048576: true; the input reads as it did. -/
def journalBackUptoRow : OpenClaim := { program := "ytddeffdgldjdjaadoor", sum := "fec4873fd6a2307132114ddd67e1b743653e9a24c57b55f07a6de1918ae1519c", func := "strongroom/strongroomlaw11.JournalBack", spec := "journalBack", unfollowed := true, recurses := true, named := ["strongroom/sha.add"], apart := false, laid := [("strongroom/sha.add", laid_strongroom_sha_add)], narrowed := true }
def JournalBackUptoSaid : Prop := journalBackUptoRow.holds Tryd.pinned (OpenSpec.upto journalBackSpec)

/-- 'strongroomlaw11.JournalRows', WHERE WHAT IT READS IS OF BULK AT MOST 1048576: true; the input reads as it did. -/
def journalRowsUptoRow : OpenClaim := { program := "ytddeffdgldjdjaadoor", sum := "fec4873fd6a2307132114ddd67e1b743653e9a24c57b55f07a6de1918ae1519c", func := "strongroom/strongroomlaw11.JournalRows", spec := "journalRows", unfollowed := true, recurses := true, named := ["strongroom/sha.add"], apart := false, laid := [("strongroom/sha.add", laid_strongroom_sha_add)], narrowed := true }
def JournalRowsUptoSaid : Prop := journalRowsUptoRow.holds Tryd.pinned (OpenSpec.upto journalRowsSpec)

/-- 'strongroomlaw11.JournalBases', WHERE WHAT IT READS IS OF BULK AT MOST 1048576: true; the input reads as it did. -/
def journalBasesUptoRow : OpenClaim := { program := "ytddeffdgldjdjaadoor", sum := "fec4873fd6a2307132114ddd67e1b743653e9a24c57b55f07a6de1918ae1519c", func := "strongroom/strongroomlaw11.JournalBases", spec := "journalBases", unfollowed := true, recurses := true, named := ["strongroom/sha.add"], apart := false, laid := [("strongroom/sha.add", laid_strongroom_sha_add)], narrowed := true }
def JournalBasesUptoSaid : Prop := journalBasesUptoRow.holds Tryd.pinned (OpenSpec.upto journalBasesSpec)

end Rows
end Go.Proofs.YtddeffdgldjdjaaDoor
