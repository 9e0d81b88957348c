/-
  DERIVED. GIVEN WITH THE SEED: THE CARDS: each row of YtddeffdgldjdjaaDoorRows.lean that lists a variable, with what it lists TIED to the program's text (the seventh form; the later family's looks); each row that meets fmt, with fmt's text TOLD by the authors' own Lean function (tested against real Go, not proved from fmt's source: count such statements apart). THE CARD IS WHAT COUNTS. Prove the row's statement (the work); the ties are given (YtddeffdgldjdjaaDoorTie.lean); close each card by the builder's one call (the guide's Derived/Test/ToyasCard.lean, 'card_holds'). Laid BY PROGRAM, IN A SANDBOX (cutbox-door.mjs). By AI agents, Wed Nov 11 2026. No macro, syntax, notation, axiom, sorry.
-/
import Derived.Test.YtddeffdgldjdjaaDoorRows
import GoSem.ClaimSeven
namespace Go.Proofs.YtddeffdgldjdjaaDoor
namespace Rows

/-- THE TIED CARD OF 'strongroomlaw07.DrbgOf'. -/
def drbgOfCard : Claim7 := { stood := { row := drbgOfRow, standIns := [], harness := (true, "2c2a79b2008830a327d866e531f49b64593cc50f0190857f05b19e6a5cab9bd4"), looks := true }, kinds := [], alts := [], laidByText := true, laidKinds := [.data], laidTests := true, laidLooks := .later }
def DrbgOfCardSaid : Prop := Claim7.holds Tryd.pinned (.plain (OpenSpec.ofChange drbgOfSpec)) drbgOfCard

/-- THE TIED CARD OF 'strongroomlaw07.DrbgBytes'. -/
def drbgBytesCard : Claim7 := { stood := { row := drbgBytesRow, standIns := [], harness := (true, "2c2a79b2008830a327d866e531f49b64593cc50f0190857f05b19e6a5cab9bd4"), looks := true }, kinds := [], alts := [], laidByText := true, laidKinds := [.data], laidTests := true, laidLooks := .later }
def DrbgBytesCardSaid : Prop := Claim7.holds Tryd.pinned (.plain (OpenSpec.ofChange drbgBytesSpec)) drbgBytesCard

/-- THE TIED CARD OF 'strongroomlaw07.DrbgSeeds'. -/
def drbgSeedsCard : Claim7 := { stood := { row := drbgSeedsRow, standIns := [], harness := (true, "2c2a79b2008830a327d866e531f49b64593cc50f0190857f05b19e6a5cab9bd4"), looks := true }, kinds := [], alts := [], laidByText := true, laidKinds := [.data], laidTests := true, laidLooks := .later }
def DrbgSeedsCardSaid : Prop := Claim7.holds Tryd.pinned (.plain (OpenSpec.ofChange drbgSeedsSpec)) drbgSeedsCard

/-- THE TIED CARD OF 'strongroomlaw07.DrbgRefuses'. -/
def drbgRefusesCard : Claim7 := { stood := { row := drbgRefusesRow, standIns := [], harness := (true, "2c2a79b2008830a327d866e531f49b64593cc50f0190857f05b19e6a5cab9bd4"), looks := true }, kinds := [], alts := [], laidByText := true, laidKinds := [.data], laidTests := true, laidLooks := .later }
def DrbgRefusesCardSaid : Prop := Claim7.holds Tryd.pinned (.plain (OpenSpec.ofChange drbgRefusesSpec)) drbgRefusesCard

/-- THE TIED CARD OF 'strongroomlaw07.DrbgPlays'. -/
def drbgPlaysCard : Claim7 := { stood := { row := drbgPlaysRow, standIns := [], harness := (true, "2c2a79b2008830a327d866e531f49b64593cc50f0190857f05b19e6a5cab9bd4"), looks := true }, kinds := [], alts := [], laidByText := true, laidKinds := [.data], laidTests := true, laidLooks := .later }
def DrbgPlaysCardSaid : Prop := Claim7.holds Tryd.pinned (.plain (OpenSpec.ofChange drbgPlaysSpec)) drbgPlaysCard

/-- THE TIED CARD OF 'strongroomlaw12.VaultKeys'. -/
def vaultKeysCard : Claim7 := { stood := { row := vaultKeysRow, standIns := [], harness := (true, "2c2a79b2008830a327d866e531f49b64593cc50f0190857f05b19e6a5cab9bd4"), looks := true }, kinds := [], alts := [], laidByText := true, laidKinds := [.data], laidTests := true, laidLooks := .later }
def VaultKeysCardSaid : Prop := Claim7.holds Tryd.pinned (.plain (OpenSpec.ofChange vaultKeysSpec)) vaultKeysCard

/-- THE TIED CARD OF 'strongroomlaw12.VaultApart'. -/
def vaultApartCard : Claim7 := { stood := { row := vaultApartRow, standIns := [], harness := (true, "2c2a79b2008830a327d866e531f49b64593cc50f0190857f05b19e6a5cab9bd4"), looks := true }, kinds := [], alts := [], laidByText := true, laidKinds := [.data], laidTests := true, laidLooks := .later }
def VaultApartCardSaid : Prop := Claim7.holds Tryd.pinned (.plain (OpenSpec.ofChange vaultApartSpec)) vaultApartCard

/-- THE TIED CARD OF 'strongroomlaw12.VaultSeals'. -/
def vaultSealsCard : Claim7 := { stood := { row := vaultSealsRow, standIns := [], harness := (true, "2c2a79b2008830a327d866e531f49b64593cc50f0190857f05b19e6a5cab9bd4"), looks := true }, kinds := [], alts := [], laidByText := true, laidKinds := [.data], laidTests := true, laidLooks := .later }
def VaultSealsCardSaid : Prop := Claim7.holds Tryd.pinned (.plain (OpenSpec.ofChange vaultSealsSpec)) vaultSealsCard

/-- THE TIED CARD OF 'strongroomlaw12.VaultBack'. -/
def vaultBackCard : Claim7 := { stood := { row := vaultBackRow, standIns := [], harness := (true, "2c2a79b2008830a327d866e531f49b64593cc50f0190857f05b19e6a5cab9bd4"), looks := true }, kinds := [], alts := [], laidByText := true, laidKinds := [.data], laidTests := true, laidLooks := .later }
def VaultBackCardSaid : Prop := Claim7.holds Tryd.pinned (.plain (OpenSpec.ofChange vaultBackSpec)) vaultBackCard

/-- THE TIED CARD OF 'strongroomlaw12.VaultSizes'. -/
def vaultSizesCard : Claim7 := { stood := { row := vaultSizesRow, standIns := [], harness := (true, "2c2a79b2008830a327d866e531f49b64593cc50f0190857f05b19e6a5cab9bd4"), looks := true }, kinds := [], alts := [], laidByText := true, laidKinds := [.data], laidTests := true, laidLooks := .later }
def VaultSizesCardSaid : Prop := Claim7.holds Tryd.pinned (.plain (OpenSpec.ofChange vaultSizesSpec)) vaultSizesCard

/-- THE TIED CARD OF 'strongroomlaw11.JournalPuts'. -/
def journalPutsCard : Claim7 := { stood := { row := journalPutsRow, standIns := [], harness := (true, "2c2a79b2008830a327d866e531f49b64593cc50f0190857f05b19e6a5cab9bd4"), looks := true }, kinds := [], alts := [], laidByText := true, laidKinds := [.data], laidTests := true, laidLooks := .later }
def JournalPutsCardSaid : Prop := Claim7.holds Tryd.pinned (.plain (OpenSpec.ofChange journalPutsSpec)) journalPutsCard

/-- THE TIED CARD OF 'strongroomlaw11.JournalScans'. -/
def journalScansCard : Claim7 := { stood := { row := journalScansRow, standIns := [], harness := (true, "2c2a79b2008830a327d866e531f49b64593cc50f0190857f05b19e6a5cab9bd4"), looks := true }, kinds := [], alts := [], laidByText := true, laidKinds := [.data], laidTests := true, laidLooks := .later }
def JournalScansCardSaid : Prop := Claim7.holds Tryd.pinned (.plain (OpenSpec.ofChange journalScansSpec)) journalScansCard

/-- THE TIED CARD OF 'strongroomlaw11.JournalFolds'. -/
def journalFoldsCard : Claim7 := { stood := { row := journalFoldsRow, standIns := [], harness := (true, "2c2a79b2008830a327d866e531f49b64593cc50f0190857f05b19e6a5cab9bd4"), looks := true }, kinds := [], alts := [], laidByText := true, laidKinds := [.data], laidTests := true, laidLooks := .later }
def JournalFoldsCardSaid : Prop := Claim7.holds Tryd.pinned (.plain (OpenSpec.ofChange journalFoldsSpec)) journalFoldsCard

/-- THE TIED CARD OF 'strongroomlaw11.JournalBack'. -/
def journalBackCard : Claim7 := { stood := { row := journalBackRow, standIns := [], harness := (true, "2c2a79b2008830a327d866e531f49b64593cc50f0190857f05b19e6a5cab9bd4"), looks := true }, kinds := [], alts := [], laidByText := true, laidKinds := [.data], laidTests := true, laidLooks := .later }
def JournalBackCardSaid : Prop := Claim7.holds Tryd.pinned (.plain (OpenSpec.ofChange journalBackSpec)) journalBackCard

/-- THE TIED CARD OF 'strongroomlaw11.JournalRows'. -/
def journalRowsCard : Claim7 := { stood := { row := journalRowsRow, standIns := [], harness := (true, "2c2a79b2008830a327d866e531f49b64593cc50f0190857f05b19e6a5cab9bd4"), looks := true }, kinds := [], alts := [], laidByText := true, laidKinds := [.data], laidTests := true, laidLooks := .later }
def JournalRowsCardSaid : Prop := Claim7.holds Tryd.pinned (.plain (OpenSpec.ofChange journalRowsSpec)) journalRowsCard

/-- THE TIED CARD OF 'strongroomlaw11.JournalBases'. -/
def journalBasesCard : Claim7 := { stood := { row := journalBasesRow, standIns := [], harness := (true, "2c2a79b2008830a327d866e531f49b64593cc50f0190857f05b19e6a5cab9bd4"), looks := true }, kinds := [], alts := [], laidByText := true, laidKinds := [.data], laidTests := true, laidLooks := .later }
def JournalBasesCardSaid : Prop := Claim7.holds Tryd.pinned (.plain (OpenSpec.ofChange journalBasesSpec)) journalBasesCard

/-- THE SECOND FORM's CARD OF 'strongroomlaw07.DrbgOf'. -/
def drbgOfUptoCard : Claim7 := { stood := { row := drbgOfUptoRow, standIns := [], harness := (true, "2c2a79b2008830a327d866e531f49b64593cc50f0190857f05b19e6a5cab9bd4"), looks := true }, kinds := [], alts := [], laidByText := true, laidKinds := [.data], laidTests := true, laidLooks := .later }
def DrbgOfUptoCardSaid : Prop := Claim7.holds Tryd.pinned (.plain (OpenSpec.upto drbgOfSpec)) drbgOfUptoCard

/-- THE SECOND FORM's CARD OF 'strongroomlaw07.DrbgBytes'. -/
def drbgBytesUptoCard : Claim7 := { stood := { row := drbgBytesUptoRow, standIns := [], harness := (true, "2c2a79b2008830a327d866e531f49b64593cc50f0190857f05b19e6a5cab9bd4"), looks := true }, kinds := [], alts := [], laidByText := true, laidKinds := [.data], laidTests := true, laidLooks := .later }
def DrbgBytesUptoCardSaid : Prop := Claim7.holds Tryd.pinned (.plain (OpenSpec.upto drbgBytesSpec)) drbgBytesUptoCard

/-- THE SECOND FORM's CARD OF 'strongroomlaw07.DrbgSeeds'. -/
def drbgSeedsUptoCard : Claim7 := { stood := { row := drbgSeedsUptoRow, standIns := [], harness := (true, "2c2a79b2008830a327d866e531f49b64593cc50f0190857f05b19e6a5cab9bd4"), looks := true }, kinds := [], alts := [], laidByText := true, laidKinds := [.data], laidTests := true, laidLooks := .later }
def DrbgSeedsUptoCardSaid : Prop := Claim7.holds Tryd.pinned (.plain (OpenSpec.upto drbgSeedsSpec)) drbgSeedsUptoCard

/-- THE SECOND FORM's CARD OF 'strongroomlaw07.DrbgRefuses'. -/
def drbgRefusesUptoCard : Claim7 := { stood := { row := drbgRefusesUptoRow, standIns := [], harness := (true, "2c2a79b2008830a327d866e531f49b64593cc50f0190857f05b19e6a5cab9bd4"), looks := true }, kinds := [], alts := [], laidByText := true, laidKinds := [.data], laidTests := true, laidLooks := .later }
def DrbgRefusesUptoCardSaid : Prop := Claim7.holds Tryd.pinned (.plain (OpenSpec.upto drbgRefusesSpec)) drbgRefusesUptoCard

/-- THE SECOND FORM's CARD OF 'strongroomlaw07.DrbgPlays'. -/
def drbgPlaysUptoCard : Claim7 := { stood := { row := drbgPlaysUptoRow, standIns := [], harness := (true, "2c2a79b2008830a327d866e531f49b64593cc50f0190857f05b19e6a5cab9bd4"), looks := true }, kinds := [], alts := [], laidByText := true, laidKinds := [.data], laidTests := true, laidLooks := .later }
def DrbgPlaysUptoCardSaid : Prop := Claim7.holds Tryd.pinned (.plain (OpenSpec.upto drbgPlaysSpec)) drbgPlaysUptoCard

/-- THE SECOND FORM's CARD OF 'strongroomlaw12.VaultKeys'. -/
def vaultKeysUptoCard : Claim7 := { stood := { row := vaultKeysUptoRow, standIns := [], harness := (true, "2c2a79b2008830a327d866e531f49b64593cc50f0190857f05b19e6a5cab9bd4"), looks := true }, kinds := [], alts := [], laidByText := true, laidKinds := [.data], laidTests := true, laidLooks := .later }
def VaultKeysUptoCardSaid : Prop := Claim7.holds Tryd.pinned (.plain (OpenSpec.upto vaultKeysSpec)) vaultKeysUptoCard

/-- THE SECOND FORM's CARD OF 'strongroomlaw12.VaultApart'. -/
def vaultApartUptoCard : Claim7 := { stood := { row := vaultApartUptoRow, standIns := [], harness := (true, "2c2a79b2008830a327d866e531f49b64593cc50f0190857f05b19e6a5cab9bd4"), looks := true }, kinds := [], alts := [], laidByText := true, laidKinds := [.data], laidTests := true, laidLooks := .later }
def VaultApartUptoCardSaid : Prop := Claim7.holds Tryd.pinned (.plain (OpenSpec.upto vaultApartSpec)) vaultApartUptoCard

/-- THE SECOND FORM's CARD OF 'strongroomlaw12.VaultSeals'. -/
def vaultSealsUptoCard : Claim7 := { stood := { row := vaultSealsUptoRow, standIns := [], harness := (true, "2c2a79b2008830a327d866e531f49b64593cc50f0190857f05b19e6a5cab9bd4"), looks := true }, kinds := [], alts := [], laidByText := true, laidKinds := [.data], laidTests := true, laidLooks := .later }
def VaultSealsUptoCardSaid : Prop := Claim7.holds Tryd.pinned (.plain (OpenSpec.upto vaultSealsSpec)) vaultSealsUptoCard

/-- THE SECOND FORM's CARD OF 'strongroomlaw12.VaultBack'. -/
def vaultBackUptoCard : Claim7 := { stood := { row := vaultBackUptoRow, standIns := [], harness := (true, "2c2a79b2008830a327d866e531f49b64593cc50f0190857f05b19e6a5cab9bd4"), looks := true }, kinds := [], alts := [], laidByText := true, laidKinds := [.data], laidTests := true, laidLooks := .later }
def VaultBackUptoCardSaid : Prop := Claim7.holds Tryd.pinned (.plain (OpenSpec.upto vaultBackSpec)) vaultBackUptoCard

/-- THE SECOND FORM's CARD OF 'strongroomlaw12.VaultSizes'. -/
def vaultSizesUptoCard : Claim7 := { stood := { row := vaultSizesUptoRow, standIns := [], harness := (true, "2c2a79b2008830a327d866e531f49b64593cc50f0190857f05b19e6a5cab9bd4"), looks := true }, kinds := [], alts := [], laidByText := true, laidKinds := [.data], laidTests := true, laidLooks := .later }
def VaultSizesUptoCardSaid : Prop := Claim7.holds Tryd.pinned (.plain (OpenSpec.upto vaultSizesSpec)) vaultSizesUptoCard

/-- THE SECOND FORM's CARD OF 'strongroomlaw11.JournalPuts'. -/
def journalPutsUptoCard : Claim7 := { stood := { row := journalPutsUptoRow, standIns := [], harness := (true, "2c2a79b2008830a327d866e531f49b64593cc50f0190857f05b19e6a5cab9bd4"), looks := true }, kinds := [], alts := [], laidByText := true, laidKinds := [.data], laidTests := true, laidLooks := .later }
def JournalPutsUptoCardSaid : Prop := Claim7.holds Tryd.pinned (.plain (OpenSpec.upto journalPutsSpec)) journalPutsUptoCard

/-- THE SECOND FORM's CARD OF 'strongroomlaw11.JournalScans'. -/
def journalScansUptoCard : Claim7 := { stood := { row := journalScansUptoRow, standIns := [], harness := (true, "2c2a79b2008830a327d866e531f49b64593cc50f0190857f05b19e6a5cab9bd4"), looks := true }, kinds := [], alts := [], laidByText := true, laidKinds := [.data], laidTests := true, laidLooks := .later }
def JournalScansUptoCardSaid : Prop := Claim7.holds Tryd.pinned (.plain (OpenSpec.upto journalScansSpec)) journalScansUptoCard

/-- THE SECOND FORM's CARD OF 'strongroomlaw11.JournalFolds'. -/
def journalFoldsUptoCard : Claim7 := { stood := { row := journalFoldsUptoRow, standIns := [], harness := (true, "2c2a79b2008830a327d866e531f49b64593cc50f0190857f05b19e6a5cab9bd4"), looks := true }, kinds := [], alts := [], laidByText := true, laidKinds := [.data], laidTests := true, laidLooks := .later }
def JournalFoldsUptoCardSaid : Prop := Claim7.holds Tryd.pinned (.plain (OpenSpec.upto journalFoldsSpec)) journalFoldsUptoCard

/-- THE SECOND FORM's CARD OF 'strongroomlaw11.JournalBack'. -/
def journalBackUptoCard : Claim7 := { stood := { row := journalBackUptoRow, standIns := [], harness := (true, "2c2a79b2008830a327d866e531f49b64593cc50f0190857f05b19e6a5cab9bd4"), looks := true }, kinds := [], alts := [], laidByText := true, laidKinds := [.data], laidTests := true, laidLooks := .later }
def JournalBackUptoCardSaid : Prop := Claim7.holds Tryd.pinned (.plain (OpenSpec.upto journalBackSpec)) journalBackUptoCard

/-- THE SECOND FORM's CARD OF 'strongroomlaw11.JournalRows'. -/
def journalRowsUptoCard : Claim7 := { stood := { row := journalRowsUptoRow, standIns := [], harness := (true, "2c2a79b2008830a327d866e531f49b64593cc50f0190857f05b19e6a5cab9bd4"), looks := true }, kinds := [], alts := [], laidByText := true, laidKinds := [.data], laidTests := true, laidLooks := .later }
def JournalRowsUptoCardSaid : Prop := Claim7.holds Tryd.pinned (.plain (OpenSpec.upto journalRowsSpec)) journalRowsUptoCard

/-- THE SECOND FORM's CARD OF 'strongroomlaw11.JournalBases'. -/
def journalBasesUptoCard : Claim7 := { stood := { row := journalBasesUptoRow, standIns := [], harness := (true, "2c2a79b2008830a327d866e531f49b64593cc50f0190857f05b19e6a5cab9bd4"), looks := true }, kinds := [], alts := [], laidByText := true, laidKinds := [.data], laidTests := true, laidLooks := .later }
def JournalBasesUptoCardSaid : Prop := Claim7.holds Tryd.pinned (.plain (OpenSpec.upto journalBasesSpec)) journalBasesUptoCard
end Rows
end Go.Proofs.YtddeffdgldjdjaaDoor
