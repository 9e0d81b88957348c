/-
  DERIVED. GIVEN WITH THE SEED: THE CARDS: each row of YtjnmdphoaafjaaaDoorRows.lean that lists a variable, with what it lists TIED to the program's text (the seventh form; the later family's looks); each row that meets fmt, with fmt's text TOLD by the authors' own Lean function (tested against real Go, not proved from fmt's source: count such statements apart). THE CARD IS WHAT COUNTS. Prove the row's statement (the work); the ties are given (YtjnmdphoaafjaaaDoorTie.lean); close each card by the builder's one call (the guide's Derived/Test/ToyasCard.lean, 'card_holds'). Laid BY PROGRAM, IN A SANDBOX (cutbox-door.mjs). By AI agents, Wed Nov 11 2026. No macro, syntax, notation, axiom, sorry.
-/
import Derived.Test.YtjnmdphoaafjaaaDoorRows
import GoSem.ClaimSeven
namespace Go.Proofs.YtjnmdphoaafjaaaDoor
namespace Rows

/-- THE TIED CARD OF 'strongroomlaw12.VaultKeys'. -/
def vaultKeysCard : Claim7 := { stood := { row := vaultKeysRow, standIns := [], harness := (true, "06428c4c2b127bc896f703534291e20bab71369de76571243689c8bcad495929"), looks := true }, kinds := [], alts := [], laidByText := true, laidKinds := [.data], laidTests := true, laidLooks := .later }
def VaultKeysCardSaid : Prop := Claim7.holds Tryd.pinned (.plain (OpenSpec.ofChange vaultKeysSpec)) vaultKeysCard

/-- THE TIED CARD OF 'strongroomlaw12.VaultApart'. -/
def vaultApartCard : Claim7 := { stood := { row := vaultApartRow, standIns := [], harness := (true, "06428c4c2b127bc896f703534291e20bab71369de76571243689c8bcad495929"), looks := true }, kinds := [], alts := [], laidByText := true, laidKinds := [.data], laidTests := true, laidLooks := .later }
def VaultApartCardSaid : Prop := Claim7.holds Tryd.pinned (.plain (OpenSpec.ofChange vaultApartSpec)) vaultApartCard

/-- THE TIED CARD OF 'strongroomlaw12.VaultSeals'. -/
def vaultSealsCard : Claim7 := { stood := { row := vaultSealsRow, standIns := [], harness := (true, "06428c4c2b127bc896f703534291e20bab71369de76571243689c8bcad495929"), looks := true }, kinds := [], alts := [], laidByText := true, laidKinds := [.data], laidTests := true, laidLooks := .later }
def VaultSealsCardSaid : Prop := Claim7.holds Tryd.pinned (.plain (OpenSpec.ofChange vaultSealsSpec)) vaultSealsCard

/-- THE TIED CARD OF 'strongroomlaw12.VaultBack'. -/
def vaultBackCard : Claim7 := { stood := { row := vaultBackRow, standIns := [], harness := (true, "06428c4c2b127bc896f703534291e20bab71369de76571243689c8bcad495929"), looks := true }, kinds := [], alts := [], laidByText := true, laidKinds := [.data], laidTests := true, laidLooks := .later }
def VaultBackCardSaid : Prop := Claim7.holds Tryd.pinned (.plain (OpenSpec.ofChange vaultBackSpec)) vaultBackCard

/-- THE TIED CARD OF 'strongroomlaw12.VaultSizes'. -/
def vaultSizesCard : Claim7 := { stood := { row := vaultSizesRow, standIns := [], harness := (true, "06428c4c2b127bc896f703534291e20bab71369de76571243689c8bcad495929"), looks := true }, kinds := [], alts := [], laidByText := true, laidKinds := [.data], laidTests := true, laidLooks := .later }
def VaultSizesCardSaid : Prop := Claim7.holds Tryd.pinned (.plain (OpenSpec.ofChange vaultSizesSpec)) vaultSizesCard

/-- THE TIED CARD OF 'strongroomlaw11.JournalPuts'. -/
def journalPutsCard : Claim7 := { stood := { row := journalPutsRow, standIns := [], harness := (true, "06428c4c2b127bc896f703534291e20bab71369de76571243689c8bcad495929"), looks := true }, kinds := [], alts := [], laidByText := true, laidKinds := [.data], laidTests := true, laidLooks := .later }
def JournalPutsCardSaid : Prop := Claim7.holds Tryd.pinned (.plain (OpenSpec.ofChange journalPutsSpec)) journalPutsCard

/-- THE TIED CARD OF 'strongroomlaw11.JournalScans'. -/
def journalScansCard : Claim7 := { stood := { row := journalScansRow, standIns := [], harness := (true, "06428c4c2b127bc896f703534291e20bab71369de76571243689c8bcad495929"), looks := true }, kinds := [], alts := [], laidByText := true, laidKinds := [.data], laidTests := true, laidLooks := .later }
def JournalScansCardSaid : Prop := Claim7.holds Tryd.pinned (.plain (OpenSpec.ofChange journalScansSpec)) journalScansCard

/-- THE TIED CARD OF 'strongroomlaw11.JournalFolds'. -/
def journalFoldsCard : Claim7 := { stood := { row := journalFoldsRow, standIns := [], harness := (true, "06428c4c2b127bc896f703534291e20bab71369de76571243689c8bcad495929"), looks := true }, kinds := [], alts := [], laidByText := true, laidKinds := [.data], laidTests := true, laidLooks := .later }
def JournalFoldsCardSaid : Prop := Claim7.holds Tryd.pinned (.plain (OpenSpec.ofChange journalFoldsSpec)) journalFoldsCard

/-- THE TIED CARD OF 'strongroomlaw11.JournalBack'. -/
def journalBackCard : Claim7 := { stood := { row := journalBackRow, standIns := [], harness := (true, "06428c4c2b127bc896f703534291e20bab71369de76571243689c8bcad495929"), looks := true }, kinds := [], alts := [], laidByText := true, laidKinds := [.data], laidTests := true, laidLooks := .later }
def JournalBackCardSaid : Prop := Claim7.holds Tryd.pinned (.plain (OpenSpec.ofChange journalBackSpec)) journalBackCard

/-- THE TIED CARD OF 'strongroomlaw11.JournalRows'. -/
def journalRowsCard : Claim7 := { stood := { row := journalRowsRow, standIns := [], harness := (true, "06428c4c2b127bc896f703534291e20bab71369de76571243689c8bcad495929"), looks := true }, kinds := [], alts := [], laidByText := true, laidKinds := [.data], laidTests := true, laidLooks := .later }
def JournalRowsCardSaid : Prop := Claim7.holds Tryd.pinned (.plain (OpenSpec.ofChange journalRowsSpec)) journalRowsCard

/-- THE TIED CARD OF 'strongroomlaw11.JournalBases'. -/
def journalBasesCard : Claim7 := { stood := { row := journalBasesRow, standIns := [], harness := (true, "06428c4c2b127bc896f703534291e20bab71369de76571243689c8bcad495929"), looks := true }, kinds := [], alts := [], laidByText := true, laidKinds := [.data], laidTests := true, laidLooks := .later }
def JournalBasesCardSaid : Prop := Claim7.holds Tryd.pinned (.plain (OpenSpec.ofChange journalBasesSpec)) journalBasesCard

/-- THE TIED CARD OF 'strongroomlaw20.KeeperBack'. -/
def keeperBackCard : Claim7 := { stood := { row := keeperBackRow, standIns := [], harness := (true, "06428c4c2b127bc896f703534291e20bab71369de76571243689c8bcad495929"), looks := true }, kinds := [], alts := [], laidByText := true, laidKinds := [.data], laidTests := true, laidLooks := .later }
def KeeperBackCardSaid : Prop := Claim7.holds Tryd.pinned (.plain (OpenSpec.ofChange keeperBackSpec)) keeperBackCard

/-- THE TIED CARD OF 'strongroomlaw20.KeeperTurns'. -/
def keeperTurnsCard : Claim7 := { stood := { row := keeperTurnsRow, standIns := [], harness := (true, "06428c4c2b127bc896f703534291e20bab71369de76571243689c8bcad495929"), looks := true }, kinds := [], alts := [], laidByText := true, laidKinds := [.data], laidTests := true, laidLooks := .later }
def KeeperTurnsCardSaid : Prop := Claim7.holds Tryd.pinned (.plain (OpenSpec.ofChange keeperTurnsSpec)) keeperTurnsCard

/-- THE TIED CARD OF 'strongroomlaw20.KeeperNothing'. -/
def keeperNothingCard : Claim7 := { stood := { row := keeperNothingRow, standIns := [], harness := (true, "06428c4c2b127bc896f703534291e20bab71369de76571243689c8bcad495929"), looks := true }, kinds := [], alts := [], laidByText := true, laidKinds := [.data], laidTests := true, laidLooks := .later }
def KeeperNothingCardSaid : Prop := Claim7.holds Tryd.pinned (.plain (OpenSpec.ofChange keeperNothingSpec)) keeperNothingCard

/-- THE SECOND FORM's CARD OF 'strongroomlaw12.VaultKeys'. -/
def vaultKeysUptoCard : Claim7 := { stood := { row := vaultKeysUptoRow, standIns := [], harness := (true, "06428c4c2b127bc896f703534291e20bab71369de76571243689c8bcad495929"), looks := true }, kinds := [], alts := [], laidByText := true, laidKinds := [.data], laidTests := true, laidLooks := .later }
def VaultKeysUptoCardSaid : Prop := Claim7.holds Tryd.pinned (.plain (OpenSpec.upto vaultKeysSpec)) vaultKeysUptoCard

/-- THE SECOND FORM's CARD OF 'strongroomlaw12.VaultApart'. -/
def vaultApartUptoCard : Claim7 := { stood := { row := vaultApartUptoRow, standIns := [], harness := (true, "06428c4c2b127bc896f703534291e20bab71369de76571243689c8bcad495929"), looks := true }, kinds := [], alts := [], laidByText := true, laidKinds := [.data], laidTests := true, laidLooks := .later }
def VaultApartUptoCardSaid : Prop := Claim7.holds Tryd.pinned (.plain (OpenSpec.upto vaultApartSpec)) vaultApartUptoCard

/-- THE SECOND FORM's CARD OF 'strongroomlaw12.VaultSeals'. -/
def vaultSealsUptoCard : Claim7 := { stood := { row := vaultSealsUptoRow, standIns := [], harness := (true, "06428c4c2b127bc896f703534291e20bab71369de76571243689c8bcad495929"), looks := true }, kinds := [], alts := [], laidByText := true, laidKinds := [.data], laidTests := true, laidLooks := .later }
def VaultSealsUptoCardSaid : Prop := Claim7.holds Tryd.pinned (.plain (OpenSpec.upto vaultSealsSpec)) vaultSealsUptoCard

/-- THE SECOND FORM's CARD OF 'strongroomlaw12.VaultBack'. -/
def vaultBackUptoCard : Claim7 := { stood := { row := vaultBackUptoRow, standIns := [], harness := (true, "06428c4c2b127bc896f703534291e20bab71369de76571243689c8bcad495929"), looks := true }, kinds := [], alts := [], laidByText := true, laidKinds := [.data], laidTests := true, laidLooks := .later }
def VaultBackUptoCardSaid : Prop := Claim7.holds Tryd.pinned (.plain (OpenSpec.upto vaultBackSpec)) vaultBackUptoCard

/-- THE SECOND FORM's CARD OF 'strongroomlaw12.VaultSizes'. -/
def vaultSizesUptoCard : Claim7 := { stood := { row := vaultSizesUptoRow, standIns := [], harness := (true, "06428c4c2b127bc896f703534291e20bab71369de76571243689c8bcad495929"), looks := true }, kinds := [], alts := [], laidByText := true, laidKinds := [.data], laidTests := true, laidLooks := .later }
def VaultSizesUptoCardSaid : Prop := Claim7.holds Tryd.pinned (.plain (OpenSpec.upto vaultSizesSpec)) vaultSizesUptoCard

/-- THE SECOND FORM's CARD OF 'strongroomlaw11.JournalPuts'. -/
def journalPutsUptoCard : Claim7 := { stood := { row := journalPutsUptoRow, standIns := [], harness := (true, "06428c4c2b127bc896f703534291e20bab71369de76571243689c8bcad495929"), looks := true }, kinds := [], alts := [], laidByText := true, laidKinds := [.data], laidTests := true, laidLooks := .later }
def JournalPutsUptoCardSaid : Prop := Claim7.holds Tryd.pinned (.plain (OpenSpec.upto journalPutsSpec)) journalPutsUptoCard

/-- THE SECOND FORM's CARD OF 'strongroomlaw11.JournalScans'. -/
def journalScansUptoCard : Claim7 := { stood := { row := journalScansUptoRow, standIns := [], harness := (true, "06428c4c2b127bc896f703534291e20bab71369de76571243689c8bcad495929"), looks := true }, kinds := [], alts := [], laidByText := true, laidKinds := [.data], laidTests := true, laidLooks := .later }
def JournalScansUptoCardSaid : Prop := Claim7.holds Tryd.pinned (.plain (OpenSpec.upto journalScansSpec)) journalScansUptoCard

/-- THE SECOND FORM's CARD OF 'strongroomlaw11.JournalFolds'. -/
def journalFoldsUptoCard : Claim7 := { stood := { row := journalFoldsUptoRow, standIns := [], harness := (true, "06428c4c2b127bc896f703534291e20bab71369de76571243689c8bcad495929"), looks := true }, kinds := [], alts := [], laidByText := true, laidKinds := [.data], laidTests := true, laidLooks := .later }
def JournalFoldsUptoCardSaid : Prop := Claim7.holds Tryd.pinned (.plain (OpenSpec.upto journalFoldsSpec)) journalFoldsUptoCard

/-- THE SECOND FORM's CARD OF 'strongroomlaw11.JournalBack'. -/
def journalBackUptoCard : Claim7 := { stood := { row := journalBackUptoRow, standIns := [], harness := (true, "06428c4c2b127bc896f703534291e20bab71369de76571243689c8bcad495929"), looks := true }, kinds := [], alts := [], laidByText := true, laidKinds := [.data], laidTests := true, laidLooks := .later }
def JournalBackUptoCardSaid : Prop := Claim7.holds Tryd.pinned (.plain (OpenSpec.upto journalBackSpec)) journalBackUptoCard

/-- THE SECOND FORM's CARD OF 'strongroomlaw11.JournalRows'. -/
def journalRowsUptoCard : Claim7 := { stood := { row := journalRowsUptoRow, standIns := [], harness := (true, "06428c4c2b127bc896f703534291e20bab71369de76571243689c8bcad495929"), looks := true }, kinds := [], alts := [], laidByText := true, laidKinds := [.data], laidTests := true, laidLooks := .later }
def JournalRowsUptoCardSaid : Prop := Claim7.holds Tryd.pinned (.plain (OpenSpec.upto journalRowsSpec)) journalRowsUptoCard

/-- THE SECOND FORM's CARD OF 'strongroomlaw11.JournalBases'. -/
def journalBasesUptoCard : Claim7 := { stood := { row := journalBasesUptoRow, standIns := [], harness := (true, "06428c4c2b127bc896f703534291e20bab71369de76571243689c8bcad495929"), looks := true }, kinds := [], alts := [], laidByText := true, laidKinds := [.data], laidTests := true, laidLooks := .later }
def JournalBasesUptoCardSaid : Prop := Claim7.holds Tryd.pinned (.plain (OpenSpec.upto journalBasesSpec)) journalBasesUptoCard

/-- THE SECOND FORM's CARD OF 'strongroomlaw20.KeeperBack'. -/
def keeperBackUptoCard : Claim7 := { stood := { row := keeperBackUptoRow, standIns := [], harness := (true, "06428c4c2b127bc896f703534291e20bab71369de76571243689c8bcad495929"), looks := true }, kinds := [], alts := [], laidByText := true, laidKinds := [.data], laidTests := true, laidLooks := .later }
def KeeperBackUptoCardSaid : Prop := Claim7.holds Tryd.pinned (.plain (OpenSpec.upto keeperBackSpec)) keeperBackUptoCard

/-- THE SECOND FORM's CARD OF 'strongroomlaw20.KeeperTurns'. -/
def keeperTurnsUptoCard : Claim7 := { stood := { row := keeperTurnsUptoRow, standIns := [], harness := (true, "06428c4c2b127bc896f703534291e20bab71369de76571243689c8bcad495929"), looks := true }, kinds := [], alts := [], laidByText := true, laidKinds := [.data], laidTests := true, laidLooks := .later }
def KeeperTurnsUptoCardSaid : Prop := Claim7.holds Tryd.pinned (.plain (OpenSpec.upto keeperTurnsSpec)) keeperTurnsUptoCard

/-- THE SECOND FORM's CARD OF 'strongroomlaw20.KeeperNothing'. -/
def keeperNothingUptoCard : Claim7 := { stood := { row := keeperNothingUptoRow, standIns := [], harness := (true, "06428c4c2b127bc896f703534291e20bab71369de76571243689c8bcad495929"), looks := true }, kinds := [], alts := [], laidByText := true, laidKinds := [.data], laidTests := true, laidLooks := .later }
def KeeperNothingUptoCardSaid : Prop := Claim7.holds Tryd.pinned (.plain (OpenSpec.upto keeperNothingSpec)) keeperNothingUptoCard
end Rows
end Go.Proofs.YtjnmdphoaafjaaaDoor
