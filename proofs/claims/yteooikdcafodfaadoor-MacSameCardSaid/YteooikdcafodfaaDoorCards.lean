/-
  DERIVED. GIVEN WITH THE SEED: THE CARDS: each row of YteooikdcafodfaaDoorRows.lean that lists a variable, with what it lists TIED to the program's text (the seventh form; the later family's looks); each row that meets fmt, with fmt's text TOLD by the authors' own Lean function (tested against real Go, not proved from fmt's source: count such statements apart). THE CARD IS WHAT COUNTS. Prove the row's statement (the work); the ties are given (YteooikdcafodfaaDoorTie.lean); close each card by the builder's one call (the guide's Derived/Test/ToyasCard.lean, 'card_holds'). Laid BY PROGRAM, IN A SANDBOX (cutbox-door.mjs). By AI agents, Wed Nov 11 2026. No macro, syntax, notation, axiom, sorry.
-/
import Derived.Test.YteooikdcafodfaaDoorRows
import GoSem.ClaimSeven
namespace Go.Proofs.YteooikdcafodfaaDoor
namespace Rows

/-- THE TIED CARD OF 'strongroomlaw05.ShaHashes'. -/
def shaHashesCard : Claim7 := { stood := { row := shaHashesRow, standIns := [], harness := (true, "6841d615480d691b7c6dde2edc17b452e3b21ecb63bd2dbacd4935de064d3ad7"), looks := false }, kinds := [], alts := [], laidByText := true, laidKinds := [.data], laidTests := true, laidLooks := .later }
def ShaHashesCardSaid : Prop := Claim7.holds Tryd.pinned (.plain (OpenSpec.ofChange shaHashesSpec)) shaHashesCard

/-- THE TIED CARD OF 'strongroomlaw05.ShaPresses'. -/
def shaPressesCard : Claim7 := { stood := { row := shaPressesRow, standIns := [], harness := (true, "6841d615480d691b7c6dde2edc17b452e3b21ecb63bd2dbacd4935de064d3ad7"), looks := false }, kinds := [], alts := [], laidByText := true, laidKinds := [.data], laidTests := true, laidLooks := .later }
def ShaPressesCardSaid : Prop := Claim7.holds Tryd.pinned (.plain (OpenSpec.ofChange shaPressesSpec)) shaPressesCard

/-- THE TIED CARD OF 'strongroomlaw05.ShaPieces'. -/
def shaPiecesCard : Claim7 := { stood := { row := shaPiecesRow, standIns := [], harness := (true, "6841d615480d691b7c6dde2edc17b452e3b21ecb63bd2dbacd4935de064d3ad7"), looks := false }, kinds := [], alts := [], laidByText := true, laidKinds := [.data], laidTests := true, laidLooks := .later }
def ShaPiecesCardSaid : Prop := Claim7.holds Tryd.pinned (.plain (OpenSpec.ofChange shaPiecesSpec)) shaPiecesCard

/-- THE TIED CARD OF 'strongroomlaw05.ShaApart'. -/
def shaApartCard : Claim7 := { stood := { row := shaApartRow, standIns := [], harness := (true, "6841d615480d691b7c6dde2edc17b452e3b21ecb63bd2dbacd4935de064d3ad7"), looks := false }, kinds := [], alts := [], laidByText := true, laidKinds := [.data], laidTests := true, laidLooks := .later }
def ShaApartCardSaid : Prop := Claim7.holds Tryd.pinned (.plain (OpenSpec.ofChange shaApartSpec)) shaApartCard

/-- THE TIED CARD OF 'strongroomlaw06.MacMade'. -/
def macMadeCard : Claim7 := { stood := { row := macMadeRow, standIns := [], harness := (true, "6841d615480d691b7c6dde2edc17b452e3b21ecb63bd2dbacd4935de064d3ad7"), looks := false }, kinds := [], alts := [], laidByText := true, laidKinds := [.data], laidTests := true, laidLooks := .later }
def MacMadeCardSaid : Prop := Claim7.holds Tryd.pinned (.plain (OpenSpec.ofChange macMadeSpec)) macMadeCard

/-- THE TIED CARD OF 'strongroomlaw06.MacKeys'. -/
def macKeysCard : Claim7 := { stood := { row := macKeysRow, standIns := [], harness := (true, "6841d615480d691b7c6dde2edc17b452e3b21ecb63bd2dbacd4935de064d3ad7"), looks := false }, kinds := [], alts := [], laidByText := true, laidKinds := [.data], laidTests := true, laidLooks := .later }
def MacKeysCardSaid : Prop := Claim7.holds Tryd.pinned (.plain (OpenSpec.ofChange macKeysSpec)) macKeysCard

/-- THE TIED CARD OF 'strongroomlaw06.MacExpands'. -/
def macExpandsCard : Claim7 := { stood := { row := macExpandsRow, standIns := [], harness := (true, "6841d615480d691b7c6dde2edc17b452e3b21ecb63bd2dbacd4935de064d3ad7"), looks := false }, kinds := [], alts := [], laidByText := true, laidKinds := [.data], laidTests := true, laidLooks := .later }
def MacExpandsCardSaid : Prop := Claim7.holds Tryd.pinned (.plain (OpenSpec.ofChange macExpandsSpec)) macExpandsCard

/-- THE TIED CARD OF 'strongroomlaw06.MacSteps'. -/
def macStepsCard : Claim7 := { stood := { row := macStepsRow, standIns := [], harness := (true, "6841d615480d691b7c6dde2edc17b452e3b21ecb63bd2dbacd4935de064d3ad7"), looks := false }, kinds := [], alts := [], laidByText := true, laidKinds := [.data], laidTests := true, laidLooks := .later }
def MacStepsCardSaid : Prop := Claim7.holds Tryd.pinned (.plain (OpenSpec.ofChange macStepsSpec)) macStepsCard

/-- THE TIED CARD OF 'strongroomlaw06.MacSums'. -/
def macSumsCard : Claim7 := { stood := { row := macSumsRow, standIns := [], harness := (true, "6841d615480d691b7c6dde2edc17b452e3b21ecb63bd2dbacd4935de064d3ad7"), looks := false }, kinds := [], alts := [], laidByText := true, laidKinds := [.data], laidTests := true, laidLooks := .later }
def MacSumsCardSaid : Prop := Claim7.holds Tryd.pinned (.plain (OpenSpec.ofChange macSumsSpec)) macSumsCard

/-- THE TIED CARD OF 'strongroomlaw06.MacSame'. -/
def macSameCard : Claim7 := { stood := { row := macSameRow, standIns := [], harness := (true, "6841d615480d691b7c6dde2edc17b452e3b21ecb63bd2dbacd4935de064d3ad7"), looks := false }, kinds := [], alts := [], laidByText := true, laidKinds := [.data], laidTests := true, laidLooks := .later }
def MacSameCardSaid : Prop := Claim7.holds Tryd.pinned (.plain (OpenSpec.ofChange macSameSpec)) macSameCard

/-- THE SECOND FORM's CARD OF 'strongroomlaw05.ShaHashes'. -/
def shaHashesUptoCard : Claim7 := { stood := { row := shaHashesUptoRow, standIns := [], harness := (true, "6841d615480d691b7c6dde2edc17b452e3b21ecb63bd2dbacd4935de064d3ad7"), looks := false }, kinds := [], alts := [], laidByText := true, laidKinds := [.data], laidTests := true, laidLooks := .later }
def ShaHashesUptoCardSaid : Prop := Claim7.holds Tryd.pinned (.plain (OpenSpec.upto shaHashesSpec)) shaHashesUptoCard

/-- THE SECOND FORM's CARD OF 'strongroomlaw05.ShaPresses'. -/
def shaPressesUptoCard : Claim7 := { stood := { row := shaPressesUptoRow, standIns := [], harness := (true, "6841d615480d691b7c6dde2edc17b452e3b21ecb63bd2dbacd4935de064d3ad7"), looks := false }, kinds := [], alts := [], laidByText := true, laidKinds := [.data], laidTests := true, laidLooks := .later }
def ShaPressesUptoCardSaid : Prop := Claim7.holds Tryd.pinned (.plain (OpenSpec.upto shaPressesSpec)) shaPressesUptoCard

/-- THE SECOND FORM's CARD OF 'strongroomlaw05.ShaPieces'. -/
def shaPiecesUptoCard : Claim7 := { stood := { row := shaPiecesUptoRow, standIns := [], harness := (true, "6841d615480d691b7c6dde2edc17b452e3b21ecb63bd2dbacd4935de064d3ad7"), looks := false }, kinds := [], alts := [], laidByText := true, laidKinds := [.data], laidTests := true, laidLooks := .later }
def ShaPiecesUptoCardSaid : Prop := Claim7.holds Tryd.pinned (.plain (OpenSpec.upto shaPiecesSpec)) shaPiecesUptoCard

/-- THE SECOND FORM's CARD OF 'strongroomlaw05.ShaApart'. -/
def shaApartUptoCard : Claim7 := { stood := { row := shaApartUptoRow, standIns := [], harness := (true, "6841d615480d691b7c6dde2edc17b452e3b21ecb63bd2dbacd4935de064d3ad7"), looks := false }, kinds := [], alts := [], laidByText := true, laidKinds := [.data], laidTests := true, laidLooks := .later }
def ShaApartUptoCardSaid : Prop := Claim7.holds Tryd.pinned (.plain (OpenSpec.upto shaApartSpec)) shaApartUptoCard

/-- THE SECOND FORM's CARD OF 'strongroomlaw06.MacMade'. -/
def macMadeUptoCard : Claim7 := { stood := { row := macMadeUptoRow, standIns := [], harness := (true, "6841d615480d691b7c6dde2edc17b452e3b21ecb63bd2dbacd4935de064d3ad7"), looks := false }, kinds := [], alts := [], laidByText := true, laidKinds := [.data], laidTests := true, laidLooks := .later }
def MacMadeUptoCardSaid : Prop := Claim7.holds Tryd.pinned (.plain (OpenSpec.upto macMadeSpec)) macMadeUptoCard

/-- THE SECOND FORM's CARD OF 'strongroomlaw06.MacKeys'. -/
def macKeysUptoCard : Claim7 := { stood := { row := macKeysUptoRow, standIns := [], harness := (true, "6841d615480d691b7c6dde2edc17b452e3b21ecb63bd2dbacd4935de064d3ad7"), looks := false }, kinds := [], alts := [], laidByText := true, laidKinds := [.data], laidTests := true, laidLooks := .later }
def MacKeysUptoCardSaid : Prop := Claim7.holds Tryd.pinned (.plain (OpenSpec.upto macKeysSpec)) macKeysUptoCard

/-- THE SECOND FORM's CARD OF 'strongroomlaw06.MacExpands'. -/
def macExpandsUptoCard : Claim7 := { stood := { row := macExpandsUptoRow, standIns := [], harness := (true, "6841d615480d691b7c6dde2edc17b452e3b21ecb63bd2dbacd4935de064d3ad7"), looks := false }, kinds := [], alts := [], laidByText := true, laidKinds := [.data], laidTests := true, laidLooks := .later }
def MacExpandsUptoCardSaid : Prop := Claim7.holds Tryd.pinned (.plain (OpenSpec.upto macExpandsSpec)) macExpandsUptoCard

/-- THE SECOND FORM's CARD OF 'strongroomlaw06.MacSteps'. -/
def macStepsUptoCard : Claim7 := { stood := { row := macStepsUptoRow, standIns := [], harness := (true, "6841d615480d691b7c6dde2edc17b452e3b21ecb63bd2dbacd4935de064d3ad7"), looks := false }, kinds := [], alts := [], laidByText := true, laidKinds := [.data], laidTests := true, laidLooks := .later }
def MacStepsUptoCardSaid : Prop := Claim7.holds Tryd.pinned (.plain (OpenSpec.upto macStepsSpec)) macStepsUptoCard

/-- THE SECOND FORM's CARD OF 'strongroomlaw06.MacSums'. -/
def macSumsUptoCard : Claim7 := { stood := { row := macSumsUptoRow, standIns := [], harness := (true, "6841d615480d691b7c6dde2edc17b452e3b21ecb63bd2dbacd4935de064d3ad7"), looks := false }, kinds := [], alts := [], laidByText := true, laidKinds := [.data], laidTests := true, laidLooks := .later }
def MacSumsUptoCardSaid : Prop := Claim7.holds Tryd.pinned (.plain (OpenSpec.upto macSumsSpec)) macSumsUptoCard

/-- THE SECOND FORM's CARD OF 'strongroomlaw06.MacSame'. -/
def macSameUptoCard : Claim7 := { stood := { row := macSameUptoRow, standIns := [], harness := (true, "6841d615480d691b7c6dde2edc17b452e3b21ecb63bd2dbacd4935de064d3ad7"), looks := false }, kinds := [], alts := [], laidByText := true, laidKinds := [.data], laidTests := true, laidLooks := .later }
def MacSameUptoCardSaid : Prop := Claim7.holds Tryd.pinned (.plain (OpenSpec.upto macSameSpec)) macSameUptoCard
end Rows
end Go.Proofs.YteooikdcafodfaaDoor
