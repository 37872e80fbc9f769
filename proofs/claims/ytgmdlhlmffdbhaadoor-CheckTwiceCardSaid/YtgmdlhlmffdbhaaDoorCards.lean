/-
  DERIVED. GIVEN WITH THE SEED: THE CARDS: each row of YtgmdlhlmffdbhaaDoorRows.lean that lists a variable, with what it lists TIED to the program's text (the seventh form; the later family's looks); each row that meets fmt, with fmt's text TOLD by the authors' own Lean function (tested against real Go, not proved from fmt's source: count such statements apart). THE CARD IS WHAT COUNTS. Prove the row's statement (the work); the ties are given (YtgmdlhlmffdbhaaDoorTie.lean); close each card by the builder's one call (the guide's Derived/Test/ToyasCard.lean, 'card_holds'). Laid BY PROGRAM, IN A SANDBOX (cutbox-door.mjs). By AI agents, Wed Nov 11 2026. No macro, syntax, notation, axiom, sorry.
-/
import Derived.Test.YtgmdlhlmffdbhaaDoorRows
import GoSem.ClaimSeven
namespace Go.Proofs.YtgmdlhlmffdbhaaDoor
namespace Rows

/-- THE TIED CARD OF 'troupelaw14.CheckPrograms'. -/
def checkProgramsCard : Claim7 := { stood := { row := checkProgramsRow, standIns := [], harness := (true, "87bbd52a9177e0e99aed6deb93dd5eda2bcfc2dfa19abb8c4566ec0a160d1cea"), looks := true }, kinds := [], alts := [], laidByText := true, laidKinds := [.handle], laidTests := true, laidLooks := .later }
def CheckProgramsCardSaid : Prop := Claim7.holds Tryd.pinned (.plain (OpenSpec.ofChange checkProgramsSpec)) checkProgramsCard

/-- THE TIED CARD OF 'troupelaw14.CheckTurned'. -/
def checkTurnedCard : Claim7 := { stood := { row := checkTurnedRow, standIns := [], harness := (true, "87bbd52a9177e0e99aed6deb93dd5eda2bcfc2dfa19abb8c4566ec0a160d1cea"), looks := true }, kinds := [], alts := [], laidByText := true, laidKinds := [.handle], laidTests := true, laidLooks := .later }
def CheckTurnedCardSaid : Prop := Claim7.holds Tryd.pinned (.plain (OpenSpec.ofChange checkTurnedSpec)) checkTurnedCard

/-- THE TIED CARD OF 'troupelaw14.CheckTwice'. -/
def checkTwiceCard : Claim7 := { stood := { row := checkTwiceRow, standIns := [], harness := (true, "87bbd52a9177e0e99aed6deb93dd5eda2bcfc2dfa19abb8c4566ec0a160d1cea"), looks := true }, kinds := [], alts := [], laidByText := true, laidKinds := [.handle], laidTests := true, laidLooks := .later }
def CheckTwiceCardSaid : Prop := Claim7.holds Tryd.pinned (.plain (OpenSpec.ofChange checkTwiceSpec)) checkTwiceCard

/-- THE TIED CARD OF 'troupelaw14.CheckPlaces'. -/
def checkPlacesCard : Claim7 := { stood := { row := checkPlacesRow, standIns := [], harness := (true, "87bbd52a9177e0e99aed6deb93dd5eda2bcfc2dfa19abb8c4566ec0a160d1cea"), looks := true }, kinds := [], alts := [], laidByText := true, laidKinds := [.handle], laidTests := true, laidLooks := .later }
def CheckPlacesCardSaid : Prop := Claim7.holds Tryd.pinned (.plain (OpenSpec.ofChange checkPlacesSpec)) checkPlacesCard

/-- THE SECOND FORM's CARD OF 'troupelaw14.CheckPrograms'. -/
def checkProgramsUptoCard : Claim7 := { stood := { row := checkProgramsUptoRow, standIns := [], harness := (true, "87bbd52a9177e0e99aed6deb93dd5eda2bcfc2dfa19abb8c4566ec0a160d1cea"), looks := true }, kinds := [], alts := [], laidByText := true, laidKinds := [.handle], laidTests := true, laidLooks := .later }
def CheckProgramsUptoCardSaid : Prop := Claim7.holds Tryd.pinned (.plain (OpenSpec.upto checkProgramsSpec)) checkProgramsUptoCard

/-- THE SECOND FORM's CARD OF 'troupelaw14.CheckTurned'. -/
def checkTurnedUptoCard : Claim7 := { stood := { row := checkTurnedUptoRow, standIns := [], harness := (true, "87bbd52a9177e0e99aed6deb93dd5eda2bcfc2dfa19abb8c4566ec0a160d1cea"), looks := true }, kinds := [], alts := [], laidByText := true, laidKinds := [.handle], laidTests := true, laidLooks := .later }
def CheckTurnedUptoCardSaid : Prop := Claim7.holds Tryd.pinned (.plain (OpenSpec.upto checkTurnedSpec)) checkTurnedUptoCard

/-- THE SECOND FORM's CARD OF 'troupelaw14.CheckTwice'. -/
def checkTwiceUptoCard : Claim7 := { stood := { row := checkTwiceUptoRow, standIns := [], harness := (true, "87bbd52a9177e0e99aed6deb93dd5eda2bcfc2dfa19abb8c4566ec0a160d1cea"), looks := true }, kinds := [], alts := [], laidByText := true, laidKinds := [.handle], laidTests := true, laidLooks := .later }
def CheckTwiceUptoCardSaid : Prop := Claim7.holds Tryd.pinned (.plain (OpenSpec.upto checkTwiceSpec)) checkTwiceUptoCard

/-- THE SECOND FORM's CARD OF 'troupelaw14.CheckPlaces'. -/
def checkPlacesUptoCard : Claim7 := { stood := { row := checkPlacesUptoRow, standIns := [], harness := (true, "87bbd52a9177e0e99aed6deb93dd5eda2bcfc2dfa19abb8c4566ec0a160d1cea"), looks := true }, kinds := [], alts := [], laidByText := true, laidKinds := [.handle], laidTests := true, laidLooks := .later }
def CheckPlacesUptoCardSaid : Prop := Claim7.holds Tryd.pinned (.plain (OpenSpec.upto checkPlacesSpec)) checkPlacesUptoCard
end Rows
end Go.Proofs.YtgmdlhlmffdbhaaDoor
