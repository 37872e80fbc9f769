/-
  DERIVED. GIVEN WITH THE SEED: THE CARDS: each row of YtkmlneemconlgaaDoorRows.lean that lists a variable, with what it lists TIED to the program's text (the seventh form; the later family's looks); each row that meets fmt, with fmt's text TOLD by the authors' own Lean function (tested against real Go, not proved from fmt's source: count such statements apart). THE CARD IS WHAT COUNTS. Prove the row's statement (the work); the ties are given (YtkmlneemconlgaaDoorTie.lean); close each card by the builder's one call (the guide's Derived/Test/ToyasCard.lean, 'card_holds'). Laid BY PROGRAM, IN A SANDBOX (cutbox-door.mjs). By AI agents, Wed Nov 11 2026. No macro, syntax, notation, axiom, sorry.
-/
import Derived.Test.YtkmlneemconlgaaDoorRows
import GoSem.ClaimSeven
namespace Go.Proofs.YtkmlneemconlgaaDoor
namespace Rows

/-- THE TIED CARD OF 'troupelaw12.LexAll'. -/
def lexAllCard : Claim7 := { stood := { row := lexAllRow, standIns := [], harness := (true, "47375579bf01825affea3daa2565b01c19a45343f0d6c774c387c3a8060ad10c"), looks := true }, kinds := [], alts := [], laidByText := true, laidKinds := [.data, .data, .data, .handle, .sentinel, .sentinel], laidTests := true, laidLooks := .later }
def LexAllCardSaid : Prop := Claim7.holds Tryd.pinned (.plain (OpenSpec.ofChange lexAllSpec)) lexAllCard

/-- THE TIED CARD OF 'troupelaw12.LexNames'. -/
def lexNamesCard : Claim7 := { stood := { row := lexNamesRow, standIns := [], harness := (true, "47375579bf01825affea3daa2565b01c19a45343f0d6c774c387c3a8060ad10c"), looks := true }, kinds := [], alts := [], laidByText := true, laidKinds := [.data, .data, .data, .handle, .sentinel, .sentinel], laidTests := true, laidLooks := .later }
def LexNamesCardSaid : Prop := Claim7.holds Tryd.pinned (.plain (OpenSpec.ofChange lexNamesSpec)) lexNamesCard

/-- THE TIED CARD OF 'troupelaw12.LexPlaces'. -/
def lexPlacesCard : Claim7 := { stood := { row := lexPlacesRow, standIns := [], harness := (true, "47375579bf01825affea3daa2565b01c19a45343f0d6c774c387c3a8060ad10c"), looks := true }, kinds := [], alts := [], laidByText := true, laidKinds := [.data, .data, .data, .handle, .sentinel, .sentinel], laidTests := true, laidLooks := .later }
def LexPlacesCardSaid : Prop := Claim7.holds Tryd.pinned (.plain (OpenSpec.ofChange lexPlacesSpec)) lexPlacesCard

/-- THE TIED CARD OF 'troupelaw12.LexAlone'. -/
def lexAloneCard : Claim7 := { stood := { row := lexAloneRow, standIns := [], harness := (true, "47375579bf01825affea3daa2565b01c19a45343f0d6c774c387c3a8060ad10c"), looks := true }, kinds := [], alts := [], laidByText := true, laidKinds := [.data, .data, .data, .handle, .sentinel, .sentinel], laidTests := true, laidLooks := .later }
def LexAloneCardSaid : Prop := Claim7.holds Tryd.pinned (.plain (OpenSpec.ofChange lexAloneSpec)) lexAloneCard

/-- THE TIED CARD OF 'troupelaw12.LexBetween'. -/
def lexBetweenCard : Claim7 := { stood := { row := lexBetweenRow, standIns := [], harness := (true, "47375579bf01825affea3daa2565b01c19a45343f0d6c774c387c3a8060ad10c"), looks := true }, kinds := [], alts := [], laidByText := true, laidKinds := [.data, .data, .data, .handle, .sentinel, .sentinel], laidTests := true, laidLooks := .later }
def LexBetweenCardSaid : Prop := Claim7.holds Tryd.pinned (.plain (OpenSpec.ofChange lexBetweenSpec)) lexBetweenCard

/-- THE TIED CARD OF 'troupelaw12.LexNumbers'. -/
def lexNumbersCard : Claim7 := { stood := { row := lexNumbersRow, standIns := [], harness := (true, "47375579bf01825affea3daa2565b01c19a45343f0d6c774c387c3a8060ad10c"), looks := true }, kinds := [], alts := [], laidByText := true, laidKinds := [.data, .data, .data, .handle, .sentinel, .sentinel], laidTests := true, laidLooks := .later }
def LexNumbersCardSaid : Prop := Claim7.holds Tryd.pinned (.plain (OpenSpec.ofChange lexNumbersSpec)) lexNumbersCard

/-- THE SECOND FORM's CARD OF 'troupelaw12.LexAll'. -/
def lexAllUptoCard : Claim7 := { stood := { row := lexAllUptoRow, standIns := [], harness := (true, "47375579bf01825affea3daa2565b01c19a45343f0d6c774c387c3a8060ad10c"), looks := true }, kinds := [], alts := [], laidByText := true, laidKinds := [.data, .data, .data, .handle, .sentinel, .sentinel], laidTests := true, laidLooks := .later }
def LexAllUptoCardSaid : Prop := Claim7.holds Tryd.pinned (.plain (OpenSpec.upto lexAllSpec)) lexAllUptoCard

/-- THE SECOND FORM's CARD OF 'troupelaw12.LexNames'. -/
def lexNamesUptoCard : Claim7 := { stood := { row := lexNamesUptoRow, standIns := [], harness := (true, "47375579bf01825affea3daa2565b01c19a45343f0d6c774c387c3a8060ad10c"), looks := true }, kinds := [], alts := [], laidByText := true, laidKinds := [.data, .data, .data, .handle, .sentinel, .sentinel], laidTests := true, laidLooks := .later }
def LexNamesUptoCardSaid : Prop := Claim7.holds Tryd.pinned (.plain (OpenSpec.upto lexNamesSpec)) lexNamesUptoCard

/-- THE SECOND FORM's CARD OF 'troupelaw12.LexPlaces'. -/
def lexPlacesUptoCard : Claim7 := { stood := { row := lexPlacesUptoRow, standIns := [], harness := (true, "47375579bf01825affea3daa2565b01c19a45343f0d6c774c387c3a8060ad10c"), looks := true }, kinds := [], alts := [], laidByText := true, laidKinds := [.data, .data, .data, .handle, .sentinel, .sentinel], laidTests := true, laidLooks := .later }
def LexPlacesUptoCardSaid : Prop := Claim7.holds Tryd.pinned (.plain (OpenSpec.upto lexPlacesSpec)) lexPlacesUptoCard

/-- THE SECOND FORM's CARD OF 'troupelaw12.LexAlone'. -/
def lexAloneUptoCard : Claim7 := { stood := { row := lexAloneUptoRow, standIns := [], harness := (true, "47375579bf01825affea3daa2565b01c19a45343f0d6c774c387c3a8060ad10c"), looks := true }, kinds := [], alts := [], laidByText := true, laidKinds := [.data, .data, .data, .handle, .sentinel, .sentinel], laidTests := true, laidLooks := .later }
def LexAloneUptoCardSaid : Prop := Claim7.holds Tryd.pinned (.plain (OpenSpec.upto lexAloneSpec)) lexAloneUptoCard

/-- THE SECOND FORM's CARD OF 'troupelaw12.LexBetween'. -/
def lexBetweenUptoCard : Claim7 := { stood := { row := lexBetweenUptoRow, standIns := [], harness := (true, "47375579bf01825affea3daa2565b01c19a45343f0d6c774c387c3a8060ad10c"), looks := true }, kinds := [], alts := [], laidByText := true, laidKinds := [.data, .data, .data, .handle, .sentinel, .sentinel], laidTests := true, laidLooks := .later }
def LexBetweenUptoCardSaid : Prop := Claim7.holds Tryd.pinned (.plain (OpenSpec.upto lexBetweenSpec)) lexBetweenUptoCard

/-- THE SECOND FORM's CARD OF 'troupelaw12.LexNumbers'. -/
def lexNumbersUptoCard : Claim7 := { stood := { row := lexNumbersUptoRow, standIns := [], harness := (true, "47375579bf01825affea3daa2565b01c19a45343f0d6c774c387c3a8060ad10c"), looks := true }, kinds := [], alts := [], laidByText := true, laidKinds := [.data, .data, .data, .handle, .sentinel, .sentinel], laidTests := true, laidLooks := .later }
def LexNumbersUptoCardSaid : Prop := Claim7.holds Tryd.pinned (.plain (OpenSpec.upto lexNumbersSpec)) lexNumbersUptoCard
end Rows
end Go.Proofs.YtkmlneemconlgaaDoor
