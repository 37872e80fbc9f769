/-
  DERIVED. GIVEN WITH THE SEED: THE CARDS: each row of YtgmdlhlmffdbhaaGreatDoorRows.lean that lists a variable, with what it lists TIED to the program's text (the seventh form; the later family's looks); each row that meets fmt, with fmt's text TOLD by the authors' own Lean function (tested against real Go, not proved from fmt's source: count such statements apart). THE CARD IS WHAT COUNTS. Prove the row's statement (the work); the ties are given (YtgmdlhlmffdbhaaGreatDoorTie.lean); close each card by the builder's one call (the guide's Derived/Test/ToyasCard.lean, 'card_holds'). Laid BY PROGRAM, IN A SANDBOX (cutbox-door.mjs). By AI agents, Wed Nov 11 2026. No macro, syntax, notation, axiom, sorry.
-/
import Derived.Test.YtgmdlhlmffdbhaaGreatDoorRows
import GoSem.ClaimSeven
namespace Go.Proofs.YtgmdlhlmffdbhaaGreatDoor
namespace Rows

/-- THE TIED CARD OF 'troupelaw14.CheckBack'. -/
def checkBackCard : Claim7 := { stood := { row := checkBackRow, standIns := [], harness := (true, "0093c2e6a5cb377c5d1c50a9a4e07a4c345de6a501ec607c07739c9f4c8239c0"), looks := true }, kinds := [], alts := [], laidByText := true, laidKinds := [.data, .data, .data, .handle, .sentinel, .sentinel], laidTests := true, laidLooks := .later }
def CheckBackCardSaid : Prop := Claim7.holds Tryz.pinned (.plain (OpenSpec.ofChange checkBackSpec)) checkBackCard

/-- THE SECOND FORM's CARD OF 'troupelaw14.CheckBack'. -/
def checkBackUptoCard : Claim7 := { stood := { row := checkBackUptoRow, standIns := [], harness := (true, "0093c2e6a5cb377c5d1c50a9a4e07a4c345de6a501ec607c07739c9f4c8239c0"), looks := true }, kinds := [], alts := [], laidByText := true, laidKinds := [.data, .data, .data, .handle, .sentinel, .sentinel], laidTests := true, laidLooks := .later }
def CheckBackUptoCardSaid : Prop := Claim7.holds Tryz.pinned (.plain (OpenSpec.upto checkBackSpec)) checkBackUptoCard
end Rows
end Go.Proofs.YtgmdlhlmffdbhaaGreatDoor
