/-
  DERIVED. GIVEN WITH THE SEED: THE CARDS: each row of YtcglaiacohkaeaaDoorRows.lean that lists a variable, with what it lists TIED to the program's text (the seventh form; the later family's looks); each row that meets fmt, with fmt's text TOLD by the authors' own Lean function (tested against real Go, not proved from fmt's source: count such statements apart). THE CARD IS WHAT COUNTS. Prove the row's statement (the work); the ties are given (YtcglaiacohkaeaaDoorTie.lean); close each card by the builder's one call (the guide's Derived/Test/ToyasCard.lean, 'card_holds'). Laid BY PROGRAM, IN A SANDBOX (cutbox-door.mjs). By AI agents, Wed Nov 11 2026. No macro, syntax, notation, axiom, sorry.
-/
import Derived.Test.YtcglaiacohkaeaaDoorRows
import GoSem.ClaimSeven
namespace Go.Proofs.YtcglaiacohkaeaaDoor
namespace Rows

/-- THE TIED CARD OF 'troupelaw24.ScriptLines'. -/
def scriptLinesCard : Claim7 := { stood := { row := scriptLinesRow, standIns := [], harness := (true, "6f3bc30b71082e890941a2991880120a004c8ca1ee0376c3ca9e6cee2602cb95"), looks := true }, kinds := [], alts := [], laidByText := true, laidKinds := [.data, .data, .data, .data, .sentinel, .sentinel, .pinned], laidTests := true, laidLooks := .later }
def ScriptLinesCardSaid : Prop := Claim7.holds Tryd.pinned (.plain (OpenSpec.ofChange scriptLinesSpec)) scriptLinesCard

/-- THE TIED CARD OF 'troupelaw24.ScriptEvents'. -/
def scriptEventsCard : Claim7 := { stood := { row := scriptEventsRow, standIns := [], harness := (true, "6f3bc30b71082e890941a2991880120a004c8ca1ee0376c3ca9e6cee2602cb95"), looks := true }, kinds := [], alts := [], laidByText := true, laidKinds := [.data, .data, .data, .data, .sentinel, .sentinel, .pinned], laidTests := true, laidLooks := .later }
def ScriptEventsCardSaid : Prop := Claim7.holds Tryd.pinned (.plain (OpenSpec.ofChange scriptEventsSpec)) scriptEventsCard

/-- THE TIED CARD OF 'troupelaw24.ScriptTexts'. -/
def scriptTextsCard : Claim7 := { stood := { row := scriptTextsRow, standIns := [], harness := (true, "6f3bc30b71082e890941a2991880120a004c8ca1ee0376c3ca9e6cee2602cb95"), looks := true }, kinds := [], alts := [], laidByText := true, laidKinds := [.data, .data, .data, .data, .sentinel, .sentinel, .pinned], laidTests := true, laidLooks := .later }
def ScriptTextsCardSaid : Prop := Claim7.holds Tryd.pinned (.plain (OpenSpec.ofChange scriptTextsSpec)) scriptTextsCard

/-- THE TIED CARD OF 'troupelaw24.ScriptBack'. -/
def scriptBackCard : Claim7 := { stood := { row := scriptBackRow, standIns := [], harness := (true, "6f3bc30b71082e890941a2991880120a004c8ca1ee0376c3ca9e6cee2602cb95"), looks := true }, kinds := [], alts := [], laidByText := true, laidKinds := [.data, .data, .data, .data, .sentinel, .sentinel, .pinned], laidTests := true, laidLooks := .later }
def ScriptBackCardSaid : Prop := Claim7.holds Tryd.pinned (.plain (OpenSpec.ofChange scriptBackSpec)) scriptBackCard

/-- THE TIED CARD OF 'troupelaw24.ScriptRead'. -/
def scriptReadCard : Claim7 := { stood := { row := scriptReadRow, standIns := [], harness := (true, "6f3bc30b71082e890941a2991880120a004c8ca1ee0376c3ca9e6cee2602cb95"), looks := true }, kinds := [], alts := [], laidByText := true, laidKinds := [.data, .data, .data, .data, .sentinel, .sentinel, .pinned], laidTests := true, laidLooks := .later }
def ScriptReadCardSaid : Prop := Claim7.holds Tryd.pinned (.plain (OpenSpec.ofChange scriptReadSpec)) scriptReadCard

/-- THE SECOND FORM's CARD OF 'troupelaw24.ScriptLines'. -/
def scriptLinesUptoCard : Claim7 := { stood := { row := scriptLinesUptoRow, standIns := [], harness := (true, "6f3bc30b71082e890941a2991880120a004c8ca1ee0376c3ca9e6cee2602cb95"), looks := true }, kinds := [], alts := [], laidByText := true, laidKinds := [.data, .data, .data, .data, .sentinel, .sentinel, .pinned], laidTests := true, laidLooks := .later }
def ScriptLinesUptoCardSaid : Prop := Claim7.holds Tryd.pinned (.plain (OpenSpec.upto scriptLinesSpec)) scriptLinesUptoCard

/-- THE SECOND FORM's CARD OF 'troupelaw24.ScriptEvents'. -/
def scriptEventsUptoCard : Claim7 := { stood := { row := scriptEventsUptoRow, standIns := [], harness := (true, "6f3bc30b71082e890941a2991880120a004c8ca1ee0376c3ca9e6cee2602cb95"), looks := true }, kinds := [], alts := [], laidByText := true, laidKinds := [.data, .data, .data, .data, .sentinel, .sentinel, .pinned], laidTests := true, laidLooks := .later }
def ScriptEventsUptoCardSaid : Prop := Claim7.holds Tryd.pinned (.plain (OpenSpec.upto scriptEventsSpec)) scriptEventsUptoCard

/-- THE SECOND FORM's CARD OF 'troupelaw24.ScriptTexts'. -/
def scriptTextsUptoCard : Claim7 := { stood := { row := scriptTextsUptoRow, standIns := [], harness := (true, "6f3bc30b71082e890941a2991880120a004c8ca1ee0376c3ca9e6cee2602cb95"), looks := true }, kinds := [], alts := [], laidByText := true, laidKinds := [.data, .data, .data, .data, .sentinel, .sentinel, .pinned], laidTests := true, laidLooks := .later }
def ScriptTextsUptoCardSaid : Prop := Claim7.holds Tryd.pinned (.plain (OpenSpec.upto scriptTextsSpec)) scriptTextsUptoCard

/-- THE SECOND FORM's CARD OF 'troupelaw24.ScriptBack'. -/
def scriptBackUptoCard : Claim7 := { stood := { row := scriptBackUptoRow, standIns := [], harness := (true, "6f3bc30b71082e890941a2991880120a004c8ca1ee0376c3ca9e6cee2602cb95"), looks := true }, kinds := [], alts := [], laidByText := true, laidKinds := [.data, .data, .data, .data, .sentinel, .sentinel, .pinned], laidTests := true, laidLooks := .later }
def ScriptBackUptoCardSaid : Prop := Claim7.holds Tryd.pinned (.plain (OpenSpec.upto scriptBackSpec)) scriptBackUptoCard

/-- THE SECOND FORM's CARD OF 'troupelaw24.ScriptRead'. -/
def scriptReadUptoCard : Claim7 := { stood := { row := scriptReadUptoRow, standIns := [], harness := (true, "6f3bc30b71082e890941a2991880120a004c8ca1ee0376c3ca9e6cee2602cb95"), looks := true }, kinds := [], alts := [], laidByText := true, laidKinds := [.data, .data, .data, .data, .sentinel, .sentinel, .pinned], laidTests := true, laidLooks := .later }
def ScriptReadUptoCardSaid : Prop := Claim7.holds Tryd.pinned (.plain (OpenSpec.upto scriptReadSpec)) scriptReadUptoCard
end Rows
end Go.Proofs.YtcglaiacohkaeaaDoor
