/-
  No cell of these rows narrows 'for every input' (looked for: loops, veiled, ifaces, maps, wideKeys, modest, calm, conditions, laid).
  DERIVED. THE GIVEN ROWS OF THIS SEAT. 5 by the template 'for every input the law returns true; each argument reads behind the call as it read before'; 0 by the template 'total and deterministic' (their statements: YtmohikdmdmplaaaGreatTotals.lean).
  GIVEN WITH THE SEED: the statements are not yours to turn. If you find one false, say at which input.
  Laid BY PROGRAM, IN A SANDBOX (cutbox-rows.mjs): the forced cells as the released guide's own fill.sh prints them over the translation efb55f436cbffab8… (all of the seat's roots in one cut). By AI agents, Wed Nov 11 2026. No macro, syntax, notation, axiom, sorry.
-/
import Derived.Test.YtmohikdmdmplaaaGreatChecked
import GoSem.Claim
import GoSem.ClaimJoined
import GoSem.ClaimMapViews
import Derived.JoinedTies
import Derived.KernelRfl
namespace Go.Proofs.YtmohikdmdmplaaaGreat
/- THE CELL 'sum', in the pinned program and in every row, IS THE sha256 OF THE DUMP (.gsa) THAT YtmohikdmdmplaaaGreatProg.lean LOADS. Nothing in Lean hashes anything: it is a label: what it is worth is what the hold of that sum in a sandbox is worth. -/
noncomputable def Tryz.pinned : Pinned := { name := "ytmohikdmdmplaaagreat", sum := "efb55f436cbffab87d19c068b68d8e87845291162d6d511d17eaee0898c69adf", checked := Tryz.checked }
namespace Rows
def none {H : Type} : Left H := { results := [], args := [] }

/-- 'troupelaw21.ClockCancels': WHATEVER THE INPUT: true; the input reads as it did. -/
def clockCancelsSpec : ChangeSpec := { name := "clockCancels", fn := fun _ => fun
  | [d1, d2, d3] => { results := [.lit (.bool true)], args := [d1, d2, d3] }
  | _ => none }
def clockCancelsRow : OpenClaim := { program := "ytmohikdmdmplaaagreat", sum := "efb55f436cbffab87d19c068b68d8e87845291162d6d511d17eaee0898c69adf", func := "troupe/troupelaw21.ClockCancels", spec := "clockCancels", unfollowed := true, recurses := true, apart := false }
def ClockCancelsSaid : Prop := clockCancelsRow.holds Tryz.pinned (OpenSpec.ofChange clockCancelsSpec)

/-- ITS FALSE NEIGHBOUR: 'it returns false'. Refute it at one input. -/
def clockCancelsWrong : ChangeSpec := { name := "clockCancels", fn := fun _ => fun
  | [d1, d2, d3] => { results := [.lit (.bool false)], args := [d1, d2, d3] }
  | _ => none }
def ClockCancelsWrongFalsely : Prop := clockCancelsRow.holds Tryz.pinned (OpenSpec.ofChange clockCancelsWrong)

/-- 'troupelaw21.ClockMakes': WHATEVER THE INPUT: true; the input reads as it did. -/
def clockMakesSpec : ChangeSpec := { name := "clockMakes", fn := fun _ => fun
  | [d1, d2, d3] => { results := [.lit (.bool true)], args := [d1, d2, d3] }
  | _ => none }
def clockMakesRow : OpenClaim := { program := "ytmohikdmdmplaaagreat", sum := "efb55f436cbffab87d19c068b68d8e87845291162d6d511d17eaee0898c69adf", func := "troupe/troupelaw21.ClockMakes", spec := "clockMakes", unfollowed := true, recurses := true, apart := false }
def ClockMakesSaid : Prop := clockMakesRow.holds Tryz.pinned (OpenSpec.ofChange clockMakesSpec)

/-- ITS FALSE NEIGHBOUR: 'it returns false'. Refute it at one input. -/
def clockMakesWrong : ChangeSpec := { name := "clockMakes", fn := fun _ => fun
  | [d1, d2, d3] => { results := [.lit (.bool false)], args := [d1, d2, d3] }
  | _ => none }
def ClockMakesWrongFalsely : Prop := clockMakesRow.holds Tryz.pinned (OpenSpec.ofChange clockMakesWrong)

/-- 'troupelaw21.ClockOnTime': WHATEVER THE INPUT: true; the input reads as it did. -/
def clockOnTimeSpec : ChangeSpec := { name := "clockOnTime", fn := fun _ => fun
  | [d1, d2] => { results := [.lit (.bool true)], args := [d1, d2] }
  | _ => none }
def clockOnTimeRow : OpenClaim := { program := "ytmohikdmdmplaaagreat", sum := "efb55f436cbffab87d19c068b68d8e87845291162d6d511d17eaee0898c69adf", func := "troupe/troupelaw21.ClockOnTime", spec := "clockOnTime", unfollowed := true, recurses := true, apart := false }
def ClockOnTimeSaid : Prop := clockOnTimeRow.holds Tryz.pinned (OpenSpec.ofChange clockOnTimeSpec)

/-- ITS FALSE NEIGHBOUR: 'it returns false'. Refute it at one input. -/
def clockOnTimeWrong : ChangeSpec := { name := "clockOnTime", fn := fun _ => fun
  | [d1, d2] => { results := [.lit (.bool false)], args := [d1, d2] }
  | _ => none }
def ClockOnTimeWrongFalsely : Prop := clockOnTimeRow.holds Tryz.pinned (OpenSpec.ofChange clockOnTimeWrong)

/-- 'troupelaw21.ClockLosesNothing': WHATEVER THE INPUT: true; the input reads as it did. -/
def clockLosesNothingSpec : ChangeSpec := { name := "clockLosesNothing", fn := fun _ => fun
  | [d1, d2, d3] => { results := [.lit (.bool true)], args := [d1, d2, d3] }
  | _ => none }
def clockLosesNothingRow : OpenClaim := { program := "ytmohikdmdmplaaagreat", sum := "efb55f436cbffab87d19c068b68d8e87845291162d6d511d17eaee0898c69adf", func := "troupe/troupelaw21.ClockLosesNothing", spec := "clockLosesNothing", unfollowed := true, recurses := true, apart := false }
def ClockLosesNothingSaid : Prop := clockLosesNothingRow.holds Tryz.pinned (OpenSpec.ofChange clockLosesNothingSpec)

/-- ITS FALSE NEIGHBOUR: 'it returns false'. Refute it at one input. -/
def clockLosesNothingWrong : ChangeSpec := { name := "clockLosesNothing", fn := fun _ => fun
  | [d1, d2, d3] => { results := [.lit (.bool false)], args := [d1, d2, d3] }
  | _ => none }
def ClockLosesNothingWrongFalsely : Prop := clockLosesNothingRow.holds Tryz.pinned (OpenSpec.ofChange clockLosesNothingWrong)

/-- 'troupelaw21.ClockPlays': WHATEVER THE INPUT: true; the input reads as it did. -/
def clockPlaysSpec : ChangeSpec := { name := "clockPlays", fn := fun _ => fun
  | [d1, d2, d3] => { results := [.lit (.bool true)], args := [d1, d2, d3] }
  | _ => none }
def clockPlaysRow : OpenClaim := { program := "ytmohikdmdmplaaagreat", sum := "efb55f436cbffab87d19c068b68d8e87845291162d6d511d17eaee0898c69adf", func := "troupe/troupelaw21.ClockPlays", spec := "clockPlays", unfollowed := true, recurses := true, apart := false }
def ClockPlaysSaid : Prop := clockPlaysRow.holds Tryz.pinned (OpenSpec.ofChange clockPlaysSpec)

/-- ITS FALSE NEIGHBOUR: 'it returns false'. Refute it at one input. -/
def clockPlaysWrong : ChangeSpec := { name := "clockPlays", fn := fun _ => fun
  | [d1, d2, d3] => { results := [.lit (.bool false)], args := [d1, d2, d3] }
  | _ => none }
def ClockPlaysWrongFalsely : Prop := clockPlaysRow.holds Tryz.pinned (OpenSpec.ofChange clockPlaysWrong)

/- THE SECOND FORM. 'bulk': how many values and letters a reading holds, each counted each time it is reached (what is shared counts as often as it is met; a slice's spare places count too). A statement '..UptoSaid' is the law's where the arguments, and the package variables that the reading takes, are together of bulk at most 1048576: NARROWER than '..Said'. Prove '..Said' where nothing that the law and all that it calls make is longer than what came in: it says more and counts as full. Else prove '..UptoSaid'. A law counts once. -/
mutual
def uptoBulk {H : Type} : DataW H → Nat
  | .lit (.string bytes) => bytes.length + 1
  | .lit _ => 1
  | .nil => 1
  | .ptr d => uptoBulk d + 1
  | .slice elems spare => uptoBulkAll elems + uptoBulkAll spare + 1
  | .agg parts => uptoBulkAll parts + 1
  | .iface _ d => uptoBulk d + 1
  | .map entries => uptoBulkEntries entries + 1
  | .held _ => 1
def uptoBulkAll {H : Type} : List (DataW H) → Nat
  | [] => 0
  | d :: r => uptoBulk d + uptoBulkAll r
def uptoBulkEntries {H : Type} : List (Lit × DataW H) → Nat
  | [] => 0
  | x :: r => uptoBulkEntry x + uptoBulkEntries r
def uptoBulkEntry {H : Type} : Lit × DataW H → Nat
  | (.string bytes, d) => bytes.length + uptoBulk d + 1
  | (_, d) => uptoBulk d + 1
 end
def uptoSmall : (H : Type) → List (DataW H) → Bool := fun _ ds => decide (uptoBulkAll ds ≤ 1048576)
def OpenSpec.upto (s : _root_.Go.ChangeSpec) : _root_.Go.OpenSpec := { _root_.Go.OpenSpec.ofChange s with cond := some uptoSmall }

/-- 'troupelaw21.ClockCancels', WHERE WHAT IT READS IS OF BULK AT MOST 1048576: true; the input reads as it did. -/
def clockCancelsUptoRow : OpenClaim := { program := "ytmohikdmdmplaaagreat", sum := "efb55f436cbffab87d19c068b68d8e87845291162d6d511d17eaee0898c69adf", func := "troupe/troupelaw21.ClockCancels", spec := "clockCancels", unfollowed := true, recurses := true, apart := false, narrowed := true }
def ClockCancelsUptoSaid : Prop := clockCancelsUptoRow.holds Tryz.pinned (OpenSpec.upto clockCancelsSpec)

/-- 'troupelaw21.ClockMakes', WHERE WHAT IT READS IS OF BULK AT MOST 1048576: true; the input reads as it did. -/
def clockMakesUptoRow : OpenClaim := { program := "ytmohikdmdmplaaagreat", sum := "efb55f436cbffab87d19c068b68d8e87845291162d6d511d17eaee0898c69adf", func := "troupe/troupelaw21.ClockMakes", spec := "clockMakes", unfollowed := true, recurses := true, apart := false, narrowed := true }
def ClockMakesUptoSaid : Prop := clockMakesUptoRow.holds Tryz.pinned (OpenSpec.upto clockMakesSpec)

/-- 'troupelaw21.ClockOnTime', WHERE WHAT IT READS IS OF BULK AT MOST 1048576: true; the input reads as it did. -/
def clockOnTimeUptoRow : OpenClaim := { program := "ytmohikdmdmplaaagreat", sum := "efb55f436cbffab87d19c068b68d8e87845291162d6d511d17eaee0898c69adf", func := "troupe/troupelaw21.ClockOnTime", spec := "clockOnTime", unfollowed := true, recurses := true, apart := false, narrowed := true }
def ClockOnTimeUptoSaid : Prop := clockOnTimeUptoRow.holds Tryz.pinned (OpenSpec.upto clockOnTimeSpec)

/-- 'troupelaw21.ClockLosesNothing', WHERE WHAT IT READS IS OF BULK AT MOST 1048576: true; the input reads as it did. -/
def clockLosesNothingUptoRow : OpenClaim := { program := "ytmohikdmdmplaaagreat", sum := "efb55f436cbffab87d19c068b68d8e87845291162d6d511d17eaee0898c69adf", func := "troupe/troupelaw21.ClockLosesNothing", spec := "clockLosesNothing", unfollowed := true, recurses := true, apart := false, narrowed := true }
def ClockLosesNothingUptoSaid : Prop := clockLosesNothingUptoRow.holds Tryz.pinned (OpenSpec.upto clockLosesNothingSpec)

/-- 'troupelaw21.ClockPlays', WHERE WHAT IT READS IS OF BULK AT MOST 1048576: true; the input reads as it did. -/
def clockPlaysUptoRow : OpenClaim := { program := "ytmohikdmdmplaaagreat", sum := "efb55f436cbffab87d19c068b68d8e87845291162d6d511d17eaee0898c69adf", func := "troupe/troupelaw21.ClockPlays", spec := "clockPlays", unfollowed := true, recurses := true, apart := false, narrowed := true }
def ClockPlaysUptoSaid : Prop := clockPlaysUptoRow.holds Tryz.pinned (OpenSpec.upto clockPlaysSpec)

end Rows
end Go.Proofs.YtmohikdmdmplaaaGreat
