/-
  NARROWER THAN 'FOR EVERY INPUT', by the rows' own cells (each row's printed sentence says how): CheckPrograms: laid · CheckTurned: laid · CheckTwice: laid · CheckPlaces: laid.
  DERIVED. THE GIVEN ROWS OF THIS SEAT. 4 by the template 'for every input the law returns true; each argument reads behind the call as it read before'; 0 by the template 'total and deterministic' (their statements: YtgmdlhlmffdbhaaDoorTotals.lean).
  GIVEN WITH THE SEED: the statements are not yours to turn. If you find one false, say at which input.
  Laid BY PROGRAM, IN A SANDBOX (cutbox-rows.mjs): the forced cells as the released guide's own fill.sh prints them over the translation acd13eba18bad1eb… (all of the seat's roots in one cut). By AI agents, Wed Nov 11 2026. No macro, syntax, notation, axiom, sorry.
-/
import Derived.Test.YtgmdlhlmffdbhaaDoorChecked
import GoSem.Claim
import GoSem.ClaimJoined
import GoSem.ClaimMapViews
import Derived.JoinedTies
import Derived.KernelRfl
namespace Go.Proofs.YtgmdlhlmffdbhaaDoor
/- THE CELL 'sum', in the pinned program and in every row, IS THE sha256 OF THE DUMP (.gsa) THAT YtgmdlhlmffdbhaaDoorProg.lean LOADS. Nothing in Lean hashes anything: it is a label: what it is worth is what the hold of that sum in a sandbox is worth. -/
noncomputable def Tryd.pinned : Pinned := { name := "ytgmdlhlmffdbhaadoor", sum := "acd13eba18bad1eb25a5317e2d12796179dd99e3704c6851d718983e0c13dd3e", checked := Tryd.checked }
namespace Rows
def none {H : Type} : Left H := { results := [], args := [] }

/- WHAT THE LISTED PACKAGE-LEVEL VARIABLES READ AS WHEN THE CALL BEGINS. Each datum BY PROGRAM (the guide's laid-datum.mjs) off the statement by which the dump's own 'gosem.cut.vars' lays the variable. In a bare row this is a premise. The card (YtgmdlhlmffdbhaaDoorCards.lean) ties it to the program's text. -/
def laid_errors_errorType {H : Type} : DataW H := .iface "internal/reflectlite.rtype" (.agg [.ptr (.lit (.string [101, 114, 114, 111, 114]))])

/-- 'troupelaw14.CheckPrograms': WHATEVER THE INPUT: true; the input reads as it did. -/
def checkProgramsSpec : ChangeSpec := { name := "checkPrograms", fn := fun _ => fun
  | [d] => { results := [.lit (.bool true)], args := [d] }
  | _ => none }
def checkProgramsRow : OpenClaim := { program := "ytgmdlhlmffdbhaadoor", sum := "acd13eba18bad1eb25a5317e2d12796179dd99e3704c6851d718983e0c13dd3e", func := "troupe/troupelaw14.CheckPrograms", spec := "checkPrograms", inPlace := ["slices.overlaps[int]", "internal/reflectlite.ValueOf", "(internal/reflectlite.Value).Type", "(internal/reflectlite.Value).IsNil", "internal/reflectlite.TypeOf", "(internal/reflectlite.Value).Elem", "(internal/reflectlite.Value).Set"], unfollowed := true, recurses := true, named := ["errors.errorType"], apart := false, laid := [("errors.errorType", laid_errors_errorType)] }
def CheckProgramsSaid : Prop := checkProgramsRow.holds Tryd.pinned (OpenSpec.ofChange checkProgramsSpec)

/-- ITS FALSE NEIGHBOUR: 'it returns false'. Refute it at one input. -/
def checkProgramsWrong : ChangeSpec := { name := "checkPrograms", fn := fun _ => fun
  | [d] => { results := [.lit (.bool false)], args := [d] }
  | _ => none }
def CheckProgramsWrongFalsely : Prop := checkProgramsRow.holds Tryd.pinned (OpenSpec.ofChange checkProgramsWrong)

/-- 'troupelaw14.CheckTurned': WHATEVER THE INPUT: true; the input reads as it did. -/
def checkTurnedSpec : ChangeSpec := { name := "checkTurned", fn := fun _ => fun
  | [d1, d2, d3, d4] => { results := [.lit (.bool true)], args := [d1, d2, d3, d4] }
  | _ => none }
def checkTurnedRow : OpenClaim := { program := "ytgmdlhlmffdbhaadoor", sum := "acd13eba18bad1eb25a5317e2d12796179dd99e3704c6851d718983e0c13dd3e", func := "troupe/troupelaw14.CheckTurned", spec := "checkTurned", inPlace := ["slices.overlaps[int]", "internal/reflectlite.ValueOf", "(internal/reflectlite.Value).Type", "(internal/reflectlite.Value).IsNil", "internal/reflectlite.TypeOf", "(internal/reflectlite.Value).Elem", "(internal/reflectlite.Value).Set"], unfollowed := true, recurses := true, named := ["errors.errorType"], apart := false, laid := [("errors.errorType", laid_errors_errorType)] }
def CheckTurnedSaid : Prop := checkTurnedRow.holds Tryd.pinned (OpenSpec.ofChange checkTurnedSpec)

/-- ITS FALSE NEIGHBOUR: 'it returns false'. Refute it at one input. -/
def checkTurnedWrong : ChangeSpec := { name := "checkTurned", fn := fun _ => fun
  | [d1, d2, d3, d4] => { results := [.lit (.bool false)], args := [d1, d2, d3, d4] }
  | _ => none }
def CheckTurnedWrongFalsely : Prop := checkTurnedRow.holds Tryd.pinned (OpenSpec.ofChange checkTurnedWrong)

/-- 'troupelaw14.CheckTwice': WHATEVER THE INPUT: true; the input reads as it did. -/
def checkTwiceSpec : ChangeSpec := { name := "checkTwice", fn := fun _ => fun
  | [d1, d2, d3] => { results := [.lit (.bool true)], args := [d1, d2, d3] }
  | _ => none }
def checkTwiceRow : OpenClaim := { program := "ytgmdlhlmffdbhaadoor", sum := "acd13eba18bad1eb25a5317e2d12796179dd99e3704c6851d718983e0c13dd3e", func := "troupe/troupelaw14.CheckTwice", spec := "checkTwice", inPlace := ["slices.overlaps[int]", "internal/reflectlite.ValueOf", "(internal/reflectlite.Value).Type", "(internal/reflectlite.Value).IsNil", "internal/reflectlite.TypeOf", "(internal/reflectlite.Value).Elem", "(internal/reflectlite.Value).Set"], unfollowed := true, recurses := true, named := ["errors.errorType"], apart := false, laid := [("errors.errorType", laid_errors_errorType)] }
def CheckTwiceSaid : Prop := checkTwiceRow.holds Tryd.pinned (OpenSpec.ofChange checkTwiceSpec)

/-- ITS FALSE NEIGHBOUR: 'it returns false'. Refute it at one input. -/
def checkTwiceWrong : ChangeSpec := { name := "checkTwice", fn := fun _ => fun
  | [d1, d2, d3] => { results := [.lit (.bool false)], args := [d1, d2, d3] }
  | _ => none }
def CheckTwiceWrongFalsely : Prop := checkTwiceRow.holds Tryd.pinned (OpenSpec.ofChange checkTwiceWrong)

/-- 'troupelaw14.CheckPlaces': WHATEVER THE INPUT: true; the input reads as it did. -/
def checkPlacesSpec : ChangeSpec := { name := "checkPlaces", fn := fun _ => fun
  | [d] => { results := [.lit (.bool true)], args := [d] }
  | _ => none }
def checkPlacesRow : OpenClaim := { program := "ytgmdlhlmffdbhaadoor", sum := "acd13eba18bad1eb25a5317e2d12796179dd99e3704c6851d718983e0c13dd3e", func := "troupe/troupelaw14.CheckPlaces", spec := "checkPlaces", inPlace := ["slices.overlaps[int]", "internal/reflectlite.ValueOf", "(internal/reflectlite.Value).Type", "(internal/reflectlite.Value).IsNil", "internal/reflectlite.TypeOf", "(internal/reflectlite.Value).Elem", "(internal/reflectlite.Value).Set"], unfollowed := true, recurses := true, named := ["errors.errorType"], apart := false, laid := [("errors.errorType", laid_errors_errorType)] }
def CheckPlacesSaid : Prop := checkPlacesRow.holds Tryd.pinned (OpenSpec.ofChange checkPlacesSpec)

/-- ITS FALSE NEIGHBOUR: 'it returns false'. Refute it at one input. -/
def checkPlacesWrong : ChangeSpec := { name := "checkPlaces", fn := fun _ => fun
  | [d] => { results := [.lit (.bool false)], args := [d] }
  | _ => none }
def CheckPlacesWrongFalsely : Prop := checkPlacesRow.holds Tryd.pinned (OpenSpec.ofChange checkPlacesWrong)

/- THE SECOND FORM. 'bulk': how many values and letters a reading holds, each counted each time it is reached (what is shared counts as often as it is met; a slice's spare places count too). A statement '..UptoSaid' is the law's where the arguments, and the package variables that the reading takes, are together of bulk at most 1048576: NARROWER than '..Said'. Prove '..Said' where nothing that the law and all that it calls make is longer than what came in: it says more and counts as full. Else prove '..UptoSaid'. A law counts once. -/
mutual
def uptoBulk {H : Type} : DataW H → Nat
  | .lit (.string bytes) => bytes.length + 1
  | .lit _ => 1
  | .nil => 1
  | .ptr d => uptoBulk d + 1
  | .slice elems spare => uptoBulkAll elems + uptoBulkAll spare + 1
  | .agg parts => uptoBulkAll parts + 1
  | .iface _ d => uptoBulk d + 1
  | .map entries => uptoBulkEntries entries + 1
  | .held _ => 1
def uptoBulkAll {H : Type} : List (DataW H) → Nat
  | [] => 0
  | d :: r => uptoBulk d + uptoBulkAll r
def uptoBulkEntries {H : Type} : List (Lit × DataW H) → Nat
  | [] => 0
  | x :: r => uptoBulkEntry x + uptoBulkEntries r
def uptoBulkEntry {H : Type} : Lit × DataW H → Nat
  | (.string bytes, d) => bytes.length + uptoBulk d + 1
  | (_, d) => uptoBulk d + 1
 end
def uptoSmall : (H : Type) → List (DataW H) → Bool := fun _ ds => decide (uptoBulkAll ds ≤ 1048576)
def OpenSpec.upto (s : _root_.Go.ChangeSpec) : _root_.Go.OpenSpec := { _root_.Go.OpenSpec.ofChange s with cond := some uptoSmall }

/-- 'troupelaw14.CheckPrograms', WHERE WHAT IT READS IS OF BULK AT MOST 1048576: true; the input reads as it did. -/
def checkProgramsUptoRow : OpenClaim := { program := "ytgmdlhlmffdbhaadoor", sum := "acd13eba18bad1eb25a5317e2d12796179dd99e3704c6851d718983e0c13dd3e", func := "troupe/troupelaw14.CheckPrograms", spec := "checkPrograms", inPlace := ["slices.overlaps[int]", "internal/reflectlite.ValueOf", "(internal/reflectlite.Value).Type", "(internal/reflectlite.Value).IsNil", "internal/reflectlite.TypeOf", "(internal/reflectlite.Value).Elem", "(internal/reflectlite.Value).Set"], unfollowed := true, recurses := true, named := ["errors.errorType"], apart := false, laid := [("errors.errorType", laid_errors_errorType)], narrowed := true }
def CheckProgramsUptoSaid : Prop := checkProgramsUptoRow.holds Tryd.pinned (OpenSpec.upto checkProgramsSpec)

/-- 'troupelaw14.CheckTurned', WHERE WHAT IT READS IS OF BULK AT MOST 1048576: true; the input reads as it did. -/
def checkTurnedUptoRow : OpenClaim := { program := "ytgmdlhlmffdbhaadoor", sum := "acd13eba18bad1eb25a5317e2d12796179dd99e3704c6851d718983e0c13dd3e", func := "troupe/troupelaw14.CheckTurned", spec := "checkTurned", inPlace := ["slices.overlaps[int]", "internal/reflectlite.ValueOf", "(internal/reflectlite.Value).Type", "(internal/reflectlite.Value).IsNil", "internal/reflectlite.TypeOf", "(internal/reflectlite.Value).Elem", "(internal/reflectlite.Value).Set"], unfollowed := true, recurses := true, named := ["errors.errorType"], apart := false, laid := [("errors.errorType", laid_errors_errorType)], narrowed := true }
def CheckTurnedUptoSaid : Prop := checkTurnedUptoRow.holds Tryd.pinned (OpenSpec.upto checkTurnedSpec)

/-- 'troupelaw14.CheckTwice', WHERE WHAT IT READS IS OF BULK AT MOST 1048576: true; the input reads as it did. -/
def checkTwiceUptoRow : OpenClaim := { program := "ytgmdlhlmffdbhaadoor", sum := "acd13eba18bad1eb25a5317e2d12796179dd99e3704c6851d718983e0c13dd3e", func := "troupe/troupelaw14.CheckTwice", spec := "checkTwice", inPlace := ["slices.overlaps[int]", "internal/reflectlite.ValueOf", "(internal/reflectlite.Value).Type", "(internal/reflectlite.Value).IsNil", "internal/reflectlite.TypeOf", "(internal/reflectlite.Value).Elem", "(internal/reflectlite.Value).Set"], unfollowed := true, recurses := true, named := ["errors.errorType"], apart := false, laid := [("errors.errorType", laid_errors_errorType)], narrowed := true }
def CheckTwiceUptoSaid : Prop := checkTwiceUptoRow.holds Tryd.pinned (OpenSpec.upto checkTwiceSpec)

/-- 'troupelaw14.CheckPlaces', WHERE WHAT IT READS IS OF BULK AT MOST 1048576: true; the input reads as it did. -/
def checkPlacesUptoRow : OpenClaim := { program := "ytgmdlhlmffdbhaadoor", sum := "acd13eba18bad1eb25a5317e2d12796179dd99e3704c6851d718983e0c13dd3e", func := "troupe/troupelaw14.CheckPlaces", spec := "checkPlaces", inPlace := ["slices.overlaps[int]", "internal/reflectlite.ValueOf", "(internal/reflectlite.Value).Type", "(internal/reflectlite.Value).IsNil", "internal/reflectlite.TypeOf", "(internal/reflectlite.Value).Elem", "(internal/reflectlite.Value).Set"], unfollowed := true, recurses := true, named := ["errors.errorType"], apart := false, laid := [("errors.errorType", laid_errors_errorType)], narrowed := true }
def CheckPlacesUptoSaid : Prop := checkPlacesUptoRow.holds Tryd.pinned (OpenSpec.upto checkPlacesSpec)

end Rows
end Go.Proofs.YtgmdlhlmffdbhaaDoor
