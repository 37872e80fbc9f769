/-
  No cell of these rows narrows 'for every input' (looked for: loops, veiled, ifaces, maps, wideKeys, modest, calm, conditions, laid).
  DERIVED. THE GIVEN ROWS OF THIS SEAT. 8 by the template 'for every input the law returns true; each argument reads behind the call as it read before'; 0 by the template 'total and deterministic' (their statements: YtnnhpnccfnghdaaGreatTotals.lean).
  GIVEN WITH THE SEED: the statements are not yours to turn. If you find one false, say at which input.
  Laid BY PROGRAM, IN A SANDBOX (cutbox-rows.mjs): the forced cells as the released guide's own fill.sh prints them over the translation 5fa74637b890373a… (all of the seat's roots in one cut). By AI agents, Wed Nov 11 2026. No macro, syntax, notation, axiom, sorry.
-/
import Derived.Test.YtnnhpnccfnghdaaGreatChecked
import GoSem.Claim
import GoSem.ClaimJoined
import GoSem.ClaimMapViews
import Derived.JoinedTies
import Derived.KernelRfl
namespace Go.Proofs.YtnnhpnccfnghdaaGreat
/- THE CELL 'sum', in the pinned program and in every row, IS THE sha256 OF THE DUMP (.gsa) THAT YtnnhpnccfnghdaaGreatProg.lean LOADS. Nothing in Lean hashes anything: it is a label: what it is worth is what the hold of that sum in a sandbox is worth. -/
noncomputable def Tryz.pinned : Pinned := { name := "ytnnhpnccfnghdaagreat", sum := "5fa74637b890373acac08c08f6eabdec7375593c0efe0c7df6b2797d8ba8642c", checked := Tryz.checked }
namespace Rows
def none {H : Type} : Left H := { results := [], args := [] }

/-- 'troupetop.WholeOnce': WHATEVER THE INPUT: true; the input reads as it did. -/
def wholeOnceSpec : ChangeSpec := { name := "wholeOnce", fn := fun _ => fun
  | [d] => { results := [.lit (.bool true)], args := [d] }
  | _ => none }
def wholeOnceRow : OpenClaim := { program := "ytnnhpnccfnghdaagreat", sum := "5fa74637b890373acac08c08f6eabdec7375593c0efe0c7df6b2797d8ba8642c", func := "troupe/troupetop.WholeOnce", spec := "wholeOnce", inPlace := ["slices.overlaps[int]"], unfollowed := true, recurses := true, apart := false }
def WholeOnceSaid : Prop := wholeOnceRow.holds Tryz.pinned (OpenSpec.ofChange wholeOnceSpec)

/-- ITS FALSE NEIGHBOUR: 'it returns false'. Refute it at one input. -/
def wholeOnceWrong : ChangeSpec := { name := "wholeOnce", fn := fun _ => fun
  | [d] => { results := [.lit (.bool false)], args := [d] }
  | _ => none }
def WholeOnceWrongFalsely : Prop := wholeOnceRow.holds Tryz.pinned (OpenSpec.ofChange wholeOnceWrong)

/-- 'troupetop.WholeCalm': WHATEVER THE INPUT: true; the input reads as it did. -/
def wholeCalmSpec : ChangeSpec := { name := "wholeCalm", fn := fun _ => fun
  | [d] => { results := [.lit (.bool true)], args := [d] }
  | _ => none }
def wholeCalmRow : OpenClaim := { program := "ytnnhpnccfnghdaagreat", sum := "5fa74637b890373acac08c08f6eabdec7375593c0efe0c7df6b2797d8ba8642c", func := "troupe/troupetop.WholeCalm", spec := "wholeCalm", inPlace := ["slices.overlaps[int]"], unfollowed := true, recurses := true, apart := false }
def WholeCalmSaid : Prop := wholeCalmRow.holds Tryz.pinned (OpenSpec.ofChange wholeCalmSpec)

/-- ITS FALSE NEIGHBOUR: 'it returns false'. Refute it at one input. -/
def wholeCalmWrong : ChangeSpec := { name := "wholeCalm", fn := fun _ => fun
  | [d] => { results := [.lit (.bool false)], args := [d] }
  | _ => none }
def WholeCalmWrongFalsely : Prop := wholeCalmRow.holds Tryz.pinned (OpenSpec.ofChange wholeCalmWrong)

/-- 'troupetop.WholeDead': WHATEVER THE INPUT: true; the input reads as it did. -/
def wholeDeadSpec : ChangeSpec := { name := "wholeDead", fn := fun _ => fun
  | [d] => { results := [.lit (.bool true)], args := [d] }
  | _ => none }
def wholeDeadRow : OpenClaim := { program := "ytnnhpnccfnghdaagreat", sum := "5fa74637b890373acac08c08f6eabdec7375593c0efe0c7df6b2797d8ba8642c", func := "troupe/troupetop.WholeDead", spec := "wholeDead", inPlace := ["slices.overlaps[int]"], unfollowed := true, recurses := true, apart := false }
def WholeDeadSaid : Prop := wholeDeadRow.holds Tryz.pinned (OpenSpec.ofChange wholeDeadSpec)

/-- ITS FALSE NEIGHBOUR: 'it returns false'. Refute it at one input. -/
def wholeDeadWrong : ChangeSpec := { name := "wholeDead", fn := fun _ => fun
  | [d] => { results := [.lit (.bool false)], args := [d] }
  | _ => none }
def WholeDeadWrongFalsely : Prop := wholeDeadRow.holds Tryz.pinned (OpenSpec.ofChange wholeDeadWrong)

/-- 'troupelaw22.TheatreRounds': WHATEVER THE INPUT: true; the input reads as it did. -/
def theatreRoundsSpec : ChangeSpec := { name := "theatreRounds", fn := fun _ => fun
  | [d1, d2] => { results := [.lit (.bool true)], args := [d1, d2] }
  | _ => none }
def theatreRoundsRow : OpenClaim := { program := "ytnnhpnccfnghdaagreat", sum := "5fa74637b890373acac08c08f6eabdec7375593c0efe0c7df6b2797d8ba8642c", func := "troupe/troupelaw22.TheatreRounds", spec := "theatreRounds", inPlace := ["slices.overlaps[int]"], unfollowed := true, recurses := true, apart := false }
def TheatreRoundsSaid : Prop := theatreRoundsRow.holds Tryz.pinned (OpenSpec.ofChange theatreRoundsSpec)

/-- ITS FALSE NEIGHBOUR: 'it returns false'. Refute it at one input. -/
def theatreRoundsWrong : ChangeSpec := { name := "theatreRounds", fn := fun _ => fun
  | [d1, d2] => { results := [.lit (.bool false)], args := [d1, d2] }
  | _ => none }
def TheatreRoundsWrongFalsely : Prop := theatreRoundsRow.holds Tryz.pinned (OpenSpec.ofChange theatreRoundsWrong)

/-- 'troupelaw22.TheatreTwice': WHATEVER THE INPUT: true; the input reads as it did. -/
def theatreTwiceSpec : ChangeSpec := { name := "theatreTwice", fn := fun _ => fun
  | [d] => { results := [.lit (.bool true)], args := [d] }
  | _ => none }
def theatreTwiceRow : OpenClaim := { program := "ytnnhpnccfnghdaagreat", sum := "5fa74637b890373acac08c08f6eabdec7375593c0efe0c7df6b2797d8ba8642c", func := "troupe/troupelaw22.TheatreTwice", spec := "theatreTwice", inPlace := ["slices.overlaps[int]"], unfollowed := true, recurses := true, apart := false }
def TheatreTwiceSaid : Prop := theatreTwiceRow.holds Tryz.pinned (OpenSpec.ofChange theatreTwiceSpec)

/-- ITS FALSE NEIGHBOUR: 'it returns false'. Refute it at one input. -/
def theatreTwiceWrong : ChangeSpec := { name := "theatreTwice", fn := fun _ => fun
  | [d] => { results := [.lit (.bool false)], args := [d] }
  | _ => none }
def TheatreTwiceWrongFalsely : Prop := theatreTwiceRow.holds Tryz.pinned (OpenSpec.ofChange theatreTwiceWrong)

/-- 'troupelaw22.TheatreQuiet': WHATEVER THE INPUT: true; the input reads as it did. -/
def theatreQuietSpec : ChangeSpec := { name := "theatreQuiet", fn := fun _ => fun
  | [d1, d2] => { results := [.lit (.bool true)], args := [d1, d2] }
  | _ => none }
def theatreQuietRow : OpenClaim := { program := "ytnnhpnccfnghdaagreat", sum := "5fa74637b890373acac08c08f6eabdec7375593c0efe0c7df6b2797d8ba8642c", func := "troupe/troupelaw22.TheatreQuiet", spec := "theatreQuiet", inPlace := ["slices.overlaps[int]"], unfollowed := true, recurses := true, apart := false }
def TheatreQuietSaid : Prop := theatreQuietRow.holds Tryz.pinned (OpenSpec.ofChange theatreQuietSpec)

/-- ITS FALSE NEIGHBOUR: 'it returns false'. Refute it at one input. -/
def theatreQuietWrong : ChangeSpec := { name := "theatreQuiet", fn := fun _ => fun
  | [d1, d2] => { results := [.lit (.bool false)], args := [d1, d2] }
  | _ => none }
def TheatreQuietWrongFalsely : Prop := theatreQuietRow.holds Tryz.pinned (OpenSpec.ofChange theatreQuietWrong)

/-- 'troupelaw22.TheatreKept': WHATEVER THE INPUT: true; the input reads as it did. -/
def theatreKeptSpec : ChangeSpec := { name := "theatreKept", fn := fun _ => fun
  | [d] => { results := [.lit (.bool true)], args := [d] }
  | _ => none }
def theatreKeptRow : OpenClaim := { program := "ytnnhpnccfnghdaagreat", sum := "5fa74637b890373acac08c08f6eabdec7375593c0efe0c7df6b2797d8ba8642c", func := "troupe/troupelaw22.TheatreKept", spec := "theatreKept", inPlace := ["slices.overlaps[int]"], unfollowed := true, recurses := true, apart := false }
def TheatreKeptSaid : Prop := theatreKeptRow.holds Tryz.pinned (OpenSpec.ofChange theatreKeptSpec)

/-- ITS FALSE NEIGHBOUR: 'it returns false'. Refute it at one input. -/
def theatreKeptWrong : ChangeSpec := { name := "theatreKept", fn := fun _ => fun
  | [d] => { results := [.lit (.bool false)], args := [d] }
  | _ => none }
def TheatreKeptWrongFalsely : Prop := theatreKeptRow.holds Tryz.pinned (OpenSpec.ofChange theatreKeptWrong)

/-- 'troupetop.WholeShut': WHATEVER THE INPUT: true; the input reads as it did. -/
def wholeShutSpec : ChangeSpec := { name := "wholeShut", fn := fun _ => fun
  | [d] => { results := [.lit (.bool true)], args := [d] }
  | _ => none }
def wholeShutRow : OpenClaim := { program := "ytnnhpnccfnghdaagreat", sum := "5fa74637b890373acac08c08f6eabdec7375593c0efe0c7df6b2797d8ba8642c", func := "troupe/troupetop.WholeShut", spec := "wholeShut", inPlace := ["slices.overlaps[int]"], unfollowed := true, recurses := true, apart := false }
def WholeShutSaid : Prop := wholeShutRow.holds Tryz.pinned (OpenSpec.ofChange wholeShutSpec)

/-- ITS FALSE NEIGHBOUR: 'it returns false'. Refute it at one input. -/
def wholeShutWrong : ChangeSpec := { name := "wholeShut", fn := fun _ => fun
  | [d] => { results := [.lit (.bool false)], args := [d] }
  | _ => none }
def WholeShutWrongFalsely : Prop := wholeShutRow.holds Tryz.pinned (OpenSpec.ofChange wholeShutWrong)

/- THE SECOND FORM. 'bulk': how many values and letters a reading holds, each counted each time it is reached (what is shared counts as often as it is met; a slice's spare places count too). A statement '..UptoSaid' is the law's where the arguments, and the package variables that the reading takes, are together of bulk at most 1048576: NARROWER than '..Said'. Prove '..Said' where nothing that the law and all that it calls make is longer than what came in: it says more and counts as full. Else prove '..UptoSaid'. A law counts once. -/
mutual
def uptoBulk {H : Type} : DataW H → Nat
  | .lit (.string bytes) => bytes.length + 1
  | .lit _ => 1
  | .nil => 1
  | .ptr d => uptoBulk d + 1
  | .slice elems spare => uptoBulkAll elems + uptoBulkAll spare + 1
  | .agg parts => uptoBulkAll parts + 1
  | .iface _ d => uptoBulk d + 1
  | .map entries => uptoBulkEntries entries + 1
  | .held _ => 1
def uptoBulkAll {H : Type} : List (DataW H) → Nat
  | [] => 0
  | d :: r => uptoBulk d + uptoBulkAll r
def uptoBulkEntries {H : Type} : List (Lit × DataW H) → Nat
  | [] => 0
  | x :: r => uptoBulkEntry x + uptoBulkEntries r
def uptoBulkEntry {H : Type} : Lit × DataW H → Nat
  | (.string bytes, d) => bytes.length + uptoBulk d + 1
  | (_, d) => uptoBulk d + 1
 end
def uptoSmall : (H : Type) → List (DataW H) → Bool := fun _ ds => decide (uptoBulkAll ds ≤ 1048576)
def OpenSpec.upto (s : _root_.Go.ChangeSpec) : _root_.Go.OpenSpec := { _root_.Go.OpenSpec.ofChange s with cond := some uptoSmall }

/-- 'troupetop.WholeOnce', WHERE WHAT IT READS IS OF BULK AT MOST 1048576: true; the input reads as it did. -/
def wholeOnceUptoRow : OpenClaim := { program := "ytnnhpnccfnghdaagreat", sum := "5fa74637b890373acac08c08f6eabdec7375593c0efe0c7df6b2797d8ba8642c", func := "troupe/troupetop.WholeOnce", spec := "wholeOnce", inPlace := ["slices.overlaps[int]"], unfollowed := true, recurses := true, apart := false, narrowed := true }
def WholeOnceUptoSaid : Prop := wholeOnceUptoRow.holds Tryz.pinned (OpenSpec.upto wholeOnceSpec)

/-- 'troupetop.WholeCalm', WHERE WHAT IT READS IS OF BULK AT MOST 1048576: true; the input reads as it did. -/
def wholeCalmUptoRow : OpenClaim := { program := "ytnnhpnccfnghdaagreat", sum := "5fa74637b890373acac08c08f6eabdec7375593c0efe0c7df6b2797d8ba8642c", func := "troupe/troupetop.WholeCalm", spec := "wholeCalm", inPlace := ["slices.overlaps[int]"], unfollowed := true, recurses := true, apart := false, narrowed := true }
def WholeCalmUptoSaid : Prop := wholeCalmUptoRow.holds Tryz.pinned (OpenSpec.upto wholeCalmSpec)

/-- 'troupetop.WholeDead', WHERE WHAT IT READS IS OF BULK AT MOST 1048576: true; the input reads as it did. -/
def wholeDeadUptoRow : OpenClaim := { program := "ytnnhpnccfnghdaagreat", sum := "5fa74637b890373acac08c08f6eabdec7375593c0efe0c7df6b2797d8ba8642c", func := "troupe/troupetop.WholeDead", spec := "wholeDead", inPlace := ["slices.overlaps[int]"], unfollowed := true, recurses := true, apart := false, narrowed := true }
def WholeDeadUptoSaid : Prop := wholeDeadUptoRow.holds Tryz.pinned (OpenSpec.upto wholeDeadSpec)

/-- 'troupelaw22.TheatreRounds', WHERE WHAT IT READS IS OF BULK AT MOST 1048576: true; the input reads as it did. -/
def theatreRoundsUptoRow : OpenClaim := { program := "ytnnhpnccfnghdaagreat", sum := "5fa74637b890373acac08c08f6eabdec7375593c0efe0c7df6b2797d8ba8642c", func := "troupe/troupelaw22.TheatreRounds", spec := "theatreRounds", inPlace := ["slices.overlaps[int]"], unfollowed := true, recurses := true, apart := false, narrowed := true }
def TheatreRoundsUptoSaid : Prop := theatreRoundsUptoRow.holds Tryz.pinned (OpenSpec.upto theatreRoundsSpec)

/-- 'troupelaw22.TheatreTwice', WHERE WHAT IT READS IS OF BULK AT MOST 1048576: true; the input reads as it did. -/
def theatreTwiceUptoRow : OpenClaim := { program := "ytnnhpnccfnghdaagreat", sum := "5fa74637b890373acac08c08f6eabdec7375593c0efe0c7df6b2797d8ba8642c", func := "troupe/troupelaw22.TheatreTwice", spec := "theatreTwice", inPlace := ["slices.overlaps[int]"], unfollowed := true, recurses := true, apart := false, narrowed := true }
def TheatreTwiceUptoSaid : Prop := theatreTwiceUptoRow.holds Tryz.pinned (OpenSpec.upto theatreTwiceSpec)

/-- 'troupelaw22.TheatreQuiet', WHERE WHAT IT READS IS OF BULK AT MOST 1048576: true; the input reads as it did. -/
def theatreQuietUptoRow : OpenClaim := { program := "ytnnhpnccfnghdaagreat", sum := "5fa74637b890373acac08c08f6eabdec7375593c0efe0c7df6b2797d8ba8642c", func := "troupe/troupelaw22.TheatreQuiet", spec := "theatreQuiet", inPlace := ["slices.overlaps[int]"], unfollowed := true, recurses := true, apart := false, narrowed := true }
def TheatreQuietUptoSaid : Prop := theatreQuietUptoRow.holds Tryz.pinned (OpenSpec.upto theatreQuietSpec)

/-- 'troupelaw22.TheatreKept', WHERE WHAT IT READS IS OF BULK AT MOST 1048576: true; the input reads as it did. -/
def theatreKeptUptoRow : OpenClaim := { program := "ytnnhpnccfnghdaagreat", sum := "5fa74637b890373acac08c08f6eabdec7375593c0efe0c7df6b2797d8ba8642c", func := "troupe/troupelaw22.TheatreKept", spec := "theatreKept", inPlace := ["slices.overlaps[int]"], unfollowed := true, recurses := true, apart := false, narrowed := true }
def TheatreKeptUptoSaid : Prop := theatreKeptUptoRow.holds Tryz.pinned (OpenSpec.upto theatreKeptSpec)

/-- 'troupetop.WholeShut', WHERE WHAT IT READS IS OF BULK AT MOST 1048576: true; the input reads as it did. -/
def wholeShutUptoRow : OpenClaim := { program := "ytnnhpnccfnghdaagreat", sum := "5fa74637b890373acac08c08f6eabdec7375593c0efe0c7df6b2797d8ba8642c", func := "troupe/troupetop.WholeShut", spec := "wholeShut", inPlace := ["slices.overlaps[int]"], unfollowed := true, recurses := true, apart := false, narrowed := true }
def WholeShutUptoSaid : Prop := wholeShutUptoRow.holds Tryz.pinned (OpenSpec.upto wholeShutSpec)

end Rows
end Go.Proofs.YtnnhpnccfnghdaaGreat
