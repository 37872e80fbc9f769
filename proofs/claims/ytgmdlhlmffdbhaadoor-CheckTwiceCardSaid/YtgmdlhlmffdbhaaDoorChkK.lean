/-
  A world in which the listed variables hold what the program lays them as; the closed facts that all laws of the seat share. Own work, printed by a program of its own.
-/
import Derived.Test.YtgmdlhlmffdbhaaDoorChkX
import Derived.Test.YtgmdlhlmffdbhaaDoorOpen
import Derived.Test.YtgmdlhlmffdbhaaDoorTie
import Derived.ChangeSame
import Derived.ChangeVars
import Derived.JoinedOf
import Derived.RowKit
import Derived.RowKitTokens
import Derived.LaidLaws
import Derived.LaidHandle
import Derived.Stop.Joined
namespace Go.Proofs.YtgmdlhlmffdbhaaDoor.L
open Go.ChangeShapes Go.WideShapes Go.RowKit
theorem own : ownKnob Tryd.prog.godebug = none := by kernel_rfl
theorem laidOut : laidOutB Tryd.prog = true := by kernel_rfl
noncomputable def low : Nat := (World.holding Tryd.prog default ⟨#[], #[], []⟩).heap.size
noncomputable def laidWorld (os : Os) : World :=
  let w0 := World.holding Tryd.prog os ⟨#[], #[], []⟩
  let put (h : Array Obj) (g : Nat) (cs : Array Value) : Array Obj := h.modify g fun
    | .cells _ t frozen => .cells cs t frozen
    | o => o
  { w0 with heap := put (w0.heap) 0 #[.iface 108 (.agg #[.pointer (some ⟨1, 27, none⟩)])] }
set_option maxRecDepth 100000 in
theorem laidWorld_met (os : Os) (args : Array Value) : laidMetH Tryd.prog laidL ((laidWorld os).forCall (fun _ _ => 0) ⟨#[], args, []⟩).memory :=
  laidMetH_of_parts (laidMet_of_run' 12 (by kernel_rfl) (by kernel_rfl)) (by kernel_rfl)
end Go.Proofs.YtgmdlhlmffdbhaaDoor.L
