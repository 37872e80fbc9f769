/-
  The kit's contracts, laid at this program: printed by a tool of the kit.
-/
import Derived.Shelf.Spec.SlicesInsert
import Derived.Shelf.Spec.SlicesInsertGrow
import Derived.Ground.Names2Prog
import Derived.Shelf.SlGeneric
import Derived.Test.YtgmdlhlmffdbhaaDoorProg
namespace Go.Proofs
open Go.Shelf
def Tryd.insTm_ren : Go.Shelf.Ren := ⟨fun | 21 => 46 | 27 => 62 | 28 => 63 | 35 => 72 | 39 => 79 | n => n, fun | 22 => 29 | 3 => 3 | 4 => 4 | 0 => 0 | n => n, fun | n => n⟩
theorem Tryd.insTm : Go.Proofs.Lays2.n21 Tryd.prog Tryd.insTm_ren := {
  mixed := by kernel_rfl
  f21 := Tryd.func46.trans (congrArg some (by kernel_rfl))
  f27 := Tryd.func62.trans (congrArg some (by kernel_rfl))
  f28 := Tryd.func63.trans (congrArg some (by kernel_rfl))
  f35 := Tryd.func72.trans (congrArg some (by kernel_rfl))
  f39 := Tryd.func79.trans (congrArg some (by kernel_rfl))
  t0 := Tryd.underlying0
  a0 := Tryd.isAgg0
  z0 := Tryd.sizeOf0
  v0 := Tryd.zeroValue0
  t3 := Tryd.underlying3
  a3 := Tryd.isAgg3
  z3 := Tryd.sizeOf3
  v3 := Tryd.zeroValue3
  t4 := Tryd.underlying4
  a4 := Tryd.isAgg4
  z4 := Tryd.sizeOf4
  v4 := Tryd.zeroValue4
  t22 := Tryd.underlying29
  a22 := Tryd.isAgg29
  z22 := Tryd.sizeOf29
  v22 := Tryd.zeroValue29
  i3 := by kernel_rfl }
end Go.Proofs
