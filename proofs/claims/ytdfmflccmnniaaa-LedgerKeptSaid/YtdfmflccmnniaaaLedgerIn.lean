import Derived.Lib.SmallJoins
import Derived.Test.YtdfmflccmnniaaaLedgerL
import Derived.Test.YtdfmflccmnniaaaOpen
namespace Go.Proofs.Ytdfmflccmnniaaa.L
open Go.L Go.L.Led Go.RowKit Go.Deep
theorem one_op {H : Type} {enc : TypeId × Value → H} {w : World} {bs : Nat} {spare : Nat → Bool} {held : Bool} (n : Nat) (cs : List Value) (d : DataW H × List MemPlace) (h : DataW.trod enc Try.prog w bs spare held n 31 cs = some d) : ∃ q, cs = oe q ∧ (0 ≤ q.1 ∧ q.1 ≤ 255) := by
  obtain ⟨y0, y1, y2, m, _, hl, h0, h1, h2⟩ := trod_struct3 Try.underlying31 h
  rw [show Try.prog.cellsOf 31 = 3 by kernel_rfl] at hl
  obtain ⟨c0, c1, c2, rfl⟩ : ∃ c0 c1 c2, cs = [c0, c1, c2] := by match cs, hl with | [c0, c1, c2], _ => exact ⟨_, _, _, rfl⟩
  obtain ⟨a, e0, _, w0⟩ := DataW.trod_int Try.underlying5 h0
  obtain ⟨b, e1, _, _⟩ := DataW.trod_int Try.underlying29 h1
  obtain ⟨c, e2, _, _⟩ := DataW.trod_int Try.underlying3 h2
  rw [show Try.prog.cellsOf 5 = 1 by kernel_rfl] at e0
  rw [show Try.prog.cellsOf 29 = 1 by kernel_rfl] at e1
  rw [show Try.prog.cellsOf 3 = 1 by kernel_rfl] at e2
  simp at e0 e1 e2
  subst e0 e1 e2
  exact ⟨(a, b, c), rfl, by simpa [Lit.wf, IntKind.min, IntKind.max, IntKind.signed, IntKind.bits] using w0⟩
end Go.Proofs.Ytdfmflccmnniaaa.L
