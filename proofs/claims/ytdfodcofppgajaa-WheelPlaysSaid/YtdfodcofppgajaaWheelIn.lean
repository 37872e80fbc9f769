/-
  A script's entries, read. Own work.
-/
import Derived.Lib.SmallJoins
import Derived.Test.YtdfodcofppgajaaWheelS
import Derived.Test.YtdfodcofppgajaaOpen
namespace Go.Proofs.Ytdfodcofppgajaa.L
open Go.L Go.L.Whl Go.RowKit Go.Deep
def wGood (q : Int × Int × Int) : Prop := (0 ≤ q.1 ∧ q.1 ≤ 255) ∧ (0 ≤ q.2.1 ∧ q.2.1 ≤ 18446744073709551615) ∧ -9223372036854775808 ≤ q.2.2 ∧ q.2.2 ≤ 9223372036854775807
theorem sW_len (q : Int × Int × Int) : (sW q).length = 3 := rfl
set_option maxRecDepth 100000 in
theorem one_w {H : Type} {enc : TypeId × Value → H} {w : World} {bs : Nat} {spare : Nat → Bool} {held : Bool} (n : Nat) (cs : List Value) (d : DataW H × List MemPlace) (h : DataW.trod enc Try.prog w bs spare held n 48 cs = some d) : ∃ q, cs = sW q ∧ wGood q := by
  obtain ⟨y0, y1, y2, m, _, hl, h0, h1, h2⟩ := trod_struct3 Try.underlying48 h
  rw [show Try.prog.cellsOf 48 = 3 by kernel_rfl] at hl
  obtain ⟨c0, c1, c2, rfl⟩ : ∃ c0 c1 c2, cs = [c0, c1, c2] := by match cs, hl with | [c0, c1, c2], _ => exact ⟨_, _, _, rfl⟩
  obtain ⟨a, e0, _, w0⟩ := DataW.trod_int Try.underlying5 h0
  obtain ⟨b, e1, _, w1⟩ := DataW.trod_int Try.underlying31 h1
  obtain ⟨c, e2, _, w2⟩ := DataW.trod_int Try.underlying3 h2
  rw [show Try.prog.cellsOf 5 = 1 by kernel_rfl] at e0
  rw [show Try.prog.cellsOf 31 = 1 by kernel_rfl] at e1
  rw [show Try.prog.cellsOf 3 = 1 by kernel_rfl] at e2
  simp at e0 e1 e2
  subst e0 e1 e2
  exact ⟨(a, b, c), rfl, by simpa [Lit.wf, IntKind.min, IntKind.max, IntKind.signed, IntKind.bits] using w0, by simpa [Lit.wf, IntKind.min, IntKind.max, IntKind.signed, IntKind.bits] using w1, by simpa [Lit.wf, IntKind.min, IntKind.max, IntKind.signed, IntKind.bits] using w2⟩
end Go.Proofs.Ytdfodcofppgajaa.L
