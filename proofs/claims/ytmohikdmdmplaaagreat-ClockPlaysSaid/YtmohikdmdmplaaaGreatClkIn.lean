/-
  A script's entries, read. Own work.
-/
import Derived.Lib.SmallJoins
import Derived.Test.YtmohikdmdmplaaaGreatClkL
import Derived.Test.YtmohikdmdmplaaaGreatOpen
namespace Go.Proofs.YtmohikdmdmplaaaGreat.L
open Go.L Go.L.Ring Go.RowKit Go.Deep
def kGood (q : Int × Int × Int × Int) : Prop := (0 ≤ q.1 ∧ q.1 ≤ 255) ∧ (0 ≤ q.2.1 ∧ q.2.1 ≤ 255) ∧ (0 ≤ q.2.2.1 ∧ q.2.2.1 ≤ 18446744073709551615)
theorem sV4_len (q : Int × Int × Int × Int) : (sV4 q).length = 4 := rfl
set_option maxRecDepth 100000 in
theorem one_k {H : Type} {enc : TypeId × Value → H} {w : World} {bs : Nat} {spare : Nat → Bool} {held : Bool} (n : Nat) (cs : List Value) (d : DataW H × List MemPlace) (h : DataW.trod enc Tryz.prog w bs spare held n 72 cs = some d) : ∃ q, cs = sV4 q ∧ kGood q := by
  obtain ⟨y0, y1, y2, y3, m, _, hl, h0, h1, h2, h3⟩ := Go.Joins.trod_struct4 Tryz.underlying72 h
  rw [show Tryz.prog.cellsOf 72 = 4 by kernel_rfl] at hl
  obtain ⟨c0, c1, c2, c3, rfl⟩ : ∃ c0 c1 c2 c3, cs = [c0, c1, c2, c3] := by match cs, hl with | [c0, c1, c2, c3], _ => exact ⟨_, _, _, _, rfl⟩
  obtain ⟨a, e0, _, w0⟩ := DataW.trod_int Tryz.underlying5 h0
  obtain ⟨b, e1, _, w1⟩ := DataW.trod_int Tryz.underlying5 h1
  obtain ⟨c, e2, _, w2⟩ := DataW.trod_int Tryz.underlying22 h2
  obtain ⟨d, e3, _, w3⟩ := DataW.trod_int Tryz.underlying3 h3
  rw [show Tryz.prog.cellsOf 5 = 1 by kernel_rfl] at e0
  rw [show Tryz.prog.cellsOf 5 = 1 by kernel_rfl] at e1
  rw [show Tryz.prog.cellsOf 22 = 1 by kernel_rfl] at e2
  rw [show Tryz.prog.cellsOf 3 = 1 by kernel_rfl] at e3
  simp at e0 e1 e2 e3
  subst e0 e1 e2 e3
  exact ⟨(a, b, c, d), rfl, by simpa [Lit.wf, IntKind.min, IntKind.max, IntKind.signed, IntKind.bits] using w0, by simpa [Lit.wf, IntKind.min, IntKind.max, IntKind.signed, IntKind.bits] using w1, by simpa [Lit.wf, IntKind.min, IntKind.max, IntKind.signed, IntKind.bits] using w2⟩
end Go.Proofs.YtmohikdmdmplaaaGreat.L
