/-
  A script's entries of PostPlays, read. Own work.
-/
import Derived.Lib.SmallJoins
import Derived.Test.YtkpgcdhepfgfaaaGreatPostPl
import Derived.Test.YtkpgcdhepfgfaaaGreatOpen
namespace Go.Proofs.YtkpgcdhepfgfaaaGreat.L
open Go.L Go.L.Ring Go.RowKit Go.Deep
def sGood (q : Int × Int × Int) : Prop := (0 ≤ q.1 ∧ q.1 ≤ 255) ∧ (0 ≤ q.2.1 ∧ q.2.1 ≤ 255) ∧ 0 ≤ q.2.2 ∧ q.2.2 ≤ 18446744073709551615
theorem sV_len (q : Int × Int × Int) : (sV q).length = 3 := rfl
set_option maxRecDepth 100000 in
theorem one_s {H : Type} {enc : TypeId × Value → H} {w : World} {bs : Nat} {spare : Nat → Bool} {held : Bool} (n : Nat) (cs : List Value) (d : DataW H × List MemPlace) (h : DataW.trod enc Tryz.prog w bs spare held n 41 cs = some d) : ∃ q, cs = sV q ∧ sGood q := by
  obtain ⟨y0, y1, y2, m, _, hl, h0, h1, h2⟩ := trod_struct3 Tryz.underlying41 h
  rw [show Tryz.prog.cellsOf 41 = 3 by kernel_rfl] at hl
  obtain ⟨c0, c1, c2, rfl⟩ : ∃ c0 c1 c2, cs = [c0, c1, c2] := by match cs, hl with | [c0, c1, c2], _ => exact ⟨_, _, _, rfl⟩
  obtain ⟨a, e0, _, w0⟩ := DataW.trod_int Tryz.underlying5 h0
  obtain ⟨b, e1, _, w1⟩ := DataW.trod_int Tryz.underlying5 h1
  obtain ⟨c, e2, _, w2⟩ := DataW.trod_int Tryz.underlying39 h2
  rw [show Tryz.prog.cellsOf 5 = 1 by kernel_rfl] at e0
  rw [show Tryz.prog.cellsOf 5 = 1 by kernel_rfl] at e1
  rw [show Tryz.prog.cellsOf 39 = 1 by kernel_rfl] at e2
  simp at e0 e1 e2
  subst e0 e1 e2
  exact ⟨(a, b, c), rfl, by simpa [Lit.wf, IntKind.min, IntKind.max, IntKind.signed, IntKind.bits] using w0, by simpa [Lit.wf, IntKind.min, IntKind.max, IntKind.signed, IntKind.bits] using w1, by simpa [Lit.wf, IntKind.min, IntKind.max, IntKind.signed, IntKind.bits] using w2⟩
end Go.Proofs.YtkpgcdhepfgfaaaGreat.L
