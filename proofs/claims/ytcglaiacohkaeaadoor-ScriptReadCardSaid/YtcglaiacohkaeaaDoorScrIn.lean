/-
  Script: entries and events that came in. Own work.
-/
import Derived.Test.YtcglaiacohkaeaaDoorOpen
import Derived.Test.YtcglaiacohkaeaaDoorRows
import Derived.Test.YtcglaiacohkaeaaDoorScrWv
set_option linter.unusedSimpArgs false
set_option linter.unusedVariables false
set_option linter.unusedSectionVars false
namespace Go.Proofs.YtcglaiacohkaeaaDoor.L
open Go.L Go.L.Lx Go.L.Pa Go.L.Sc Go.RowKit
section
variable {H : Type} {enc : TypeId × Value → H} {P : Program} {w : World} {bs : Nat} {spare : Nat → Bool} {held : Bool}
theorem bulk_mem : ∀ {l : List (DataW H)} {d : DataW H}, d ∈ l → Rows.uptoBulk d ≤ Rows.uptoBulkAll l
  | x :: r, d, h => by
    simp only [Rows.uptoBulkAll]
    rcases List.mem_cons.1 h with e | e
    · subst e; omega
    · have := bulk_mem e; omega
theorem bulk_at {l : List (DataW H)} (h : Rows.uptoSmall H l = true) {j : Nat} {d : DataW H} (e : l[j]? = some d) : Rows.uptoBulk d ≤ 1048576 := by
  have h1 := bulk_mem (List.mem_of_getElem? e)
  have h2 : Rows.uptoBulkAll l ≤ 1048576 := of_decide_eq_true h
  omega
theorem bulk_str {b : By} (h : Rows.uptoBulk (DataW.lit (H := H) (.string b)) ≤ 1048576) : b.length ≤ 1048576 := by
  simp only [Rows.uptoBulk] at h; omega
theorem bulk_len : ∀ (l : List (DataW H)), l.length ≤ Rows.uptoBulkAll l
  | [] => Nat.zero_le _
  | d :: l => by
    have h1 := bulk_len l
    have h2 : 1 ≤ Rows.uptoBulk d := by unfold Rows.uptoBulk; split <;> omega
    simp only [Rows.uptoBulkAll, List.length_cons]; omega
theorem bulk_el {el sp : List (DataW H)} (h : Rows.uptoBulk (.slice el sp) ≤ 1048576) : el.length ≤ 1048576 ∧ ∀ d ∈ el, Rows.uptoBulk d ≤ 1048576 := by
  simp only [Rows.uptoBulk] at h
  exact ⟨by have := bulk_len el; omega, fun d hd => by have := bulk_mem hd; omega⟩
theorem bulk_fld {ps : List (DataW H)} {i : Nat} {d : DataW H} (h : Rows.uptoBulk (.agg ps) ≤ 1048576) (e : ps[i]? = some d) : Rows.uptoBulk d ≤ 1048576 := by
  simp only [Rows.uptoBulk] at h
  have := bulk_mem (List.mem_of_getElem? e); omega
theorem fI {t n : Nat} {cs : List Value} {y : DataW H × List MemPlace} {c : Value} {off : Nat} (hu : P.underlying t = some (.int .i64)) (hc : P.cellsOf t = 1) (h : DataW.trod enc P w bs spare held n t ((cs.drop off).take (P.cellsOf t)) = some y) (hcs : (cs.drop off).take 1 = [c]) : ∃ v, c = I64 v ∧ i64R v := by
  rw [hc, hcs] at h; obtain ⟨v, e, _, w0⟩ := DataW.trod_int hu h; exact ⟨v, by simpa using e, by simpa [Lit.wf, IntKind.min, IntKind.max, IntKind.signed, IntKind.bits] using w0⟩
theorem fU {t n : Nat} {cs : List Value} {y : DataW H × List MemPlace} {c : Value} {off : Nat} (hu : P.underlying t = some (.int .u64)) (hc : P.cellsOf t = 1) (h : DataW.trod enc P w bs spare held n t ((cs.drop off).take (P.cellsOf t)) = some y) (hcs : (cs.drop off).take 1 = [c]) : ∃ v : Nat, c = U64 v ∧ v < 18446744073709551616 := by
  rw [hc, hcs] at h; obtain ⟨v, e, _, w0⟩ := DataW.trod_int hu h
  have h0 : 0 ≤ v ∧ v ≤ 18446744073709551615 := by simpa [Lit.wf, IntKind.min, IntKind.max, IntKind.signed, IntKind.bits] using w0
  exact ⟨v.toNat, by rw [Int.toNat_of_nonneg h0.1]; simpa using e, by omega⟩
theorem fB {t n : Nat} {cs : List Value} {y : DataW H × List MemPlace} {c : Value} {off : Nat} (hu : P.underlying t = some .bool) (hc : P.cellsOf t = 1) (h : DataW.trod enc P w bs spare held n t ((cs.drop off).take (P.cellsOf t)) = some y) (hcs : (cs.drop off).take 1 = [c]) : ∃ v, c = .bool v ∧ True := by
  rw [hc, hcs] at h; obtain ⟨v, e, _⟩ := DataW.trod_bool hu h; exact ⟨v, by simpa using e, trivial⟩
theorem fS {t n : Nat} {cs : List Value} {y : DataW H × List MemPlace} {c : Value} {off : Nat} (hu : P.underlying t = some .string) (hc : P.cellsOf t = 1) (h : DataW.trod enc P w bs spare held n t ((cs.drop off).take (P.cellsOf t)) = some y) (hw : Rows.uptoBulk y.1 ≤ 1048576) (hcs : (cs.drop off).take 1 = [c]) : ∃ v : By, c = S v ∧ v.length ≤ 1048576 := by
  rw [hc, hcs] at h; obtain ⟨⟨⟨s⟩⟩, e, rfl, hs⟩ := DataW.trod_string hu h
  exact ⟨s, by simpa using e, bulk_str hw⟩
end
instance : Inhabited Ent := ⟨ent0⟩

set_option maxRecDepth 100000 in
theorem one_ent {H : Type} {enc : TypeId × Value → H} {w : World} {bs : Nat} {spare : Nat → Bool} {held : Bool} (n : Nat) (cs : List Value) (d : DataW H × List MemPlace) (h : DataW.trod enc Tryd.prog w bs spare held n 23 cs = some d) (hw : Rows.uptoBulk d.1 ≤ 1048576) : ∃ q, cs = entC q ∧ EntR q := by
  obtain ⟨xs, m, _, rfl, hl, hlen, hf⟩ := DataW.trod_struct Tryd.underlying23 h
  rw [show Tryd.prog.cellsOf 23 = 5 by kernel_rfl] at hl
  replace hlen : xs.length = 5 := hlen
  obtain ⟨c0, c1, c2, c3, c4, rfl⟩ : ∃ c0 c1 c2 c3 c4, cs = [c0, c1, c2, c3, c4] := by match cs, hl with | [c0, c1, c2, c3, c4], _ => exact ⟨_, _, _, _, _, rfl⟩
  obtain ⟨y0, g0⟩ : ∃ y, xs[0]? = some y := ⟨_, List.getElem?_eq_getElem (by omega)⟩
  have f0 := (hf 0 _ rfl).trans g0
  obtain ⟨v0, rfl, k0⟩ := fI Tryd.underlying3 (show Tryd.prog.cellsOf 3 = 1 by kernel_rfl) f0 rfl
  obtain ⟨y1, g1⟩ : ∃ y, xs[1]? = some y := ⟨_, List.getElem?_eq_getElem (by omega)⟩
  have f1 := (hf 1 _ rfl).trans g1
  obtain ⟨v1, rfl, k1⟩ := fI Tryd.underlying3 (show Tryd.prog.cellsOf 3 = 1 by kernel_rfl) f1 rfl
  obtain ⟨y2, g2⟩ : ∃ y, xs[2]? = some y := ⟨_, List.getElem?_eq_getElem (by omega)⟩
  have f2 := (hf 2 _ rfl).trans g2
  obtain ⟨v2, rfl, k2⟩ := fI Tryd.underlying3 (show Tryd.prog.cellsOf 3 = 1 by kernel_rfl) f2 rfl
  obtain ⟨y3, g3⟩ : ∃ y, xs[3]? = some y := ⟨_, List.getElem?_eq_getElem (by omega)⟩
  have f3 := (hf 3 _ rfl).trans g3
  have w3 := bulk_fld hw (show (xs.map (·.1))[3]? = some y3.1 by rw [List.getElem?_map, g3]; rfl)
  obtain ⟨v3, rfl, k3⟩ := fS Tryd.underlying9 (show Tryd.prog.cellsOf 9 = 1 by kernel_rfl) f3 w3 rfl
  obtain ⟨y4, g4⟩ : ∃ y, xs[4]? = some y := ⟨_, List.getElem?_eq_getElem (by omega)⟩
  have f4 := (hf 4 _ rfl).trans g4
  obtain ⟨v4, rfl, k4⟩ := fI Tryd.underlying3 (show Tryd.prog.cellsOf 3 = 1 by kernel_rfl) f4 rfl
  exact ⟨⟨v0, v1, v2, v3, v4⟩, rfl, ⟨k1, k2, k4, k3⟩⟩
set_option maxRecDepth 100000 in
theorem one_evt {H : Type} {enc : TypeId × Value → H} {w : World} {bs : Nat} {spare : Nat → Bool} {held : Bool} (n : Nat) (cs : List Value) (d : DataW H × List MemPlace) (h : DataW.trod enc Tryd.prog w bs spare held n 37 cs = some d) (hw : Rows.uptoBulk d.1 ≤ 1048576) : ∃ q, cs = evtC q ∧ EvtR q := by
  obtain ⟨xs, m, _, rfl, hl, hlen, hf⟩ := DataW.trod_struct Tryd.underlying37 h
  rw [show Tryd.prog.cellsOf 37 = 9 by kernel_rfl] at hl
  replace hlen : xs.length = 9 := hlen
  obtain ⟨c0, c1, c2, c3, c4, c5, c6, c7, c8, rfl⟩ : ∃ c0 c1 c2 c3 c4 c5 c6 c7 c8, cs = [c0, c1, c2, c3, c4, c5, c6, c7, c8] := by match cs, hl with | [c0, c1, c2, c3, c4, c5, c6, c7, c8], _ => exact ⟨_, _, _, _, _, _, _, _, _, rfl⟩
  obtain ⟨y0, g0⟩ : ∃ y, xs[0]? = some y := ⟨_, List.getElem?_eq_getElem (by omega)⟩
  have f0 := (hf 0 _ rfl).trans g0
  obtain ⟨v0, rfl, k0⟩ := fI Tryd.underlying3 (show Tryd.prog.cellsOf 3 = 1 by kernel_rfl) f0 rfl
  obtain ⟨y1, g1⟩ : ∃ y, xs[1]? = some y := ⟨_, List.getElem?_eq_getElem (by omega)⟩
  have f1 := (hf 1 _ rfl).trans g1
  obtain ⟨v1, rfl, k1⟩ := fI Tryd.underlying3 (show Tryd.prog.cellsOf 3 = 1 by kernel_rfl) f1 rfl
  obtain ⟨y2, g2⟩ : ∃ y, xs[2]? = some y := ⟨_, List.getElem?_eq_getElem (by omega)⟩
  have f2 := (hf 2 _ rfl).trans g2
  obtain ⟨v2, rfl, k2⟩ := fU Tryd.underlying35 (show Tryd.prog.cellsOf 35 = 1 by kernel_rfl) f2 rfl
  obtain ⟨y3, g3⟩ : ∃ y, xs[3]? = some y := ⟨_, List.getElem?_eq_getElem (by omega)⟩
  have f3 := (hf 3 _ rfl).trans g3
  obtain ⟨v3, rfl, k3⟩ := fI Tryd.underlying3 (show Tryd.prog.cellsOf 3 = 1 by kernel_rfl) f3 rfl
  obtain ⟨y4, g4⟩ : ∃ y, xs[4]? = some y := ⟨_, List.getElem?_eq_getElem (by omega)⟩
  have f4 := (hf 4 _ rfl).trans g4
  obtain ⟨v4, rfl, k4⟩ := fI Tryd.underlying3 (show Tryd.prog.cellsOf 3 = 1 by kernel_rfl) f4 rfl
  obtain ⟨y5, g5⟩ : ∃ y, xs[5]? = some y := ⟨_, List.getElem?_eq_getElem (by omega)⟩
  have f5 := (hf 5 _ rfl).trans g5
  have w5 := bulk_fld hw (show (xs.map (·.1))[5]? = some y5.1 by rw [List.getElem?_map, g5]; rfl)
  obtain ⟨v5, rfl, k5⟩ := fS Tryd.underlying9 (show Tryd.prog.cellsOf 9 = 1 by kernel_rfl) f5 w5 rfl
  obtain ⟨y6, g6⟩ : ∃ y, xs[6]? = some y := ⟨_, List.getElem?_eq_getElem (by omega)⟩
  have f6 := (hf 6 _ rfl).trans g6
  obtain ⟨v6, rfl, k6⟩ := fI Tryd.underlying3 (show Tryd.prog.cellsOf 3 = 1 by kernel_rfl) f6 rfl
  obtain ⟨y7, g7⟩ : ∃ y, xs[7]? = some y := ⟨_, List.getElem?_eq_getElem (by omega)⟩
  have f7 := (hf 7 _ rfl).trans g7
  obtain ⟨v7, rfl, k7⟩ := fI Tryd.underlying3 (show Tryd.prog.cellsOf 3 = 1 by kernel_rfl) f7 rfl
  obtain ⟨y8, g8⟩ : ∃ y, xs[8]? = some y := ⟨_, List.getElem?_eq_getElem (by omega)⟩
  have f8 := (hf 8 _ rfl).trans g8
  obtain ⟨v8, rfl, k8⟩ := fB Tryd.underlying4 (show Tryd.prog.cellsOf 4 = 1 by kernel_rfl) f8 rfl
  exact ⟨⟨v0, v1, v2, v3, v4, v5, v6, v7, v8⟩, rfl, ⟨k1, k3, k4, k6, k7, k2, k5⟩⟩
end Go.Proofs.YtcglaiacohkaeaaDoor.L
