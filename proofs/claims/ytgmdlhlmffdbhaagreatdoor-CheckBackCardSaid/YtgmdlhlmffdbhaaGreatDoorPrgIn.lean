/-
  Check: a program that came in. Own work.
-/
import Derived.Lib.SmallJoins
import Derived.Test.YtgmdlhlmffdbhaaGreatDoorOpen
import Derived.Test.YtgmdlhlmffdbhaaGreatDoorPgP
import Derived.Test.YtgmdlhlmffdbhaaGreatDoorFacts
set_option linter.unusedSimpArgs false
set_option linter.unusedVariables false
set_option linter.unusedSectionVars false
namespace Go.Proofs.YtgmdlhlmffdbhaaGreatDoor.L
open Go.L Go.L.Lx Go.L.Pg Go.RowKit Go.Deep
section
variable {H : Type} {enc : TypeId × Value → H} {P : Program} {w : World} {bs : Nat} {spare : Nat → Bool} {held : Bool}
theorem open_sl {t e fuel sz by' : Nat} {cs : List Value} {x : DataW H × List MemPlace} (ht : P.underlying t = some (.slice e)) (hsz : P.cellsOf e = sz) (h0 : 0 < sz) (hby : P.bytesOf e = by') {T : Type} [Inhabited T] (oe : T → List Value) (Good : T → Prop) (hlen : ∀ q, (oe q).length = sz)
    (hone : ∀ n cs' d, DataW.trod enc P w bs spare held n e cs' = some d → wok P e d.1 → ∃ q, cs' = oe q ∧ Good q) (h : DataW.trod enc P w bs spare held fuel t cs = some x) (hw : wok P t x.1) :
    ∃ (a : Option Addr) (cap : Nat) (s : List T), cs = [.slice a s.length cap] ∧ (∀ q ∈ s, Good q) ∧ ok63 (s.length * by') ∧ RdH (hpOf w) a cap s.length (s.flatMap oe) := by
  obtain ⟨a, cap, s, e1, hg, hm, hr, hx⟩ := open_flatD (fun d => wok P e d) ht hsz oe Good hlen hone (fun el sp e => (wok_slice ht (e ▸ hw)).2) h
  have hc : s.length ≤ cap := by
    rcases DataW.trod_slice ht h with ⟨e2, _⟩ | ⟨a', len, cap', elems, rest, n, _, e2, _, _, hl, _⟩
    · rw [e1] at e2; simp only [List.cons.injEq, Value.slice.injEq, and_true] at e2; omega
    · rw [e1] at e2; simp only [List.cons.injEq, Value.slice.injEq, and_true] at e2; omega
  refine ⟨a, cap, s, e1, hg, ?_, hr h0, hc⟩
  unfold ok63
  rcases hx with ⟨_, h2⟩ | ⟨el, sp, h2, h3⟩
  · rw [h2]; omega
  · have h4 := (wok_slice ht (h2 ▸ hw)).1
    rw [hby, h3] at h4
    have : reachBytes = 140737488351232 := by decide
    omega
theorem fI {t n : Nat} {cs : List Value} {y : DataW H × List MemPlace} {c : Value} {off : Nat} (hu : P.underlying t = some (.int .i64)) (hc : P.cellsOf t = 1) (h : DataW.trod enc P w bs spare held n t ((cs.drop off).take (P.cellsOf t)) = some y) (hcs : (cs.drop off).take 1 = [c]) : ∃ v, c = iv v := by
  rw [hc, hcs] at h; obtain ⟨v, e, _⟩ := DataW.trod_int hu h; exact ⟨v, by simpa using e⟩
theorem fB {t n : Nat} {cs : List Value} {y : DataW H × List MemPlace} {c : Value} {off : Nat} (hu : P.underlying t = some .bool) (hc : P.cellsOf t = 1) (h : DataW.trod enc P w bs spare held n t ((cs.drop off).take (P.cellsOf t)) = some y) (hcs : (cs.drop off).take 1 = [c]) : ∃ v, c = .bool v := by
  rw [hc, hcs] at h; obtain ⟨v, e, _⟩ := DataW.trod_bool hu h; exact ⟨v, by simpa using e⟩
theorem fS {t n : Nat} {cs : List Value} {y : DataW H × List MemPlace} {c : Value} {off : Nat} (hu : P.underlying t = some .string) (hc : P.cellsOf t = 1) (h : DataW.trod enc P w bs spare held n t ((cs.drop off).take (P.cellsOf t)) = some y) (hw : wok P t y.1) (hcs : (cs.drop off).take 1 = [c]) : ∃ v, c = sv v ∧ ok63 v.length := by
  rw [hc, hcs] at h; obtain ⟨⟨⟨s⟩⟩, e, rfl, hs⟩ := DataW.trod_string hu h
  exact ⟨s, by simpa using e, wok_string hw⟩
theorem fL {t e n sz by' : Nat} {cs : List Value} {y : DataW H × List MemPlace} {c : Value} {off : Nat} {T : Type} [Inhabited T] (oe : T → List Value) (Good : T → Prop) (hlen : ∀ q, (oe q).length = sz) (hone : ∀ n cs' d, DataW.trod enc P w bs spare held n e cs' = some d → wok P e d.1 → ∃ q, cs' = oe q ∧ Good q)
    (ht : P.underlying t = some (.slice e)) (hsz : P.cellsOf e = sz) (h0 : 0 < sz) (hby : P.bytesOf e = by') (hc : P.cellsOf t = 1) (h : DataW.trod enc P w bs spare held n t ((cs.drop off).take (P.cellsOf t)) = some y) (hw : wok P t y.1) (hcs : (cs.drop off).take 1 = [c]) :
    ∃ (a : Option Addr) (cap : Nat) (s : List T), c = .slice a s.length cap ∧ (∀ q ∈ s, Good q) ∧ ok63 (s.length * by') ∧ RdH (hpOf w) a cap s.length (s.flatMap oe) := by
  rw [hc, hcs] at h
  obtain ⟨a, cap, s, e1, h1⟩ := open_sl ht hsz h0 hby oe Good hlen hone h hw
  exact ⟨a, cap, s, by simpa using e1, h1⟩
end

set_option maxRecDepth 100000 in
theorem one_eff {H : Type} {enc : TypeId × Value → H} {w : World} {bs : Nat} {spare : Nat → Bool} {held : Bool} (n : Nat) (cs : List Value) (d : DataW H × List MemPlace) (h : DataW.trod enc Tryz.prog w bs spare held n 38 cs = some d) (hw : wok Tryz.prog 38 d.1) : ∃ q, cs = effC q ∧ EffOk q := by
  obtain ⟨xs, m, _, rfl, hl, hlen, hf⟩ := DataW.trod_struct Tryz.underlying38 h
  rw [show Tryz.prog.cellsOf 38 = 7 by kernel_rfl] at hl
  replace hlen : xs.length = 7 := hlen
  obtain ⟨c0, c1, c2, c3, c4, c5, c6, rfl⟩ : ∃ c0 c1 c2 c3 c4 c5 c6, cs = [c0, c1, c2, c3, c4, c5, c6] := by match cs, hl with | [c0, c1, c2, c3, c4, c5, c6], _ => exact ⟨_, _, _, _, _, _, _, rfl⟩
  obtain ⟨y0, g0⟩ : ∃ y, xs[0]? = some y := ⟨_, List.getElem?_eq_getElem (by omega)⟩
  have f0 := (hf 0 _ rfl).trans g0
  have w0 := wok_field (i := 0) Tryz.underlying38 hw rfl (show (xs.map (·.1))[0]? = some y0.1 by rw [List.getElem?_map, g0]; rfl)
  obtain ⟨v0, rfl⟩ := fI Tryz.underlying3 (show Tryz.prog.cellsOf 3 = 1 by kernel_rfl) f0 rfl
  obtain ⟨y1, g1⟩ : ∃ y, xs[1]? = some y := ⟨_, List.getElem?_eq_getElem (by omega)⟩
  have f1 := (hf 1 _ rfl).trans g1
  have w1 := wok_field (i := 1) Tryz.underlying38 hw rfl (show (xs.map (·.1))[1]? = some y1.1 by rw [List.getElem?_map, g1]; rfl)
  obtain ⟨v1, rfl, k1⟩ := fS Tryz.underlying9 (show Tryz.prog.cellsOf 9 = 1 by kernel_rfl) f1 w1 rfl
  obtain ⟨y2, g2⟩ : ∃ y, xs[2]? = some y := ⟨_, List.getElem?_eq_getElem (by omega)⟩
  have f2 := (hf 2 _ rfl).trans g2
  have w2 := wok_field (i := 2) Tryz.underlying38 hw rfl (show (xs.map (·.1))[2]? = some y2.1 by rw [List.getElem?_map, g2]; rfl)
  obtain ⟨v2, rfl, k2⟩ := fS Tryz.underlying9 (show Tryz.prog.cellsOf 9 = 1 by kernel_rfl) f2 w2 rfl
  obtain ⟨y3, g3⟩ : ∃ y, xs[3]? = some y := ⟨_, List.getElem?_eq_getElem (by omega)⟩
  have f3 := (hf 3 _ rfl).trans g3
  have w3 := wok_field (i := 3) Tryz.underlying38 hw rfl (show (xs.map (·.1))[3]? = some y3.1 by rw [List.getElem?_map, g3]; rfl)
  obtain ⟨v3, rfl, k3⟩ := fS Tryz.underlying9 (show Tryz.prog.cellsOf 9 = 1 by kernel_rfl) f3 w3 rfl
  obtain ⟨y4, g4⟩ : ∃ y, xs[4]? = some y := ⟨_, List.getElem?_eq_getElem (by omega)⟩
  have f4 := (hf 4 _ rfl).trans g4
  have w4 := wok_field (i := 4) Tryz.underlying38 hw rfl (show (xs.map (·.1))[4]? = some y4.1 by rw [List.getElem?_map, g4]; rfl)
  obtain ⟨v4, rfl⟩ := fI Tryz.underlying3 (show Tryz.prog.cellsOf 3 = 1 by kernel_rfl) f4 rfl
  obtain ⟨y5, g5⟩ : ∃ y, xs[5]? = some y := ⟨_, List.getElem?_eq_getElem (by omega)⟩
  have f5 := (hf 5 _ rfl).trans g5
  have w5 := wok_field (i := 5) Tryz.underlying38 hw rfl (show (xs.map (·.1))[5]? = some y5.1 by rw [List.getElem?_map, g5]; rfl)
  obtain ⟨v5, rfl⟩ := fI Tryz.underlying3 (show Tryz.prog.cellsOf 3 = 1 by kernel_rfl) f5 rfl
  obtain ⟨y6, g6⟩ : ∃ y, xs[6]? = some y := ⟨_, List.getElem?_eq_getElem (by omega)⟩
  have f6 := (hf 6 _ rfl).trans g6
  have w6 := wok_field (i := 6) Tryz.underlying38 hw rfl (show (xs.map (·.1))[6]? = some y6.1 by rw [List.getElem?_map, g6]; rfl)
  obtain ⟨v6, rfl⟩ := fI Tryz.underlying3 (show Tryz.prog.cellsOf 3 = 1 by kernel_rfl) f6 rfl
  exact ⟨⟨v0, v1, v2, v3, v4, v5, v6⟩, rfl, ⟨k1, k2, k3⟩⟩
set_option maxRecDepth 100000 in
theorem one_row {H : Type} {enc : TypeId × Value → H} {w : World} {bs : Nat} {spare : Nat → Bool} {held : Bool} (n : Nat) (cs : List Value) (d : DataW H × List MemPlace) (h : DataW.trod enc Tryz.prog w bs spare held n 83 cs = some d) (hw : wok Tryz.prog 83 d.1) : ∃ q, cs = rowC q ∧ RowOk (hpOf w) q := by
  obtain ⟨xs, m, _, rfl, hl, hlen, hf⟩ := DataW.trod_struct Tryz.underlying83 h
  rw [show Tryz.prog.cellsOf 83 = 4 by kernel_rfl] at hl
  replace hlen : xs.length = 4 := hlen
  obtain ⟨c0, c1, c2, c3, rfl⟩ : ∃ c0 c1 c2 c3, cs = [c0, c1, c2, c3] := by match cs, hl with | [c0, c1, c2, c3], _ => exact ⟨_, _, _, _, rfl⟩
  obtain ⟨y0, g0⟩ : ∃ y, xs[0]? = some y := ⟨_, List.getElem?_eq_getElem (by omega)⟩
  have f0 := (hf 0 _ rfl).trans g0
  have w0 := wok_field (i := 0) Tryz.underlying83 hw rfl (show (xs.map (·.1))[0]? = some y0.1 by rw [List.getElem?_map, g0]; rfl)
  obtain ⟨v0, rfl, k0⟩ := fS Tryz.underlying9 (show Tryz.prog.cellsOf 9 = 1 by kernel_rfl) f0 w0 rfl
  obtain ⟨y1, g1⟩ : ∃ y, xs[1]? = some y := ⟨_, List.getElem?_eq_getElem (by omega)⟩
  have f1 := (hf 1 _ rfl).trans g1
  have w1 := wok_field (i := 1) Tryz.underlying83 hw rfl (show (xs.map (·.1))[1]? = some y1.1 by rw [List.getElem?_map, g1]; rfl)
  obtain ⟨v1, rfl⟩ := fB Tryz.underlying4 (show Tryz.prog.cellsOf 4 = 1 by kernel_rfl) f1 rfl
  obtain ⟨y2, g2⟩ : ∃ y, xs[2]? = some y := ⟨_, List.getElem?_eq_getElem (by omega)⟩
  have f2 := (hf 2 _ rfl).trans g2
  have w2 := wok_field (i := 2) Tryz.underlying83 hw rfl (show (xs.map (·.1))[2]? = some y2.1 by rw [List.getElem?_map, g2]; rfl)
  obtain ⟨v2, rfl⟩ := fI Tryz.underlying3 (show Tryz.prog.cellsOf 3 = 1 by kernel_rfl) f2 rfl
  obtain ⟨y3, g3⟩ : ∃ y, xs[3]? = some y := ⟨_, List.getElem?_eq_getElem (by omega)⟩
  have f3 := (hf 3 _ rfl).trans g3
  have w3 := wok_field (i := 3) Tryz.underlying83 hw rfl (show (xs.map (·.1))[3]? = some y3.1 by rw [List.getElem?_map, g3]; rfl)
  obtain ⟨a3, p3, s3, rfl, o3, m3, r3⟩ := fL effC (fun q => EffOk q) effC_len (fun n cs d h w => one_eff n cs d h w) Tryz.underlying81 (show Tryz.prog.cellsOf 38 = 7 by kernel_rfl) (by decide) (show Tryz.prog.bytesOf 38 = 80 by kernel_rfl) (show Tryz.prog.cellsOf 81 = 1 by kernel_rfl) f3 w3 rfl
  exact ⟨⟨v0, v1, v2, a3, p3, s3⟩, rfl, ⟨k0, r3, m3, o3⟩⟩
set_option maxRecDepth 100000 in
theorem one_sta {H : Type} {enc : TypeId × Value → H} {w : World} {bs : Nat} {spare : Nat → Bool} {held : Bool} (n : Nat) (cs : List Value) (d : DataW H × List MemPlace) (h : DataW.trod enc Tryz.prog w bs spare held n 79 cs = some d) (hw : wok Tryz.prog 79 d.1) : ∃ q, cs = staC q ∧ StaOk (hpOf w) q := by
  obtain ⟨xs, m, _, rfl, hl, hlen, hf⟩ := DataW.trod_struct Tryz.underlying79 h
  rw [show Tryz.prog.cellsOf 79 = 2 by kernel_rfl] at hl
  replace hlen : xs.length = 2 := hlen
  obtain ⟨c0, c1, rfl⟩ : ∃ c0 c1, cs = [c0, c1] := by match cs, hl with | [c0, c1], _ => exact ⟨_, _, rfl⟩
  obtain ⟨y0, g0⟩ : ∃ y, xs[0]? = some y := ⟨_, List.getElem?_eq_getElem (by omega)⟩
  have f0 := (hf 0 _ rfl).trans g0
  have w0 := wok_field (i := 0) Tryz.underlying79 hw rfl (show (xs.map (·.1))[0]? = some y0.1 by rw [List.getElem?_map, g0]; rfl)
  obtain ⟨v0, rfl, k0⟩ := fS Tryz.underlying9 (show Tryz.prog.cellsOf 9 = 1 by kernel_rfl) f0 w0 rfl
  obtain ⟨y1, g1⟩ : ∃ y, xs[1]? = some y := ⟨_, List.getElem?_eq_getElem (by omega)⟩
  have f1 := (hf 1 _ rfl).trans g1
  have w1 := wok_field (i := 1) Tryz.underlying79 hw rfl (show (xs.map (·.1))[1]? = some y1.1 by rw [List.getElem?_map, g1]; rfl)
  obtain ⟨a1, p1, s1, rfl, o1, m1, r1⟩ := fL rowC (fun q => RowOk (hpOf w) q) rowC_len (fun n cs d h w => one_row n cs d h w) Tryz.underlying77 (show Tryz.prog.cellsOf 83 = 4 by kernel_rfl) (by decide) (show Tryz.prog.bytesOf 83 = 56 by kernel_rfl) (show Tryz.prog.cellsOf 77 = 1 by kernel_rfl) f1 w1 rfl
  exact ⟨⟨v0, a1, p1, s1⟩, rfl, ⟨k0, r1, m1, o1⟩⟩
set_option maxRecDepth 100000 in
theorem one_cas {H : Type} {enc : TypeId × Value → H} {w : World} {bs : Nat} {spare : Nat → Bool} {held : Bool} (n : Nat) (cs : List Value) (d : DataW H × List MemPlace) (h : DataW.trod enc Tryz.prog w bs spare held n 75 cs = some d) (hw : wok Tryz.prog 75 d.1) : ∃ q, cs = casC q ∧ ok63 q.reason.length := by
  obtain ⟨xs, m, _, rfl, hl, hlen, hf⟩ := DataW.trod_struct Tryz.underlying75 h
  rw [show Tryz.prog.cellsOf 75 = 2 by kernel_rfl] at hl
  replace hlen : xs.length = 2 := hlen
  obtain ⟨c0, c1, rfl⟩ : ∃ c0 c1, cs = [c0, c1] := by match cs, hl with | [c0, c1], _ => exact ⟨_, _, rfl⟩
  obtain ⟨y0, g0⟩ : ∃ y, xs[0]? = some y := ⟨_, List.getElem?_eq_getElem (by omega)⟩
  have f0 := (hf 0 _ rfl).trans g0
  have w0 := wok_field (i := 0) Tryz.underlying75 hw rfl (show (xs.map (·.1))[0]? = some y0.1 by rw [List.getElem?_map, g0]; rfl)
  obtain ⟨v0, rfl, k0⟩ := fS Tryz.underlying9 (show Tryz.prog.cellsOf 9 = 1 by kernel_rfl) f0 w0 rfl
  obtain ⟨y1, g1⟩ : ∃ y, xs[1]? = some y := ⟨_, List.getElem?_eq_getElem (by omega)⟩
  have f1 := (hf 1 _ rfl).trans g1
  have w1 := wok_field (i := 1) Tryz.underlying75 hw rfl (show (xs.map (·.1))[1]? = some y1.1 by rw [List.getElem?_map, g1]; rfl)
  obtain ⟨v1, rfl⟩ := fI Tryz.underlying3 (show Tryz.prog.cellsOf 3 = 1 by kernel_rfl) f1 rfl
  exact ⟨⟨v0, v1⟩, rfl, k0⟩
set_option maxRecDepth 100000 in
theorem one_knd {H : Type} {enc : TypeId × Value → H} {w : World} {bs : Nat} {spare : Nat → Bool} {held : Bool} (n : Nat) (cs : List Value) (d : DataW H × List MemPlace) (h : DataW.trod enc Tryz.prog w bs spare held n 57 cs = some d) (hw : wok Tryz.prog 57 d.1) : ∃ q, cs = kndC q ∧ KndOk (hpOf w) q := by
  obtain ⟨xs, m, _, rfl, hl, hlen, hf⟩ := DataW.trod_struct Tryz.underlying57 h
  rw [show Tryz.prog.cellsOf 57 = 5 by kernel_rfl] at hl
  replace hlen : xs.length = 5 := hlen
  obtain ⟨c0, c1, c2, c3, c4, rfl⟩ : ∃ c0 c1 c2 c3 c4, cs = [c0, c1, c2, c3, c4] := by match cs, hl with | [c0, c1, c2, c3, c4], _ => exact ⟨_, _, _, _, _, rfl⟩
  obtain ⟨y0, g0⟩ : ∃ y, xs[0]? = some y := ⟨_, List.getElem?_eq_getElem (by omega)⟩
  have f0 := (hf 0 _ rfl).trans g0
  have w0 := wok_field (i := 0) Tryz.underlying57 hw rfl (show (xs.map (·.1))[0]? = some y0.1 by rw [List.getElem?_map, g0]; rfl)
  obtain ⟨v0, rfl, k0⟩ := fS Tryz.underlying9 (show Tryz.prog.cellsOf 9 = 1 by kernel_rfl) f0 w0 rfl
  obtain ⟨y1, g1⟩ : ∃ y, xs[1]? = some y := ⟨_, List.getElem?_eq_getElem (by omega)⟩
  have f1 := (hf 1 _ rfl).trans g1
  have w1 := wok_field (i := 1) Tryz.underlying57 hw rfl (show (xs.map (·.1))[1]? = some y1.1 by rw [List.getElem?_map, g1]; rfl)
  obtain ⟨v1, rfl⟩ := fI Tryz.underlying3 (show Tryz.prog.cellsOf 3 = 1 by kernel_rfl) f1 rfl
  obtain ⟨y2, g2⟩ : ∃ y, xs[2]? = some y := ⟨_, List.getElem?_eq_getElem (by omega)⟩
  have f2 := (hf 2 _ rfl).trans g2
  have w2 := wok_field (i := 2) Tryz.underlying57 hw rfl (show (xs.map (·.1))[2]? = some y2.1 by rw [List.getElem?_map, g2]; rfl)
  obtain ⟨v2, rfl⟩ := fI Tryz.underlying3 (show Tryz.prog.cellsOf 3 = 1 by kernel_rfl) f2 rfl
  obtain ⟨y3, g3⟩ : ∃ y, xs[3]? = some y := ⟨_, List.getElem?_eq_getElem (by omega)⟩
  have f3 := (hf 3 _ rfl).trans g3
  have w3 := wok_field (i := 3) Tryz.underlying57 hw rfl (show (xs.map (·.1))[3]? = some y3.1 by rw [List.getElem?_map, g3]; rfl)
  obtain ⟨a3, p3, s3, rfl, o3, m3, r3⟩ := fL casC (fun q => ok63 q.reason.length) casC_len (fun n cs d h w => one_cas n cs d h w) Tryz.underlying54 (show Tryz.prog.cellsOf 75 = 2 by kernel_rfl) (by decide) (show Tryz.prog.bytesOf 75 = 24 by kernel_rfl) (show Tryz.prog.cellsOf 54 = 1 by kernel_rfl) f3 w3 rfl
  obtain ⟨y4, g4⟩ : ∃ y, xs[4]? = some y := ⟨_, List.getElem?_eq_getElem (by omega)⟩
  have f4 := (hf 4 _ rfl).trans g4
  have w4 := wok_field (i := 4) Tryz.underlying57 hw rfl (show (xs.map (·.1))[4]? = some y4.1 by rw [List.getElem?_map, g4]; rfl)
  obtain ⟨a4, p4, s4, rfl, o4, m4, r4⟩ := fL staC (fun q => StaOk (hpOf w) q) staC_len (fun n cs d h w => one_sta n cs d h w) Tryz.underlying55 (show Tryz.prog.cellsOf 79 = 2 by kernel_rfl) (by decide) (show Tryz.prog.bytesOf 79 = 40 by kernel_rfl) (show Tryz.prog.cellsOf 55 = 1 by kernel_rfl) f4 w4 rfl
  exact ⟨⟨v0, v1, v2, a3, p3, s3, a4, p4, s4⟩, rfl, ⟨k0, r3, m3, o3, r4, m4, o4⟩⟩
set_option maxRecDepth 100000 in
theorem one_prg {H : Type} {enc : TypeId × Value → H} {w : World} {bs : Nat} {spare : Nat → Bool} {held : Bool} (n : Nat) (cs : List Value) (d : DataW H × List MemPlace) (h : DataW.trod enc Tryz.prog w bs spare held n 24 cs = some d) (hw : wok Tryz.prog 24 d.1) : ∃ a c K, cs = [.slice a (List.length K) c] ∧ PrgOk (hpOf w) a c K := by
  obtain ⟨xs, m, _, rfl, hl, hlen, hf⟩ := DataW.trod_struct Tryz.underlying24 h
  rw [show Tryz.prog.cellsOf 24 = 1 by kernel_rfl] at hl
  replace hlen : xs.length = 1 := hlen
  obtain ⟨c0, rfl⟩ : ∃ c0, cs = [c0] := by match cs, hl with | [c0], _ => exact ⟨_, rfl⟩
  obtain ⟨y0, g0⟩ : ∃ y, xs[0]? = some y := ⟨_, List.getElem?_eq_getElem (by omega)⟩
  have f0 := (hf 0 _ rfl).trans g0
  have w0 := wok_field (i := 0) Tryz.underlying24 hw rfl (show (xs.map (·.1))[0]? = some y0.1 by rw [List.getElem?_map, g0]; rfl)
  obtain ⟨a, p, s, rfl, ho, hm, hr⟩ := fL kndC (fun q => KndOk (hpOf w) q) kndC_len (fun n cs d h w => one_knd n cs d h w) Tryz.underlying22 (show Tryz.prog.cellsOf 57 = 5 by kernel_rfl) (by decide) (show Tryz.prog.bytesOf 57 = 80 by kernel_rfl) (show Tryz.prog.cellsOf 22 = 1 by kernel_rfl) f0 w0 rfl
  exact ⟨a, p, s, rfl, ⟨hr, hm, ho⟩⟩
theorem base_prg {W : World} {a : Option Addr} {c : Nat} {K : List Knd} (p : PrgOk (hpOf W) a c K) : ∀ h, base W h → PrgOk h a c K := fun h hb => p.imp fun b o e => by
  have hlt : b < W.heap.size := by
    rcases Nat.lt_or_ge b W.heap.size with x | x
    · exact x
    · rw [show hpOf W b = W.heap[b]? from rfl, Array.getElem?_eq_none x] at e; cases e
  rw [hb b hlt]; exact e
end Go.Proofs.YtgmdlhlmffdbhaaGreatDoor.L
