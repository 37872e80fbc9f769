/-
  Lex: errors.As, strconv.ParseUint, strings.IndexByte; what the listed variables hold. Own work, but for the lines on errors.As, which are a worked example's, turned to this program.
-/
import Derived.Test.YtgmdlhlmffdbhaaGreatDoorFacts
import Derived.Test.YtgmdlhlmffdbhaaGreatDoorLexP
import Derived.Test.YtgmdlhlmffdbhaaGreatDoorLaid
import Derived.Test.YtgmdlhlmffdbhaaGreatDoorShelf
import Derived.Test.YtgmdlhlmffdbhaaGreatDoorRows
import Derived.LaidEql
import Derived.Stop.Asserts
import Derived.RowKitTokens
import Derived.Lib.AtoiErrMem
set_option linter.unusedSimpArgs false
set_option linter.unusedVariables false
set_option linter.unusedSectionVars false
namespace Go.Proofs.YtgmdlhlmffdbhaaGreatDoor.L
open Go.L Go.L.Lx

/-- what the listed variables hold -/
structure Gok (W : World) : Prop where
  et : W.cell? ⟨0, 0, none⟩ = some (.iface 144 (.agg #[.pointer (some ⟨7, 27, none⟩)]))
  v_strconv_ErrRange : ∃ u v, W.cell? ⟨4, 0, none⟩ = some (.iface u v)
  tb : Lib.TabIs Tryz.prog W "internal/strconv.uint64pow10" .u64 Lib.pow10Tab
abbrev laidL : List (String × DataW Unit) := [("math/bits.deBruijn32tab", Rows.laid_math_bits_deBruijn32tab), ("math/bits.deBruijn64tab", Rows.laid_math_bits_deBruijn64tab), ("internal/strconv.uint64pow10", Rows.laid_internal_strconv_uint64pow10), ("errors.errorType", Rows.laid_errors_errorType), ("strconv.ErrRange", Rows.laid_strconv_ErrRange), ("strconv.ErrSyntax", Rows.laid_strconv_ErrSyntax)]
theorem gok_of {W : World} (h0 : laidMetH Tryz.prog laidL W) : Gok W := by
  have h : laidMet Tryz.prog [("math/bits.deBruijn32tab", Rows.laid_math_bits_deBruijn32tab), ("math/bits.deBruijn64tab", Rows.laid_math_bits_deBruijn64tab), ("internal/strconv.uint64pow10", Rows.laid_internal_strconv_uint64pow10), ("strconv.ErrRange", Rows.laid_strconv_ErrRange), ("strconv.ErrSyntax", Rows.laid_strconv_ErrSyntax)] W ∧ handlesMet Tryz.prog [("errors.errorType", Rows.laid_errors_errorType)] W := laid_split h0 (by kernel_rfl) (by kernel_rfl)
  exact ⟨laid_handle h.2 (n := "errors.errorType") (d := Rows.laid_errors_errorType) List.mem_cons_self rfl rfl (show Tryz.prog.globalNamed "errors.errorType" = some 0 by kernel_rfl) (by kernel_rfl) (show Tryz.prog.types.size = 245 by kernel_rfl) (by kernel_rfl), laid_iface h.1 (n := "strconv.ErrRange") (List.mem_cons_of_mem _ (List.mem_cons_of_mem _ (List.mem_cons_of_mem _ (List.mem_cons_self)))) (show Tryz.prog.globalNamed "strconv.ErrRange" = some 4 by kernel_rfl) (show (Tryz.prog.globals[4]?).map (·.type) = some 27 by kernel_rfl) Tryz.underlying27, laid_tab h.1 (nm := "internal/strconv.uint64pow10") (k := .u64) (zs := Lib.pow10Tab) (List.mem_cons_of_mem _ (List.mem_cons_of_mem _ (List.mem_cons_self))) (show Tryz.prog.globalNamed "internal/strconv.uint64pow10" = some 2 by kernel_rfl) (show (Tryz.prog.globals[2]?).map (·.type) = some 204 by kernel_rfl) Tryz.underlying204 Tryz.underlying155 (by kernel_rfl) (by kernel_rfl)⟩

theorem numG_big : ∀ (l : Lx.By), Lx.numG 65536 l = 65536
  | [] => rfl
  | d :: l => by
    have : Lx.numG 65536 (d :: l) = Lx.numG (min (10 * 65536 + (d.toNat - 48)) 65536) l := rfl
    rw [this, show min (10 * 65536 + (d.toNat - 48)) 65536 = 65536 by omega]; exact numG_big l
theorem parseM_dig : ∀ (l : Lx.By) (acc : Nat), acc ≤ 65535 → (∀ c ∈ l, Lx.isDig c = true) → (Lx.numG acc l ≤ 65535 → Lib.parseUintM 65535 acc l = .ok (Lx.numG acc l)) ∧ (65535 < Lx.numG acc l → Lib.parseUintM 65535 acc l = .range)
  | [], acc, h, _ => ⟨fun _ => rfl, fun h' => by have h' : 65535 < acc := h'; omega⟩
  | c :: r, acc, h, hd => by
    have hc := hd c List.mem_cons_self
    unfold Lx.isDig at hc; simp only [decide_eq_true_eq] at hc
    have e1 : Lx.numG acc (c :: r) = Lx.numG (min (10 * acc + (c.toNat - 48)) 65536) r := rfl
    have e2 : Lib.parseUintM 65535 acc (c :: r) = if 65535 < acc * 10 + (c.toNat - 48) then .range else Lib.parseUintM 65535 (acc * 10 + (c.toNat - 48)) r := by
      show (if 48 ≤ c.toNat ∧ c.toNat ≤ 57 then if 1844674407370955162 ≤ acc then _ else _ else _) = _
      rw [if_pos hc, if_neg (by omega)]
    rw [e1, e2]
    by_cases hg : 65535 < acc * 10 + (c.toNat - 48)
    · rw [if_pos hg, show min (10 * acc + (c.toNat - 48)) 65536 = 65536 by omega, numG_big]
      exact ⟨fun h' => by omega, fun _ => rfl⟩
    · rw [if_neg hg, show min (10 * acc + (c.toNat - 48)) 65536 = acc * 10 + (c.toNat - 48) by omega]
      exact parseM_dig r _ (by omega) (fun x hx => hd x (List.mem_cons_of_mem _ hx))
theorem parse16 {l : Lx.By} (hl : l ≠ []) (hd : ∀ c ∈ l, Lx.isDig c = true) : (Lx.num l ≤ 65535 → Lib.parseUintB 16 l = .ok (Lx.num l)) ∧ (65535 < Lx.num l → Lib.parseUintB 16 l = .range) := by
  unfold Lib.parseUintB; rw [if_neg hl]; exact parseM_dig l 0 (by omega) hd
theorem PU_ok {l : Lx.By} (hl : l ≠ []) (hd : ∀ c ∈ l, Lx.isDig c = true) (hlen : l.length ≤ 281474976710656) (h : Lx.num l ≤ 65535) : FnS Tryz.prog 83 [S l, I64 10, I64 16] [] (fun u Bs => u = .tuple #[U64 (Lx.num l), .nilIface] ∧ Bs = []) := by
  intro W0 R w s
  have h1 : Lib.parseUintB 16 (ByteArray.mk l.toArray).data.toList = .ok (Lx.num l) := by
    show Lib.parseUintB 16 l = _
    exact (parse16 hl hd).1 h
  refine (Any.strconv_ParseUint_10_at16_ok Tryz.puTm _ (by rw [S_size]; omega) _ h1 w).mono fun _ w' ⟨he, hw⟩ => ⟨_, [], he, ⟨rfl, rfl⟩, ?_⟩
  rcases hw with hw | hw
  · exact hw ▸ s
  · exact s.below (hw ▸ Lib.bytesWorld_below w _ _)
theorem PU_range {W : World} (hg : ∃ te pe, W.cell? ⟨4, 0, none⟩ = some (.iface te pe)) {l : Lx.By} (hl : l ≠ []) (hd : ∀ c ∈ l, Lx.isDig c = true) (hlen : l.length ≤ 281474976710656) (h : 65535 < Lx.num l) :
    FnS Tryz.prog 83 [S l, I64 10, I64 16] [base W] (fun u Bs => ∃ t p, u = .tuple #[U64 65535, .iface t p] ∧ Bs = [base W]) := by
  intro W0 R w s
  obtain ⟨te, pe, hg⟩ := hg
  have h1 : Lib.parseUintB 16 (ByteArray.mk l.toArray).data.toList = .range := by
    show Lib.parseUintB 16 l = _
    exact (parse16 hl hd).2 h
  exact (Any.strconv_ParseUint_10_at16_range Tryz.puTm _ (by rw [S_size]; omega) h1 _ w (base_cell s hg) (.inr ⟨te, pe, rfl⟩)).mono fun _ w' ⟨N, he, _, _, hw⟩ => ⟨_, _, he, ⟨_, _, rfl, rfl⟩, s.below hw⟩


theorem indexByte_pos : ∀ (l : List UInt8) (c : UInt8), (0 ≤ Lib.indexByte l c ↔ c ∈ l)
  | [], c => by simp [Lib.indexByte]
  | b :: l, c => by
    have ih := indexByte_pos l c
    have hge := Lib.indexByte_ge l c
    unfold Lib.indexByte
    by_cases hb : b = c
    · subst hb; simp
    · rw [if_neg (by simpa using hb)]
      by_cases h1 : Lib.indexByte l c = -1
      · rw [if_pos (by simpa using h1)]
        constructor
        · intro h; omega
        · intro h; rcases List.mem_cons.1 h with e | e
          · exact absurd e.symm hb
          · have := ih.2 e; omega
      · rw [if_neg (by simpa using h1)]
        constructor
        · intro _; exact List.mem_cons_of_mem _ (ih.1 (by omega))
        · intro _; omega
theorem IndexByte_spec (l : List UInt8) (c : UInt8) : FnS Tryz.prog 80 [S l, .int .u8 c.toNat] [] (fun u Bs => ∃ r : Int, (0 ≤ r ↔ c ∈ l) ∧ u = I64 r ∧ Bs = []) := by
  intro W0 R w s
  refine (Any.strings_IndexByte Tryz.ibTm _ _ w).mono fun _ w' ⟨he, hw⟩ => ⟨_, [], he, ⟨_, ?_, rfl, rfl⟩, hw ▸ s⟩
  rw [show ((c.toNat : Int)).toNat.toUInt8 = c by simp]
  exact indexByte_pos l c

end Go.Proofs.YtgmdlhlmffdbhaaGreatDoor.L
