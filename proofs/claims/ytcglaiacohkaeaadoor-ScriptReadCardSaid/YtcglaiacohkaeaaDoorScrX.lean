/-
  Script: strconv.Itoa, strconv.Atoi, strings.Split, strings.Join, strings.TrimPrefix off the kit's shelf; what the listed variables hold. Own work.
-/
import Derived.Test.YtcglaiacohkaeaaDoorFacts
import Derived.Test.YtcglaiacohkaeaaDoorLexP
import Derived.Test.YtcglaiacohkaeaaDoorLaid
import Derived.Test.YtcglaiacohkaeaaDoorShelf
import Derived.Test.YtcglaiacohkaeaaDoorRows
import Derived.Test.YtcglaiacohkaeaaDoorSort0
import Derived.Test.YtcglaiacohkaeaaDoorScrN
import Derived.LaidEql
import Derived.Stop.Asserts
import Derived.RowKitTokens
import Derived.Lib.AtoiErrMem
set_option linter.unusedSimpArgs false
set_option linter.unusedVariables false
set_option linter.unusedSectionVars false
namespace Go.Proofs.YtcglaiacohkaeaaDoor.L
open Go.L Go.L.Lx Go.L.Pa Go.L.Sc

/-- what the listed variables hold -/
structure Gok (W : World) : Prop where
  v_strconv_ErrRange : ∃ u v, W.cell? ⟨3, 0, none⟩ = some (.iface u v)
  v_strconv_ErrSyntax : ∃ u v, W.cell? ⟨2, 0, none⟩ = some (.iface u v)
  tb : Lib.TabIs Tryd.prog W "internal/strconv.uint64pow10" .u64 Lib.pow10Tab
abbrev laidL : List (String × DataW Unit) := [("math/bits.deBruijn32tab", Rows.laid_math_bits_deBruijn32tab), ("math/bits.deBruijn64tab", Rows.laid_math_bits_deBruijn64tab), ("internal/strconv.uint64pow10", Rows.laid_internal_strconv_uint64pow10), ("unicode/utf8.acceptRanges", Rows.laid_unicode_utf8_acceptRanges), ("strconv.ErrRange", Rows.laid_strconv_ErrRange), ("strconv.ErrSyntax", Rows.laid_strconv_ErrSyntax), ("unicode/utf8.first", Rows.laid_unicode_utf8_first)]
theorem gok_of {W : World} (h0 : laidMetH Tryd.prog laidL W) : Gok W := by
  have h : laidMet Tryd.prog [("math/bits.deBruijn32tab", Rows.laid_math_bits_deBruijn32tab), ("math/bits.deBruijn64tab", Rows.laid_math_bits_deBruijn64tab), ("internal/strconv.uint64pow10", Rows.laid_internal_strconv_uint64pow10), ("unicode/utf8.acceptRanges", Rows.laid_unicode_utf8_acceptRanges), ("strconv.ErrRange", Rows.laid_strconv_ErrRange), ("strconv.ErrSyntax", Rows.laid_strconv_ErrSyntax), ("unicode/utf8.first", Rows.laid_unicode_utf8_first)] W ∧ True := ⟨laid_plain h0 (by kernel_rfl), trivial⟩
  exact ⟨laid_iface h.1 (n := "strconv.ErrRange") (List.mem_cons_of_mem _ (List.mem_cons_of_mem _ (List.mem_cons_of_mem _ (List.mem_cons_of_mem _ (List.mem_cons_self))))) (show Tryd.prog.globalNamed "strconv.ErrRange" = some 3 by kernel_rfl) (show (Tryd.prog.globals[3]?).map (·.type) = some 90 by kernel_rfl) Tryd.underlying90, laid_iface h.1 (n := "strconv.ErrSyntax") (List.mem_cons_of_mem _ (List.mem_cons_of_mem _ (List.mem_cons_of_mem _ (List.mem_cons_of_mem _ (List.mem_cons_of_mem _ (List.mem_cons_self)))))) (show Tryd.prog.globalNamed "strconv.ErrSyntax" = some 2 by kernel_rfl) (show (Tryd.prog.globals[2]?).map (·.type) = some 90 by kernel_rfl) Tryd.underlying90, laid_tab h.1 (nm := "internal/strconv.uint64pow10") (k := .u64) (zs := Lib.pow10Tab) (List.mem_cons_of_mem _ (List.mem_cons_of_mem _ (List.mem_cons_self))) (show Tryd.prog.globalNamed "internal/strconv.uint64pow10" = some 0 by kernel_rfl) (show (Tryd.prog.globals[0]?).map (·.type) = some 123 by kernel_rfl) Tryd.underlying123 Tryd.underlying35 (by kernel_rfl) (by kernel_rfl)⟩
theorem dec_kit (n : Nat) : Lib.decDigits n = dec n := by
  induction n using Nat.strongRecOn with
  | _ n ih =>
    rw [Lib.decDigits, dec]
    split
    · rfl
    · rw [ih (n / 10) (by omega)]
theorem itoa_kit (n : Int) : Lib.itoa n = itoaB n := by unfold Lib.itoa itoaB; rw [dec_kit, dec_kit]
theorem Itoa_spec {W : World} (hG : Gok W) (n : Int) (h0 : -9223372036854775808 ≤ n) (h1 : n ≤ 9223372036854775807) : FnS Tryd.prog 22 [I64 n] [base W] (fun u Bs => u = S (itoaB n) ∧ Bs = [base W]) := by
  intro W0 R w s
  refine (Any.strconv_Itoa Tryd.itTm n h0 h1 w (tab_base hG.tb s)).mono fun e w' ⟨he, k, os, hw⟩ => ⟨_, [base W], he, ⟨by rw [itoa_kit], rfl⟩, ?_⟩
  rw [hw]
  have s2 : St W0 (base W :: R) (w.drewN k) := ⟨s.os, s.tape, s.output, s.size, s.sat⟩
  exact s2.grow0 os
theorem joExtra : Builder.Extra Tryd.prog Tryd.joTm_ren where
  sizeBuilder := by kernel_rfl
  liesBuilder := by kernel_rfl
  t5 := Tryd.itTm.t5
  a5 := Tryd.itTm.a5
  z5 := Tryd.itTm.z5
  v5 := Tryd.itTm.v5
  infoByte := by kernel_rfl
  cellsByte := by kernel_rfl
  sizeByte := by kernel_rfl
  neB5 := by decide
/-- words with a text between -/
def joinB (ws : List By) (sep : By) : By := Lib.join ws sep
theorem map_data (ws : List By) : (ws.map fun w : By => (⟨w.toArray⟩ : ByteArray)).map (·.data.toList) = ws := by
  rw [List.map_map]; conv => rhs; rw [← List.map_id ws]
  apply List.map_congr_left; intro w _; rfl
theorem Join_spec (a : Option Addr) (c : Nat) (ws : List By) (sep : By) (hn : ws.length ≤ 140737488355328) (hl : (joinB ws sep).length ≤ 140737488355328) : FnS Tryd.prog 37 [.slice a ws.length c, S sep] [own (.slice a ws.length c) 9 1 ws.length (ws.map fun w => S w)] (fun u Bs => u = S (joinB ws sep) ∧ Bs = [own (.slice a ws.length c) 9 1 ws.length (ws.map fun w => S w)]) := by
  intro W0 R w s
  have hlen : (ws.map fun w : By => (⟨w.toArray⟩ : ByteArray)).length = ws.length := List.length_map _
  obtain ⟨h1, h2, d, e0, ⟨hll, hv⟩, hR⟩ := s.sat
  rcases hv with ⟨hnil, hn0⟩ | ⟨b, cap, sp, hv, k2, k3, k4, k5⟩
  · obtain rfl : ws = [] := List.eq_nil_of_length_eq_zero hn0
    exact (Any.strings_Join_none Tryd.joTm joExtra a c _ w).mono fun e w' ⟨he, hw⟩ => ⟨_, _, he, ⟨rfl, rfl⟩, hw ▸ s⟩
  · simp only [Value.slice.injEq] at hv
    obtain ⟨rfl, _, rfl⟩ := hv
    have hg : w.heap[b]? = some (.cells (ws.map (fun w => S w) ++ sp).toArray 9 (0, 0)) := by
      have : hpOf w b = _ := e0 ▸ join_some (h2 := h2) k5
      exact this
    have hj := Any.strings_Join Tryd.joTm joExtra b 0 c (ws.map fun w : By => (⟨w.toArray⟩ : ByteArray)) ⟨sep.toArray⟩ w (fun j x hx => by
        rw [List.getElem?_map] at hx
        obtain ⟨y, hy, rfl⟩ := Option.map_eq_some_iff.1 hx
        have hj := (List.getElem?_eq_some_iff.1 hy).1
        have hq : (ws.map (fun w => S w) ++ sp)[j]? = some (S y) := by rw [List.getElem?_append_left (by rw [List.length_map]; exact hj), List.getElem?_map, hy]; rfl
        simp [World.cell?, hg, hq]) (lt_of_hp (w := w) (b := b) hg) (by rw [hlen]; exact hn) (by rw [hlen]; exact k3) (by rw [map_data]; exact hl)
    rw [hlen, map_data] at hj
    exact hj.mono fun e w' ⟨he, hw⟩ => ⟨_, _, he, ⟨rfl, rfl⟩, s.below hw⟩


theorem splitK_eq (c : UInt8) : ∀ l : By, Lib.splitK [c] 0 (l.count c) l = splitB c l
  | [] => rfl
  | x :: l => by
    have ih := splitK_eq c l
    by_cases h : x = c
    · subst h
      rw [List.count_cons_self, split_T, ← ih]
      have hi : Lib.index (x :: l) [x] = 0 := by unfold Lib.index; rw [if_pos (by simp [List.isPrefixOf])]
      show (if Lib.index (x :: l) [x] == -1 then _ else _) = _
      rw [hi, if_neg (by decide)]; rfl
    · rw [List.count_cons_of_ne h, split_F h, ← ih]
      have hp : ([c] : By).isPrefixOf (x :: l) = false := by simp [List.isPrefixOf, Ne.symm h]
      cases hk : l.count c with
      | zero => rfl
      | succ k =>
        have hi : Lib.index (x :: l) [c] = if Lib.index l [c] == -1 then -1 else Lib.index l [c] + 1 := by
          show (if ([c] : By).isPrefixOf (x :: l) then _ else _) = _
          rw [hp, if_neg (by decide)]
        show (if Lib.index (x :: l) [c] == -1 then [x :: l] else (x :: l).take ((Lib.index (x :: l) [c]).toNat + 0) :: Lib.splitK [c] 0 k ((x :: l).drop ((Lib.index (x :: l) [c]).toNat + 1))) = (x :: (if Lib.index l [c] == -1 then [l] else l.take ((Lib.index l [c]).toNat + 0) :: Lib.splitK [c] 0 k (l.drop ((Lib.index l [c]).toNat + 1))).headD []) :: (if Lib.index l [c] == -1 then [l] else l.take ((Lib.index l [c]).toNat + 0) :: Lib.splitK [c] 0 k (l.drop ((Lib.index l [c]).toNat + 1))).tail
        rw [hi]
        have hge := Lib.index_ge l [c]
        by_cases h1 : Lib.index l [c] = -1
        · rw [h1]; rfl
        · rw [if_neg (show ¬ (Lib.index l [c] == -1) = true by simpa using h1), if_neg (show ¬ (Lib.index l [c] + 1 == -1) = true by simp; omega), if_neg (show ¬ (Lib.index l [c] == -1) = true by simpa using h1)]
          rw [show (Lib.index l [c] + 1).toNat = (Lib.index l [c]).toNat + 1 by omega]
          rfl
abbrev wsC (ws : List By) : List Value := ws.map fun w => S w
/-- strings.Split at one byte -/
theorem Split_spec {W : World} (hm : ∃ m, W.cell? ⟨Tryd.spTm_ren.g 1, 0, none⟩ = some (.int .i64 m)) (l : By) (c : UInt8) (hl : l.length < 4294967281) : FnS Tryd.prog 26 [S l, S [c]] [base W] (fun u Bs => ∃ b, u = .slice (some ⟨b, 0, none⟩) (splitB c l).length (splitB c l).length ∧ Bs = [cel b 9 (wsC (splitB c l)), base W]) := by
  intro W0 R w s
  obtain ⟨m, hm⟩ := hm
  have hsz : (ByteArray.mk l.toArray).size = l.length := by rw [S_size]
  have hd : ((Lib.splitB ⟨#[c]⟩ 0 (Lib.countB ⟨l.toArray⟩ ⟨#[c]⟩) ⟨l.toArray⟩).map fun x : ByteArray => S x.data.toList) = wsC (splitB c l) := by
    have h1 := Lib.splitB_data ⟨#[c]⟩ 0 (Lib.countB ⟨l.toArray⟩ ⟨#[c]⟩) ⟨l.toArray⟩
    have h2 : Lib.countB ⟨l.toArray⟩ ⟨#[c]⟩ = l.count c := Lib.count_one c l
    rw [h2] at h1 ⊢
    rw [show Lib.splitK (ByteArray.mk #[c]).data.toList 0 (l.count c) (ByteArray.mk l.toArray).data.toList = splitB c l from splitK_eq c l] at h1
    unfold wsC; rw [← h1, List.map_map]; rfl
  have hv : ((Lib.splitB ⟨#[c]⟩ 0 (Lib.countB ⟨l.toArray⟩ ⟨#[c]⟩) ⟨l.toArray⟩).map Value.string) = wsC (splitB c l) := by rw [← hd]
  have hn : Lib.countB ⟨l.toArray⟩ ⟨#[c]⟩ + 1 = (splitB c l).length := by
    have h3 := congrArg List.length hv
    rw [List.length_map, List.length_map, Lib.splitB_all ⟨#[c]⟩ (Nat.le_refl 1) 0 _ _ rfl] at h3
    exact h3
  refine (Any.strings_Split { Tryd.spTm with } Tryd.spTm.i9 ⟨l.toArray⟩ ⟨#[c]⟩ m w (by rw [hsz]; exact hl) (base_cell s hm) (Nat.le_refl 1)).mono fun e w' ⟨he, hw⟩ => ?_
  rw [hn] at he
  rw [hv] at hw
  refine ⟨_, [cel w.heap.size 9 (wsC (splitB c l)), base W], he, ⟨_, rfl, rfl⟩, ?_⟩
  rw [hw]
  exact s.new (.cells (wsC (splitB c l)).toArray 9 (0, 0))


theorem Atoi_ok (l : By) (hl : l.length ≤ 9223372036854775806) (n : Int) (h : Lib.atoiAll l = .ok n) : FnS Tryd.prog 52 [S l] [] (fun u Bs => u = .tuple #[I64 n, .nilIface] ∧ Bs = []) := by
  intro W0 R w s
  refine (Any.strconv_Atoi_ok Tryd.atTm ⟨l.toArray⟩ (by rw [S_size]; exact hl) n h w).mono fun e w' ⟨he, hw⟩ => ⟨_, [], he, ⟨rfl, rfl⟩, ?_⟩
  rcases hw with hw | ⟨t, hw⟩
  · exact hw ▸ s
  · exact s.below (hw ▸ Lib.bytesWorld_below w _ _)

theorem Atoi_bad {W : World} (hG : Gok W) (l : By) (hl : l.length ≤ 281474976710656) (h : ∀ n, Lib.atoiAll l ≠ .ok n) : FnS Tryd.prog 52 [S l] [base W] (fun u Bs => ∃ n t p, u = .tuple #[I64 n, .iface t p] ∧ Bs = [base W]) := by
  intro W0 R w s
  cases ha : Lib.atoiAll l with
  | ok n => exact absurd ha (h n)
  | «syntax» =>
    obtain ⟨te, pe, hg⟩ := hG.v_strconv_ErrSyntax
    exact (Any.strconv_Atoi_syntax Tryd.atTm ⟨l.toArray⟩ (by rw [S_size]; exact hl) ha _ w (base_cell s hg) (.inr ⟨te, pe, rfl⟩)).mono fun e w' ⟨N, he, _, _, hw⟩ => ⟨_, [base W], he, ⟨_, _, _, rfl, rfl⟩, s.below hw⟩
  | range =>
    obtain ⟨te, pe, hg⟩ := hG.v_strconv_ErrRange
    exact (Any.strconv_Atoi_range Tryd.atTm ⟨l.toArray⟩ (by rw [S_size]; exact hl) ha _ w (base_cell s hg) (.inr ⟨te, pe, rfl⟩)).mono fun e w' ⟨N, he, _, _, hw⟩ => ⟨_, [base W], he, ⟨_, _, _, rfl, rfl⟩, s.below hw⟩


theorem Trim_spec (l p : By) : FnS Tryd.prog 41 [S l, S p] [] (fun u Bs => u = S (if p.isPrefixOf l then l.drop p.length else l) ∧ Bs = []) := by
  intro W0 R w s
  exact (Any.strings_TrimPrefix Tryd.tpTm _ _ w).mono fun e w' ⟨he, hw⟩ => ⟨_, [], he, ⟨rfl, rfl⟩, hw ▸ s⟩

end Go.Proofs.YtcglaiacohkaeaaDoor.L
