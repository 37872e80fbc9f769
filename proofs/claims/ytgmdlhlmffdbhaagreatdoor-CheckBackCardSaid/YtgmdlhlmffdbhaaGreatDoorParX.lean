/-
  Parse: strconv.Itoa, strings.Join off the kit's shelf. Own work.
-/
import Derived.Test.YtgmdlhlmffdbhaaGreatDoorLexW
import Derived.Test.YtgmdlhlmffdbhaaGreatDoorSort0
import Derived.Test.YtgmdlhlmffdbhaaGreatDoorParW
set_option linter.unusedSimpArgs false
set_option linter.unusedVariables false
set_option linter.unusedSectionVars false
namespace Go.Proofs.YtgmdlhlmffdbhaaGreatDoor.L
open Go.L Go.L.Lx Go.L.Pa
theorem dec_kit (n : Nat) : Lib.decDigits n = dec n := by
  induction n using Nat.strongRecOn with
  | _ n ih =>
    rw [Lib.decDigits, dec]
    split
    · rfl
    · rw [ih (n / 10) (by omega)]
theorem itoa_kit (n : Int) : Lib.itoa n = itoaB n := by unfold Lib.itoa itoaB; rw [dec_kit, dec_kit]
theorem Itoa_spec {W : World} (hG : Gok W) (n : Int) (h0 : -9223372036854775808 ≤ n) (h1 : n ≤ 9223372036854775807) : FnS Tryz.prog 46 [I64 n] [base W] (fun u Bs => u = S (itoaB n) ∧ Bs = [base W]) := by
  intro W0 R w s
  refine (Any.strconv_Itoa Tryz.itTm n h0 h1 w (tab_base hG.tb s)).mono fun e w' ⟨he, k, os, hw⟩ => ⟨_, [base W], he, ⟨by rw [itoa_kit], rfl⟩, ?_⟩
  rw [hw]
  have s2 : St W0 (base W :: R) (w.drewN k) := ⟨s.os, s.tape, s.output, s.size, s.sat⟩
  exact s2.grow0 os
theorem joExtra : Builder.Extra Tryz.prog Tryz.joTm_ren where
  sizeBuilder := by kernel_rfl
  liesBuilder := by kernel_rfl
  t5 := Tryz.itTm.t5
  a5 := Tryz.itTm.a5
  z5 := Tryz.itTm.z5
  v5 := Tryz.itTm.v5
  infoByte := by kernel_rfl
  cellsByte := by kernel_rfl
  sizeByte := by kernel_rfl
  neB5 := by decide
/-- words with a text between -/
def joinB (ws : List By) (sep : By) : By := Lib.join ws sep
theorem map_data (ws : List By) : (ws.map fun w : By => (⟨w.toArray⟩ : ByteArray)).map (·.data.toList) = ws := by
  rw [List.map_map]; conv => rhs; rw [← List.map_id ws]
  apply List.map_congr_left; intro w _; rfl
theorem Join_spec (a : Option Addr) (c : Nat) (ws : List By) (sep : By) (hn : ws.length ≤ 140737488355328) (hl : (joinB ws sep).length ≤ 140737488355328) : FnS Tryz.prog 18 [.slice a ws.length c, S sep] [own (.slice a ws.length c) 9 1 ws.length (ws.map fun w => S w)] (fun u Bs => u = S (joinB ws sep) ∧ Bs = [own (.slice a ws.length c) 9 1 ws.length (ws.map fun w => S w)]) := by
  intro W0 R w s
  have hlen : (ws.map fun w : By => (⟨w.toArray⟩ : ByteArray)).length = ws.length := List.length_map _
  obtain ⟨h1, h2, d, e0, ⟨hll, hv⟩, hR⟩ := s.sat
  rcases hv with ⟨hnil, hn0⟩ | ⟨b, cap, sp, hv, k2, k3, k4, k5⟩
  · obtain rfl : ws = [] := List.eq_nil_of_length_eq_zero hn0
    exact (Any.strings_Join_none Tryz.joTm joExtra a c _ w).mono fun e w' ⟨he, hw⟩ => ⟨_, _, he, ⟨rfl, rfl⟩, hw ▸ s⟩
  · simp only [Value.slice.injEq] at hv
    obtain ⟨rfl, _, rfl⟩ := hv
    have hg : w.heap[b]? = some (.cells (ws.map (fun w => S w) ++ sp).toArray 9 (0, 0)) := by
      have : hpOf w b = _ := e0 ▸ join_some (h2 := h2) k5
      exact this
    have hj := Any.strings_Join Tryz.joTm joExtra b 0 c (ws.map fun w : By => (⟨w.toArray⟩ : ByteArray)) ⟨sep.toArray⟩ w (fun j x hx => by
        rw [List.getElem?_map] at hx
        obtain ⟨y, hy, rfl⟩ := Option.map_eq_some_iff.1 hx
        have hj := (List.getElem?_eq_some_iff.1 hy).1
        have hq : (ws.map (fun w => S w) ++ sp)[j]? = some (S y) := by rw [List.getElem?_append_left (by rw [List.length_map]; exact hj), List.getElem?_map, hy]; rfl
        simp [World.cell?, hg, hq]) (lt_of_hp (w := w) (b := b) hg) (by rw [hlen]; exact hn) (by rw [hlen]; exact k3) (by rw [map_data]; exact hl)
    rw [hlen, map_data] at hj
    exact hj.mono fun e w' ⟨he, hw⟩ => ⟨_, _, he, ⟨rfl, rfl⟩, s.below hw⟩
end Go.Proofs.YtgmdlhlmffdbhaaGreatDoor.L
