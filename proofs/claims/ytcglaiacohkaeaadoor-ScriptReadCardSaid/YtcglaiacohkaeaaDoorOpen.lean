/-
  From a row's reading of the arguments to slots and memory; and back. Own work; it speaks of no program.
-/
import Derived.Test.YtcglaiacohkaeaaDoorMap
import Derived.ProofKit
import Derived.OpenShut
import Derived.ShutString
import Derived.ChangeOld
import Derived.Below
import Derived.Deep.Slices
import Derived.Deep.Strs
import Derived.JoinedCond
import Derived.Carry
import Derived.SizedLaws
set_option linter.unusedSimpArgs false
set_option linter.unusedVariables false
set_option linter.unusedSectionVars false
namespace Go.L
open Go.RowKit
theorem below_of_st {W w' : World} {l : List Assn} (s : St W (base W :: l) w') : Below W.heap.size W w' :=
  ⟨s.os, s.tape, s.output, s.size, fun k hk => by
    obtain ⟨h1, h2, _, e, ha, _⟩ := s.sat
    have h3 := ha k hk
    have h4 : w'.heap[k]? = join h1 h2 k := congrFun e k
    obtain ⟨o, ho⟩ : ∃ o, W.heap[k]? = some o := ⟨_, Array.getElem?_eq_getElem hk⟩
    rw [h4, ho]; rw [ho] at h3; exact join_some h3⟩
theorem st_start (W : World) : St W [base W] W := ⟨rfl, rfl, rfl, Nat.le_refl _, Sat.one fun _ _ => rfl⟩
/-- how many bytes a slice that came in takes at the most -/
theorem sized_of {H : Type} {P : Program} {ts : List TypeId} {ds : List (DataW H)} (h : (DataW.weightsEach P ts ds).all (· ≤ reachBytes) = true) {j n by' : Nat} {t e : TypeId} {d : DataW H} (ht : ts[j]? = some t) (hd : ds[j]? = some d) (hu : P.underlying t = some (.slice e)) (hb : P.bytesOf e = by')
    (hx : (d = .nil ∧ n = 0) ∨ ∃ el sp, d = .slice el sp ∧ el.length = n) : n * by' ≤ 140737488351232 := by
  rcases hx with ⟨_, rfl⟩ | ⟨el, sp, rfl, rfl⟩
  · simp
  · have h1 := sized_slice h ht hd hu
    rw [hb] at h1
    have h2 : el.length * by' ≤ (el.length + sp.length) * by' := Nat.mul_le_mul_right _ (by omega)
    have h3 : reachBytes = 140737488351232 := by decide
    omega
section
variable {H : Type} {enc : TypeId × Value → H} {P : Program} {w : World} {bs : Nat} {spare : Nat → Bool} {held : Bool}
/-- every slice and string in it is of bounded size -/
def wok (P : Program) (t : TypeId) (d : DataW H) : Prop := ∀ n ∈ d.weights P t, n ≤ reachBytes
theorem weights_mem_all {e : TypeId} : ∀ {l : List (DataW H)} {d : DataW H}, d ∈ l → ∀ n ∈ d.weights P e, n ∈ DataW.weightsAll P e l
  | [], _, hd, _, _ => absurd hd List.not_mem_nil
  | x :: l, d, hd, n, hn => by
    simp only [DataW.weightsAll, List.mem_append]
    rcases List.mem_cons.1 hd with rfl | h
    · exact .inl hn
    · exact .inr (weights_mem_all h n hn)
theorem wok_top {ts : List TypeId} {ds : List (DataW H)} (h : (DataW.weightsEach P ts ds).all (· ≤ reachBytes) = true) {j : Nat} {t : TypeId} {d : DataW H} (ht : ts[j]? = some t) (hd : ds[j]? = some d) : wok P t d := fun n hn => by
  have := List.all_eq_true.1 h _ (DataW.weights_mem_each ht hd n hn)
  simpa using this
theorem wok_slice {t e : TypeId} {el sp : List (DataW H)} (hu : P.underlying t = some (.slice e)) (h : wok P t (.slice el sp)) : el.length * P.bytesOf e ≤ reachBytes ∧ ∀ d ∈ el, wok P e d := by
  constructor
  · have h1 := h ((el.length + sp.length) * P.bytesOf e) (by simp [DataW.weights, hu])
    exact Nat.le_trans (Nat.mul_le_mul_right _ (by omega)) h1
  · intro d hd n hn
    refine h n ?_
    simp only [DataW.weights, hu, List.mem_cons, List.mem_append]
    exact .inr (.inl (weights_mem_all hd n hn))
theorem wok_field {t : TypeId} {fs : Array Field} {ps : List (DataW H)} {i : Nat} {f : Field} {d : DataW H} (hu : P.underlying t = some (.struct fs)) (h : wok P t (.agg ps)) (hf : fs[i]? = some f) (hd : ps[i]? = some d) : wok P f.type d := fun n hn => by
  refine h n ?_
  simp only [DataW.weights, hu]
  exact DataW.weights_mem_each (j := i) (by simp [hf]) hd n hn
theorem wok_string {t : TypeId} {b : List UInt8} (h : wok P t (.lit (.string b) : DataW H)) : b.length ≤ 140737488351232 := by
  have h1 := h b.length (by simp [DataW.weights])
  have h3 : reachBytes = 140737488351232 := by decide
  omega
/-- a slice of parts that each lie flat -/
theorem open_flatD (D : DataW H → Prop) {t e fuel sz : Nat} {cs : List Value} {x : DataW H × List MemPlace} (ht : P.underlying t = some (.slice e)) (hsz : P.cellsOf e = sz) {T : Type} [Inhabited T] (oe : T → List Value) (Good : T → Prop) (hlen : ∀ q, (oe q).length = sz)
    (hone : ∀ n cs' d, DataW.trod enc P w bs spare held n e cs' = some d → D d.1 → ∃ q, cs' = oe q ∧ Good q) (hD : ∀ el sp, x.1 = .slice el sp → ∀ d ∈ el, D d) (h : DataW.trod enc P w bs spare held fuel t cs = some x) :
    ∃ (a : Option Addr) (cap : Nat) (s : List T), cs = [.slice a s.length cap] ∧ (∀ q ∈ s, Good q) ∧ s.length ≤ maxLen ∧ (0 < sz → SlR (hpOf w) (.slice a s.length cap) s.length (s.flatMap oe)) ∧
      ((x.1 = .nil ∧ s.length = 0) ∨ ∃ el sp, x.1 = .slice el sp ∧ el.length = s.length) := by
  rcases DataW.trod_slice ht h with ⟨rfl, rfl⟩ | ⟨a, len, cap, elems, rest, n, _, rfl, rfl, _, hl, hm, he, hel, _, _⟩
  · exact ⟨none, 0, [], rfl, by simp, by simp, fun _ => .inl ⟨rfl, rfl, rfl⟩, .inl ⟨rfl, rfl⟩⟩
  · obtain ⟨f, hf⟩ := Go.Deep.choose_lt (α := T) (n := len) (p := fun i q => Good q ∧ ∀ j x, (oe q)[j]? = some x → w.cell? (a.add (i * sz + j)) = some x) (fun i hi => by
      have h1 := hel i hi
      have hi' : i < elems.length := by omega
      rw [List.getElem?_eq_getElem hi'] at h1
      obtain ⟨cs', hc1, hc2⟩ := Option.bind_eq_some_iff.1 h1
      obtain ⟨q, rfl, hq⟩ := hone _ _ _ hc2 (hD _ _ rfl _ (List.mem_map_of_mem (List.getElem_mem hi')))
      obtain ⟨_, _, hc3⟩ := World.cells?_some hc1
      refine ⟨q, hq, fun j x hx => ?_⟩
      have hj : j < sz := by have := (List.getElem?_eq_some_iff.1 hx).1; rw [hlen] at this; exact this
      have := hc3 j (by rw [hsz]; exact hj)
      rw [hx, hsz] at this
      rw [← this]; congr 1
      unfold Addr.add
      by_cases e1 : i * sz = 0 <;> by_cases e2 : j = 0 <;> simp [e1, e2]; omega)
    refine ⟨some a, cap, (List.range len).map f, by simp, fun q hq => ?_, by simp; omega, fun hs0 => .inr ⟨a.block, a.off, a.spot, cap, by simp, fun h0 => ?_, fun j x hx => ?_⟩, .inr ⟨_, _, rfl, by simp [he]⟩⟩
    · obtain ⟨i, hi, rfl⟩ := List.mem_map.1 hq; exact (hf i (List.mem_range.1 hi)).1
    · simp at h0
      have := (hf 0 h0).2 0 ((oe (f 0))[0]'(by rw [hlen]; exact hs0)) (List.getElem?_eq_getElem _)
      simp [Addr.add] at this
      exact World.cell?_spot this
    · have hjl : j < len * sz := by
        have := (List.getElem?_eq_some_iff.1 hx).1; rw [flat_length oe sz hlen] at this; simpa using this
      have hi : j / sz < len := by rw [Nat.div_lt_iff_lt_mul hs0]; exact hjl
      have hk : ((List.range len).map f)[j / sz]? = some (f (j / sz)) := by simp [hi]
      have hj2 : j % sz < sz := Nat.mod_lt _ hs0
      have hx2 : (oe (f (j / sz)))[j % sz]? = some x := by
        have := flat_get oe sz hlen hk (List.getElem?_eq_getElem (by rw [hlen]; exact hj2) : (oe (f (j / sz)))[j % sz]? = some ((oe (f (j / sz)))[j % sz]'(by rw [hlen]; exact hj2)))
        rw [Nat.div_add_mod'] at this
        rw [hx] at this
        rw [List.getElem?_eq_getElem (by rw [hlen]; exact hj2), ← this]
      have hc := (hf _ hi).2 _ _ hx2
      rw [Nat.div_add_mod'] at hc
      have hsp : a.spot = none := by
        have := (hf (j / sz) hi).2 0 ((oe (f (j / sz)))[0]'(by rw [hlen]; exact hs0)) (List.getElem?_eq_getElem _)
        by_cases h0 : j / sz * sz + 0 = 0
        · rw [h0] at this; simp [Addr.add] at this; exact World.cell?_spot this
        · have h00 := (hf 0 (Nat.lt_of_le_of_lt (Nat.zero_le _) hi)).2 0 ((oe (f 0))[0]'(by rw [hlen]; exact hs0)) (List.getElem?_eq_getElem _)
          simp [Addr.add] at h00; exact World.cell?_spot h00
      refine ⟨hsp, ?_⟩
      obtain ⟨b, off, spot⟩ := a
      simp only at hsp; subst hsp
      rw [cell_add] at hc
      unfold World.cell? at hc
      split at hc
      · rename_i c _ _ hh; simp at hc; exact ⟨c, _, _, hh, hc⟩
      · cases hc
/-- a slice of parts that each lie flat -/
theorem open_flat {t e fuel sz : Nat} {cs : List Value} {x : DataW H × List MemPlace} (ht : P.underlying t = some (.slice e)) (hsz : P.cellsOf e = sz) {T : Type} [Inhabited T] (oe : T → List Value) (Good : T → Prop) (hlen : ∀ q, (oe q).length = sz)
    (hone : ∀ n cs' d, DataW.trod enc P w bs spare held n e cs' = some d → ∃ q, cs' = oe q ∧ Good q) (h : DataW.trod enc P w bs spare held fuel t cs = some x) :
    ∃ (a : Option Addr) (cap : Nat) (s : List T), cs = [.slice a s.length cap] ∧ (∀ q ∈ s, Good q) ∧ s.length ≤ maxLen ∧ (0 < sz → SlR (hpOf w) (.slice a s.length cap) s.length (s.flatMap oe)) ∧
      ((x.1 = .nil ∧ s.length = 0) ∨ ∃ el sp, x.1 = .slice el sp ∧ el.length = s.length) :=
  open_flatD (fun _ => True) ht hsz oe Good hlen (fun n cs' d h _ => hone n cs' d h) (fun _ _ _ _ _ => trivial) h
end
end Go.L
