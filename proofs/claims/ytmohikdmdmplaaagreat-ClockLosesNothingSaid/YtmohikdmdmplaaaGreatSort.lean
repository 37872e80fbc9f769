/-
  slices.SortFunc at structs over heaps in parts: the kit's contract, worn as a call's contract. Own work; it speaks of no program.
-/
import Derived.Test.YtmohikdmdmplaaaGreatFam
import Derived.Shelf.SlSortCmp.NoneTotal
set_option linter.unusedSimpArgs false
set_option linter.unusedVariables false
set_option linter.unusedSectionVars false
namespace Go.L
open Go.Sort Go.Shelf Go.Proofs
theorem hpOf_grow (w : World) (os : Array Obj) : hpOf (grow w os) = join (hpOf w) (fun b => if b < w.heap.size then none else os[b - w.heap.size]?) := by
  funext b
  simp only [hpOf, grow, join, Array.getElem?_append]
  by_cases h : b < w.heap.size
  · simp [h]
  · simp [h, Array.getElem?_eq_none (Nat.le_of_not_lt h)]
theorem St.grow {W0 w : World} {As : List Assn} (s : St W0 As w) (os : Array Obj) : St W0 As (Go.Sort.grow w os) := by
  refine ⟨s.os, s.tape, s.output, by have := s.size; simp; omega, ?_⟩
  rw [hpOf_grow]
  refine Sat.more (fun b => ?_) s.sat
  by_cases h : b < w.heap.size
  · right; simp [h]
  · left; simp [hpOf, Array.getElem?_eq_none (Nat.le_of_not_lt h)]
theorem St.ahead {W0 w : World} {As : List Assn} (s : St W0 As w) (n : Nat) : St W0 As (Go.Sort.ahead w n) := ⟨s.os, s.tape, s.output, s.size, s.sat⟩
theorem flatK_list {α : Type} [Inhabited α] (enc : α → List Value) (k : Nat) (hk : ∀ x, (enc x).length = k) (d : Array α) : flatK enc k d = (d.toList.flatMap enc).toArray := by
  have hl : (d.toList.flatMap enc).length = d.size * k := by rw [flat_length enc k hk]; simp
  refine ext_get! (by simp [hl]) fun t ht => ?_
  have ht' : t < d.size * k := by simpa using ht
  have k0 : 0 < k := by rcases Nat.eq_zero_or_pos k with h | h; · subst h; simp at ht'
                        · exact h
  rw [get_flatK _ _ _ t ht']
  have hq : t / k < d.size := Nat.div_lt_of_lt_mul (by rw [Nat.mul_comm]; exact ht')
  have hm : t % k < k := Nat.mod_lt _ k0
  have h1 : d.toList[t / k]? = some d[t / k]! := by rw [Array.getElem?_toList, getElem!_pos d _ hq, Array.getElem?_eq_getElem hq]
  have h2 : (enc d[t / k]!)[t % k]? = some (enc d[t / k]!)[t % k]! := by
    have : t % k < (enc d[t / k]!).length := by rw [hk]; exact hm
    rw [getElem!_pos (enc d[t / k]!) (t % k) this, List.getElem?_eq_getElem this]
  have h3 := flat_get enc k hk h1 h2
  rw [show t / k * k + t % k = t by rw [Nat.mul_comm]; exact Nat.div_add_mod t k] at h3
  have h4 : t < (d.toList.flatMap enc).length := by rw [hl]; exact ht'
  rw [List.getElem?_eq_getElem h4] at h3
  rw [getElem!_pos _ t (by simpa using h4)]
  simpa using (Option.some.inj h3).symm
theorem St.putRow {W0 w : World} {b : Nat} {e : TypeId} {xs sp ys : List Value} {R : List Assn} (s : St W0 (pts b (.cells (xs ++ sp).toArray e (0, 0)) :: R) w) (hl : ys.length = xs.length) :
    St W0 (pts b (.cells (ys ++ sp).toArray e (0, 0)) :: R) (Go.Sort.putRow id w b 0 ys.toArray) := by
  have hb := s.heap (b := b)
  refine ⟨s.os, s.tape, s.output, by have := s.size; simpa [Go.Sort.putRow, mapBlock] using this, ?_⟩
  have e1 : putCells id 0 ys.toArray (xs ++ sp).toArray = (ys ++ sp).toArray := by
    apply Array.ext_getElem?
    intro j
    simp only [putCells, Array.getElem?_mapIdx, List.getElem?_toArray, List.size_toArray, Nat.zero_le, true_and, Nat.zero_add, Nat.sub_zero]
    by_cases h : j < ys.length
    · rw [List.getElem?_append_left (by omega), List.getElem?_append_left h, List.getElem?_eq_getElem (by omega), List.getElem?_eq_getElem h]
      simp only [Option.map_some, if_pos h, id]
      rw [getElem!_pos _ j (by simpa using h)]; simp
    · rw [List.getElem?_append_right (by omega), List.getElem?_append_right (by omega), hl]
      cases sp[j - xs.length]? with
      | none => rfl
      | some v => simp only [Option.map_some, if_neg (show ¬ j < ys.length from h)]; rw [if_neg (by omega)]
  have e2 : hpOf (Go.Sort.putRow id w b 0 ys.toArray) = upd (hpOf w) b (.cells (ys ++ sp).toArray e (0, 0)) := by
    unfold Go.Sort.putRow mapBlock
    rw [hpOf_modify _ (o := .cells (xs ++ sp).toArray e (0, 0)) hb]
    simp only [onCells, e1]
  rw [e2]
  exact Owns.set (b := b) (o := .cells (xs ++ sp).toArray e (0, 0)) (.cells (ys ++ sp).toArray e (0, 0)) s.sat
/-- sorted by a comparison, over slices of structs that are one's own -/
theorem sort_own {P : Program} {ρ : Ren} (L : SlLaysF0.n6 P ρ) {α : Type} [Inhabited α] (k : Nat) (hk0 : 0 < k) (aE : ∀ w, (isAgg (ρ.t 24)).run P w = .ok true w) (zE : ∀ w, (Go.sizeOf (ρ.t 24)).run P w = .ok k w) (enc : α → List Value) (hk : ∀ x, (enc x).length = k) (h1 : ∀ x, ∀ v ∈ enc x, v.oneCell' = true)
    (cf : α → α → Int) (hO : SWO (ltOf cf)) (g : Nat) (eg : ∀ args w, (callFunc g args).run P w = .ok (.enter g args) w)
    (hcl : ∀ (x y : α) (W : World), Calls P g #[.agg (enc x).toArray, .agg (enc y).toArray] W fun e w' => e = .returned (.int .i64 (cf x y)) ∧ ∃ q os', w' = Go.Sort.grow (W.drewN q) os') {v : Value} {e : TypeId} (l : List α) (hlen : l.length < 4611686018427387904) :
    FnS P (ρ.f 6) [v, .func (.func g) #[] #[]] [own v e k l.length (l.flatMap enc)] (fun u Bs => u = .tuple #[] ∧ ∃ l' : List α, l'.Perm l ∧ l'.Pairwise (fun a b => ltOf cf b a = false) ∧ Bs = [own v e k l.length (l'.flatMap enc)]) := by
  intro W0 R w s
  rw [List.singleton_append] at s
  obtain ⟨h1', h2', hd, he, ⟨hx, hv⟩, hR⟩ := s.sat
  rcases hv with ⟨rfl, hn⟩ | ⟨b, cap, sp, rfl, hsp, hcap, hmax, hb⟩
  · have hl0 : l = [] := List.eq_nil_of_length_eq_zero hn
    subst hl0
    refine (Go.Proofs.AnyF.slices_SortFunc_none L none 0 _ w).mono fun ex w' ⟨h3, h4⟩ => ?_
    subst h4
    exact ⟨_, _, h3, ⟨rfl, [], .refl _, .nil, rfl⟩, s⟩
  · have hbw : w.heap[b]? = some (.cells (l.flatMap enc ++ sp).toArray e (0, 0)) := by
      have : hpOf w b = _ := he ▸ join_some (h2 := h2') hb
      exact this
    have hfl := flatK_list enc k hk l.toArray
    have hH : HoldsK enc k w b 0 l.toArray := by
      intro j hj
      have hj' : j < l.length * k := by simpa [hfl, flat_length enc k hk] using hj
      have hj2 : j < (l.flatMap enc).length := by rw [flat_length enc k hk]; exact hj'
      rw [Nat.zero_add, hfl]
      constructor
      · simp only [World.cell?, hbw, List.getElem?_toArray]
        rw [List.getElem?_append_left hj2, getElem!_pos _ j (by simpa using hj2), List.getElem?_eq_getElem hj2]; simp
      · simp [World.frozen?, hbw]
    refine (Go.Proofs.AnyQ.slices_SortFunc L k aE zE enc hk h1 cf hO g #[] b 0 cap l.toArray w eg (fun m os dk _ x y => hcl x y _) hH (lt_of_hp hbw) (by simpa using hlen)).mono ?_
    rintro ex w' ⟨h3, d', n, os, ⟨hp1, _, hp3⟩, hs, hw⟩
    have hp4 : d'.toList.Perm l := by
      have : (d'.extract 0 l.toArray.size).toList.Perm (l.toArray.extract 0 l.toArray.size).toList := hp3
      rw [← hp1] at this
      rw [Array.extract_size, hp1, Array.extract_size] at this
      simpa using this
    have hlen' : d'.toList.length = l.length := hp4.length_eq
    have hpw : d'.toList.Pairwise (fun a b => ltOf cf b a = false) := by
      rw [List.pairwise_iff_getElem]
      intro i j hi hj hij
      have := hs i j (Nat.zero_le _) hij (by simpa [hlen'] using hj)
      have hi' : i < d'.size := by simpa using hi
      have hj' : j < d'.size := by simpa using hj
      rw [getElem!_pos d' i hi', getElem!_pos d' j hj'] at this
      simpa using this
    have s0 : St W0 (pts b (.cells (l.flatMap enc ++ sp).toArray e (0, 0)) :: R) w := ⟨s.os, s.tape, s.output, s.size, h1', h2', hd, he, hb, hR⟩
    have s1 := (s0.ahead n).putRow (ys := d'.toList.flatMap enc) (by rw [flat_length enc k hk, flat_length enc k hk, hlen'])
    have s2 := s1.grow os
    have hw2 : w' = Go.Sort.grow (Go.Sort.putRow id (Go.Sort.ahead w n) b 0 (d'.toList.flatMap enc).toArray) os := by
      rw [hw]; unfold sortWorldK putRowK; rw [flatK_list enc k hk]
    rw [hw2]
    refine ⟨_, _, h3, ⟨rfl, d'.toList, hp4, hpw, rfl⟩, s2.imp fun _ => Sat.head fun h hh => ⟨by rw [flat_length enc k hk, hlen'], .inr ⟨b, cap, sp, rfl, ?_, hcap, hmax, hh⟩⟩⟩
    rw [List.length_append, flat_length enc k hk, hlen']
    rw [List.length_append, flat_length enc k hk] at hsp
    exact hsp
end Go.L
