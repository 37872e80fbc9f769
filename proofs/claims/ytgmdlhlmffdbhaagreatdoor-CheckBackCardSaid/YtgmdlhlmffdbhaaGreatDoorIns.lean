/-
  Cells set one by one; a slice's row that has just been grown. Own work; it speaks of no program.
-/
import Derived.Test.YtgmdlhlmffdbhaaGreatDoorErr
import Derived.Laws.IdiomCopy
set_option linter.unusedSimpArgs false
set_option linter.unusedVariables false
set_option linter.unusedSectionVars false
namespace Go.L
section
variable {W0 w : World} {R : List Assn}
theorem St.setCells {b : Nat} {e : TypeId} : ∀ (vs l : List Value) (o : Nat) (w : World), St W0 (cel b e l :: R) w → St W0 (cel b e (splice l o vs) :: R) (w.setCells b o vs)
  | [], l, o, w, s => by simpa [splice, World.setCells] using s
  | v :: vs, l, o, w, s => by
    have s1 := s.setCell (b := b) (off := o) (l := l) v
    simpa [splice, World.setCells] using St.setCells vs (l.set o v) (o + 1) _ s1
theorem cell_cel {b j : Nat} {e : TypeId} {l : List Value} (s : St W0 (cel b e l :: R) w) {v : Value} (h : l[j]? = some v) : w.cell? ⟨b, j, none⟩ = some v := by
  have hb : w.heap[b]? = _ := s.heap (b := b)
  simp [World.cell?, hb, h]
theorem frozen_cel {b j : Nat} {e : TypeId} {l : List Value} (s : St W0 (cel b e l :: R) w) : w.frozen? ⟨b, j, none⟩ = false := by
  have hb : w.heap[b]? = _ := s.heap (b := b)
  simp [World.frozen?, hb]
theorem shape_cel {b : Nat} {e : TypeId} {l : List Value} (s : St W0 (cel b e l :: R) w) : w.shape? b = some (e, l.length) := by
  have hb : w.heap[b]? = _ := s.heap (b := b)
  simp [World.shape?, hb]
theorem grown1 {h : Hp} {b N cap : Nat} {e : TypeId} {cs rest : List Value} (hcs : cs.length = N) (hr : rest.length = cap - N) (hge : N ≤ cap) (hm : cap ≤ maxLen) (hh : h b = some (.cells (cs ++ rest).toArray e (0, 0))) : SlO h (.slice (some ⟨b, 0, none⟩) N cap) e 1 N cs :=
  ⟨by omega, .inr ⟨b, cap, rest, rfl, by rw [List.length_append]; omega, hge, hm, hh⟩⟩
theorem zeroCells1 (n : Nat) : (Builtin.zeroCells (Value.int .i64 0).cells n).toList.length = n := by simp [Builtin.zeroCells, Value.cells]
end
end Go.L
