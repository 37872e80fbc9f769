/-
  A heap with more blocks at its end. Own work; it speaks of no program.
-/
import Derived.Test.YtcglaiacohkaeaaDoorCore
import Derived.Sort.Grow
set_option linter.unusedSimpArgs false
set_option linter.unusedVariables false
namespace Go.L
open Go.Sort
theorem hpOf_grow0 (w : World) (os : Array Obj) : hpOf (grow w os) = join (hpOf w) (fun b => if b < w.heap.size then none else os[b - w.heap.size]?) := by
  funext b
  simp only [hpOf, grow, join, Array.getElem?_append]
  by_cases h : b < w.heap.size
  · simp [h]
  · simp [h, Array.getElem?_eq_none (Nat.le_of_not_lt h)]
theorem St.grow0 {W0 w : World} {As : List Assn} (s : St W0 As w) (os : Array Obj) : St W0 As (Go.Sort.grow w os) := by
  refine ⟨s.os, s.tape, s.output, by have := s.size; simp; omega, ?_⟩
  rw [hpOf_grow0]
  refine Sat.more (fun b => ?_) s.sat
  by_cases h : b < w.heap.size
  · right; simp [h]
  · left; simp [hpOf, Array.getElem?_eq_none (Nat.le_of_not_lt h)]
end Go.L
