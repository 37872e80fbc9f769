/-
  Operations of a ring, done at once: what each comes to. Own work; no program.
-/
import Derived.Test.YtmohikdmdmplaaaGreatRingP
set_option linter.unusedSimpArgs false
set_option linter.unusedVariables false
set_option linter.unusedSectionVars false
namespace Go.L.Ring
open Go.L
variable {b n : Nat} {L : List Int} {v T H : Int}
theorem do1 {k c : Nat} {o o1 : RO} {L1 : List Int} {r : List Int × RO} (h : o.over = false) (hL : stepL b n L o = L1) (hO : stepO b n L o = o1) (hr : doN b n k L1 o1 = (c, r)) : doN b n (k + 1) L o = (c + 1, r) := by
  rw [doN_go _ _ _ _ _ h]
  simp only [goL, goO, h, Bool.false_eq_true, if_false, hL, hO, hr]
theorem put_done (hT : L.getD b 0 = T) (ht : T < top) (hs : L.getD (tn b n T) 0 = wt n T) (k : Nat) :
    doN b n (k + 5) L ⟨0, 0, v, 0, 0⟩ = (5, ((L.set b (uw (T + 1))).set (tn b n T + 1) v).set (tn b n T) (uw (wt n T + 1)), ⟨4, 1, 0, T, 0⟩) := by
  have h1 : ¬ top ≤ T := by omega
  refine do1 (L1 := L) (o1 := ⟨1, 0, v, T, 0⟩) rfl rfl (by simp only [stepO, putTailO, hT, if_neg h1]) ?_
  refine do1 (L1 := L) (o1 := ⟨2, 0, v, T, 0⟩) rfl rfl (by simp only [stepO, putTurnO, hs, Int.lt_irrefl, if_false]) ?_
  refine do1 (o1 := ⟨3, 0, v, T, 0⟩) rfl (by simp only [stepL, putSwapL, hT, if_true]; rfl) (by simp only [stepO, putSwapO, hT, if_true]) ?_
  refine do1 (o1 := ⟨4, 0, v, T, 0⟩) rfl rfl rfl ?_
  exact do1 (o1 := ⟨4, 1, 0, T, 0⟩) rfl rfl rfl (doN_over _ _ _ _ _ rfl)
theorem put_full (hT : L.getD b 0 = T) (ht : T < top) (hs : L.getD (tn b n T) 0 < wt n T) (k : Nat) : doN b n (k + 2) L ⟨0, 0, v, 0, 0⟩ = (2, L, ⟨1, 2, v, T, 0⟩) := by
  have h1 : ¬ top ≤ T := by omega
  have h2 : ¬ wt n T < L.getD (tn b n T) 0 := by omega
  refine do1 (L1 := L) (o1 := ⟨1, 0, v, T, 0⟩) rfl rfl (by simp only [stepO, putTailO, hT, if_neg h1]) ?_
  exact do1 (L1 := L) (o1 := ⟨1, 2, v, T, 0⟩) rfl rfl (by simp only [stepO, putTurnO, if_neg h2, if_pos hs]) (doN_over _ _ _ _ _ rfl)
theorem put_closed (hT : L.getD b 0 = T) (ht : top ≤ T) (k : Nat) : doN b n (k + 1) L ⟨0, 0, v, 0, 0⟩ = (1, L, ⟨1, 3, v, T, 0⟩) :=
  do1 (L1 := L) (o1 := ⟨1, 3, v, T, 0⟩) rfl rfl (by simp only [stepO, putTailO, hT, if_pos ht]) (doN_over _ _ _ _ _ rfl)
theorem take_done (hH : L.getD (b + 1) 0 = H) (hs : L.getD (tn b n H) 0 = uw (wt n H + 1)) (k : Nat) :
    doN b n (k + 5) L ⟨5, 0, 0, 0, 0⟩ = (5, (L.set (tn b n H) (uw (wt n H + 2))).set (b + 1) (uw (H + 1)), ⟨9, 1, L.getD (tn b n H + 1) 0, 0, H⟩) := by
  refine do1 (L1 := L) (o1 := ⟨6, 0, 0, 0, H⟩) rfl rfl (by simp only [stepO, takeHeadO, hH]) ?_
  refine do1 (L1 := L) (o1 := ⟨7, 0, 0, 0, H⟩) rfl rfl (by simp only [stepO, takeTurnO, hs, if_true]) ?_
  refine do1 (L1 := L) (o1 := ⟨8, 0, L.getD (tn b n H + 1) 0, 0, H⟩) rfl rfl rfl ?_
  refine do1 (o1 := ⟨9, 0, L.getD (tn b n H + 1) 0, 0, H⟩) rfl rfl rfl ?_
  exact do1 rfl rfl rfl (doN_over _ _ _ _ _ rfl)
theorem take_none (hH : L.getD (b + 1) 0 = H) (hs : ¬ L.getD (tn b n H) 0 = uw (wt n H + 1)) (k : Nat) : doN b n (k + 2) L ⟨5, 0, 0, 0, 0⟩ = (2, L, ⟨7, 4, 0, 0, H⟩) := by
  refine do1 (L1 := L) (o1 := ⟨6, 0, 0, 0, H⟩) rfl rfl (by simp only [stepO, takeHeadO, hH]) ?_
  exact do1 (L1 := L) (o1 := ⟨7, 4, 0, 0, H⟩) rfl rfl (by simp only [stepO, takeTurnO, if_neg hs]) (doN_over _ _ _ _ _ rfl)
theorem look_done (hH : L.getD (b + 1) 0 = H) (hs : L.getD (tn b n H) 0 = uw (wt n H + 1)) (k : Nat) : doN b n (k + 2) L ⟨12, 0, 0, 0, 0⟩ = (2, L, ⟨7, 1, 0, 0, H⟩) := by
  refine do1 (L1 := L) (o1 := ⟨13, 0, 0, 0, H⟩) rfl rfl (by simp only [stepO, lookHeadO, takeHeadO, hH]) ?_
  exact do1 (L1 := L) (o1 := ⟨7, 1, 0, 0, H⟩) rfl rfl (by simp [stepO, lookTurnO, takeTurnO, RO.over, hs, -List.getD_eq_getElem?_getD]) (doN_over _ _ _ _ _ rfl)
theorem look_none (hH : L.getD (b + 1) 0 = H) (hs : ¬ L.getD (tn b n H) 0 = uw (wt n H + 1)) (k : Nat) : doN b n (k + 2) L ⟨12, 0, 0, 0, 0⟩ = (2, L, ⟨7, 4, 0, 0, H⟩) := by
  refine do1 (L1 := L) (o1 := ⟨13, 0, 0, 0, H⟩) rfl rfl (by simp only [stepO, lookHeadO, takeHeadO, hH]) ?_
  exact do1 (L1 := L) (o1 := ⟨7, 4, 0, 0, H⟩) rfl rfl (by simp [stepO, lookTurnO, takeTurnO, RO.over, hs, -List.getD_eq_getElem?_getD]) (doN_over _ _ _ _ _ rfl)
theorem drain_ended (hT : L.getD b 0 = T) (hH : L.getD (b + 1) 0 = H) (he : T = uw (H + top)) (k : Nat) : doN b n (k + 2) L ⟨10, 0, 0, 0, 0⟩ = (2, L, ⟨6, 5, T, 0, H⟩) := by
  refine do1 (L1 := L) (o1 := ⟨11, 0, T, 0, 0⟩) rfl rfl (by simp only [stepO, drainTailO, hT]) ?_
  exact do1 (L1 := L) (o1 := ⟨6, 5, T, 0, H⟩) rfl rfl (by simp only [stepO, drainHeadO, takeHeadO, hH, if_pos he]) (doN_over _ _ _ _ _ rfl)
theorem drain_done (hT : L.getD b 0 = T) (hH : L.getD (b + 1) 0 = H) (he : ¬ T = uw (H + top)) (hs : L.getD (tn b n H) 0 = uw (wt n H + 1)) (k : Nat) :
    doN b n (k + 6) L ⟨10, 0, 0, 0, 0⟩ = (6, (L.set (tn b n H) (uw (wt n H + 2))).set (b + 1) (uw (H + 1)), ⟨9, 1, L.getD (tn b n H + 1) 0, 0, H⟩) := by
  refine do1 (L1 := L) (o1 := ⟨11, 0, T, 0, 0⟩) rfl rfl (by simp only [stepO, drainTailO, hT]) ?_
  refine do1 (L1 := L) (o1 := ⟨6, 0, T, 0, H⟩) rfl rfl (by simp only [stepO, drainHeadO, takeHeadO, hH, if_neg he]) ?_
  refine do1 (L1 := L) (o1 := ⟨7, 0, T, 0, H⟩) rfl rfl (by simp only [stepO, takeTurnO, hs, if_true]) ?_
  refine do1 (L1 := L) (o1 := ⟨8, 0, L.getD (tn b n H + 1) 0, 0, H⟩) rfl rfl rfl ?_
  refine do1 (o1 := ⟨9, 0, L.getD (tn b n H + 1) 0, 0, H⟩) rfl rfl rfl ?_
  exact do1 rfl rfl rfl (doN_over _ _ _ _ _ rfl)
theorem drain_none (hT : L.getD b 0 = T) (hH : L.getD (b + 1) 0 = H) (he : ¬ T = uw (H + top)) (hs : ¬ L.getD (tn b n H) 0 = uw (wt n H + 1)) (k : Nat) : doN b n (k + 3) L ⟨10, 0, 0, 0, 0⟩ = (3, L, ⟨7, 4, T, 0, H⟩) := by
  refine do1 (L1 := L) (o1 := ⟨11, 0, T, 0, 0⟩) rfl rfl (by simp only [stepO, drainTailO, hT]) ?_
  refine do1 (L1 := L) (o1 := ⟨6, 0, T, 0, H⟩) rfl rfl (by simp only [stepO, drainHeadO, takeHeadO, hH, if_neg he]) ?_
  exact do1 (L1 := L) (o1 := ⟨7, 4, T, 0, H⟩) rfl rfl (by simp only [stepO, takeTurnO, if_neg hs]) (doN_over _ _ _ _ _ rfl)
theorem close_done (hT : L.getD b 0 = T) (ht : T < top) (k : Nat) : doN b n (k + 2) L ⟨14, 0, 0, 0, 0⟩ = (2, L.set b (uw (T + top)), ⟨14, 1, 0, 0, 0⟩) := by
  have h1 : ¬ top ≤ T := by omega
  refine do1 (L1 := L) (o1 := ⟨15, 0, T, 0, 0⟩) rfl rfl (by simp only [stepO, closeTailO, hT, if_neg h1]) ?_
  exact do1 (o1 := ⟨14, 1, 0, 0, 0⟩) rfl (by simp only [stepL, closeSwapL, hT, if_true]) (by simp only [stepO, closeSwapO, hT, if_true]) (doN_over _ _ _ _ _ rfl)
theorem close_again (hT : L.getD b 0 = T) (ht : top ≤ T) (k : Nat) : doN b n (k + 1) L ⟨14, 0, 0, 0, 0⟩ = (1, L, ⟨15, 1, 0, 0, 0⟩) :=
  do1 (L1 := L) (o1 := ⟨15, 1, 0, 0, 0⟩) rfl rfl (by simp only [stepO, closeTailO, hT, if_pos ht]) (doN_over _ _ _ _ _ rfl)
end Go.L.Ring
