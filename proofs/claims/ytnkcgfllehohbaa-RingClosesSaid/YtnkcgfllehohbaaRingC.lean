/-
  RingCloses on paper. Own work; no program.
-/
import Derived.Test.YtnkcgfllehohbaaRingQ
namespace Go.L.Ring
open Go.L
structure CSt (n : Nat) (vs L : List Int) (k j : Nat) (T : Int) : Prop where
  len : L.length = 2 + 2 * n
  tail : L.getD 0 0 = T
  head : L.getD 1 0 = j
  slot : ∀ i, i < n → L.getD (2 + 2 * i) 0 = if i < j then 2 else if i < k then 1 else 0
  val : ∀ i, i < k → L.getD (2 + 2 * i + 1) 0 = vs.getD i 0
  li : LI L
theorem tn_t {n t : Nat} (h : t < n) : tn 0 n t = 2 + 2 * t := by
  unfold tn; rw [Int.emod_eq_of_lt (by omega) (by omega)]; simp
theorem wt_t {n t : Nat} (h : t < n) : wt n t = 0 := by
  unfold wt; rw [Int.ediv_eq_zero_of_lt (by omega) (by omega)]; rfl
theorem gset (L : List Int) (i j : Nat) (x : Int) (h : i < L.length) : (L.set i x).getD j 0 = if j = i then x else L.getD j 0 := by
  simp only [List.getD_eq_getElem?_getD, List.getElem?_set]
  by_cases e : i = j
  · subst e; simp [h]
  · rw [if_neg e, if_neg (Ne.symm e)]
theorem htop : top = 9223372036854775808 := rfl
theorem LI_zero (k i : Nat) : (List.replicate k (0 : Int)).getD i 0 = 0 := by
  simp only [List.getD_eq_getElem?_getD, List.getElem?_replicate]; split <;> rfl
theorem cs_0 (n : Nat) (vs : List Int) : CSt n vs (List.replicate (2 + 2 * n) 0) 0 0 0 where
  len := by simp
  tail := (LI_zero _ _).trans rfl
  head := (LI_zero _ _).trans rfl
  slot i h := by rw [LI_zero]; simp
  val i h := by omega
  li := LI_rep _
theorem cs_put {n k : Nat} {vs L : List Int} (C : CSt n vs L k 0 (k : Int)) (hk : k < n) (hn : n ≤ 64) (hv : 0 ≤ vs.getD k 0 ∧ vs.getD k 0 ≤ 18446744073709551615) :
    ∃ L', doN 0 n 100 L ⟨0, 0, vs.getD k 0, 0, 0⟩ = (5, L', ⟨4, 1, 0, k, 0⟩) ∧ CSt n vs L' (k + 1) 0 ((k + 1 : Nat) : Int) := by
  have ht := htop
  have hs : L.getD (tn 0 n k) 0 = wt n k := by rw [tn_t hk, wt_t hk, C.slot k hk]; simp
  refine ⟨_, put_done C.tail (by omega) hs 95, ?_⟩
  have hl := C.len
  rw [tn_t hk, wt_t hk, show uw ((k : Int) + 1) = ((k + 1 : Nat) : Int) from wr_u64 (by omega), show uw (0 + 1) = 1 from rfl]
  constructor
  · simp [hl]
  · rw [gset _ _ _ _ (by simp; omega), if_neg (by omega), gset _ _ _ _ (by simp; omega), if_neg (by omega), gset _ _ _ _ (by omega), if_pos rfl]
  · rw [gset _ _ _ _ (by simp; omega), if_neg (by omega), gset _ _ _ _ (by simp; omega), if_neg (by omega), gset _ _ _ _ (by omega), if_neg (by omega)]; exact C.head
  · intro i hi
    rw [gset _ _ _ _ (by simp; omega), gset _ _ _ _ (by simp; omega), gset _ _ _ _ (by omega), C.slot i hi]
    by_cases e : i = k
    · subst e; simp
    · rw [if_neg (by omega), if_neg (by omega), if_neg (by omega)]
      simp only [Nat.not_lt_zero, if_false]
      by_cases e2 : i < k
      · rw [if_pos e2, if_pos (by omega)]
      · rw [if_neg e2, if_neg (by omega)]
  · intro i hi
    rw [gset _ _ _ _ (by simp; omega), gset _ _ _ _ (by simp; omega), gset _ _ _ _ (by omega)]
    by_cases e : i = k
    · subst e; simp
    · rw [if_neg (by omega), if_neg (by omega), if_neg (by omega)]; exact C.val i (by omega)
  · exact ((C.li.set _ _ (by omega)).set _ _ hv).set _ _ (by decide)
theorem cs_close {n k : Nat} {vs L : List Int} (C : CSt n vs L k 0 (k : Int)) (hk : k ≤ n) (hn : 1 ≤ n) (hn2 : n ≤ 64) :
    ∃ L', doN 0 n 100 L ⟨14, 0, 0, 0, 0⟩ = (2, L', ⟨14, 1, 0, 0, 0⟩) ∧ CSt n vs L' k 0 (k + top) := by
  have ht := htop
  refine ⟨_, close_done C.tail (by omega) 98, ?_⟩
  have hl := C.len
  rw [show uw ((k : Int) + top) = k + top from wr_u64 (by omega)]
  exact ⟨by simp [hl], by rw [gset _ _ _ _ (by omega), if_pos rfl], by rw [gset _ _ _ _ (by omega), if_neg (by omega)]; exact C.head,
    fun i hi => by rw [gset _ _ _ _ (by omega), if_neg (by omega)]; exact C.slot i hi, fun i hi => by rw [gset _ _ _ _ (by omega), if_neg (by omega)]; exact C.val i hi, C.li.set _ _ (by omega)⟩
theorem cs_close2 {n k j : Nat} {vs L : List Int} (C : CSt n vs L k j (k + top)) : doN 0 n 100 L ⟨14, 0, 0, 0, 0⟩ = (1, L, ⟨15, 1, 0, 0, 0⟩) := close_again C.tail (by have ht := htop; omega) 99
theorem cs_late {n k j : Nat} {vs L : List Int} (C : CSt n vs L k j (k + top)) (v : Int) : doN 0 n 100 L ⟨0, 0, v, 0, 0⟩ = (1, L, ⟨1, 3, v, k + top, 0⟩) := put_closed C.tail (by have ht := htop; omega) 99
theorem cs_drain {n k j : Nat} {vs L : List Int} (C : CSt n vs L k j (k + top)) (hj : j < k) (hk : k ≤ n) (hn : n ≤ 64) :
    ∃ L', doN 0 n 100 L ⟨10, 0, 0, 0, 0⟩ = (6, L', ⟨9, 1, vs.getD j 0, 0, j⟩) ∧ CSt n vs L' k (j + 1) (k + top) := by
  have ht := htop
  have hjn : j < n := by omega
  have hs : L.getD (tn 0 n j) 0 = uw (wt n j + 1) := by rw [tn_t hjn, wt_t hjn, C.slot j hjn, if_neg (by omega), if_pos hj]; rfl
  have hr := drain_done C.tail (H := j) C.head (by rw [show uw ((j : Int) + top) = j + top from wr_u64 (by omega)]; omega) hs 94
  rw [tn_t hjn, wt_t hjn, C.val j hj] at hr
  refine ⟨_, hr, ?_⟩
  have hl := C.len
  rw [show uw ((j : Int) + 1) = ((j + 1 : Nat) : Int) from wr_u64 (by omega), show uw (0 + 2) = 2 from rfl]
  constructor
  · simp [hl]
  · rw [gset _ _ _ _ (by simp; omega), if_neg (by omega), gset _ _ _ _ (by omega), if_neg (by omega)]; exact C.tail
  · rw [gset _ _ _ _ (by simp; omega), if_pos (by omega)]
  · intro i hi
    rw [gset _ _ _ _ (by simp; omega), gset _ _ _ _ (by omega), C.slot i hi, if_neg (by omega)]
    by_cases e : i = j
    · subst e; simp
    · rw [if_neg (by omega)]
      by_cases e2 : i < j
      · rw [if_pos e2, if_pos (by omega)]
      · rw [if_neg e2, if_neg (show ¬ i < j + 1 by omega)]
  · intro i hi
    rw [gset _ _ _ _ (by simp; omega), if_neg (by omega), gset _ _ _ _ (by omega), if_neg (by omega)]; exact C.val i hi
  · exact (C.li.set _ _ (by decide)).set _ _ (by omega)
theorem cs_end {n k : Nat} {vs L : List Int} (C : CSt n vs L k k (k + top)) (hk : k ≤ 64) : doN 0 n 100 L ⟨10, 0, 0, 0, 0⟩ = (2, L, ⟨6, 5, k + top, 0, k⟩) :=
  drain_ended C.tail C.head (wr_u64 (by have ht := htop; omega)).symm 98
theorem cs_take {n k : Nat} {vs L : List Int} (C : CSt n vs L k k (k + top)) (hk : k ≤ n) (hn : 1 ≤ n) (hn2 : n ≤ 64) : doN 0 n 100 L ⟨5, 0, 0, 0, 0⟩ = (2, L, ⟨7, 4, 0, 0, k⟩) := by
  refine take_none C.head ?_ 98
  by_cases e : k = n
  · subst e
    have h1 : tn 0 k k = 2 + 2 * 0 := by unfold tn; simp
    have h2 : wt k k = 2 := by unfold wt; rw [Int.ediv_self (by omega)]; rfl
    rw [h1, h2, C.slot 0 (by omega), if_pos (by omega)]; decide
  · rw [tn_t (by omega), wt_t (by omega), C.slot k (by omega), if_neg (by omega), if_neg (by omega)]; decide
end Go.L.Ring
