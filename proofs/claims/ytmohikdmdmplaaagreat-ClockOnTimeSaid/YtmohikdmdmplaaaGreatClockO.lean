/-
  The clock on paper: asks that are due, each at its beat. Own work; no program.
-/
import Derived.Test.YtmohikdmdmplaaaGreatClockR
set_option linter.unusedSimpArgs false
set_option linter.unusedVariables false
set_option linter.unusedSectionVars false
namespace Go.L.Clk
open Go.L Go.L.Ring Go.L.Whl Go.L.Post
theorem foldW_snoc (v : Int) : ∀ (q : List Int) (w : Wh), foldW (q ++ [v]) w = askW v (foldW q w)
  | [], _ => rfl
  | x :: q, w => by rw [List.cons_append, foldW, foldW_snoc v q, foldW]
theorem foldCut_snoc (v : Int) : ∀ (q : List Int) (w : Wh), foldCut (q ++ [v]) w = foldCut q w ++ askCut v (foldW q w)
  | [], w => by simp [foldCut, foldW]
  | x :: q, w => by rw [List.cons_append, foldCut, foldCut_snoc v q, foldCut, foldW, List.append_assoc]
theorem foldRef_snoc (v : Int) : ∀ (q : List Int) (w : Wh), foldRef (q ++ [v]) w = foldRef q w ++ askRef v (foldW q w)
  | [], w => by simp [foldRef, foldW]
  | x :: q, w => by rw [List.cons_append, foldRef, foldRef_snoc v q, foldRef, foldW, List.append_assoc]
variable (D : Nat → Nat)
def qv (i : Nat) : List Int := (List.range i).map fun j : Nat => (j : Int) * 4096 + (D j : Int)
theorem qv_len (i : Nat) : (qv D i).length = i := by simp [qv]
theorem qv_succ (i : Nat) : qv D (i + 1) = qv D i ++ [(i : Int) * 4096 + (D i : Int)] := by simp [qv, List.range_succ]
def allT (f n : Nat) : List Tm := (List.range n).map fun j : Nat => (⟨(j : Int), f + D j, j + 1⟩ : Tm)
theorem allT_len (f n : Nat) : (allT D f n).length = n := by simp [allT]
theorem allT_succ (f n : Nat) : allT D f (n + 1) = allT D f n ++ [(⟨(n : Int), f + D n, n + 1⟩ : Tm)] := by simp [allT, List.range_succ]
theorem fold_all (f : Nat) (hD : ∀ j, 1 ≤ D j ∧ D j ≤ 4095) : ∀ n, n ≤ 63 → foldW (qv D n) ⟨f, 0, []⟩ = ⟨f, n, allT D f n⟩ ∧ foldCut (qv D n) ⟨f, 0, []⟩ = [] ∧ foldRef (qv D n) ⟨f, 0, []⟩ = []
  | 0, _ => ⟨rfl, rfl, rfl⟩
  | n + 1, h => by
    obtain ⟨h1, h2, h3⟩ := fold_all f hD n (by omega)
    rw [qv_succ, foldW_snoc, foldCut_snoc, foldRef_snoc, h1, h2, h3]
    have hg : (⟨f, n, allT D f n⟩ : Wh).get (n : Int) = none := get_none.2 fun t ht => by
      obtain ⟨j, hj, rfl⟩ := List.mem_map.1 ht
      have := List.mem_range.1 hj
      show (j : Int) ≠ n; omega
    obtain ⟨a, b, c⟩ := ask_add (w := ⟨f, n, allT D f n⟩) (id := (n : Int)) (D := D n) (by omega) (hD n).1 (hD n).2 hg (by show (allT D f n).length < 64; rw [allT_len]; omega)
    rw [a, b, c, allT_succ]
    exact ⟨rfl, rfl, rfl⟩
/-- behind so many beats -/
def wT (f n τ : Nat) : Wh := ⟨f + τ, n, (allT D f n).filter fun x => decide (f + τ < x.due)⟩
theorem wT_tick (f n τ : Nat) : tickR (wT D f n τ) = wT D f n (τ + 1) := by
  unfold tickR wT
  simp only [List.filter_filter]
  rw [show f + τ + 1 = f + (τ + 1) by omega]
  congr 1
  refine List.filter_congr fun x _ => ?_
  rw [Bool.eq_iff_iff]; simp; omega
theorem wT_0 (f n : Nat) (hD : ∀ j, 1 ≤ D j ∧ D j ≤ 4095) : wT D f n 0 = ⟨f, n, allT D f n⟩ := by
  unfold wT
  rw [List.filter_eq_self.2 (fun x hx => by
    obtain ⟨j, _, rfl⟩ := List.mem_map.1 hx
    have := (hD j).1
    simp; omega)]
  rfl
theorem count_ids (P : Nat → Bool) (i : Nat) : ∀ n, i < n → (((List.range n).filter P).map fun j : Nat => (j : Int)).count (i : Int) = if P i then 1 else 0
  | n + 1, h => by
    have none : ∀ m, m ≤ i → (((List.range m).filter P).map fun j : Nat => (j : Int)).count (i : Int) = 0 := fun m hm => List.count_eq_zero.2 fun h => by
      obtain ⟨j, hj, e⟩ := List.mem_map.1 h
      have := List.mem_range.1 (List.mem_filter.1 hj).1
      omega
    rw [List.range_succ, List.filter_append, List.map_append, List.count_append]
    by_cases e : i = n
    · subst e
      rw [none i (Nat.le_refl _), Nat.zero_add]
      by_cases hp : P i = true
      · simp [hp]
      · simp [hp]
    · rw [count_ids P i n (by omega)]
      have : (([n].filter P).map fun j : Nat => (j : Int)).count (i : Int) = 0 := List.count_eq_zero.2 fun h => by
        obtain ⟨j, hj, e2⟩ := List.mem_map.1 h
        have := List.mem_singleton.1 (List.mem_filter.1 hj).1
        omega
      rw [this, Nat.add_zero]
theorem due_ids (f n τ : Nat) (hD : ∀ j, 1 ≤ D j ∧ D j ≤ 4095) : (dueL (wT D f n τ)).map (·.id) = ((List.range n).filter fun j => decide (D j = τ + 1)).map fun j : Nat => (j : Int) := by
  unfold dueL wT allT
  simp only [List.filter_filter, List.filter_map, List.map_map]
  congr 1
  refine List.filter_congr fun j _ => ?_
  rw [Bool.eq_iff_iff]; simp [Function.comp]; omega
theorem due_len (f n τ : Nat) : (dueL (wT D f n τ)).length ≤ n := by
  unfold dueL wT
  refine Nat.le_trans (List.length_filter_le _ _) (Nat.le_trans (List.length_filter_le _ _) ?_)
  rw [allT_len]; exact Nat.le_refl _
theorem due_count (f n τ : Nat) (hD : ∀ j, 1 ≤ D j ∧ D j ≤ 4095) {i : Nat} (h : i < n) : ((dueL (wT D f n τ)).map (·.id)).count (i : Int) = if D i = τ + 1 then 1 else 0 := by
  rw [due_ids D f n τ hD, count_ids _ i n h]; simp
def mx : Nat → Nat
  | 0 => 0
  | i + 1 => max (mx i) (D i)
theorem mx_le : ∀ {n j : Nat}, j < n → D j ≤ mx D n
  | n + 1, j, h => by
    unfold mx
    by_cases e : j = n
    · subst e; exact Nat.le_max_right _ _
    · exact Nat.le_trans (mx_le (by omega)) (Nat.le_max_left _ _)
theorem mx_in (hD : ∀ j, 1 ≤ D j ∧ D j ≤ 300) : ∀ n, mx D n ≤ 300
  | 0 => Nat.zero_le _
  | n + 1 => by
    unfold mx
    have := mx_in hD n; have := (hD n).2
    omega
/-- the wheel and the ring ahead of a beat -/
def oW (f n τ : Nat) : Wh := if τ = 0 then ⟨f, 0, []⟩ else wT D f n τ
def oQ (n τ : Nat) : List Int := if τ = 0 then qv D n else []
theorem o_fold (f n τ : Nat) (hD : ∀ j, 1 ≤ D j ∧ D j ≤ 4095) (hn : n ≤ 63) : foldW (oQ D n τ) (oW D f n τ) = wT D f n τ ∧ foldCut (oQ D n τ) (oW D f n τ) = [] ∧ foldRef (oQ D n τ) (oW D f n τ) = [] := by
  unfold oQ oW
  by_cases h : τ = 0
  · subst h
    simp only [if_true]
    obtain ⟨a, b, c⟩ := fold_all D f hD n hn
    exact ⟨a.trans (wT_0 D f n hD).symm, b, c⟩
  · simp only [if_neg h]; exact ⟨rfl, rfl, rfl⟩
theorem o_next (f n τ : Nat) (hD : ∀ j, 1 ≤ D j ∧ D j ≤ 4095) (hn : n ≤ 63) : tickR (foldW (oQ D n τ) (oW D f n τ)) = oW D f n (τ + 1) := by
  rw [(o_fold D f n τ hD hn).1, wT_tick]; unfold oW; rw [if_neg (by omega)]
theorem o_now (f n τ : Nat) : (oW D f n τ).now = f + τ := by unfold oW; split <;> simp_all [wT]
theorem o_end (f n : Nat) : (oW D f n (mx D n)).T = [] := by
  unfold oW
  split
  · rfl
  · unfold wT
    rw [List.filter_eq_nil_iff]
    intro x hx
    obtain ⟨j, hj, rfl⟩ := List.mem_map.1 hx
    have := mx_le D (List.mem_range.1 hj)
    simp; omega
end Go.L.Clk
