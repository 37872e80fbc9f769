/-
  RingUnfinished on paper: one Put is under way, another one is over. Own work; no program.
-/
import Derived.Test.YtnkcgfllehohbaaRingQ
namespace Go.L.Ring
open Go.L
/-- the first six cells of a ring of at least two slots; the others are blank -/
def mk6 (n : Nat) (a b c d e f : Int) : List Int := a :: b :: c :: d :: e :: f :: List.replicate (2 * n - 4) 0
theorem mk6_0 {n : Nat} (h : 2 ≤ n) : List.replicate (2 + 2 * n) 0 = mk6 n 0 0 0 0 0 0 := by
  obtain ⟨m, rfl⟩ : ∃ m, n = m + 2 := ⟨n - 2, by omega⟩
  rw [show 2 + 2 * (m + 2) = 2 * m + 1 + 1 + 1 + 1 + 1 + 1 by omega]
  simp only [List.replicate_succ, mk6]
  rw [show 2 * (m + 2) - 4 = 2 * m by omega]
theorem mk6_len {n : Nat} (h : 2 ≤ n) (a b c d e f : Int) : (mk6 n a b c d e f).length = 2 + 2 * n := by simp [mk6]; omega
abbrev In64u (x : Int) : Prop := 0 ≤ x ∧ x ≤ 18446744073709551615
theorem mk6_LI {n : Nat} {a b c d e f : Int} (ha : In64u a) (hb : In64u b) (hc : In64u c) (hd : In64u d) (he : In64u e) (hf : In64u f) : LI (mk6 n a b c d e f) := by
  intro x hx
  simp only [mk6, List.mem_cons] at hx
  rcases hx with rfl | rfl | rfl | rfl | rfl | rfl | hx <;> first | assumption | (rw [List.eq_of_mem_replicate hx]; simp)
theorem tn00 {n : Nat} (h : 2 ≤ n) : tn 0 n 0 = 2 := by simp [tn]
theorem tn01 {n : Nat} (h : 2 ≤ n) : tn 0 n 1 = 4 := by
  unfold tn; rw [Int.emod_eq_of_lt (by omega) (by omega)]; rfl
theorem wt00 {n : Nat} : wt n 0 = 0 := by simp [wt]; decide
theorem wt01 {n : Nat} (h : 2 ≤ n) : wt n 1 = 0 := by
  unfold wt; rw [Int.ediv_eq_zero_of_lt (by omega) (by omega)]; rfl
/-- the first Put, step by step -/
def uL (n : Nat) (v : Int) (i : Nat) : List Int := if i ≤ 2 then mk6 n 0 0 0 0 0 0 else if i = 3 then mk6 n 1 0 0 0 0 0 else mk6 n 1 0 0 v 0 0
def uO (v : Int) (i : Nat) : RO := ⟨i, 0, v, 0, 0⟩
theorem uStep {n : Nat} (h : 2 ≤ n) (v : Int) : ∀ i, i ≤ 3 → goL 0 n (uL n v i) (uO v i) = uL n v (i + 1) ∧ goO 0 n (uL n v i) (uO v i) = uO v (i + 1)
  | 0, _ => ⟨rfl, rfl⟩
  | 1, _ => ⟨rfl, by
      show stepO 0 n (mk6 n 0 0 0 0 0 0) ⟨1, 0, v, 0, 0⟩ = _
      simp only [stepO, putTurnO, tn00 h, wt00]; rfl⟩
  | 2, _ => ⟨rfl, rfl⟩
  | 3, _ => ⟨by
      show putValueL 0 n (mk6 n 1 0 0 0 0 0) ⟨3, 0, v, 0, 0⟩ = _
      simp only [putValueL, tn00 h]; rfl, rfl⟩
  | k + 4, hk => by omega
abbrev CC : Int := 9223372036854775810
def xv (J : Nat) (v : Int) : Int := if J = 3 then 0 else v
theorem uL_J (n : Nat) (v : Int) {J : Nat} (hJ : J = 3 ∨ J = 4) : uL n v J = mk6 n 1 0 0 (xv J v) 0 0 := by rcases hJ with rfl | rfl <;> rfl
theorem run1 {n : Nat} (h : 2 ≤ n) (x v : Int) : doN 0 n 100 (mk6 n 1 0 0 x 0 0) ⟨0, 0, v, 0, 0⟩ = (5, mk6 n 2 0 0 x 1 v, ⟨4, 1, 0, 1, 0⟩) := by
  refine (put_done (T := 1) rfl (by decide) (by rw [tn01 h, wt01 h]; rfl) 95).trans ?_
  rw [tn01 h, wt01 h]; rfl
theorem run2 {n : Nat} (x v : Int) : doN 0 n 100 (mk6 n 2 0 0 x 1 v) ⟨14, 0, 0, 0, 0⟩ = (2, mk6 n CC 0 0 x 1 v, ⟨14, 1, 0, 0, 0⟩) := close_done (T := 2) rfl (by decide) 98
theorem run3 {n : Nat} (h : 2 ≤ n) (x v : Int) : doN 0 n 100 (mk6 n CC 0 0 x 1 v) ⟨10, 0, 0, 0, 0⟩ = (3, mk6 n CC 0 0 x 1 v, ⟨7, 4, CC, 0, 0⟩) :=
  drain_none (T := CC) (H := 0) rfl rfl (by decide) (by rw [tn00 h, wt00]; show ¬ (0 : Int) = uw (0 + 1); decide) 97
theorem run4 {n : Nat} (h : 2 ≤ n) (x v : Int) : doN 0 n 100 (mk6 n CC 0 0 x 1 v) ⟨5, 0, 0, 0, 0⟩ = (2, mk6 n CC 0 0 x 1 v, ⟨7, 4, 0, 0, 0⟩) :=
  take_none (H := 0) rfl (by rw [tn00 h, wt00]; show ¬ (0 : Int) = uw (0 + 1); decide) 98
theorem run5 {n : Nat} (h : 2 ≤ n) (x v : Int) : doN 0 n 100 (mk6 n CC 0 0 x 1 v) ⟨12, 0, 0, 0, 0⟩ = (2, mk6 n CC 0 0 x 1 v, ⟨7, 4, 0, 0, 0⟩) :=
  look_none (H := 0) rfl (by rw [tn00 h, wt00]; show ¬ (0 : Int) = uw (0 + 1); decide) 98
/-- its last steps -/
def wL (n : Nat) (v w : Int) (j : Nat) : List Int := if j = 3 then mk6 n CC 0 0 0 1 w else if j = 4 then mk6 n CC 0 0 v 1 w else mk6 n CC 0 1 v 1 w
def wO (v : Int) (j : Nat) : RO := if j ≤ 4 then ⟨j, 0, v, 0, 0⟩ else ⟨4, 1, 0, 0, 0⟩
theorem wL_J (n : Nat) (v w : Int) {J : Nat} (hJ : J = 3 ∨ J = 4) : mk6 n CC 0 0 (xv J v) 1 w = wL n v w J := by rcases hJ with rfl | rfl <;> rfl
theorem wO_J (v : Int) {J : Nat} (hJ : J = 3 ∨ J = 4) : uO v J = wO v J := by rcases hJ with rfl | rfl <;> rfl
theorem wStep {n : Nat} (h : 2 ≤ n) (v w : Int) {j : Nat} (hj : j = 3 ∨ j = 4) : goL 0 n (wL n v w j) (wO v j) = wL n v w (j + 1) ∧ goO 0 n (wL n v w j) (wO v j) = wO v (j + 1) := by
  rcases hj with rfl | rfl
  · exact ⟨by show putValueL 0 n (mk6 n CC 0 0 0 1 w) ⟨3, 0, v, 0, 0⟩ = _; simp only [putValueL, tn00 h]; rfl, rfl⟩
  · exact ⟨by show putDoneL 0 n (mk6 n CC 0 0 v 1 w) ⟨4, 0, v, 0, 0⟩ = _; simp only [putDoneL, tn00 h, wt00]; rfl, rfl⟩
theorem run6 {n : Nat} (h : 2 ≤ n) (x v : Int) : doN 0 n 100 (mk6 n CC 0 1 x 1 v) ⟨12, 0, 0, 0, 0⟩ = (2, mk6 n CC 0 1 x 1 v, ⟨7, 1, 0, 0, 0⟩) :=
  look_done (H := 0) rfl (by rw [tn00 h, wt00]; rfl) 98
theorem run7 {n : Nat} (h : 2 ≤ n) (x v : Int) : doN 0 n 100 (mk6 n CC 0 1 x 1 v) ⟨10, 0, 0, 0, 0⟩ = (6, mk6 n CC 1 2 x 1 v, ⟨9, 1, x, 0, 0⟩) := by
  refine (drain_done (T := CC) (H := 0) rfl rfl (by decide) (by rw [tn00 h, wt00]; rfl) 94).trans ?_
  rw [tn00 h, wt00]; rfl
theorem run8 {n : Nat} (h : 2 ≤ n) (x v : Int) : doN 0 n 100 (mk6 n CC 1 2 x 1 v) ⟨10, 0, 0, 0, 0⟩ = (6, mk6 n CC 2 2 x 2 v, ⟨9, 1, v, 0, 1⟩) := by
  refine (drain_done (T := CC) (H := 1) rfl rfl (by decide) (by rw [tn01 h, wt01 h]; rfl) 94).trans ?_
  rw [tn01 h, wt01 h]; rfl
theorem run9 {n : Nat} (x v : Int) : doN 0 n 100 (mk6 n CC 2 2 x 2 v) ⟨10, 0, 0, 0, 0⟩ = (2, mk6 n CC 2 2 x 2 v, ⟨6, 5, CC, 0, 2⟩) := drain_ended (T := CC) (H := 2) rfl rfl (by decide) 98
end Go.L.Ring
