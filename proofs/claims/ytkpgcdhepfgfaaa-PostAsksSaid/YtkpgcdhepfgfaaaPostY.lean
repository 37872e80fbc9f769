/-
  PostAsks on paper: of all who ask just one is let through. Own work; no program.
-/
import Derived.Test.YtkpgcdhepfgfaaaPostP
namespace Go.L.Post
open Go.L Go.L.Ring
abbrev AB : PB := ⟨0, 2, 8⟩
def a0 : List Int := List.replicate 26 0
def aS (v : Int) : Nat → List Int × PO
  | 0 => (a0, ⟨.ask v, 0, 0⟩)
  | k + 1 => (goPL AB (aS v k).1 (aS v k).2, goPO AB (aS v k).1 (aS v k).2)
theorem aS_flag (v : Int) {k : Nat} (h : 1 ≤ k ∧ k ≤ 8) : (aS v k).1.getD 1 0 = 1 := by
  rcases (show k = 1 ∨ k = 2 ∨ k = 3 ∨ k = 4 ∨ k = 5 ∨ k = 6 ∨ k = 7 ∨ k = 8 by omega) with rfl | rfl | rfl | rfl | rfl | rfl | rfl | rfl <;> kernel_rfl
theorem aS_8 (v : Int) : (aS v 8).2.out = 7 := by kernel_rfl
theorem aS_in (v : Int) (hv : 0 ≤ v ∧ v ≤ 18446744073709551615) : ∀ k, LI (aS v k).1 ∧ POI (aS v k).2 ∧ PI AB (aS v k).1
  | 0 => ⟨LI_rep 26, fun _ => ⟨hv, rfl⟩, by decide, by decide, by decide, by decide, (show 26 ≤ 26 by decide), (show 26 ≤ 65536 by decide)⟩
  | k + 1 => let ⟨a, b, c⟩ := aS_in v hv k; ⟨(goP_in a b).1, (goP_in a b).2, c.go _⟩
theorem go_over {B : PB} {L : List Int} {p : PO} (h : p.out ≠ 0) : goPL B L p = L ∧ goPO B L p = p := by
  have : p.over = true := by simp [PO.over, h]
  exact ⟨by unfold goPL; rw [if_pos this], by unfold goPO; rw [if_pos this]⟩
theorem ask_none {B : PB} {L : List Int} {v : Int} (h : L.getD (B.b + 1) 0 = 1) : goPL B L ⟨.ask v, 0, 0⟩ = L ∧ goPO B L ⟨.ask v, 0, 0⟩ = ⟨.ask v, 4, 0⟩ := by
  have ho : (⟨.ask v, 0, 0⟩ : PO).over = false := rfl
  have h1 : ¬ L.getD (B.b + 1) 0 = 0 := by rw [h]; decide
  exact ⟨by unfold goPL; rw [ho]; simp only [Bool.false_eq_true, if_false, stepP, if_neg h1], by unfold goPO; rw [ho]; simp only [Bool.false_eq_true, if_false, stepP, if_neg h1]⟩
def pz : PO := ⟨.gone, 1, 0⟩
def ask0 (q : Nat) : PO := ⟨.ask (100 + (q : Int)), 0, 0⟩
def ask1 (q : Nat) : PO := ⟨.ask (100 + (q : Int)), 4, 0⟩
structure AIw (n : Nat) (s : Nat → Nat) (L : List Int) (xs : List PO) (w : Nat) : Prop where
  wn : w < n
  sw : 1 ≤ s w
  cells : L = (aS (100 + (w : Int)) (min (s w) 8)).1
  won : xs.getD w pz = (aS (100 + (w : Int)) (min (s w) 8)).2
  others : ∀ q, q < n → q ≠ w → xs.getD q pz = if s q = 0 then ask0 q else ask1 q
structure AIn (n : Nat) (s : Nat → Nat) (L : List Int) (xs : List PO) : Prop where
  s0 : ∀ q, q < n → s q = 0
  cells : L = a0
  all : ∀ q, q < n → xs.getD q pz = ask0 q
def AInv (n : Nat) (s : Nat → Nat) (L : List Int) (xs : List PO) : Prop := xs.length = n ∧ (AIn n s L xs ∨ ∃ w, AIw n s L xs w)
def up (s : Nat → Nat) (p : Nat) : Nat → Nat := fun q => if q = p then s q + 1 else s q
theorem pgset {xs : List PO} {p q : Nat} {x : PO} (h : p < xs.length) : (xs.set p x).getD q pz = if q = p then x else xs.getD q pz := getD_set _ _ _ _ _ h
theorem AInv.step {n : Nat} {s : Nat → Nat} {L : List Int} {xs : List PO} (A : AInv n s L xs) {p : Nat} (hp : p < n) :
    AInv n (up s p) (goPL AB L (xs.getD p pz)) (xs.set p (goPO AB L (xs.getD p pz))) := by
  obtain ⟨hl, A⟩ := A
  refine ⟨by simp [hl], .inr ?_⟩
  have hpl : p < xs.length := by omega
  rcases A with A | ⟨w, A⟩
  · refine ⟨p, hp, by simp [up], ?_, ?_, fun q hq hne => ?_⟩
    · have h1 : min (up s p p) 8 = 1 := by simp [up, A.s0 p hp]
      rw [h1, A.all p hp, A.cells]; rfl
    · have h1 : min (up s p p) 8 = 1 := by simp [up, A.s0 p hp]
      rw [h1, pgset hpl, if_pos rfl, A.all p hp, A.cells]; rfl
    · rw [pgset hpl, if_neg hne, A.all q hq]; simp [up, hne, A.s0 q hq]
  · have hw := A.wn
    by_cases e : p = w
    · subst e
      refine ⟨p, hp, by simp [up], ?_, ?_, fun q hq hne => ?_⟩
      · rw [A.won, A.cells]
        by_cases h8 : s p < 8
        · have h1 : min (up s p p) 8 = min (s p) 8 + 1 := by simp [up]; omega
          rw [h1]; rfl
        · have h1 : min (up s p p) 8 = 8 := by simp [up]; omega
          have h2 : min (s p) 8 = 8 := by omega
          rw [h1, h2]; exact (go_over (by rw [aS_8]; decide)).1
      · rw [pgset hpl, if_pos rfl, A.won, A.cells]
        by_cases h8 : s p < 8
        · have h1 : min (up s p p) 8 = min (s p) 8 + 1 := by simp [up]; omega
          rw [h1]; rfl
        · have h1 : min (up s p p) 8 = 8 := by simp [up]; omega
          have h2 : min (s p) 8 = 8 := by omega
          rw [h1, h2]; exact (go_over (by rw [aS_8]; decide)).2
      · rw [pgset hpl, if_neg hne, A.others q hq hne]; simp [up, hne]
    · have hsw : up s p w = s w := by simp [up, Ne.symm e]
      have hx := A.others p hp e
      have hgo : goPL AB L (xs.getD p pz) = L ∧ goPO AB L (xs.getD p pz) = ask1 p := by
        rw [hx]
        by_cases h0 : s p = 0
        · rw [if_pos h0]; refine ask_none (B := AB) ?_; rw [A.cells]; exact aS_flag _ (by have := A.sw; omega)
        · rw [if_neg h0]; exact go_over (show (4 : Int) ≠ 0 by decide)
      rw [hgo.1, hgo.2]
      refine ⟨w, hw, by rw [hsw]; exact A.sw, by rw [hsw]; exact A.cells, by rw [hsw, pgset hpl, if_neg (Ne.symm e)]; exact A.won, fun q hq hne => ?_⟩
      rw [pgset hpl]
      by_cases eq : q = p
      · subst eq; simp [up]
      · rw [if_neg eq, A.others q hq hne]; simp [up, eq]
theorem ask_in (q : Nat) (h : q < 8) : POI (ask0 q) ∧ POI (ask1 q) := ⟨fun _ => ⟨⟨by show 0 ≤ 100 + (q : Int); omega, by show 100 + (q : Int) ≤ _; omega⟩, rfl⟩, fun h => by cases h⟩
theorem AInv.inn {n : Nat} {s : Nat → Nat} {L : List Int} {xs : List PO} (A : AInv n s L xs) (hn : n ≤ 6) : LI L ∧ PI AB L ∧ ∀ p, p < n → POI (xs.getD p pz) := by
  obtain ⟨hl, A | ⟨w, A⟩⟩ := A
  · have h := aS_in 0 (by decide) 0
    rw [A.cells]
    exact ⟨h.1, h.2.2, fun p hp => by rw [A.all p hp]; exact (ask_in p (by omega)).1⟩
  · have hw := A.wn
    have h := aS_in (100 + (w : Int)) (by omega) (min (s w) 8)
    rw [A.cells]
    refine ⟨h.1, h.2.2, fun p hp => ?_⟩
    by_cases e : p = w
    · subst e; rw [A.won]; exact h.2.1
    · rw [A.others p hp e]; split
      · exact (ask_in p (by omega)).1
      · exact (ask_in p (by omega)).2
theorem AInv.done {n : Nat} {s : Nat → Nat} {L : List Int} {xs : List PO} (A : AInv n s L xs) (hn : 1 ≤ n) (hs : ∀ q, q < n → 8 ≤ s q) :
    ∃ w, w < n ∧ L = (aS (100 + (w : Int)) 8).1 ∧ ∀ q, q < n → (xs.getD q pz).out = if q = w then 7 else 4 := by
  obtain ⟨hl, A | ⟨w, A⟩⟩ := A
  · have := A.s0 0 (by omega); have := hs 0 (by omega); omega
  · have hw := A.wn
    have h8 : min (s w) 8 = 8 := by have := hs w hw; omega
    refine ⟨w, hw, by rw [A.cells, h8], fun q hq => ?_⟩
    by_cases e : q = w
    · subst e; rw [A.won, h8, if_pos rfl]; exact aS_8 _
    · rw [A.others q hq e, if_neg (by have := hs q hq; omega), if_neg e]; rfl
/-! how often each one was picked, in turn -/
def Fq (n q N : Nat) : Nat := (N + (n - 1 - q)) / n
theorem Fq_succ {n q : Nat} (hq : q < n) (N : Nat) : Fq n q (N + 1) = Fq n q N + if q = N % n then 1 else 0 := by
  unfold Fq
  have hN := Nat.div_add_mod N n
  have hr := Nat.mod_lt N (show 0 < n by omega)
  generalize N / n = a at hN
  generalize hrd : N % n = r at hN hr
  have e1 : ∀ c, (N + c) / n = a + (r + c) / n := fun c => by
    rw [← hN, Nat.add_assoc, Nat.mul_add_div (by omega)]
  rw [Nat.add_assoc, e1, e1, Nat.add_assoc]
  congr 1
  by_cases e : q = r
  · subst e; rw [if_pos rfl, show q + (1 + (n - 1 - q)) = n by omega, Nat.div_self (by omega), Nat.div_eq_of_lt (show q + (n - 1 - q) < n by omega)]
  · rw [if_neg e]
    by_cases h : r < q
    · rw [Nat.div_eq_of_lt (by omega), Nat.div_eq_of_lt (by omega)]
    · rw [show r + (1 + (n - 1 - q)) = n * 1 + (r - q) by omega, Nat.mul_add_div (by omega), Nat.div_eq_of_lt (show r - q < n by omega),
        show r + (n - 1 - q) = n * 1 + (r - q - 1) by omega, Nat.mul_add_div (by omega), Nat.div_eq_of_lt (show r - q - 1 < n by omega)]
theorem Fq_mono {n q a b : Nat} (h : a ≤ b) : Fq n q a ≤ Fq n q b := Nat.div_le_div_right (by omega)
theorem Fq_end {n q N k : Nat} (hn : 0 < n) : Fq n q (N + k * n) = Fq n q N + k := by
  unfold Fq; rw [show N + k * n + (n - 1 - q) = N + (n - 1 - q) + k * n by omega, Nat.add_mul_div_right _ _ hn]
def AVis (n l i : Nat) (s : Nat → Nat) : Prop := ∀ q, q < n → Fq n q i ≤ Fq n q l + s q
theorem AVis.zero (n l : Nat) : AVis n l 0 (fun _ => 0) := fun q _ => Nat.le_trans (Fq_mono (Nat.zero_le _)) (Nat.le_add_right _ _)
theorem AVis.early {n l i p : Nat} {s : Nat → Nat} (h : i < l) : AVis n l (i + 1) (up s p) := fun q _ => Nat.le_trans (Fq_mono h) (Nat.le_add_right _ _)
theorem AVis.late {n l i : Nat} {s : Nat → Nat} (V : AVis n l i s) : AVis n l (i + 1) (up s (i % n)) := fun q hq => by
  have := V q hq
  rw [Fq_succ hq]; unfold up; split <;> omega
theorem AVis.full {n l : Nat} {s : Nat → Nat} (V : AVis n l (l + 20 * n) s) (hn : 0 < n) {q : Nat} (hq : q < n) : 8 ≤ s q := by
  have := V q hq; rw [Fq_end hn] at this; omega
/-! what is taken then -/
def a9 (v : Int) : List Int := [1, 1, 0, 0, 0, 0, 0, 0, 1, 1, 2, v, 0, 0, 0, 0, 0, 0, 0, 0, 0, 0, 0, 0, 0, 0]
theorem a_note1 (v : Int) : doP AB 100 (aS v 8).1 ⟨.of true (ini 5 0), 0, 0⟩ = (5, a9 v, ⟨.of true ⟨9, 1, v, 0, 0⟩, 1, v⟩) := by kernel_rfl
theorem a_note2 (v : Int) : doP AB 100 (a9 v) ⟨.of true (ini 5 0), 0, 0⟩ = (2, a9 v, ⟨.of true ⟨7, 4, 0, 0, 1⟩, 4, 0⟩) := by kernel_rfl
theorem a9_in (v : Int) (hv : 0 ≤ v ∧ v ≤ 18446744073709551615) : LI (a9 v) ∧ PI AB (a9 v) := by
  refine ⟨fun x hx => ?_, by decide, by decide, by decide, by decide, (show 26 ≤ 26 by decide), (show 26 ≤ 65536 by decide)⟩
  simp only [a9, List.mem_cons, List.not_mem_nil, or_false] at hx
  omega
/-! counting who came through -/
def thr (w i : Nat) : Int := if w < i then 1 else 0
def who (w i : Nat) : Int := if w < i then 100 + (w : Int) else 0
theorem thr_0 (w : Nat) : thr w 0 = 0 := rfl
theorem who_0 (w : Nat) : who w 0 = 0 := rfl
theorem thr_ne {w i : Nat} (h : i ≠ w) : thr w (i + 1) = thr w i := by unfold thr; by_cases e : w < i <;> simp [e] <;> omega
theorem who_ne {w i : Nat} (h : i ≠ w) : who w (i + 1) = who w i := by unfold who; by_cases e : w < i <;> simp [e] <;> omega
theorem thr_at {w i : Nat} (h : i = w) : thr w i + 1 = thr w (i + 1) := by unfold thr; rw [if_neg (by omega), if_pos (by omega)]; rfl
theorem who_at {w i : Nat} (h : i = w) : 100 + (i : Int) = who w (i + 1) := by unfold who; rw [if_pos (by omega), h]
theorem thr_in (w i : Nat) : 0 ≤ thr w i ∧ thr w i ≤ 1 := by unfold thr; split <;> omega
theorem thr_all {w n : Nat} (h : w < n) : thr w n = 1 := if_pos h
theorem who_all {w n : Nat} (h : w < n) : who w n = 100 + (w : Int) := if_pos h
end Go.L.Post
