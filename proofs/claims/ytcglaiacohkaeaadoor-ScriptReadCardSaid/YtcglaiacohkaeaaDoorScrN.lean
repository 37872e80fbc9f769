/-
  Numbers of scripts, on paper: as the library reads them, and as the reference does. Own work; no program.
-/
import Derived.Test.YtcglaiacohkaeaaDoorScrP
import Derived.Lib.AtoiAll
set_option linter.unusedSimpArgs false
set_option linter.unusedVariables false
set_option linter.unusedSectionVars false
namespace Go.L.Sc
open Go.L Go.L.Lx Go.L.Pa
theorem natV_ge : ∀ (l : By) (a : Nat), a ≤ natV l a
  | [], a => Nat.le_refl _
  | c :: l, a => Nat.le_trans (by omega) (natV_ge l (10 * a + (c.toNat - 48)))
theorem parse_nat : ∀ (l : By) (a : Nat), (∀ c ∈ l, isDig c = true) → natV l a < 1000000000000000000 → Lib.parseUint10 a l = .ok (natV l a)
  | [], a, _, _ => rfl
  | c :: l, a, hd, hn => by
    have hc := hd c List.mem_cons_self
    unfold isDig at hc; simp only [decide_eq_true_eq] at hc
    have h1 : natV l (10 * a + (c.toNat - 48)) < 1000000000000000000 := hn
    have h2 := natV_ge l (10 * a + (c.toNat - 48))
    show (if 48 ≤ c.toNat ∧ c.toNat ≤ 57 then if 1844674407370955162 ≤ a then Lib.NumEnd.range else if 18446744073709551616 ≤ a * 10 + (c.toNat - 48) then Lib.NumEnd.range else Lib.parseUint10 (a * 10 + (c.toNat - 48)) l else Lib.NumEnd.syntax) = _
    rw [if_pos hc, if_neg (by omega), if_neg (by omega), show a * 10 + (c.toNat - 48) = 10 * a + (c.toNat - 48) by omega]
    exact parse_nat l _ (fun x hx => hd x (List.mem_cons_of_mem _ hx)) h1
theorem parse_dec {m : Nat} (h : m < 1000000000000000000) : Lib.parseMag (dec m) = .ok m := by
  unfold Lib.parseMag
  rw [if_neg (dec_ne m), parse_nat (dec m) 0 (dec_dig m) (by rw [natV_dec]; exact h), natV_dec]
theorem atoi_itoa {n : Int} (h : -1000000000000000000 < n ∧ n < 1000000000000000000) : Lib.atoiAll (itoaB n) = .ok n := by
  by_cases hn : n < 0
  · have e : itoaB n = 45 :: dec n.natAbs := by unfold itoaB; rw [if_pos hn]
    rw [e]
    unfold Lib.atoiAll
    simp only [show (45 : UInt8).toNat = 45 from rfl, or_true, if_true]
    rw [parse_dec (by omega)]
    simp only [not_true, false_and, if_false, true_and]
    rw [if_neg (by omega)]
    congr 1; omega
  · have e : itoaB n = dec n.toNat := by unfold itoaB; rw [if_neg hn]
    obtain ⟨c, l, hd, h1, h2⟩ := dec_head n.toNat
    rw [e]
    have hp := parse_dec (m := n.toNat) (by omega)
    rw [hd] at hp ⊢
    have h3 : ¬ c.toNat = 45 := by omega
    have h5 : (if c.toNat = 43 ∨ c.toNat = 45 then l else c :: l) = c :: l := if_neg (by omega)
    unfold Lib.atoiAll
    dsimp only
    rw [h5, hp]
    dsimp only
    rw [if_neg (by omega), if_neg (fun h => h3 h.1), if_neg h3]
    congr 1; omega
/-- the library's number, in bounds, that is written as it stands: the number of the paper -/
theorem numV_atoi {lo hi : Int} (hb : -1000000000000000000 < lo ∧ hi < 1000000000000000000) (s : By) : numV lo hi s = match Lib.atoiAll s with
    | .ok n => if lo ≤ n ∧ n ≤ hi ∧ itoaB n = s then some n else none
    | _ => none := by
  cases h : numV lo hi s with
  | some n =>
    obtain ⟨h1, h2, h3⟩ := numV_iff.1 h
    rw [← h3, atoi_itoa (by omega)]
    show some n = if lo ≤ n ∧ n ≤ hi ∧ itoaB n = itoaB n then some n else none
    rw [if_pos ⟨h1, h2, rfl⟩]
  | none =>
    cases ha : Lib.atoiAll s with
    | ok n =>
      show none = if lo ≤ n ∧ n ≤ hi ∧ itoaB n = s then some n else none
      rw [if_neg (fun h2 => by rw [numV_iff.2 h2] at h; cases h)]
    | «syntax» => rfl
    | range => rfl
/-! ### as the reference reads them -/
theorem dec_snoc {m d : Nat} (h : 0 < m) (hd : d < 10) : dec (10 * m + d) = dec m ++ [UInt8.ofNat (48 + d)] := by
  rw [dec.eq_1, if_neg (by omega), show (10 * m + d) / 10 = m by omega, show (10 * m + d) % 10 = d by omega]
theorem natV_pos : ∀ (l : By) (c : UInt8), isDig c = true → c.toNat ≠ 48 → 0 < natV (c :: l) 0 := fun l c hc h => by
  unfold isDig at hc; simp only [decide_eq_true_eq] at hc
  have := natV_ge l (10 * 0 + (c.toNat - 48))
  show 0 < natV l (10 * 0 + (c.toNat - 48))
  omega
theorem dig_back {c : UInt8} (h : isDig c = true) : UInt8.ofNat (48 + (c.toNat - 48)) = c := by
  unfold isDig at h; simp only [decide_eq_true_eq] at h
  apply UInt8.toNat_inj.1
  rw [dig_nat (by omega)]; omega
theorem dec_natV : ∀ (n : Nat) (l : By), l.length = n → ∀ c, isDig c = true → (∀ x ∈ l, isDig x = true) → (c.toNat ≠ 48 ∨ l = []) → dec (natV (c :: l) 0) = c :: l
  | 0, l, hl, c, hc, _, _ => by
    obtain rfl := List.eq_nil_of_length_eq_zero hl
    have h := hc
    unfold isDig at h; simp only [decide_eq_true_eq] at h
    show dec (10 * 0 + (c.toNat - 48)) = [c]
    rw [show 10 * 0 + (c.toNat - 48) = c.toNat - 48 by omega, dec.eq_1, if_pos (by omega), dig_back hc]
  | n + 1, l, hl, c, hc, hd, h0 => by
    have hne : l ≠ [] := fun e => by rw [e] at hl; cases hl
    obtain ⟨l', x, rfl⟩ : ∃ l' x, l = l' ++ [x] := ⟨l.dropLast, l.getLast hne, (List.dropLast_concat_getLast hne).symm⟩
    have hx := hd x (by simp)
    have hx2 := hx
    unfold isDig at hx2; simp only [decide_eq_true_eq] at hx2
    have hc0 : c.toNat ≠ 48 := h0.resolve_right hne
    have ih := dec_natV n l' (by simpa using hl) c hc (fun y hy => hd y (List.mem_append_left _ hy)) (.inl hc0)
    rw [show (c :: (l' ++ [x])) = (c :: l') ++ [x] from rfl, natV_app]
    show dec (10 * natV (c :: l') 0 + (x.toNat - 48)) = _
    rw [dec_snoc (natV_pos l' c hc hc0) (by omega), ih, dig_back hx]
/-- a word that the reference takes for a number -/
theorem numV_pos {lo hi : Int} {c : UInt8} {l : By} (hd : ∀ x ∈ c :: l, isDig x = true) (h0 : c.toNat ≠ 48 ∨ l = []) : numV lo hi (c :: l) = if lo ≤ (natV (c :: l) 0 : Int) ∧ ((natV (c :: l) 0 : Nat) : Int) ≤ hi then some ((natV (c :: l) 0 : Nat) : Int) else none := by
  have e := dec_natV l.length l rfl c (hd c List.mem_cons_self) (fun x hx => hd x (List.mem_cons_of_mem _ hx)) h0
  have e2 : itoaB ((natV (c :: l) 0 : Nat) : Int) = c :: l := by unfold itoaB; rw [if_neg (by omega), Int.toNat_natCast, e]
  have hr : rawV (c :: l) = ((natV (c :: l) 0 : Nat) : Int) := by rw [← e2, raw_itoa, e2]
  unfold numV; rw [hr, e2]
  by_cases h : lo ≤ ((natV (c :: l) 0 : Nat) : Int) ∧ ((natV (c :: l) 0 : Nat) : Int) ≤ hi
  · rw [if_pos ⟨h.1, h.2, rfl⟩, if_pos h]
  · rw [if_neg (fun h2 => h ⟨h2.1, h2.2.1⟩), if_neg h]
theorem numV_neg {lo hi : Int} {c : UInt8} {l : By} (hd : ∀ x ∈ c :: l, isDig x = true) (h0 : c.toNat ≠ 48) : numV lo hi (45 :: c :: l) = if lo ≤ -((natV (c :: l) 0 : Nat) : Int) ∧ -((natV (c :: l) 0 : Nat) : Int) ≤ hi then some (-((natV (c :: l) 0 : Nat) : Int)) else none := by
  have e := dec_natV l.length l rfl c (hd c List.mem_cons_self) (fun x hx => hd x (List.mem_cons_of_mem _ hx)) (.inl h0)
  have hp := natV_pos l c (hd c List.mem_cons_self) h0
  have e2 : itoaB (-((natV (c :: l) 0 : Nat) : Int)) = 45 :: c :: l := by unfold itoaB; rw [if_pos (by omega), Int.natAbs_neg, Int.natAbs_natCast, e]
  have hr : rawV (45 :: c :: l) = -((natV (c :: l) 0 : Nat) : Int) := by rw [← e2, raw_itoa]
  unfold numV; rw [hr, e2]
  by_cases h : lo ≤ -((natV (c :: l) 0 : Nat) : Int) ∧ -((natV (c :: l) 0 : Nat) : Int) ≤ hi
  · rw [if_pos ⟨h.1, h.2, rfl⟩, if_pos h]
  · rw [if_neg (fun h2 => h ⟨h2.1, h2.2.1⟩), if_neg h]
/-- and what is none -/
theorem itoa_shape (n : Int) : (∃ c l, itoaB n = c :: l ∧ (∀ x ∈ c :: l, isDig x = true) ∧ (c.toNat ≠ 48 ∨ l = [])) ∨ ∃ c l, itoaB n = 45 :: c :: l ∧ (∀ x ∈ c :: l, isDig x = true) ∧ c.toNat ≠ 48 := by
  have key : ∀ m : Nat, ∃ c l, dec m = c :: l ∧ (∀ x ∈ c :: l, isDig x = true) ∧ (c.toNat ≠ 48 ∨ l = []) ∧ (0 < m → c.toNat ≠ 48) := fun m => by
    induction m using Nat.strongRecOn with
    | _ m ih =>
      by_cases h : m < 10
      · refine ⟨UInt8.ofNat (48 + m), [], by rw [dec.eq_1, if_pos h], fun x hx => ?_, .inr rfl, fun h0 => by rw [dig_nat h]; omega⟩
        rw [List.mem_singleton.1 hx]; unfold isDig; rw [dig_nat h]; simp; omega
      · obtain ⟨c, l, h1, h2, h3, h4⟩ := ih (m / 10) (by omega)
        have h5 := h4 (by omega)
        refine ⟨c, l ++ [UInt8.ofNat (48 + m % 10)], by rw [dec.eq_1, if_neg h, h1]; rfl, fun x hx => ?_, .inl h5, fun _ => h5⟩
        rcases List.mem_cons.1 hx with rfl | hx
        · exact h2 _ List.mem_cons_self
        · rcases List.mem_append.1 hx with hx | hx
          · exact h2 x (List.mem_cons_of_mem _ hx)
          · rw [List.mem_singleton.1 hx]; unfold isDig; rw [dig_nat (by omega)]; simp; omega
  unfold itoaB
  split
  · obtain ⟨c, l, h1, h2, h3, h4⟩ := key n.natAbs
    exact .inr ⟨c, l, by rw [h1], h2, h4 (by omega)⟩
  · obtain ⟨c, l, h1, h2, h3, h4⟩ := key n.toNat
    exact .inl ⟨c, l, h1, h2, h3⟩
theorem numV_none {lo hi : Int} {s : By} (h1 : ∀ c l, s = c :: l → (∀ x ∈ c :: l, isDig x = true) → (c.toNat ≠ 48 ∨ l = []) → False) (h2 : ∀ c l, s = 45 :: c :: l → (∀ x ∈ c :: l, isDig x = true) → c.toNat ≠ 48 → False) : numV lo hi s = none := by
  cases h : numV lo hi s with
  | none => rfl
  | some n =>
    obtain ⟨-, -, h3⟩ := numV_iff.1 h
    rcases itoa_shape n with ⟨c, l, e, hd, h0⟩ | ⟨c, l, e, hd, h0⟩
    · exact absurd (h1 c l (h3 ▸ e) hd h0) id
    · exact absurd (h2 c l (h3 ▸ e) hd h0) id
end Go.L.Sc
