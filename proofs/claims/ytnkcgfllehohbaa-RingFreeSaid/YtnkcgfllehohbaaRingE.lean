/-
  RingFree on paper: Puts begun at once, in a ring that has room for all of them. Own work; no program.
-/
import Derived.Test.YtnkcgfllehohbaaRingQ
import Derived.Test.YtnkcgfllehohbaaFam
namespace Go.L.Ring
open Go.L
def d0 : RO := ⟨0, 0, 0, 0, 0⟩
def hold (o : RO) : Bool := decide (3 ≤ o.pc)
/-- an operation that draws a ticket, or has drawn one; s: its steps; T: the tickets that are drawn -/
def OK (T : Int) (o : RO) (s : Int) : Prop :=
  0 ≤ s ∧ ((o.out = 0 ∧ o.pc = 0 ∧ s ≤ 3 * T) ∨ (o.out = 0 ∧ o.pc = 1 ∧ 0 ≤ o.tick ∧ o.tick ≤ T ∧ s ≤ 3 * o.tick + 1) ∨ (o.out = 0 ∧ o.pc = 2 ∧ 0 ≤ o.tick ∧ o.tick ≤ T ∧ s ≤ 3 * o.tick + 2) ∨
    (o.out = 0 ∧ o.pc = 3 ∧ 0 ≤ o.tick ∧ o.tick < T ∧ s ≤ 3 * o.tick + 3) ∨ (o.out = 0 ∧ o.pc = 4 ∧ 0 ≤ o.tick ∧ o.tick < T ∧ s ≤ 3 * o.tick + 4) ∨ (o.out = 1 ∧ o.pc = 4 ∧ 0 ≤ o.tick ∧ o.tick < T ∧ s ≤ 3 * o.tick + 5))
theorem OK.mono {T T' : Int} {o : RO} {s : Int} (h : OK T o s) (ht : T ≤ T') : OK T' o s := by
  obtain ⟨h0, h | h | h | h | h | h⟩ := h
  · exact ⟨h0, .inl (by omega)⟩
  · exact ⟨h0, .inr (.inl (by omega))⟩
  · exact ⟨h0, .inr (.inr (.inl (by omega)))⟩
  · exact ⟨h0, .inr (.inr (.inr (.inl (by omega))))⟩
  · exact ⟨h0, .inr (.inr (.inr (.inr (.inl (by omega)))))⟩
  · exact ⟨h0, .inr (.inr (.inr (.inr (.inr (by omega)))))⟩
structure FI (n : Nat) (L : List Int) (os : List RO) (ss : List Int) : Prop where
  n8 : n ≤ 8
  len : L.length = 18
  lo : os.length = n
  ls : ss.length = n
  T : L.getD 0 0 = (os.countP hold : Nat)
  turn : ∀ t : Nat, t < 8 → L.getD (2 + 2 * t) 0 = 0 ∨ (L.getD (2 + 2 * t) 0 = 1 ∧ (t : Int) < (os.countP hold : Nat))
  dist : ∀ p q, p < n → q < n → hold (os.getD p d0) = true → hold (os.getD q d0) = true → (os.getD p d0).tick = (os.getD q d0).tick → p = q
  st : ∀ p, p < n → OK (os.countP hold : Nat) (os.getD p d0) (ss.getD p 0)
  oi : ∀ p, p < n → OI (os.getD p d0)
  li : LI L
theorem countP_set' {α : Type} (f : α → Bool) : ∀ (l : List α) (p : Nat) (d x : α), p < l.length → (l.set p x).countP f + (if f (l.getD p d) then 1 else 0) = l.countP f + (if f x then 1 else 0)
  | [], p, _, _, h => by simp at h
  | a :: l, 0, d, x, _ => by simp only [List.set_cons_zero, List.countP_cons, List.getD_cons_zero]; omega
  | a :: l, p + 1, d, x, h => by
    have := countP_set' f l p d x (by simpa using h)
    simp only [List.set_cons_succ, List.countP_cons, List.getD_cons_succ]; omega
theorem countP_lt {α : Type} (f : α → Bool) : ∀ (l : List α) (p : Nat) (d : α), p < l.length → f (l.getD p d) = false → l.countP f < l.length
  | [], p, _, h, _ => by simp at h
  | a :: l, 0, d, _, h => by
    have := List.countP_le_length (p := f) (l := l)
    simp only [List.getD_cons_zero] at h
    simp only [List.countP_cons, List.length_cons, h, Bool.false_eq_true, if_false]; omega
  | a :: l, p + 1, d, h, h2 => by
    have := countP_lt f l p d (by simpa using h) (by simpa using h2)
    simp only [List.countP_cons, List.length_cons]; split <;> omega
theorem tn8 {t : Int} (h : 0 ≤ t) (h8 : t < 8) : tn 0 8 t = 2 + 2 * t.toNat := by unfold tn; rw [Int.emod_eq_of_lt h (by omega)]
theorem wt8 {t : Int} (h : 0 ≤ t) (h8 : t < 8) : wt 8 t = 0 := by unfold wt; rw [Int.ediv_eq_zero_of_lt h (by omega)]; rfl
theorem sL0 {b n : Nat} {L : List Int} {o : RO} (h : o.pc = 0) : stepL b n L o = L ∧ stepO b n L o = putTailO b L o := by unfold stepL stepO; rw [h]; exact ⟨rfl, rfl⟩
theorem sL1 {b n : Nat} {L : List Int} {o : RO} (h : o.pc = 1) : stepL b n L o = L ∧ stepO b n L o = putTurnO b n L o := by unfold stepL stepO; rw [h]; exact ⟨rfl, rfl⟩
theorem sL2 {b n : Nat} {L : List Int} {o : RO} (h : o.pc = 2) : stepL b n L o = putSwapL b L o ∧ stepO b n L o = putSwapO b L o := by unfold stepL stepO; rw [h]; exact ⟨rfl, rfl⟩
theorem sL3 {b n : Nat} {L : List Int} {o : RO} (h : o.pc = 3) : stepL b n L o = putValueL b n L o ∧ stepO b n L o = putValueO o := by unfold stepL stepO; rw [h]; exact ⟨rfl, rfl⟩
theorem sL4 {b n : Nat} {L : List Int} {o : RO} (h : o.pc = 4) : stepL b n L o = putDoneL b n L o ∧ stepO b n L o = putDoneO o := by unfold stepL stepO; rw [h]; exact ⟨rfl, rfl⟩
variable {n : Nat} {L : List Int} {os : List RO} {ss : List Int}
theorem FI.start (n : Nat) (h : n ≤ 8) (vs : List RO) (hl : vs.length = n) (hv : ∀ p, p < n → ∃ v : Int, vs.getD p d0 = ⟨0, 0, v, 0, 0⟩ ∧ 0 ≤ v ∧ v ≤ 18446744073709551615) : FI n (List.replicate 18 0) vs (List.replicate n 0) := by
  have hc : vs.countP hold = 0 := by
    rw [List.countP_eq_zero]; intro o ho
    obtain ⟨p, hp, rfl⟩ := List.mem_iff_getElem.1 ho
    obtain ⟨v, hv, _⟩ := hv p (by omega)
    rw [List.getD_eq_getElem?_getD, List.getElem?_eq_getElem hp] at hv
    simp at hv; rw [hv]; simp [hold]
  have hz : ∀ k i, (List.replicate k (0 : Int)).getD i 0 = 0 := fun k i => by simp only [List.getD_eq_getElem?_getD, List.getElem?_replicate]; split <;> rfl
  refine ⟨h, rfl, hl, by simp, by rw [hc, hz]; rfl, fun t _ => .inl (hz _ _), fun p q hp hq h1 => ?_, fun p hp => ?_, fun p hp => ?_, LI_rep _⟩
  · obtain ⟨v, hv, _⟩ := hv p hp; rw [hv] at h1; simp [hold] at h1
  · obtain ⟨v, hv, _⟩ := hv p hp; rw [hc, hv, hz]; unfold OK; simp
  · obtain ⟨v, hv, h1, h2⟩ := hv p hp; rw [hv]; exact ⟨Nat.zero_le _, h1, h2, Int.le_refl 0, by simp, Int.le_refl 0, by simp⟩
/-- a step of one that is not over -/
theorem FI.step (F : FI n L os ss) {p : Nat} (hp : p < n) (hov : (os.getD p d0).over = false) :
    FI n (goL 0 8 L (os.getD p d0)) (os.set p (goO 0 8 L (os.getD p d0))) (ss.set p (ss.getD p 0 + 1)) := by
  obtain ⟨n8, len, lo, ls, hT, turn, dist, st, oi, li⟩ := F
  obtain ⟨o, ho⟩ : ∃ o, o = os.getD p d0 := ⟨_, rfl⟩
  obtain ⟨s, hs⟩ : ∃ s, s = ss.getD p 0 := ⟨_, rfl⟩
  have hst := st p hp
  have hoi := oi p hp
  rw [← ho] at hov hst hoi ⊢
  rw [← hs] at hst ⊢
  have hplo : p < os.length := by omega
  have hpls : p < ss.length := by omega
  have hout : o.out = 0 := by simpa [RO.over] using hov
  obtain ⟨T, hTd⟩ : ∃ T, T = os.countP hold := ⟨_, rfl⟩
  rw [← hTd] at hT turn hst
  have hTle : T ≤ n := by have := List.countP_le_length (p := hold) (l := os); omega
  have hcs := countP_set' hold os p d0
  have hlt : hold o = false → T < n := fun h => by have := countP_lt hold os p d0 hplo (by rw [← ho]; exact h); omega
  have htop : top = 9223372036854775808 := rfl
  have hli2 := goL_in (b := 0) (n := 8) li hoi
  have hoi2 := goO_in (b := 0) (n := 8) li hoi
  -- what is left to show of a step that draws no ticket
  have fin : ∀ (L' : List Int) (o' : RO), goL 0 8 L o = L' → goO 0 8 L o = o' → hold o' = hold o → (hold o = true → o'.tick = o.tick) → L'.length = 18 → L'.getD 0 0 = T → (∀ t : Nat, t < 8 → L'.getD (2 + 2 * t) 0 = 0 ∨ (L'.getD (2 + 2 * t) 0 = 1 ∧ (t : Int) < T)) → OK T o' (s + 1) →
      FI n (goL 0 8 L o) (os.set p (goO 0 8 L o)) (ss.set p (s + 1)) := by
    intro L' o' eL eO hh htk h18 h0 htu hok
    rw [eL] at hli2 ⊢; rw [eO] at hoi2 ⊢
    have hc : (os.set p o').countP hold = T := by have := hcs o' hplo; rw [← ho, hh] at this; omega
    have hg : ∀ q, (os.set p o').getD q d0 = if q = p then o' else os.getD q d0 := fun q => getD_set os p q o' d0 hplo
    have hgs : ∀ q, (ss.set p (s + 1)).getD q 0 = if q = p then s + 1 else ss.getD q 0 := fun q => getD_set ss p q _ 0 hpls
    refine ⟨n8, h18, by simp [lo], by simp [ls], by rw [hc]; exact h0, by rw [hc]; exact htu, fun a b ha hb h1 h2 h3 => ?_, fun q hq => ?_, fun q hq => ?_, hli2⟩
    · rw [hg] at h1 h2 h3; rw [hg] at h3
      by_cases e1 : a = p <;> by_cases e2 : b = p
      · rw [e1, e2]
      · subst e1; rw [if_pos rfl] at h1 h3; rw [if_neg e2] at h2 h3; rw [hh] at h1; rw [htk h1, ho] at h3; rw [ho] at h1; exact dist _ _ ha hb h1 h2 h3
      · subst e2; rw [if_neg e1] at h1 h3; rw [if_pos rfl] at h2 h3; rw [hh] at h2; rw [htk h2, ho] at h3; rw [ho] at h2; exact dist _ _ ha hb h1 h2 h3
      · rw [if_neg e1] at h1 h3; rw [if_neg e2] at h2 h3; exact dist _ _ ha hb h1 h2 h3
    · rw [hg, hgs, hc]; by_cases e : q = p
      · rw [if_pos e, if_pos e]; exact hok
      · rw [if_neg e, if_neg e, hTd]; exact st q hq
    · rw [hg]; split
      · exact hoi2
      · exact oi q hq
  have gL : goL 0 8 L o = stepL 0 8 L o := by unfold goL; rw [hov]; rfl
  have gO : goO 0 8 L o = stepO 0 8 L o := by unfold goO; rw [hov]; rfl
  obtain ⟨hs0, h | h | h | h | h | h⟩ := hst
  · obtain ⟨_, hpc, h3⟩ := h
    refine fin L (putTailO 0 L o) (gL.trans (sL0 hpc).1) (gO.trans (sL0 hpc).2) (by simp [hold, putTailO, hpc]) (by simp [hold, hpc]) len hT turn ?_
    have : ¬ top ≤ L.getD 0 0 := by rw [hT]; omega
    unfold OK putTailO; rw [if_neg this, hT]
    refine ⟨by omega, .inr (.inl ⟨hout, rfl, (by show (0 : Int) ≤ T; omega), (by show (T : Int) ≤ T; omega), by show s + 1 ≤ 3 * (T : Int) + 1; omega⟩)⟩
  · obtain ⟨_, hpc, h3, h4, h5⟩ := h
    have hh : hold o = false := by simp [hold, hpc]
    have h7 := hlt hh
    have ht := turn o.tick.toNat (by omega)
    have hlt' : ((o.tick.toNat : Nat) : Int) = o.tick := by omega
    rw [← tn8 h3 (by omega)] at ht
    have hw := wt8 h3 (by omega)
    refine fin L (putTurnO 0 8 L o) (gL.trans (sL1 hpc).1) (gO.trans (sL1 hpc).2) (by rw [hh]; unfold putTurnO; split <;> (try split) <;> simp [hold, hpc]) (by simp [hh]) len hT turn ?_
    unfold putTurnO
    rw [hw]
    rcases ht with ht | ⟨ht, ht2⟩
    · rw [ht, if_neg (by omega), if_neg (by omega)]; exact ⟨by omega, .inr (.inr (.inl ⟨hout, rfl, h3, h4, by show s + 1 ≤ 3 * o.tick + 2; omega⟩))⟩
    · rw [ht, if_pos (by omega)]; exact ⟨by omega, .inl ⟨hout, rfl, by omega⟩⟩
  · obtain ⟨_, hpc, h3, h4, h5⟩ := h
    have hh : hold o = false := by simp [hold, hpc]
    have h7 := hlt hh
    by_cases he : L.getD 0 0 = o.tick
    · -- the ticket is drawn
      have eL : goL 0 8 L o = L.set 0 (uw (o.tick + 1)) := by rw [gL, (sL2 hpc).1]; unfold putSwapL; rw [if_pos he]
      have eO : goO 0 8 L o = { o with pc := 3 } := by rw [gO, (sL2 hpc).2]; unfold putSwapO; rw [if_pos he]
      rw [eL] at hli2 ⊢; rw [eO] at hoi2 ⊢
      have hu : uw (o.tick + 1) = o.tick + 1 := wr_u64 (by omega)
      have hc : (os.set p { o with pc := 3 }).countP hold = T + 1 := by have := hcs { o with pc := 3 } hplo; rw [← ho, hh, show hold { o with pc := 3 } = true from rfl] at this; simp only [Bool.false_eq_true, if_false, if_true] at this; omega
      have hg : ∀ q, (os.set p { o with pc := 3 }).getD q d0 = if q = p then { o with pc := 3 } else os.getD q d0 := fun q => getD_set os p q _ d0 hplo
      have hgs : ∀ q, (ss.set p (s + 1)).getD q 0 = if q = p then s + 1 else ss.getD q 0 := fun q => getD_set ss p q _ 0 hpls
      have hold_lt : ∀ q, q < n → hold (os.getD q d0) = true → (os.getD q d0).tick < T := fun q hq hq2 => by
        have := st q hq; rw [← hTd] at this; unfold OK at this; have hq3 : 3 ≤ (os.getD q d0).pc := of_decide_eq_true hq2; omega
      refine ⟨n8, by simp [len], by simp [lo], by simp [ls], by rw [hc, hu, getD_set _ _ _ _ _ (by omega), if_pos rfl]; omega, fun t ht => ?_, fun a b ha hb h1 h2 h3 => ?_, fun q hq => ?_, fun q hq => ?_, hli2⟩
      · rw [hc, getD_set _ _ _ _ _ (by omega), if_neg (by omega)]; rcases turn t ht with h | h
        · exact .inl h
        · exact .inr ⟨h.1, by omega⟩
      · rw [hg] at h1 h2 h3; rw [hg] at h3
        by_cases e1 : a = p <;> by_cases e2 : b = p
        · rw [e1, e2]
        · rw [if_neg e2] at h2 h3; rw [if_pos e1] at h3; have := hold_lt b hb h2; have h3' : o.tick = (os.getD b d0).tick := h3; omega
        · rw [if_neg e1] at h1 h3; rw [if_pos e2] at h3; have := hold_lt a ha h1; have h3' : (os.getD a d0).tick = o.tick := h3; omega
        · rw [if_neg e1] at h1 h3; rw [if_neg e2] at h2 h3; exact dist _ _ ha hb h1 h2 h3
      · rw [hg, hgs, hc]; by_cases e : q = p
        · rw [if_pos e, if_pos e]; exact ⟨by omega, .inr (.inr (.inr (.inl ⟨hout, rfl, h3, by show o.tick < _; omega, by show s + 1 ≤ 3 * o.tick + 3; omega⟩)))⟩
        · rw [if_neg e, if_neg e]; have := st q hq; rw [← hTd] at this; exact this.mono (by omega)
      · rw [hg]; split
        · exact hoi2
        · exact oi q hq
    · refine fin L { o with pc := 0 } (by rw [gL, (sL2 hpc).1]; unfold putSwapL; rw [if_neg he]) (by rw [gO, (sL2 hpc).2]; unfold putSwapO; rw [if_neg he]) (by simp [hold, hpc]) (by simp [hh]) len hT turn ?_
      exact ⟨by omega, .inl ⟨hout, rfl, by omega⟩⟩
  · obtain ⟨_, hpc, h3, h4, h5⟩ := h
    have h8 := tn8 h3 (show o.tick < 8 by omega)
    refine fin (L.set (tn 0 8 o.tick + 1) o.val) { o with pc := 4 } (gL.trans (sL3 hpc).1) (gO.trans (sL3 hpc).2) (by simp [hold, hpc]) (fun _ => rfl) (by simp [len]) ?_ ?_ ?_
    · rw [h8, getD_set _ _ _ _ _ (by omega), if_neg (by omega)]; exact hT
    · intro t ht; rw [h8, getD_set _ _ _ _ _ (by omega), if_neg (by omega)]; exact turn t ht
    · exact ⟨by omega, .inr (.inr (.inr (.inr (.inl ⟨hout, rfl, h3, h4, by show s + 1 ≤ 3 * o.tick + 4; omega⟩))))⟩
  · obtain ⟨_, hpc, h3, h4, h5⟩ := h
    have h8 := tn8 h3 (show o.tick < 8 by omega)
    have hw := wt8 h3 (show o.tick < 8 by omega)
    refine fin (L.set (tn 0 8 o.tick) 1) { o with out := 1, val := 0 } (by rw [gL, (sL4 hpc).1]; unfold putDoneL; rw [hw]; rfl) (gO.trans (sL4 hpc).2) (by simp [hold, hpc]) (fun _ => rfl) (by simp [len]) ?_ ?_ ?_
    · rw [h8, getD_set _ _ _ _ _ (by omega), if_neg (by omega)]; exact hT
    · intro t ht; rw [h8, getD_set _ _ _ _ _ (by omega)]; split
      · right; exact ⟨rfl, by omega⟩
      · exact turn t ht
    · exact ⟨by omega, .inr (.inr (.inr (.inr (.inr ⟨rfl, hpc, h3, h4, by show s + 1 ≤ 3 * o.tick + 5; omega⟩))))⟩
  · omega
theorem FI.tlt (F : FI n L os ss) : os.countP hold ≤ n := by have := List.countP_le_length (p := hold) (l := os); have := F.lo; omega
/-- who is not over has not made many steps -/
theorem FI.few (F : FI n L os ss) {p : Nat} (hp : p < n) (h : (os.getD p d0).over = false) : ss.getD p 0 ≤ 3 * (n : Int) + 2 := by
  have h1 := F.st p hp; have h2 := F.tlt; unfold OK at h1; have h3 : (os.getD p d0).out = 0 := by simpa [RO.over] using h
  omega
theorem FI.done (F : FI n L os ss) {p : Nat} (hp : p < n) (h : (os.getD p d0).over = true) : (os.getD p d0).out = 1 ∧ 0 ≤ (os.getD p d0).tick ∧ (os.getD p d0).tick < n ∧ hold (os.getD p d0) = true ∧ 0 ≤ ss.getD p 0 ∧ ss.getD p 0 ≤ 3 * (n : Int) + 2 := by
  have h1 := F.st p hp; have h2 := F.tlt; unfold OK at h1; have h3 : ¬ (os.getD p d0).out = 0 := by simpa [RO.over] using h
  have h4 : hold (os.getD p d0) = decide (3 ≤ (os.getD p d0).pc) := rfl
  rw [h4, decide_eq_true_eq]
  omega
/-- how many numbers below i are p modulo n -/
def visits (n i p : Nat) : Nat := (i + n - 1 - p) / n
theorem visits_succ {n i p : Nat} (hp : p < n) : visits n (i + 1) p ≤ visits n i p + if i % n = p then 1 else 0 := by
  unfold visits
  have e : i + 1 + n - 1 - p = (i + n - 1 - p) + 1 := by omega
  rw [e, Nat.succ_div]
  split
  · rename_i hd
    have : i % n = p := by
      obtain ⟨c, hc⟩ := hd
      have hi : i + n - p = n * c := by omega
      have : i = p + n * (c - 1) := by
        cases c with
        | zero => omega
        | succ c => rw [Nat.mul_succ] at hi; simp; omega
      rw [this, Nat.add_mul_mod_self_left, Nat.mod_eq_of_lt hp]
    rw [if_pos this]; omega
  · omega
theorem visits_all {n i p : Nat} (hp : p < n) : visits n (i + 40 * n) p = visits n i p + 40 := by
  unfold visits
  rw [show i + 40 * n + n - 1 - p = (i + n - 1 - p) + 40 * n by omega, Nat.add_mul_div_right _ _ (by omega)]
/-- behind the picks each is visited again and again -/
def Vis (n len i : Nat) (os : List RO) (ss : List Int) : Prop := ∀ p, p < n → len ≤ i → (os.getD p d0).over = true ∨ (visits n i p : Int) ≤ ss.getD p 0 + visits n len p
theorem FI.s0 (F : FI n L os ss) {p : Nat} (hp : p < n) : 0 ≤ ss.getD p 0 := (F.st p hp).1
theorem Vis.zero (len : Nat) (os : List RO) (F : FI n L os ss) : Vis n len 0 os ss := fun p hp h => by
  have h0 : len = 0 := by omega
  have := F.s0 hp
  subst h0; right; omega
theorem Vis.early {len i : Nat} (F : FI n L os ss) (h : i < len) : Vis n len (i + 1) os ss := fun p hp h2 => by
  have h0 : i + 1 = len := by omega
  have := F.s0 hp
  rw [h0]; right; omega
theorem Vis.skip {len i : Nat} (V : Vis n len i os ss) (h : len ≤ i) (hov : (os.getD (i % n) d0).over = true) : Vis n len (i + 1) os ss := fun p hp _ => by
  have h1 := visits_succ (i := i) hp
  by_cases e : i % n = p
  · left; rw [← e]; exact hov
  · rw [if_neg e] at h1
    rcases V p hp h with h2 | h2
    · exact .inl h2
    · right; omega
theorem Vis.step {len i : Nat} (F : FI n L os ss) (V : Vis n len i os ss) (h : len ≤ i) (hov : (os.getD (i % n) d0).over = false) (o' : RO) : Vis n len (i + 1) (os.set (i % n) o') (ss.set (i % n) (ss.getD (i % n) 0 + 1)) := fun p hp _ => by
  have h1 := visits_succ (i := i) hp
  have hm : i % n < n := Nat.mod_lt _ (by omega)
  have l1 := F.lo; have l2 := F.ls
  rw [getD_set _ _ _ _ _ (by omega), getD_set _ _ _ _ _ (by omega)]
  by_cases e : i % n = p
  · rw [if_pos e] at h1
    rw [if_pos e.symm, if_pos e.symm]
    rcases V p hp h with h2 | h2
    · rw [← e, hov] at h2; cases h2
    · right; rw [e]; omega
  · rw [if_neg e] at h1
    rw [if_neg (Ne.symm e), if_neg (Ne.symm e)]
    rcases V p hp h with h2 | h2
    · exact .inl h2
    · right; omega
theorem Vis.all {len i : Nat} (F : FI n L os ss) (V : Vis n len i os ss) (hi : i = len + 40 * n) {p : Nat} (hp : p < n) : (os.getD p d0).over = true := by
  rcases V p hp (by omega) with h | h
  · exact h
  · subst hi; rw [visits_all hp] at h
    cases ho : (os.getD p d0).over with
    | true => rfl
    | false => have := F.few hp ho; have := F.n8; omega
end Go.L.Ring
