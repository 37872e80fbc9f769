/-
  PostCharge on paper: who tells comes to an end. Own work; no program.
-/
import Derived.Test.YtkpgcdhepfgfaaaPostX
namespace Go.L.Post
open Go.L Go.L.Ring
theorem ndr_set {ts : List (Option PO)} {p q : Nat} {x : Option PO} (lt : ts.length = 3) (hp : p < 3) (r : Bool) (hq : q ≠ p) : ndr r (ts.set p x) q = ndr r ts q := by
  unfold ndr; rw [puts_set lt hp]; unfold upP; rw [if_neg hq]
theorem nds_own {ts : List (Option PO)} {p : Nat} {x : Option PO} (lt : ts.length = 3) (hp : p < 3) (r : Bool) : nds r p (ts.set p x) = nds r p ts := by
  unfold nds
  have h : ∀ j, (if p = j then 0 else ndr r (ts.set p x) j) = if p = j then 0 else ndr r ts j := fun j => by
    split
    · rfl
    · rename_i e; exact ndr_set lt hp r (Ne.symm e)
  rw [h, h, h]
theorem nds_le {ts : List (Option PO)} {p q : Nat} {x : Option PO} (lt : ts.length = 3) (hp : p < 3) (hq : q < 3) (hne : q ≠ p) (r : Bool) (d : Nat) (hd : ndr r (ts.set p x) p + d ≤ ndr r ts p) : nds r q (ts.set p x) + d ≤ nds r q ts := by
  unfold nds
  have h : ∀ j, j ≠ p → ndr r (ts.set p x) j = ndr r ts j := fun j hj => ndr_set lt hp r hj
  rcases (show p = 0 ∨ p = 1 ∨ p = 2 by omega) with rfl | rfl | rfl
  · rw [h 1 (by decide), h 2 (by decide)]; simp only [if_neg hne]; omega
  · rw [h 0 (by decide), h 2 (by decide)]; simp only [if_neg hne]; omega
  · rw [h 0 (by decide), h 1 (by decide)]; simp only [if_neg hne]; omega
theorem rk_up (T : Nat) (o : RO) : rk (T + 1) o ≤ rk T o + 3 := by unfold rk; (repeat' split) <;> omega
theorem nds_2 {r : Bool} {p : Nat} {ts : List (Option PO)} (hp : p < 3) : nds r p ts ≤ 2 := by
  have h : ∀ j, ndr r ts j ≤ 1 := fun j => by unfold ndr ndo; split <;> (try split) <;> omega
  have h0 := h 0; have h1 := h 1; have h2 := h 2
  unfold nds; (repeat' split) <;> omega
theorem phi_17 (w : OW) (hs : Bool → List Tq) {p : Nat} (hp : p < 3) : phi w hs p ≤ 17 := by
  unfold phi; split
  · omega
  · rename_i r o _ _ _; have := (rk_le (hs r).length o).2; have := nds_2 (r := r) (ts := w.ts) hp; omega
  · split <;> omega
  · omega
theorem phi_pos {w : OW} {hs : Bool → List Tq} {p : Nat} (h : w.ts.getD p none ≠ none) : 1 ≤ phi w hs p := by
  unfold phi; split
  · contradiction
  · omega
  · split <;> omega
  · omega
/-- a step of one: he is nearer to his end, nobody is farther from his -/
theorem OIn.nearer {B : PB} {K M : Nat} {w : OW} {hs : Bool → List Tq} {f k : Bool → Nat} (C : OIn B K M w hs f k) (hK : K < 90000) {p : Nat} (hp : p < 3) {po : PO} (hts : w.ts.getD p none = some po) :
    ∃ hs', OIn B (K + 1) M (Post.tellGo B p po w) hs' f k ∧ ((Post.tellGo B p po w).ts.getD p none = none ∨ phi (Post.tellGo B p po w) hs' p < phi w hs p) ∧ ∀ q, q < 3 → q ≠ p → phi (Post.tellGo B p po w) hs' q ≤ phi w hs q ∧ ((Post.tellGo B p po w).ts.getD q none = none ↔ w.ts.getD q none = none) := by
  have h := C.tell p hp
  rw [hts] at h
  obtain ⟨h1, h2, h3⟩ := h
  obtain ⟨ph, out, val⟩ := po
  dsimp only at h1 h2 h3
  subst h1 h2
  rcases h3 with ⟨nt, o, e, ho⟩ | ⟨nt, e⟩ | ⟨nt, e⟩
  · subst e
    obtain ⟨hs', x, h, hoth, hx, hst, hcase⟩ := C.put hK hp hts ho
    have hown : (Post.tellGo B p ⟨.put nt o, 0, 0⟩ w).ts.getD p none = x := by rw [hx, ts_set C.lt hp, if_pos rfl]
    have hother : ∀ q, q ≠ p → (Post.tellGo B p ⟨.put nt o, 0, 0⟩ w).ts.getD q none = w.ts.getD q none := fun q hq => by rw [hx, ts_set C.lt hp, if_neg hq]
    have hphi : phi w hs p = rk (hs nt).length o + 3 * nds nt p w.ts + 4 := by unfold phi; rw [hts]
    have hn0 : ∀ r, ndr r w.ts p = if nt = r then (if o.pc ≤ 2 then 1 else 0) else 0 := fun r => by unfold ndr; rw [putsOf_eq, hts]; unfold putOf; by_cases e : nt = r <;> simp [e, ndo]
    have hn1 : ∀ r, ndr r (w.ts.set p x) p = ndo (putOf r x) := fun r => by unfold ndr; rw [puts_set C.lt hp]; unfold upP; rw [if_pos rfl]
    refine ⟨hs', h, ?_, fun q hq hne => ⟨?_, by rw [hother q hne]⟩⟩
    · rcases hcase with ⟨e, _⟩ | ⟨e, _⟩ | ⟨o', e, hr, _, _⟩
      · left; rw [hown, e]
      · right; rw [hphi]; unfold phi; rw [hown, e]; have := (rk_le (hs nt).length o).1; dsimp only; split <;> omega
      · right; rw [hphi]; unfold phi; rw [hown, e]; dsimp only; rw [hx, nds_own C.lt hp]; omega
    · unfold phi; rw [hother q hne, hst, hx]
      cases hq2 : w.ts.getD q none with
      | none => exact Nat.le_refl _
      | some pq =>
        obtain ⟨phq, oq, vq⟩ := pq
        cases phq with
        | put r oo =>
          dsimp only
          by_cases er : r = nt
          · subst er
            rcases hcase with ⟨e, e2⟩ | ⟨e, e2⟩ | ⟨o', e, _, e2, e3⟩
            · have := nds_le (x := x) C.lt hp hq hne r 0 (by rw [hn1, hn0, e]; simp [putOf, ndo])
              rw [e2]; omega
            · have := nds_le (x := x) C.lt hp hq hne r 0 (by rw [hn1, hn0, e]; simp [putOf, ndo])
              rw [e2]; omega
            · rcases e2 with e2 | ⟨e2, e4, e5⟩
              · have := nds_le (x := x) C.lt hp hq hne r 0 (by
                  rw [hn1, hn0, e]; simp only [putOf, if_true, ndo]
                  by_cases h3 : o.pc ≤ 2
                  · rw [if_pos h3]; split <;> omega
                  · have := e3 (by omega); rw [if_neg h3, if_neg (by omega)]; omega)
                rw [e2]; omega
              · have := nds_le (x := x) C.lt hp hq hne r 1 (by
                  rw [hn1, hn0, e]; simp only [putOf, if_true, ndo]; rw [e4, e5]; decide)
                have := rk_up (hs r).length oo
                rw [e2]; omega
          · have := nds_le (x := x) C.lt hp hq hne r 0 (by
              rw [hn1, hn0, if_neg (Ne.symm er)]
              rcases hcase with ⟨e, _⟩ | ⟨e, _⟩ | ⟨o', e, _⟩ <;> rw [e] <;> simp [putOf, ndo, Ne.symm er])
            rw [hoth r er]; omega
        | _ => exact Nat.le_refl _
  · subst e
    obtain ⟨x, h, hx, hL, hcase⟩ := C.see hp hts
    have hown : (Post.tellGo B p ⟨.see nt, 0, 0⟩ w).ts.getD p none = x := by rw [hx, ts_set C.lt hp, if_pos rfl]
    have hother : ∀ q, q ≠ p → (Post.tellGo B p ⟨.see nt, 0, 0⟩ w).ts.getD q none = w.ts.getD q none := fun q hq => by rw [hx, ts_set C.lt hp, if_neg hq]
    have hput0 : ∀ r, putOf r x = none := fun r => by split at hcase <;> subst hcase <;> rfl
    refine ⟨hs, h, ?_, fun q hq hne => ⟨?_, by rw [hother q hne]⟩⟩
    · rw [hown]
      by_cases h0 : w.L.getD 0 0 = 0
      · rw [if_pos h0] at hcase; right; unfold phi; rw [hown, hcase, hts]; dsimp only; rw [if_pos h0]; omega
      · rw [if_neg h0] at hcase; left; exact hcase
    · unfold phi; rw [hother q hne, hL, hx]
      cases hq2 : w.ts.getD q none with
      | none => exact Nat.le_refl _
      | some pq =>
        obtain ⟨phq, oq, vq⟩ := pq
        cases phq with
        | put r oo =>
          dsimp only
          have := nds_le (x := x) C.lt hp hq hne r 0 (by unfold ndr; rw [puts_set C.lt hp]; unfold upP; rw [if_pos rfl, hput0]; exact Nat.zero_le _)
          omega
        | _ => exact Nat.le_refl _
  · subst e
    obtain ⟨x, h, hx, hcase⟩ := C.swp hp hts
    have hown : (Post.tellGo B p ⟨.swp nt 0, 0, 0⟩ w).ts.getD p none = x := by rw [hx, ts_set C.lt hp, if_pos rfl]
    have hother : ∀ q, q ≠ p → (Post.tellGo B p ⟨.swp nt 0, 0, 0⟩ w).ts.getD q none = w.ts.getD q none := fun q hq => by rw [hx, ts_set C.lt hp, if_neg hq]
    have hput0 : ∀ r, putOf r x = none := fun r => by split at hcase <;> (rw [hcase.1]; rfl)
    have hsee : (if (Post.tellGo B p ⟨.swp nt 0, 0, 0⟩ w).L.getD 0 0 = 0 then 3 else 1) ≤ (if w.L.getD 0 0 = 0 then 3 else 1) := by
      by_cases h0 : w.L.getD 0 0 = 0
      · rw [if_pos h0] at hcase; rw [hcase.2, if_pos h0]; decide
      · rw [if_neg h0] at hcase; rw [hcase.2]; exact Nat.le_refl _
    refine ⟨hs, h, ?_, fun q hq hne => ⟨?_, by rw [hother q hne]⟩⟩
    · rw [hown]
      by_cases h0 : w.L.getD 0 0 = 0
      · rw [if_pos h0] at hcase; left; exact hcase.1
      · rw [if_neg h0] at hcase; right; unfold phi; rw [hown, hcase.1, hts, hcase.2]; dsimp only; rw [if_neg h0]; omega
    · unfold phi; rw [hother q hne, hx]
      cases hq2 : w.ts.getD q none with
      | none => exact Nat.le_refl _
      | some pq =>
        obtain ⟨phq, oq, vq⟩ := pq
        cases phq with
        | put r oo =>
          dsimp only
          have := nds_le (x := x) C.lt hp hq hne r 0 (by unfold ndr; rw [puts_set C.lt hp]; unfold upP; rw [if_pos rfl, hput0]; exact Nat.zero_le _)
          omega
        | see r => exact hsee
        | _ => exact Nat.le_refl _
end Go.L.Post
