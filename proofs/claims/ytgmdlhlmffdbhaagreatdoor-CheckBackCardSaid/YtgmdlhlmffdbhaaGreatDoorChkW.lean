/-
  A program that is right can be written, on paper. Own work; no program.
-/
import Derived.Test.YtgmdlhlmffdbhaaGreatDoorParQ
set_option linter.unusedSimpArgs false
set_option linter.unusedVariables false
set_option linter.unusedSectionVars false
namespace Go.L.Pa
open Go.L Go.L.Lx Go.L.Pg
/-! ### what is right, part by part -/
theorem nx_none {i : Nat} {r k : Flt} (h : nx i r k = none) : r = none ∧ k = none := by
  cases r with
  | none => exact ⟨rfl, h⟩
  | some x => cases h
theorem fst_none {R : Nat → Flt} : ∀ {n i : Nat}, fst R i n = none → ∀ j, i ≤ j → j < i + n → R j = none
  | 0, i, _, j, h1, h2 => absurd h2 (by omega)
  | n + 1, i, h, j, h1, h2 => by
    obtain ⟨h3, h4⟩ := nx_none (show nx i (R i) (fst R (i + 1) n) = none from h)
    by_cases e : j = i
    · rw [e]; exact h3
    · exact fst_none h4 j (by omega) (by omega)
theorem within_none {own : Int} {n : Nat} {R : Nat → Flt} (h : withinP own n R = none) : own = 0 ∧ ∀ j, j < n → R j = none := by
  unfold withinP at h
  split at h
  · rename_i h0; exact ⟨h0, fun j hj => fst_none h j (Nat.zero_le _) (by omega)⟩
  · cases h
theorem firstR_cons {b : Bool} {c : Int} {l : List (Bool × Int)} (h : firstR ((b, c) :: l) = 0) (hc : c ≠ 0) : b = false ∧ firstR l = 0 := by
  unfold firstR at h
  cases b with
  | true => exact absurd h hc
  | false => exact ⟨rfl, h⟩
theorem has_eq (ps : By) (c : UInt8) : Pa.has ps c = Pg.has ps c := by
  unfold Pa.has Pg.has
  rw [Bool.eq_iff_iff]
  simp only [decide_eq_true_eq, List.any_eq_true]
  constructor
  · intro h; exact ⟨c, h, rfl⟩
  · rintro ⟨x, hx, e⟩
    rw [show c = x from (UInt8.toNat_inj.1 (by omega)).symm]; exact hx
theorem eff_right {K : List Knd} {S : List Sta} {e : Eff} {b : Bool} (h : effE K S e b = 0) : effOK e = true := by
  unfold effE at h
  obtain ⟨h1, h⟩ := firstR_cons h (by decide)
  obtain ⟨h2, h⟩ := firstR_cons h (by decide)
  obtain ⟨h3, h⟩ := firstR_cons h (by decide)
  obtain ⟨h4, h⟩ := firstR_cons h (by decide)
  obtain ⟨h5, h⟩ := firstR_cons h (by decide)
  obtain ⟨h6, h⟩ := firstR_cons h (by decide)
  obtain ⟨h7, -⟩ := firstR_cons h (by decide)
  have hx := ref_eff e
  rw [h1, h2, h3, h4, h5, h6, h7] at hx
  have hw : Pg.effW e = true := by
    unfold x1 at hx
    cases hw : Pg.effW e with
    | true => rfl
    | false => rw [hw] at hx; simp at hx
  obtain ⟨v1, v2, v3, v4, v5, v6⟩ := verb_facts e.do'
  have hv : decide ((verb e.do').1 = []) = false := by rw [v1]; exact h1
  unfold effOK
  rw [has_eq, has_eq, has_eq, has_eq, has_eq, v2, v3, v4, v5, v6, hv]
  unfold Pg.effW at hw
  rw [h1] at hw
  change (if (false || !nameR e.ref (pR e.do') || !nameR e.slot (pS e.do') || !nameR e.name (pN e.do')) = true then false else if ((pD e.do' && !small e.delay) || (!pD e.do' && !decide (e.delay = 0))) = true then false else if (!pV e.do' || !decide (e.value = 2)) = true then decide (e.n = 0) && (decide (e.value = 0) || (decide (e.value = 1) && pV e.do')) else small e.n) = true at hw
  split at hw
  · cases hw
  · rename_i g1
    split at hw
    · cases hw
    · rename_i g2
      simp only [Bool.or_eq_true, Bool.not_eq_true', Bool.false_eq_true, false_or, not_or, Bool.not_eq_false] at g1
      have e2 : ∀ a b c : Bool, ¬ ((a && !b) || (!a && !c)) = true → (if a then b else c) = true := by decide
      rw [g1.1.1, g1.1.2, g1.2, e2 _ _ _ g2]
      simpa using hw
theorem named_or {s : By} (h : named s = true) : s = [] ∨ isName s = true := by unfold named at h; simpa using h
theorem row_right {K : List Knd} {S : List Sta} {R : List Row} {j : Nat} {r : Row} (hr : R[j]? = some r) (h : rowF K S R j = none) : rowOK r = true ∧ r.effs.length ≤ 8 := by
  unfold rowF at h
  rw [hr] at h
  obtain ⟨h0, h1⟩ := within_none h
  unfold rowE at h0
  obtain ⟨a1, h0⟩ := firstR_cons h0 (by decide)
  obtain ⟨a2, h0⟩ := firstR_cons h0 (by decide)
  obtain ⟨a3, -⟩ := firstR_cons h0 (by decide)
  unfold r1 at a1
  simp only [Bool.or_eq_false_iff, Bool.not_eq_false', Bool.and_eq_false_iff, decide_eq_false_iff_not, Bool.not_eq_false', decide_eq_true_eq, Bool.not_eq_eq_eq_not, Bool.not_false] at a1 a3
  obtain ⟨⟨⟨⟨b1, b2⟩, b3⟩, b4⟩, b5⟩ := a1
  refine ⟨?_, by omega⟩
  unfold rowOK
  simp only [Bool.and_eq_true, List.all_eq_true]
  refine ⟨⟨?_, ?_⟩, fun e he => ?_⟩
  · by_cases ht : r.tag = []
    · rw [decide_eq_true ht, if_pos rfl]
      rcases b2 with b2 | b2
      · rw [b2]; rfl
      · exact absurd ht b2
    · rw [decide_eq_false ht, if_neg (by decide)]; exact (named_or b1).resolve_left ht
  · cases ho : r.only with
    | true => rw [if_pos rfl]; unfold small; simp; omega
    | false =>
      rw [if_neg (by decide)]
      rcases b5 with b5 | b5
      · rw [ho] at b5; cases b5
      · simpa using b5
  · obtain ⟨i, hi⟩ := List.mem_iff_getElem?.1 he
    have h2 := h1 i (List.getElem?_eq_some_iff.1 hi).1
    unfold effF at h2
    rw [hi] at h2
    simp only at h2
    split at h2
    · rename_i h3; exact eff_right h3
    · cases h2
theorem sta_right {K : List Knd} {S : List Sta} {j : Nat} {s : Sta} (hs : S[j]? = some s) (h : staF K S j = none) : staOK s = true ∧ s.rows.length ≤ 16 ∧ ∀ r ∈ s.rows, r.effs.length ≤ 8 := by
  unfold staF at h
  rw [hs] at h
  obtain ⟨h0, h1⟩ := within_none h
  unfold staE at h0
  obtain ⟨a1, h0⟩ := firstR_cons h0 (by decide)
  obtain ⟨a2, h0⟩ := firstR_cons h0 (by decide)
  obtain ⟨a3, -⟩ := firstR_cons h0 (by decide)
  have a4 := of_decide_eq_false a3
  have hrow : ∀ r ∈ s.rows, rowOK r = true ∧ r.effs.length ≤ 8 := fun r hr => by
    obtain ⟨i, hi⟩ := List.mem_iff_getElem?.1 hr
    exact row_right hi (h1 i (List.getElem?_eq_some_iff.1 hi).1)
  refine ⟨?_, by omega, fun r hr => (hrow r hr).2⟩
  unfold staOK
  simp only [Bool.and_eq_true, List.all_eq_true]
  exact ⟨by simpa using a1, fun r hr => (hrow r hr).1⟩
def Small (k : Knd) : Prop := k.cases.length ≤ 8 ∧ k.states.length ≤ 8 ∧ ∀ s ∈ k.states, s.rows.length ≤ 16 ∧ ∀ r ∈ s.rows, r.effs.length ≤ 8
theorem knd_right {K : List Knd} {j : Nat} {k : Knd} (hk : K[j]? = some k) (h : kndF K j = none) : kndOK k = true ∧ Small k := by
  unfold kndF at h
  rw [hk] at h
  obtain ⟨h0, h1⟩ := within_none h
  unfold kndE at h0
  obtain ⟨a1, h0⟩ := firstR_cons h0 (by decide)
  obtain ⟨a2, h0⟩ := firstR_cons h0 (by decide)
  obtain ⟨a3, h0⟩ := firstR_cons h0 (by decide)
  obtain ⟨a4, -⟩ := firstR_cons h0 (by decide)
  unfold k1 at a1
  unfold k3 at a3
  simp only [Bool.or_eq_false_iff, Bool.not_eq_false', decide_eq_false_iff_not] at a1 a3
  have hsta : ∀ s ∈ k.states, staOK s = true ∧ s.rows.length ≤ 16 ∧ ∀ r ∈ s.rows, r.effs.length ≤ 8 := fun s hs => by
    obtain ⟨i, hi⟩ := List.mem_iff_getElem?.1 hs
    exact sta_right hi (h1 i (List.getElem?_eq_some_iff.1 hi).1)
  refine ⟨?_, by omega, by omega, fun s hs => (hsta s hs).2⟩
  unfold kndOK
  simp only [Bool.and_eq_true, List.all_eq_true]
  refine ⟨⟨⟨⟨a1.1.1.1.1, ?_⟩, ?_⟩, fun c hc => ?_⟩, fun s hs => (hsta s hs).1⟩
  · unfold small; simp; omega
  · unfold small; simp; omega
  · have h4 := List.any_eq_false.1 a4 c hc
    unfold casB at h4
    simp only [Bool.not_eq_true, Bool.or_eq_false_iff, Bool.not_eq_false', decide_eq_false_iff_not] at h4
    unfold casOK
    rcases named_or h4.1.1 with h5 | h5
    · rw [decide_eq_true h5]; simp; omega
    · rw [h5, Bool.or_true]; simp; omega
theorem wl_many {α : Type} {f : α → List By} {c : Nat} : ∀ {l : List α}, (∀ x ∈ l, wl (f x) ≤ c) → wl (l.flatMap f) ≤ l.length * c
  | [], _ => Nat.zero_le _
  | x :: l, h => by
    rw [List.flatMap_cons, wl_app, List.length_cons, Nat.add_mul]
    have h1 := h x List.mem_cons_self
    have h2 := wl_many (l := l) fun y hy => h y (List.mem_cons_of_mem _ hy)
    omega
theorem knd_wl {k : Knd} (ok : kndOK k = true) (hs : Small k) : wl (kndWs k) ≤ 80000 := by
  obtain ⟨o1, o2, o3, o4, o5⟩ := kndOK_inv ok
  obtain ⟨s1, s2, s3⟩ := hs
  have hn := isName_len o1; have hl := itoa_small o2; have hw := itoa_small o3
  have hc : wl (k.cases.flatMap casWs) ≤ k.cases.length * 40 := wl_many fun c hc => by
    have h1 := dir_wl c.do'
    have h2 : c.reason.length ≤ 16 := by
      rcases (casOK_inv (o4 c hc)).1 with h | h
      · rw [h]; simp
      · exact isName_len h
    unfold casWs hdWs; rw [wl_app, wl_app]; split <;> simp only [wl_cons, wl_nil, List.length_cons, List.length_nil] <;> omega
  have hst : wl (k.states.flatMap staWs) ≤ k.states.length * 9740 := wl_many fun s hsm => by
    obtain ⟨t1, t2⟩ := staOK_inv (o5 s hsm)
    obtain ⟨t3, t4⟩ := s3 s hsm
    have hsn := isName_len t1
    have hr : wl (s.rows.flatMap rowWs) ≤ s.rows.length * 606 := wl_many fun r hrm => by
      obtain ⟨r1, r2, r3⟩ := rowOK_inv (t2 r hrm)
      have he : wl (effsWs r.effs) ≤ r.effs.length * 72 := wl_many fun e he => by
        have := eff_wl (r3 e he)
        rw [wl_app]; simp only [wl_cons, wl_nil, List.length_cons, List.length_nil]; omega
      have h8 := t4 r hrm
      have t1' : wl (tagWs r) ≤ 20 := by
        unfold tagWs; split
        · decide
        · rename_i h
          rcases r1 with h' | h'
          · exact absurd h'.1 h
          · have := isName_len h'.1; simp only [wl_cons, wl_nil, List.length_cons, List.length_nil]; omega
      have t2' : wl (numWs r) ≤ 6 := by
        unfold numWs
        rcases r2 with ⟨h, h'⟩ | ⟨h, h'⟩
        · rw [h, if_pos rfl]; have := itoa_small h'; simp only [wl_cons, wl_nil]; omega
        · rw [h, if_neg (by decide)]; simp [wl]
      unfold rowWs; simp only [wl_app, wl_cons, wl_nil, List.length_cons, List.length_nil]; omega
    unfold staWs; simp only [wl_app, wl_cons, wl_nil, List.length_cons, List.length_nil]; omega
  unfold kndWs topWs; simp only [wl_app, wl_cons, wl_nil, List.length_cons, List.length_nil]; omega
theorem prg_right {K : List Knd} (h : prgF K = none) : (∀ k ∈ K, kndOK k = true) ∧ wl (prgWs K) ≤ 640000 := by
  obtain ⟨h0, h1⟩ := within_none h
  unfold prgE at h0
  obtain ⟨a1, -⟩ := firstR_cons h0 (by decide)
  simp only [Bool.or_eq_false_iff, decide_eq_false_iff_not] at a1
  have hk : ∀ k ∈ K, kndOK k = true ∧ Small k := fun k hk => by
    obtain ⟨i, hi⟩ := List.mem_iff_getElem?.1 hk
    exact knd_right hi (h1 i (List.getElem?_eq_some_iff.1 hi).1)
  refine ⟨fun k hkm => (hk k hkm).1, ?_⟩
  have hw : wl (prgWs K) ≤ K.length * 80000 := wl_many fun k hkm => knd_wl (hk k hkm).1 (hk k hkm).2
  omega
/-! ### places are nothing to it -/
theorem hasK_strip (K : List Knd) (n : By) : hasK (strip K) n = hasK K n := by unfold hasK strip; rw [List.any_map]; rfl
theorem hasS_strip (S : List Sta) (n : By) : hasS (S.map Sta.strip) n = hasS S n := by unfold hasS; rw [List.any_map]; rfl
theorem effF_strip (K : List Knd) (S : List Sta) (E : List Eff) : effF (strip K) (S.map Sta.strip) E = effF K S E := by
  funext j
  unfold effF
  cases E[j]? with
  | none => rfl
  | some e => unfold effE e8; simp only [hasK_strip, hasS_strip]
theorem rowF_strip (K : List Knd) (S : List Sta) (R : List Row) : rowF (strip K) (S.map Sta.strip) (R.map Row.strip) = rowF K S R := by
  funext j
  unfold rowF
  rw [List.getElem?_map]
  cases R[j]? with
  | none => rfl
  | some r =>
    show withinP (rowE (R.map Row.strip) j (Row.strip r)) r.effs.length (effF (strip K) (S.map Sta.strip) r.effs) = _
    rw [effF_strip]
    congr 1
    unfold rowE
    rw [← List.map_take, List.any_map]; rfl
theorem staF_strip (K : List Knd) (S : List Sta) : staF (strip K) (S.map Sta.strip) = staF K S := by
  funext j
  unfold staF
  rw [List.getElem?_map]
  cases S[j]? with
  | none => rfl
  | some s =>
    show withinP (staE (S.map Sta.strip) j (Sta.strip s)) (s.rows.map Row.strip).length (rowF (strip K) (S.map Sta.strip) (s.rows.map Row.strip)) = _
    rw [rowF_strip, List.length_map]
    congr 1
    unfold staE
    rw [← List.map_take, hasS_strip]
    simp only [Sta.strip, List.length_map]
theorem kndF_strip (K : List Knd) : kndF (strip K) = kndF K := by
  funext j
  unfold kndF
  rw [show (strip K)[j]? = (K[j]?).map Knd.strip from List.getElem?_map]
  cases K[j]? with
  | none => rfl
  | some k =>
    show withinP (kndE (strip K) j (Knd.strip k)) (k.states.map Sta.strip).length (staF (strip K) (k.states.map Sta.strip)) = _
    rw [staF_strip, List.length_map]
    congr 1
    unfold kndE
    rw [show (strip K).take j = strip (K.take j) from (List.map_take).symm, hasK_strip]
    have e : (Knd.strip k).states.length = k.states.length := List.length_map ..
    unfold k3; rw [e]; rfl
theorem prgF_strip (K : List Knd) : prgF (strip K) = prgF K := by
  unfold prgF
  rw [kndF_strip, show (strip K).length = K.length from List.length_map ..]
  congr 1
  unfold prgE; rw [show (strip K).length = K.length from List.length_map ..]
end Go.L.Pa
