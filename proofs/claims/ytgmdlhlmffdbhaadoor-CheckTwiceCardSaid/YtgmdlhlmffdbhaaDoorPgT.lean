/-
  Programs of actors on paper: two rows changed about, a part added once more. Own work; no program.
-/
import Derived.Test.YtgmdlhlmffdbhaaDoorPgP
set_option linter.unusedSimpArgs false
set_option linter.unusedVariables false
set_option linter.unusedSectionVars false
namespace Go.L.Pg
open Go.L Go.L.Lx
theorem within_none {own : Int} {n : Nat} {R : Nat → Flt} : withinP own n R = none ↔ own = 0 ∧ ∀ j, j < n → R j = none := by
  unfold withinP
  split
  · rename_i h; rw [fst_none]
    constructor
    · intro h'; exact ⟨h, fun j hj => h' j (Nat.zero_le _) (by omega)⟩
    · intro h' j _ hj; exact h'.2 j (by omega)
  · rename_i h
    exact ⟨fun h' => absurd h' (by simp), fun h' => absurd h'.1 h⟩
theorem fst_at' {R : Nat → Flt} {c : Int} {us : List Int} : ∀ (m i n : Nat), (∀ j, j < m → R (i + j) = none) → R (i + m) = some (c, us) → m < n → fst R i n = some (c, ((i + m + 1 : Nat) : Int) :: us)
  | 0, i, n + 1, _, h2, _ => by simp only [fst, nx]; rw [Nat.add_zero] at h2; rw [h2]
  | m + 1, i, n + 1, h1, h2, h3 => by
    have h0 := h1 0 (by omega)
    rw [Nat.add_zero] at h0
    simp only [fst, nx, h0]
    rw [fst_at' m (i + 1) n (fun j hj => by rw [show i + 1 + j = i + (j + 1) by omega]; exact h1 _ (by omega)) (by rw [show i + 1 + m = i + (m + 1) by omega]; exact h2) (by omega), show i + 1 + m + 1 = i + (m + 1) + 1 by omega]
theorem within_at {own : Int} {n m : Nat} {R : Nat → Flt} {c : Int} {us : List Int} (h0 : own = 0) (h1 : ∀ j, j < m → R j = none) (h2 : m < n) (h3 : R m = some (c, us)) : withinP own n R = some (c, ((m + 1 : Nat) : Int) :: us) := by
  unfold withinP
  rw [if_pos h0, fst_at' m 0 n (fun j hj => by rw [Nat.zero_add]; exact h1 j hj) (by rw [Nat.zero_add]; exact h3) h2, Nat.zero_add]
theorem within_own {own : Int} {n : Nat} {R : Nat → Flt} (h0 : own ≠ 0) : withinP own n R = some (own, []) := by unfold withinP; rw [if_neg h0]
theorem hasK_iff {K : List Knd} {nm : By} : hasK K nm = true ↔ nm ∈ K.map (·.name) := by
  unfold hasK
  rw [List.any_eq_true, List.mem_map]
  exact ⟨fun ⟨k, h1, h2⟩ => ⟨k, h1, of_decide_eq_true h2⟩, fun ⟨k, h1, h2⟩ => ⟨k, h1, decide_eq_true h2⟩⟩
theorem hasS_iff {K : List Sta} {nm : By} : hasS K nm = true ↔ nm ∈ K.map (·.name) := by
  unfold hasS
  rw [List.any_eq_true, List.mem_map]
  exact ⟨fun ⟨k, h1, h2⟩ => ⟨k, h1, of_decide_eq_true h2⟩, fun ⟨k, h1, h2⟩ => ⟨k, h1, decide_eq_true h2⟩⟩
theorem hasK_congr {K Q : List Knd} (h : ∀ nm, nm ∈ K.map (·.name) ↔ nm ∈ Q.map (·.name)) (nm : By) : hasK K nm = hasK Q nm := by rw [Bool.eq_iff_iff, hasK_iff, hasK_iff, h]
theorem hasS_congr {K Q : List Sta} (h : ∀ nm, nm ∈ K.map (·.name) ↔ nm ∈ Q.map (·.name)) (nm : By) : hasS K nm = hasS Q nm := by rw [Bool.eq_iff_iff, hasS_iff, hasS_iff, h]
theorem effE_congr {K Q : List Knd} {S T : List Sta} (hK : ∀ nm, hasK K nm = hasK Q nm) (hS : ∀ nm, hasS S nm = hasS T nm) (e : Eff) (b : Bool) : effE K S e b = effE Q T e b := by
  unfold effE e8; rw [hK, hS]
theorem effF_congr {K Q : List Knd} {S T : List Sta} (hK : ∀ nm, hasK K nm = hasK Q nm) (hS : ∀ nm, hasS S nm = hasS T nm) (E : List Eff) (j : Nat) : effF K S E j = effF Q T E j := by
  unfold effF; split
  · rw [effE_congr hK hS]
  · rfl
theorem firstR_zero {b : Bool} {c : Int} {r : List (Bool × Int)} (hc : c ≠ 0) : firstR ((b, c) :: r) = 0 ↔ b = false ∧ firstR r = 0 := by
  cases b with
  | true => simp only [firstR, if_true]; exact ⟨fun h => absurd h hc, fun h => by cases h.1⟩
  | false => simp [firstR]
/-- what a row is by itself, among these kinds and states -/
def rowG (K : List Knd) (S : List Sta) (r : Row) : Prop := (r1 r = false ∧ decide (8 < (r.effs.length : Int)) = false ∧ r4 r = false) ∧ ∀ q, q < r.effs.length → effF K S r.effs q = none
theorem rowG_congr {K Q : List Knd} {S T : List Sta} (hK : ∀ nm, hasK K nm = hasK Q nm) (hS : ∀ nm, hasS S nm = hasS T nm) {r : Row} : rowG K S r ↔ rowG Q T r := by
  unfold rowG
  simp only [effF_congr hK hS]
theorem rowE_zero {R : List Row} {i : Nat} {r : Row} : rowE R i r = 0 ↔ r1 r = false ∧ (R.take i).any (fun o => sameR o r) = false ∧ decide (8 < (r.effs.length : Int)) = false ∧ r4 r = false := by
  unfold rowE
  rw [firstR_zero (by decide), firstR_zero (by decide), firstR_zero (by decide), firstR_zero (by decide)]
  simp [firstR]
theorem rowF_none {K : List Knd} {S : List Sta} {R : List Row} {m : Nat} {r : Row} (h : R[m]? = some r) : rowF K S R m = none ↔ rowG K S r ∧ (R.take m).any (fun o => sameR o r) = false := by
  unfold rowF rowG
  rw [h]
  simp only
  rw [within_none, rowE_zero]
  exact ⟨fun ⟨⟨a, b, c, d⟩, e⟩ => ⟨⟨⟨a, c, d⟩, e⟩, b⟩, fun ⟨⟨⟨a, c, d⟩, e⟩, b⟩ => ⟨⟨a, b, c, d⟩, e⟩⟩
def Apart (R : List Row) : Prop := R.Pairwise (fun o r => sameR o r = false)
theorem sameR_symm (o r : Row) : sameR o r = sameR r o := by
  unfold sameR
  rw [Bool.eq_iff_iff]
  simp only [Bool.and_eq_true, decide_eq_true_eq, beq_iff_eq]
  exact ⟨fun ⟨⟨a, b⟩, c⟩ => ⟨⟨a.symm, b.symm⟩, c.symm⟩, fun ⟨⟨a, b⟩, c⟩ => ⟨⟨a.symm, b.symm⟩, c.symm⟩⟩
theorem rows_none {K : List Knd} {S : List Sta} {R : List Row} : (∀ m, m < R.length → rowF K S R m = none) ↔ (∀ r ∈ R, rowG K S r) ∧ Apart R := by
  constructor
  · intro h
    refine ⟨fun r hr => ?_, ?_⟩
    · obtain ⟨m, hm, rfl⟩ := List.getElem_of_mem hr
      exact ((rowF_none (List.getElem?_eq_getElem hm)).1 (h m hm)).1
    · unfold Apart
      rw [List.pairwise_iff_getElem]
      intro i j hi hj hij
      have h2 := ((rowF_none (List.getElem?_eq_getElem hj)).1 (h j hj)).2
      rw [List.any_eq_false] at h2
      have h3 := h2 R[i] (List.mem_take_iff_getElem.2 ⟨i, by omega, rfl⟩)
      simpa using h3
  · intro ⟨h1, h2⟩ m hm
    refine (rowF_none (List.getElem?_eq_getElem hm)).2 ⟨h1 _ (List.getElem_mem hm), ?_⟩
    rw [List.any_eq_false]
    intro o ho
    obtain ⟨i, hi, rfl⟩ := List.mem_take_iff_getElem.1 ho
    unfold Apart at h2
    rw [List.pairwise_iff_getElem] at h2
    have := h2 i m (by omega) hm (by omega)
    simp [this]
theorem staF_none {K : List Knd} {S : List Sta} {j : Nat} {s : Sta} (h : S[j]? = some s) : staF K S j = none ↔ staE S j s = 0 ∧ (∀ r ∈ s.rows, rowG K S r) ∧ Apart s.rows := by
  unfold staF; rw [h]; simp only; rw [within_none, rows_none]
theorem kndF_none {K : List Knd} {i : Nat} {k : Knd} (h : K[i]? = some k) : kndF K i = none ↔ kndE K i k = 0 ∧ ∀ j, j < k.states.length → staF K k.states j = none := by
  unfold kndF; rw [h]; simp only; rw [within_none]
theorem prgF_none {K : List Knd} : prgF K = none ↔ prgE K = 0 ∧ ∀ i, i < K.length → kndF K i = none := by unfold prgF; rw [within_none]
/-! ### two rows changed about -/
theorem swap_perm {α : Type} {l : List α} {m : Nat} {x y : α} (h1 : l[m]? = some x) (h2 : l[m + 1]? = some y) : ((l.set m y).set (m + 1) x).Perm l := by
  obtain ⟨A, B, rfl, rfl⟩ : ∃ A B, l = A ++ x :: y :: B ∧ A.length = m := by
    obtain ⟨a1, a2⟩ := List.getElem?_eq_some_iff.1 h1
    obtain ⟨b1, b2⟩ := List.getElem?_eq_some_iff.1 h2
    refine ⟨l.take m, l.drop (m + 2), ?_, by simp; omega⟩
    rw [← a2, ← b2, ← List.drop_eq_getElem_cons b1, ← List.drop_eq_getElem_cons a1, List.take_append_drop]
  have e : ((A ++ x :: y :: B).set A.length y).set (A.length + 1) x = A ++ y :: x :: B := by
    rw [List.set_append_right _ _ (Nat.le_refl _), List.set_append_right _ _ (by omega)]
    simp
  rw [e]
  exact List.Perm.append_left A (List.Perm.swap x y B)
theorem apart_perm {R Q : List Row} (h : Q.Perm R) : Apart Q ↔ Apart R := h.pairwise_iff (fun {a b} h => by rw [sameR_symm]; exact h)
/-- this state in this place is right just if that one is -/
theorem turned_ok {K : List Knd} {i : Nat} {k : Knd} (hk : K[i]? = some k) {j : Nat} {s : Sta} (hs : k.states[j]? = some s) {R : List Row} (hp : R.Perm s.rows) (ra sa : Option Addr) (rc sc : Nat) :
    prgF (K.set i { k with sa := sa, sc := sc, states := k.states.set j { s with ra := ra, rc := rc, rows := R } }) = none ↔ prgF K = none := by
  obtain ⟨hi, hk'⟩ := List.getElem?_eq_some_iff.1 hk
  obtain ⟨hj, hs'⟩ := List.getElem?_eq_some_iff.1 hs
  generalize hs1 : ({ s with ra := ra, rc := rc, rows := R } : Sta) = s1
  have n1 : s1.name = s.name := by rw [← hs1]
  have r1' : s1.rows = R := by rw [← hs1]
  generalize hk1 : ({ k with sa := sa, sc := sc, states := k.states.set j s1 } : Knd) = k1'
  have mS : (k.states.set j s1).map (·.name) = k.states.map (·.name) := by
    rw [List.map_set, n1]; refine List.ext_getElem? fun m => ?_
    rw [List.getElem?_set]; split
    · rename_i e; subst e; rw [if_pos (by simpa using hj), List.getElem?_map, hs]; rfl
    · rfl
  have nK : k1'.name = k.name := by rw [← hk1]
  have mK : (K.set i k1').map (·.name) = K.map (·.name) := by
    rw [List.map_set, nK]; refine List.ext_getElem? fun m => ?_
    rw [List.getElem?_set]; split
    · rename_i e; subst e; rw [if_pos (by simpa using hi), List.getElem?_map, hk]; rfl
    · rfl
  have cK : ∀ nm, hasK (K.set i k1') nm = hasK K nm := hasK_congr (fun nm => by rw [mK])
  have cS : ∀ nm, hasS (k.states.set j s1) nm = hasS k.states nm := hasS_congr (fun nm => by rw [mS])
  have cKt : ∀ m nm, hasK ((K.set i k1').take m) nm = hasK (K.take m) nm := fun m => hasK_congr (fun nm => by rw [List.map_take, mK, List.map_take])
  have cSt : ∀ m nm, hasS ((k.states.set j s1).take m) nm = hasS (k.states.take m) nm := fun m => hasS_congr (fun nm => by rw [List.map_take, mS, List.map_take])
  rw [prgF_none, prgF_none]
  have e0 : prgE (K.set i k1') = prgE K := by unfold prgE; rw [List.length_set]
  rw [e0, List.length_set]
  refine and_congr_right fun _ => forall_congr' fun m => forall_congr' fun hm => ?_
  -- one kind's states, among the new kinds
  have same : ∀ (S T : List Sta), (∀ nm, hasS S nm = hasS T nm) → ∀ r, rowG (K.set i k1') S r ↔ rowG K T r := fun S T h r => rowG_congr cK h
  by_cases e : i = m
  · subst e
    have g1 : (K.set i k1')[i]? = some k1' := by rw [List.getElem?_set, if_pos rfl, if_pos hi]
    rw [kndF_none g1, kndF_none hk]
    have st : k1'.states = k.states.set j s1 := by rw [← hk1]
    have e1 : kndE (K.set i k1') i k1' = kndE K i k := by
      unfold kndE; rw [nK, cKt]
      have : k1 k1' = k1 k ∧ k3 k1' = k3 k ∧ k1'.cases = k.cases := by
        rw [← hk1]; refine ⟨rfl, ?_, rfl⟩; unfold k3; simp only [List.length_set]
      rw [this.1, this.2.1, this.2.2]
    rw [e1, st, List.length_set]
    refine and_congr_right fun _ => forall_congr' fun q => forall_congr' fun hq => ?_
    by_cases e2 : j = q
    · subst e2
      have g2 : (k.states.set j s1)[j]? = some s1 := by rw [List.getElem?_set, if_pos rfl, if_pos hj]
      rw [staF_none g2, staF_none hs]
      have e3 : staE (k.states.set j s1) j s1 = staE k.states j s := by
        unfold staE; rw [n1, cSt, r1', hp.length_eq]
      rw [e3, r1', apart_perm hp]
      refine and_congr_right fun _ => and_congr_left fun _ => ?_
      exact ⟨fun h r hr => (same _ _ cS r).1 (h r (hp.mem_iff.2 hr)), fun h r hr => (same _ _ cS r).2 (h r (hp.mem_iff.1 hr))⟩
    · have g2 : (k.states.set j s1)[q]? = some k.states[q] := by rw [List.getElem?_set, if_neg e2, List.getElem?_eq_getElem hq]
      rw [staF_none g2, staF_none (List.getElem?_eq_getElem hq)]
      have e3 : staE (k.states.set j s1) q k.states[q] = staE k.states q k.states[q] := by unfold staE; rw [cSt]
      rw [e3]
      refine and_congr_right fun _ => and_congr_left fun _ => forall_congr' fun r => forall_congr' fun _ => same _ _ cS r
  · have g1 : (K.set i k1')[m]? = some K[m] := by rw [List.getElem?_set, if_neg e, List.getElem?_eq_getElem hm]
    rw [kndF_none g1, kndF_none (List.getElem?_eq_getElem hm)]
    have e1 : kndE (K.set i k1') m K[m] = kndE K m K[m] := by unfold kndE; rw [cKt]
    rw [e1]
    refine and_congr_right fun _ => forall_congr' fun q => forall_congr' fun hq => ?_
    rw [staF_none (List.getElem?_eq_getElem hq), staF_none (List.getElem?_eq_getElem hq)]
    exact and_congr_right fun _ => and_congr_left fun _ => forall_congr' fun r => forall_congr' fun _ => same _ _ (fun _ => rfl) r
/-! ### a part once more -/
theorem kndE_zero {K : List Knd} {i : Nat} {k : Knd} : kndE K i k = 0 ↔ k1 k = false ∧ hasK (K.take i) k.name = false ∧ k3 k = false ∧ k.cases.any casB = false ∧ twc k.cases k.cases.length = false := by
  unfold kndE
  rw [firstR_zero (by decide), firstR_zero (by decide), firstR_zero (by decide), firstR_zero (by decide), firstR_zero (by decide)]
  simp [firstR]
theorem staE_zero {S : List Sta} {i : Nat} {s : Sta} : staE S i s = 0 ↔ isName s.name = true ∧ hasS (S.take i) s.name = false ∧ decide (16 < (s.rows.length : Int)) = false := by
  unfold staE
  rw [firstR_zero (by decide), firstR_zero (by decide), firstR_zero (by decide)]
  simp [firstR]
theorem prgE_zero {K : List Knd} (h : prgE K = 0) : 1 ≤ K.length ∧ K.length ≤ 8 := by
  unfold prgE at h
  rw [firstR_zero (by decide)] at h
  simp at h; omega
theorem staF_congr {K Q : List Knd} (hK : ∀ nm, hasK K nm = hasK Q nm) (S : List Sta) (j : Nat) (h : staF Q S j = none) : staF K S j = none := by
  cases e : S[j]? with
  | none => unfold staF; rw [e]
  | some s =>
    rw [staF_none e] at h ⊢
    exact ⟨h.1, fun r hr => (rowG_congr hK (fun _ => rfl)).2 (h.2.1 r hr), h.2.2⟩
theorem twice_kind {K : List Knd} (h : prgF K = none) {i : Nat} {k : Knd} (hk : K[i]? = some k) : prgF (K ++ [k]) = if K.length = 8 then some (40, []) else some (41, [((K.length + 1 : Nat) : Int)]) := by
  rw [prgF_none] at h
  obtain ⟨h0, h1⟩ := h
  obtain ⟨h2, h3⟩ := prgE_zero h0
  obtain ⟨hi, hk'⟩ := List.getElem?_eq_some_iff.1 hk
  have hin : k ∈ K := List.mem_of_getElem? hk
  split
  · rename_i e
    have e1 : prgE (K ++ [k]) = 40 := by unfold prgE; rw [List.length_append, e]; rfl
    unfold prgF; rw [e1]; exact within_own (by decide)
  · rename_i e
    have e1 : prgE (K ++ [k]) = 0 := by
      unfold prgE; rw [firstR_zero (by decide)]
      simp [firstR]; omega
    have cK : ∀ nm, hasK (K ++ [k]) nm = hasK K nm := hasK_congr (fun nm => by
      rw [List.map_append, List.mem_append]
      constructor
      · rintro (h | h)
        · exact h
        · simp only [List.map_cons, List.map_nil, List.mem_singleton] at h; subst h; exact List.mem_map_of_mem hin
      · exact .inl)
    unfold prgF
    refine within_at e1 (fun m hm => ?_) (by simp) ?_
    · have hg : (K ++ [k])[m]? = some K[m] := by rw [List.getElem?_append_left hm, List.getElem?_eq_getElem hm]
      have h4 := (kndF_none (List.getElem?_eq_getElem hm)).1 (h1 m hm)
      refine (kndF_none hg).2 ⟨?_, fun q hq => staF_congr cK _ _ (h4.2 q hq)⟩
      rw [kndE_zero] at h4 ⊢
      rw [List.take_append_of_le_length (by omega)]
      exact h4.1
    · have hg : (K ++ [k])[K.length]? = some k := by rw [List.getElem?_append_right (Nat.le_refl _), Nat.sub_self]; rfl
      unfold kndF; rw [hg]; simp only
      have h4 := (kndF_none hk).1 (h1 i hi)
      rw [kndE_zero] at h4
      have e2 : kndE (K ++ [k]) K.length k = 41 := by
        unfold kndE
        rw [h4.1.1, List.take_append_of_le_length (Nat.le_refl _), List.take_length, hasK_iff.2 (List.mem_map_of_mem hin)]
        rfl
      rw [e2]; exact within_own (by decide)
/-- a kind's states changed, its name left: where the fault lies is in this kind -/
theorem in_kind {K : List Knd} (h : prgF K = none) {i : Nat} {k k' : Knd} (hk : K[i]? = some k) (hn : k'.name = k.name) {c : Int} {us : List Int}
    (h' : ∀ Q : List Knd, (∀ nm, hasK Q nm = hasK K nm) → (∀ nm, hasK (Q.take i) nm = hasK (K.take i) nm) → withinP (kndE Q i k') k'.states.length (staF Q k'.states) = some (c, us)) : prgF (K.set i k') = some (c, ((i + 1 : Nat) : Int) :: us) := by
  rw [prgF_none] at h
  obtain ⟨h0, h1⟩ := h
  obtain ⟨hi, hk'⟩ := List.getElem?_eq_some_iff.1 hk
  have mK : (K.set i k').map (·.name) = K.map (·.name) := by
    rw [List.map_set, hn]; refine List.ext_getElem? fun m => ?_
    rw [List.getElem?_set]; split
    · rename_i e; subst e; rw [if_pos (by simpa using hi), List.getElem?_map, hk]; rfl
    · rfl
  have cK : ∀ nm, hasK (K.set i k') nm = hasK K nm := hasK_congr (fun nm => by rw [mK])
  have cKt : ∀ m nm, hasK ((K.set i k').take m) nm = hasK (K.take m) nm := fun m => hasK_congr (fun nm => by rw [List.map_take, mK, List.map_take])
  unfold prgF
  refine within_at (by unfold prgE at h0 ⊢; rw [List.length_set]; exact h0) (fun m hm => ?_) (by rw [List.length_set]; exact hi) ?_
  · have hmK : m < K.length := by omega
    have hg : (K.set i k')[m]? = some K[m] := by rw [List.getElem?_set, if_neg (by omega), List.getElem?_eq_getElem hmK]
    have h4 := (kndF_none (List.getElem?_eq_getElem hmK)).1 (h1 m hmK)
    refine (kndF_none hg).2 ⟨?_, fun q hq => staF_congr cK _ _ (h4.2 q hq)⟩
    have := h4.1
    unfold kndE at this ⊢
    rw [cKt]; exact this
  · have g1 : (K.set i k')[i]? = some k' := by rw [List.getElem?_set, if_pos rfl, if_pos hi]
    unfold kndF; rw [g1]; exact h' _ cK (cKt i)
theorem kind_facts {K : List Knd} (h : prgF K = none) {i : Nat} {k : Knd} (hk : K[i]? = some k) : (k1 k = false ∧ hasK (K.take i) k.name = false ∧ k.cases.any casB = false ∧ twc k.cases k.cases.length = false ∧ k.cases.length ≤ 8 ∧ 1 ≤ k.states.length ∧ k.states.length ≤ 8) ∧ ∀ j, j < k.states.length → staF K k.states j = none := by
  rw [prgF_none] at h
  obtain ⟨hi, hk'⟩ := List.getElem?_eq_some_iff.1 hk
  have h4 := (kndF_none hk).1 (h.2 i hi)
  rw [kndE_zero] at h4
  obtain ⟨⟨a, b, c, d, e⟩, f⟩ := h4
  unfold k3 at c
  simp at c
  exact ⟨⟨a, b, d, e, by omega, by omega, by omega⟩, f⟩
theorem twice_state {K : List Knd} (h : prgF K = none) {i : Nat} {k : Knd} (hk : K[i]? = some k) {s : Sta} (hs : k.states[0]? = some s) (sa : Option Addr) (sc : Nat) :
    prgF (K.set i { k with sa := sa, sc := sc, states := k.states ++ [s] }) = if k.states.length = 8 then some (40, [((i + 1 : Nat) : Int)]) else some (41, [((i + 1 : Nat) : Int), ((k.states.length + 1 : Nat) : Int)]) := by
  obtain ⟨⟨a, b, d, e, f, g, g'⟩, hst⟩ := kind_facts h hk
  have hin : s ∈ k.states := List.mem_of_getElem? hs
  obtain ⟨hs0, hs'⟩ := List.getElem?_eq_some_iff.1 hs
  have cS : ∀ nm, hasS (k.states ++ [s]) nm = hasS k.states nm := hasS_congr (fun nm => by
    rw [List.map_append, List.mem_append]
    constructor
    · rintro (h | h)
      · exact h
      · simp only [List.map_cons, List.map_nil, List.mem_singleton] at h; subst h; exact List.mem_map_of_mem hin
    · exact .inl)
  split
  · rename_i e8
    refine in_kind (k' := { k with sa := sa, sc := sc, states := k.states ++ [s] }) h hk rfl fun Q hQ hQt => ?_
    have e2 : kndE Q i { k with sa := sa, sc := sc, states := k.states ++ [s] } = 40 := by
      unfold kndE
      rw [show k1 { k with sa := sa, sc := sc, states := k.states ++ [s] } = false from a, show hasK (Q.take i) _ = false by rw [hQt]; exact b, show k3 { k with sa := sa, sc := sc, states := k.states ++ [s] } = true by unfold k3; simp; omega]
      rfl
    rw [e2]; exact within_own (by decide)
  · rename_i e8
    refine in_kind (k' := { k with sa := sa, sc := sc, states := k.states ++ [s] }) h hk rfl fun Q hQ hQt => ?_
    refine within_at ?_ (fun m hm => ?_) (by simp) ?_
    · rw [kndE_zero]
      refine ⟨a, by rw [hQt]; exact b, ?_, d, e⟩
      unfold k3; simp; omega
    · have hg : (k.states ++ [s])[m]? = some k.states[m] := by rw [List.getElem?_append_left hm, List.getElem?_eq_getElem hm]
      have h4 := (staF_none (List.getElem?_eq_getElem hm)).1 (hst m hm)
      refine (staF_none hg).2 ⟨?_, fun r hr => (rowG_congr hQ cS).2 (h4.2.1 r hr), h4.2.2⟩
      have := h4.1
      rw [staE_zero] at this ⊢
      rw [List.take_append_of_le_length (by omega)]; exact this
    · have hg : (k.states ++ [s])[k.states.length]? = some s := by rw [List.getElem?_append_right (Nat.le_refl _), Nat.sub_self]; rfl
      unfold staF; rw [hg]; simp only
      have h4 := (staF_none hs).1 (hst 0 hs0)
      rw [staE_zero] at h4
      have e2 : staE (k.states ++ [s]) k.states.length s = 41 := by
        unfold staE
        rw [h4.1.1, List.take_append_of_le_length (Nat.le_refl _), List.take_length, hasS_iff.2 (List.mem_map_of_mem hin)]
        rfl
      rw [e2]; exact within_own (by decide)
theorem twice_row {K : List Knd} (h : prgF K = none) {i : Nat} {k : Knd} (hk : K[i]? = some k) {s : Sta} {S : List Sta} (hs : k.states = s :: S) {r : Row} (hr : s.rows[0]? = some r) (sa ra : Option Addr) (sc rc : Nat) :
    prgF (K.set i { k with sa := sa, sc := sc, states := { s with ra := ra, rc := rc, rows := s.rows ++ [r] } :: S }) = if s.rows.length = 16 then some (40, [((i + 1 : Nat) : Int), 1]) else some (41, [((i + 1 : Nat) : Int), 1, ((s.rows.length + 1 : Nat) : Int)]) := by
  obtain ⟨⟨a, b, d, e, f, g, g'⟩, hst⟩ := kind_facts h hk
  have hs0 : k.states[0]? = some s := by rw [hs]; rfl
  have h4 := (staF_none hs0).1 (hst 0 (by omega))
  rw [staE_zero] at h4
  obtain ⟨⟨n1, _, n3⟩, n4, n5⟩ := h4
  simp at n3
  have hin : r ∈ s.rows := List.mem_of_getElem? hr
  obtain ⟨hr0, hr'⟩ := List.getElem?_eq_some_iff.1 hr
  have cS : ∀ nm, hasS (({ s with ra := ra, rc := rc, rows := s.rows ++ [r] } : Sta) :: S) nm = hasS k.states nm := hasS_congr (fun nm => by rw [hs]; rfl)
  have key : ∀ Q : List Knd, (∀ nm, hasK Q nm = hasK K nm) → (∀ nm, hasK (Q.take i) nm = hasK (K.take i) nm) → withinP (kndE Q i { k with sa := sa, sc := sc, states := { s with ra := ra, rc := rc, rows := s.rows ++ [r] } :: S }) (({ s with ra := ra, rc := rc, rows := s.rows ++ [r] } : Sta) :: S).length (staF Q ({ s with ra := ra, rc := rc, rows := s.rows ++ [r] } :: S)) = if s.rows.length = 16 then some (40, [1]) else some (41, [1, ((s.rows.length + 1 : Nat) : Int)]) := by
   intro Q hQ hQt
   have k0 : kndE Q i { k with sa := sa, sc := sc, states := { s with ra := ra, rc := rc, rows := s.rows ++ [r] } :: S } = 0 := by
     rw [kndE_zero]
     refine ⟨a, by rw [hQt]; exact b, ?_, d, e⟩
     have : k.states.length = S.length + 1 := by rw [hs]; rfl
     unfold k3; simp; omega
   split
   · rename_i e16
     refine within_at (us := []) k0 (fun m hm => absurd hm (by omega)) (by simp) ?_
     unfold staF
     simp only [List.getElem?_cons_zero]
     have e2 : staE ({ s with ra := ra, rc := rc, rows := s.rows ++ [r] } :: S) 0 { s with ra := ra, rc := rc, rows := s.rows ++ [r] } = 40 := by
       unfold staE
       simp only [n1, List.take_zero, List.length_append, e16]
       rfl
     rw [e2]; exact within_own (by decide)
   · rename_i e16
     refine within_at (us := [((s.rows.length + 1 : Nat) : Int)]) k0 (fun m hm => absurd hm (by omega)) (by simp) ?_
     unfold staF
     simp only [List.getElem?_cons_zero]
     refine within_at ?_ (fun m hm => ?_) (by simp) ?_
     · rw [staE_zero]
       refine ⟨n1, rfl, ?_⟩
       simp; omega
     · have hg : (s.rows ++ [r])[m]? = some s.rows[m] := by rw [List.getElem?_append_left hm, List.getElem?_eq_getElem hm]
       rw [rowF_none hg]
       refine ⟨(rowG_congr hQ cS).2 (n4 _ (List.getElem_mem hm)), ?_⟩
       have := ((rowF_none (K := K) (S := k.states) (List.getElem?_eq_getElem hm)).1 ((rows_none.2 ⟨n4, n5⟩) m hm)).2
       rw [List.take_append_of_le_length (by omega)]; exact this
     · have hg : (s.rows ++ [r])[s.rows.length]? = some r := by rw [List.getElem?_append_right (Nat.le_refl _), Nat.sub_self]; rfl
       unfold rowF; rw [hg]; simp only
       have h5 := (n4 r hin).1
       have e2 : rowE (s.rows ++ [r]) s.rows.length r = 41 := by
         unfold rowE
         rw [h5.1, List.take_append_of_le_length (Nat.le_refl _), List.take_length]
         have : (s.rows.any fun o => sameR o r) = true := List.any_eq_true.2 ⟨r, hin, by unfold sameR; simp⟩
         rw [this]; rfl
       rw [e2]; exact within_own (by decide)
  by_cases e16 : s.rows.length = 16
  · rw [if_pos e16]
    exact in_kind (k' := { k with sa := sa, sc := sc, states := { s with ra := ra, rc := rc, rows := s.rows ++ [r] } :: S }) h hk rfl fun Q hQ hQt => (key Q hQ hQt).trans (if_pos e16)
  · rw [if_neg e16]
    exact in_kind (k' := { k with sa := sa, sc := sc, states := { s with ra := ra, rc := rc, rows := s.rows ++ [r] } :: S }) h hk rfl fun Q hQ hQt => (key Q hQ hQt).trans (if_neg e16)
end Go.L.Pg
