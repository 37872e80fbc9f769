/-
  Lines of events, on paper: words taken one by one. Own work; no program.
-/
import Derived.Test.YtcglaiacohkaeaaDoorScrE
import Derived.Test.YtcglaiacohkaeaaDoorScrR
set_option linter.unusedSimpArgs false
set_option linter.unusedVariables false
set_option linter.unusedSectionVars false
namespace Go.L.Sc
open Go.L Go.L.Lx Go.L.Pa
def trimS (s : By) : By := if ([45] : By).isPrefixOf s then s.drop 1 else s
theorem trim_name {s : By} (h : isName s = true) : trimS s = s := by
  unfold trimS
  cases s with
  | nil => rfl
  | cons c r =>
    rw [if_neg]
    intro h2
    have h3 : (45 : UInt8) = c := by simpa [List.isPrefixOf] using h2
    subst h3
    unfold isName at h
    simp only [Bool.and_eq_true] at h
    exact absurd h.1.1 (by decide)
/-- the letters of an event's form, one by one -/
def runV : By → Evt → Om → Evt × Om
  | [], e, ω => (e, ω)
  | c :: cs, e, ω =>
    if c.toNat = 82 then runV cs { e with name := trimS (takeV ω) } (nameS1 ω)
    else if c.toNat = 77 then runV cs { e with name := takeV ω } (nameS ω)
    else if c.toNat = 105 then runV cs { e with id := (numR 0 big50 ω).toNat } (numS 0 big50 ω)
    else runV cs (if c.toNat = 65 then { e with actor := numR (-65535) 65535 ω } else if c.toNat = 70 then { e with from' := numR (-65535) 65535 ω } else if c.toNat = 84 then { e with to := numR (-65535) 65535 ω } else if c.toNat = 87 then { e with why := numR (-65535) 65535 ω } else { e with n := numR (-65535) 65535 ω }) (numS (-65535) 65535 ω)
def timedS (x : Evt × Om) : Evt × Om := if x.1.kind = 2 ∧ x.2.1 ≠ [] then ({ x.1 with timed := true }, if x.2.2 = true then x.2 else (x.2.1.tail, !decide (takeV x.2 = wTimed))) else x
def endV (x : Evt × Om) : Option Evt := if doneB (timedS x).2 = true then some (timedS x).1 else none
theorem endV_bad (e : Evt) (ws : List By) : endV (e, (ws, true)) = none := by
  unfold endV timedS
  by_cases h : e.kind = 2 ∧ ws ≠ []
  · rw [if_pos h, if_pos rfl]; rfl
  · rw [if_neg h]; rfl
theorem runV_bad : ∀ (cs : By) (e : Evt) (ws : List By), (runV cs e (ws, true)).2.2 = true
  | [], e, ws => rfl
  | c :: cs, e, ws => by
    have k1 : ∀ lo hi, (numS lo hi (ws, true)) = (ws.tail, true) := fun lo hi => by unfold numS takeS; simp
    have k2 : (nameS (ws, true)) = (ws.tail, true) := by unfold nameS takeS; simp
    have k3 : (nameS1 (ws, true)) = (ws.tail, true) := by unfold nameS1 takeS; simp
    unfold runV
    split
    · rw [k3]; exact runV_bad cs _ _
    · split
      · rw [k2]; exact runV_bad cs _ _
      · split
        · rw [k1]; exact runV_bad cs _ _
        · rw [k1]; exact runV_bad cs _ _
theorem endV_run_bad (cs : By) (e : Evt) (ws : List By) : endV (runV cs e (ws, true)) = none := by
  have h := runV_bad cs e ws
  generalize runV cs e (ws, true) = x at h ⊢
  obtain ⟨e', ws', b⟩ := x
  obtain rfl : b = true := h
  exact endV_bad e' ws'
theorem runV_eq : ∀ (cs : By) (e : Evt) (ws : List By), endV (runV cs e (ws, false)) = partsV cs ws e
  | [], e, ws => by
    show endV (e, (ws, false)) = _
    unfold endV timedS
    by_cases h : e.kind = 2 ∧ ws ≠ []
    · rw [if_pos h]
      cases ws with
      | nil => exact absurd rfl h.2
      | cons w ws =>
        show (if doneB (ws, !decide (w = wTimed)) = true then some _ else none) = _
        cases ws with
        | nil =>
          show _ = if e.kind = 2 ∧ w = wTimed then some { e with timed := true } else none
          by_cases hw : w = wTimed
          · refine Eq.trans ?_ (if_pos ⟨h.1, hw⟩).symm
            rw [decide_eq_true hw]; rfl
          · refine Eq.trans ?_ (if_neg (fun h2 => hw (And.right h2))).symm
            rw [decide_eq_false hw]; rfl
        | cons v ws =>
          cases decide (w = wTimed) <;> rfl
    · rw [if_neg h]
      cases ws with
      | nil => rfl
      | cons w ws =>
        have hk : ¬ e.kind = 2 := fun h2 => h ⟨h2, by simp⟩
        have h1 : doneB (w :: ws, false) = false := rfl
        rw [h1, if_neg (by decide)]
        cases ws with
        | nil =>
          show _ = if e.kind = 2 ∧ w = wTimed then some { e with timed := true } else none
          rw [if_neg (fun h2 => hk h2.1)]
        | cons v ws => rfl
  | c :: cs, e, [] => by
    have k1 : ∀ lo hi, (numS lo hi (([] : List By), false)) = ([], true) := fun lo hi => by unfold numS takeS; simp
    have k2 : (nameS (([] : List By), false)) = ([], true) := by unfold nameS takeS; simp
    have k3 : (nameS1 (([] : List By), false)) = ([], true) := by unfold nameS1 takeS; simp
    show _ = none
    unfold runV
    split
    · rw [k3]; exact endV_run_bad cs _ _
    · split
      · rw [k2]; exact endV_run_bad cs _ _
      · split
        · rw [k1]; exact endV_run_bad cs _ _
        · rw [k1]; exact endV_run_bad cs _ _
  | c :: cs, e, w :: ws => by
    have k1 : ∀ lo hi, (numS lo hi (w :: ws, false)) = (ws, (numV lo hi w).isNone) := fun lo hi => by unfold numS takeS takeV; simp
    have k2 : (nameS (w :: ws, false)) = (ws, !isName w) := by unfold nameS takeS takeV; simp
    have k3 : (nameS1 (w :: ws, false)) = (ws, !(decide (w = wDash) || isName w)) := by unfold nameS1 takeS takeV; simp
    have k4 : ∀ lo hi, numR lo hi (w :: ws, false) = (numV lo hi w).getD 0 := fun _ _ => rfl
    have k5 : takeV (w :: ws, false) = w := rfl
    show _ = (partV c w e).bind (partsV cs ws)
    unfold runV partV
    by_cases h1 : c.toNat = 82
    · rw [if_pos h1, k3, k5]
      by_cases hd : w = wDash
      · rw [if_pos ⟨h1, hd⟩, decide_eq_true hd]
        have : trimS w = [] := by rw [hd]; rfl
        rw [this]
        exact runV_eq cs _ ws
      · rw [if_neg (fun h => hd h.2), if_pos (.inr h1), decide_eq_false hd]
        cases hn : isName w with
        | true => rw [trim_name hn]; exact runV_eq cs _ ws
        | false => exact endV_run_bad cs _ ws
    · rw [if_neg h1]
      by_cases h2 : c.toNat = 77
      · rw [if_pos h2, if_neg (fun h => h1 (And.left h)), if_pos (.inl h2), k2, k5]
        cases hn : isName w with
        | true => exact runV_eq cs _ ws
        | false => exact endV_run_bad cs _ ws
      · rw [if_neg h2, if_neg (fun h => h1 (And.left h)), if_neg (fun h => Or.elim h h2 h1)]
        by_cases h3 : c.toNat = 105
        · rw [if_pos h3, if_pos h3, k1, k4]
          cases numV 0 big50 w with
          | none => exact endV_run_bad cs _ ws
          | some n => exact runV_eq cs _ ws
        · rw [if_neg h3, if_neg h3, k1, k4]
          cases numV (-65535) 65535 w with
          | none => exact endV_run_bad cs _ ws
          | some n => exact runV_eq cs _ ws
theorem readV_run {l w : By} {ws : List By} (hs : splitB 32 l = w :: ws) {k : Int} (hk : kindV w = k) (h0 : k ≠ 0) : readV l = endV (runV (formV k).2 { evt0 with kind := k } (ws, false)) := by
  rw [runV_eq]; unfold readV; rw [hs]
  show wordsV w ws = _
  unfold wordsV; rw [hk, if_neg h0]
theorem readV_no {l w : By} {ws : List By} (hs : splitB 32 l = w :: ws) (hk : kindV w = 0) : readV l = none := by
  unfold readV; rw [hs]
  show wordsV w ws = _
  unfold wordsV; rw [hk, if_pos rfl]
theorem runV_kind : ∀ (cs : By) (e : Evt) (ω : Om), (runV cs e ω).1.kind = e.kind
  | [], e, ω => rfl
  | c :: cs, e, ω => by
    unfold runV
    split
    · exact runV_kind cs _ _
    · split
      · exact runV_kind cs _ _
      · split
        · exact runV_kind cs _ _
        · rw [runV_kind cs]
          (repeat' split) <;> rfl
/-! ### the verbs -/
def verbsL : List By := [[], [114, 101, 102, 117, 115, 101, 100], [115, 101, 110, 116], [115, 116, 97, 114, 116], [101, 110, 100], [115, 116, 97, 115, 104, 101, 100], [100, 101, 97, 100], [115, 112, 97, 119, 110, 101, 100], [110, 111, 114, 111, 111, 109], [102, 97, 105, 108, 101, 100], [116, 111, 108, 100], [114, 101, 115, 117, 109, 101, 100], [114, 101, 115, 116, 97, 114, 116, 101, 100], [115, 116, 111, 112, 112, 105, 110, 103], [101, 110, 100, 101, 100], [116, 105, 99, 107]]
def vb (i : Nat) : By := verbsL.getD i []
def kUp (w : By) : Nat → Int
  | 0 => 0
  | i + 1 => if 0 < i ∧ vb i = w then (i : Int) else kUp w i
theorem kUp_range (w : By) : ∀ i, 0 ≤ kUp w i ∧ kUp w i ≤ i
  | 0 => ⟨Int.le_refl _, Int.le_refl _⟩
  | i + 1 => by
    have := kUp_range w i
    unfold kUp; split <;> omega
theorem kUp_all (w : By) : kUp w 16 = kindV w := by
  have h : ∀ i, i < 16 → 0 < i → w = vb i → kUp w 16 = kindV w := by
    intro i h1 h2 rfl
    have : ∀ i, i < 16 → 0 < i → kUp (vb i) 16 = kindV (vb i) := by decide
    exact this i h1 h2
  by_cases hx : ∃ i, i < 16 ∧ 0 < i ∧ w = vb i
  · obtain ⟨i, h1, h2, h3⟩ := hx; exact h i h1 h2 h3
  · have hn : ∀ i, i < 16 → 0 < i → ¬ w = vb i := fun i h1 h2 h3 => hx ⟨i, h1, h2, h3⟩
    have h0 : ∀ j, j ≤ 16 → kUp w j = 0 := by
      intro j
      induction j with
      | zero => intro _; rfl
      | succ j ih =>
        intro hj
        unfold kUp
        rw [if_neg (fun h3 => hn j (by omega) h3.1 h3.2.symm)]
        exact ih (by omega)
    rw [h0 16 (Nat.le_refl _)]
    unfold kindV
    rw [if_neg (show ¬ w = [114, 101, 102, 117, 115, 101, 100] from hn 1 (by omega) (by omega)), if_neg (show ¬ w = [115, 101, 110, 116] from hn 2 (by omega) (by omega)), if_neg (show ¬ w = [115, 116, 97, 114, 116] from hn 3 (by omega) (by omega)), if_neg (show ¬ w = [101, 110, 100] from hn 4 (by omega) (by omega)), if_neg (show ¬ w = [115, 116, 97, 115, 104, 101, 100] from hn 5 (by omega) (by omega)), if_neg (show ¬ w = [100, 101, 97, 100] from hn 6 (by omega) (by omega)), if_neg (show ¬ w = [115, 112, 97, 119, 110, 101, 100] from hn 7 (by omega) (by omega)), if_neg (show ¬ w = [110, 111, 114, 111, 111, 109] from hn 8 (by omega) (by omega)), if_neg (show ¬ w = [102, 97, 105, 108, 101, 100] from hn 9 (by omega) (by omega)), if_neg (show ¬ w = [116, 111, 108, 100] from hn 10 (by omega) (by omega)), if_neg (show ¬ w = [114, 101, 115, 117, 109, 101, 100] from hn 11 (by omega) (by omega)), if_neg (show ¬ w = [114, 101, 115, 116, 97, 114, 116, 101, 100] from hn 12 (by omega) (by omega)), if_neg (show ¬ w = [115, 116, 111, 112, 112, 105, 110, 103] from hn 13 (by omega) (by omega)), if_neg (show ¬ w = [101, 110, 100, 101, 100] from hn 14 (by omega) (by omega)), if_neg (show ¬ w = [116, 105, 99, 107] from hn 15 (by omega) (by omega))]
/-- what stands behind an event's actor -/
def restF (k : Int) : By := if k = 4 then [105, 77] else if k = 3 ∨ k = 5 then [105] else if k = 10 then [70, 87, 77] else if k = 7 then [70, 77] else if k = 8 ∨ k = 9 then [77] else []
theorem form_rest {k : Int} (h : 1 ≤ k ∧ k ≤ 15) (h1 : k ≠ 1) (h2 : k ≠ 2) (h6 : k ≠ 6) (h15 : k ≠ 15) : (formV k).2 = 65 :: restF k := by
  obtain ⟨n, rfl⟩ : ∃ n : Nat, k = n := ⟨k.toNat, by omega⟩
  have : ∀ n : Nat, n < 16 → (1 ≤ n ∧ n ≠ 1 ∧ n ≠ 2 ∧ n ≠ 6 ∧ n ≠ 15) → (formV n).2 = 65 :: restF n := by decide
  exact this n (by omega) (by omega)
end Go.L.Sc
