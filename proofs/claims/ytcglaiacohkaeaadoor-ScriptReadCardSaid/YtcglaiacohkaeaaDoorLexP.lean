/-
  The text's tokens on paper: one reading, byte by byte. Own work; no program.
-/
import Derived.Test.YtcglaiacohkaeaaDoorCore
set_option linter.unusedSimpArgs false
set_option linter.unusedVariables false
set_option linter.unusedSectionVars false
namespace Go.L.Lx
abbrev By := List UInt8
structure Tk where
  kind : Nat
  text : By
  n : Nat
  at' : Nat
deriving DecidableEq, Inhabited
def isBlank (c : UInt8) : Bool := decide (c.toNat = 9 ∨ c.toNat = 10 ∨ c.toNat = 13 ∨ c.toNat = 32)
def isLet (c : UInt8) : Bool := decide (97 ≤ c.toNat ∧ c.toNat ≤ 122)
def isDig (c : UInt8) : Bool := decide (48 ≤ c.toNat ∧ c.toNat ≤ 57)
def isIn (c : UInt8) : Bool := decide ((97 ≤ c.toNat ∧ c.toNat ≤ 122) ∨ (48 ≤ c.toNat ∧ c.toNat ≤ 57) ∨ c.toNat = 95)
def isSign (c : UInt8) : Bool := decide (c.toNat = 123 ∨ c.toNat = 125 ∨ c.toNat = 59)
def notNl (c : UInt8) : Bool := decide (c.toNat ≠ 10)
/-- how many bytes at the front are of a kind -/
def spn (p : UInt8 → Bool) : By → Nat
  | [] => 0
  | c :: l => if p c then spn p l + 1 else 0
theorem spn_le (p : UInt8 → Bool) : ∀ l : By, spn p l ≤ l.length
  | [] => Nat.le_refl _
  | c :: l => by have := spn_le p l; simp only [spn, List.length_cons]; split <;> omega
theorem spn_cons {p : UInt8 → Bool} {c : UInt8} {l : By} (h : p c = true) : spn p (c :: l) = spn p l + 1 := by simp [spn, h]
theorem spn_zero {p : UInt8 → Bool} {c : UInt8} {l : By} (h : p c = false) : spn p (c :: l) = 0 := by simp [spn, h]
theorem spn_take (p : UInt8 → Bool) : ∀ (l : By), ∀ x ∈ l.take (spn p l), p x = true
  | [], x, h => by simp [spn] at h
  | c :: l, x, h => by
    cases hc : p c with
    | true =>
      rw [spn_cons hc, List.take_succ_cons] at h
      rcases List.mem_cons.1 h with e | e
      · subst e; exact hc
      · exact spn_take p l x e
    | false => rw [spn_zero hc] at h; simp at h
theorem spn_app {p : UInt8 → Bool} : ∀ (a b : By), (∀ x ∈ a, p x = true) → spn p (a ++ b) = a.length + spn p b
  | [], b, _ => by simp
  | c :: a, b, h => by
    have := spn_app a b (fun x hx => h x (List.mem_cons_of_mem _ hx))
    rw [List.cons_append, spn_cons (h c List.mem_cons_self), this, List.length_cons]; omega
theorem spn_stop {p : UInt8 → Bool} {d : UInt8} (hd : p d = false) : ∀ (a b : By), spn p (a ++ d :: b) = spn p a
  | [], b => by simp [spn, hd]
  | c :: a, b => by
    simp only [List.cons_append, spn]; split
    · rw [spn_stop hd a b]
    · rfl
theorem drop_at {l : By} {j : Nat} {c : UInt8} (h : l[j]? = some c) : l.drop j = c :: l.drop (j + 1) := by
  obtain ⟨hj, e⟩ := List.getElem?_eq_some_iff.1 h
  rw [List.drop_eq_getElem_cons hj, e]
theorem spn_step {p : UInt8 → Bool} {l : By} {j : Nat} {c : UInt8} (h : l[j]? = some c) (hp : p c = true) : spn p (l.drop j) = spn p (l.drop (j + 1)) + 1 := by rw [drop_at h, spn_cons hp]
theorem spn_no {p : UInt8 → Bool} {l : By} {j : Nat} {c : UInt8} (h : l[j]? = some c) (hp : p c = false) : spn p (l.drop j) = 0 := by rw [drop_at h, spn_zero hp]
theorem spn_end {p : UInt8 → Bool} {l : By} {j : Nat} (h : l.length ≤ j) : spn p (l.drop j) = 0 := by rw [List.drop_eq_nil_of_le h]; rfl
def nextIn : By → Bool
  | [] => false
  | c :: _ => isIn c
theorem spn_next {p : UInt8 → Bool} (hp : ∀ c, isIn c = false → p c = false) {l : By} (h : nextIn l = false) : spn p l = 0 := by
  cases l with
  | nil => rfl
  | cons c l => exact spn_zero (hp c h)
theorem dig_in {c : UInt8} (h : isIn c = false) : isDig c = false := by
  unfold isIn at h; unfold isDig; simp only [decide_eq_false_iff_not] at *; omega
theorem let_in {c : UInt8} (h : isLet c = true) : isIn c = true := by
  unfold isLet at h; unfold isIn; simp only [decide_eq_true_eq] at *; omega
/-- digits as a number, as far as 65536 -/
def numG (a : Nat) : By → Nat
  | [] => a
  | c :: l => numG (min (10 * a + (c.toNat - 48)) 65536) l
def num (l : By) : Nat := numG 0 l
theorem numG_snoc : ∀ (l : By) (a : Nat) (c : UInt8), numG a (l ++ [c]) = min (10 * numG a l + (c.toNat - 48)) 65536
  | [], _, _ => rfl
  | d :: l, a, c => numG_snoc l _ c
theorem num_snoc (l : By) (c : UInt8) : num (l ++ [c]) = min (10 * num l + (c.toNat - 48)) 65536 := numG_snoc l 0 c
theorem numG_le : ∀ (l : By) (a : Nat), a ≤ 65536 → numG a l ≤ 65536
  | [], _, h => h
  | _ :: l, _, _ => numG_le l _ (Nat.min_le_right _ _)
theorem num_le (l : By) : num l ≤ 65536 := numG_le l 0 (by omega)
theorem num_zero (l : By) : num (48 :: l) = num l := rfl
abbrev Err := Nat × Nat
def tok (p : Nat) : By → Except Err Tk
  | [] => .error (20, p)
  | c :: r =>
    if isLet c then (if 16 < spn isIn (c :: r) then .error (22, p) else .ok ⟨1, (c :: r).take (spn isIn (c :: r)), 0, p⟩)
    else if isDig c then
      (if 65535 < num ((c :: r).take (spn isDig (c :: r))) ∨ nextIn ((c :: r).drop (spn isDig (c :: r))) = true then .error (21, p)
       else .ok ⟨2, (c :: r).take (spn isDig (c :: r)), num ((c :: r).take (spn isDig (c :: r))), p⟩)
    else if isSign c then .ok ⟨3, [c], 0, p⟩
    else .error (20, p)
theorem tok_eq (p : Nat) (c : UInt8) (r : By) : tok p (c :: r) = if isLet c then (if 16 < spn isIn (c :: r) then .error (22, p) else .ok ⟨1, (c :: r).take (spn isIn (c :: r)), 0, p⟩)
    else if isDig c then
      (if 65535 < num ((c :: r).take (spn isDig (c :: r))) ∨ nextIn ((c :: r).drop (spn isDig (c :: r))) = true then .error (21, p)
       else .ok ⟨2, (c :: r).take (spn isDig (c :: r)), num ((c :: r).take (spn isDig (c :: r))), p⟩)
    else if isSign c then .ok ⟨3, [c], 0, p⟩
    else .error (20, p) := rfl
abbrev Res := Except Err (List Tk)
def pre (X : List Tk) : Res → Res
  | .ok l => .ok (X ++ l)
  | .error e => .error e
theorem pre_nil (r : Res) : pre [] r = r := by cases r <;> rfl
theorem pre_pre (X Y : List Tk) (r : Res) : pre X (pre Y r) = pre (X ++ Y) r := by cases r <;> simp [pre]
theorem pre_ok {X T : List Tk} {r : Res} (h : pre X r = .ok T) : ∃ Y, r = .ok Y ∧ T = X ++ Y := by
  cases r with
  | ok l => simp only [pre, Except.ok.injEq] at h; exact ⟨l, rfl, h.symm⟩
  | error e => cases h
theorem pre_err {X : List Tk} {r : Res} {e : Err} (h : pre X r = .error e) : r = .error e := by
  cases r with
  | ok l => cases h
  | error e => exact h
/-- a text's tokens, from a place on -/
def lex (p : Nat) (l : By) : Res :=
  match l with
  | [] => .ok []
  | c :: r =>
    if isBlank c then lex (p + 1) r
    else if c.toNat = 35 then lex (p + 1 + spn notNl r) (r.drop (spn notNl r))
    else match tok p (c :: r) with
      | .error e => .error e
      | .ok t => pre [t] (lex (p + t.text.length) (r.drop (t.text.length - 1)))
termination_by l.length
decreasing_by all_goals (simp only [List.length_cons, List.length_drop]; omega)
def lexAll (l : By) : Res := if 16384 < l.length then .error (5, 0) else lex 0 l
theorem lex_nil (p : Nat) : lex p [] = .ok [] := by rw [lex]
theorem lex_blank {p : Nat} {c : UInt8} {r : By} (h : isBlank c = true) : lex p (c :: r) = lex (p + 1) r := by rw [lex, if_pos h]
theorem blank_hash {c : UInt8} (h : c.toNat = 35) : isBlank c = false := by unfold isBlank; simp only [decide_eq_false_iff_not]; omega
theorem lex_hash {p : Nat} {c : UInt8} {r : By} (h : c.toNat = 35) : lex p (c :: r) = lex (p + 1 + spn notNl r) (r.drop (spn notNl r)) := by
  rw [lex, if_neg (by rw [blank_hash h]; decide), if_pos h]
theorem lex_err {p : Nat} {c : UInt8} {r : By} {e : Err} (h1 : isBlank c = false) (h2 : c.toNat ≠ 35) (h : tok p (c :: r) = .error e) : lex p (c :: r) = .error e := by
  rw [lex, if_neg (by rw [h1]; decide), if_neg h2, h]
theorem lex_ok {p : Nat} {c : UInt8} {r : By} {t : Tk} (h1 : isBlank c = false) (h2 : c.toNat ≠ 35) (h : tok p (c :: r) = .ok t) : lex p (c :: r) = pre [t] (lex (p + t.text.length) (r.drop (t.text.length - 1))) := by
  rw [lex, if_neg (by rw [h1]; decide), if_neg h2, h]
/-- what a token is -/
theorem tok_cases {p : Nat} {c : UInt8} {r : By} {t : Tk} (h : tok p (c :: r) = .ok t) :
    (isLet c = true ∧ spn isIn (c :: r) ≤ 16 ∧ t = ⟨1, (c :: r).take (spn isIn (c :: r)), 0, p⟩) ∨
    (isLet c = false ∧ isDig c = true ∧ num ((c :: r).take (spn isDig (c :: r))) ≤ 65535 ∧ nextIn ((c :: r).drop (spn isDig (c :: r))) = false ∧ t = ⟨2, (c :: r).take (spn isDig (c :: r)), num ((c :: r).take (spn isDig (c :: r))), p⟩) ∨
    (isLet c = false ∧ isDig c = false ∧ isSign c = true ∧ t = ⟨3, [c], 0, p⟩) := by
  rw [tok_eq] at h
  split at h
  · rename_i h1
    split at h
    · cases h
    · rename_i h2; injection h with h; exact .inl ⟨h1, by omega, h.symm⟩
  · rename_i h1
    have h1' : isLet c = false := by simpa using h1
    split at h
    · rename_i h2
      split at h
      · cases h
      · rename_i h3
        injection h with h
        simp only [not_or, Bool.not_eq_true] at h3
        exact .inr (.inl ⟨h1', h2, by omega, h3.2, h.symm⟩)
    · rename_i h2
      have h2' : isDig c = false := by simpa using h2
      split at h
      · rename_i h3; injection h with h; exact .inr (.inr ⟨h1', h2', h3, h.symm⟩)
      · cases h
theorem tok_text {p : Nat} {c : UInt8} {r : By} {t : Tk} (h : tok p (c :: r) = .ok t) : t.at' = p ∧ 1 ≤ t.text.length ∧ t.text.length ≤ r.length + 1 ∧ t.text = (c :: r).take t.text.length := by
  have hl1 := spn_le isIn (c :: r); have hl2 := spn_le isDig (c :: r)
  simp only [List.length_cons] at hl1 hl2
  rcases tok_cases h with ⟨h1, h2, rfl⟩ | ⟨h1, h2, h3, h4, rfl⟩ | ⟨h1, h2, h3, rfl⟩
  · have := spn_cons (p := isIn) (l := r) (let_in h1)
    exact ⟨rfl, by simp only [List.length_take, List.length_cons]; omega, by simp only [List.length_take, List.length_cons]; omega, by simp only [List.length_take, List.length_cons]; rw [Nat.min_eq_left hl1]⟩
  · have := spn_cons (p := isDig) (l := r) h2
    exact ⟨rfl, by simp only [List.length_take, List.length_cons]; omega, by simp only [List.length_take, List.length_cons]; omega, by simp only [List.length_take, List.length_cons]; rw [Nat.min_eq_left hl2]⟩
  · exact ⟨rfl, by simp, by simp, by simp⟩
theorem lex_ok' {p : Nat} {c : UInt8} {r : By} {t : Tk} (h1 : isBlank c = false) (h2 : c.toNat ≠ 35) (h : tok p (c :: r) = .ok t) : lex p (c :: r) = pre [t] (lex (p + t.text.length) ((c :: r).drop t.text.length)) := by
  rw [lex_ok h1 h2 h]
  obtain ⟨_, h3, _, _⟩ := tok_text h
  rw [show (c :: r).drop t.text.length = r.drop (t.text.length - 1) by
    obtain ⟨k, hk⟩ : ∃ k, t.text.length = k + 1 := ⟨t.text.length - 1, by omega⟩
    rw [hk]; rfl]
theorem blank_no {c : UInt8} (h : isLet c = true ∨ isDig c = true ∨ isSign c = true) : isBlank c = false ∧ c.toNat ≠ 35 := by
  unfold isLet isDig isSign at h; unfold isBlank; simp only [decide_eq_true_eq, decide_eq_false_iff_not] at *; omega
theorem tok_head {p : Nat} {c : UInt8} {r : By} {t : Tk} (h : tok p (c :: r) = .ok t) : isBlank c = false ∧ c.toNat ≠ 35 := by
  rcases tok_cases h with ⟨h1, h2, rfl⟩ | ⟨h1, h2, h3, h4, rfl⟩ | ⟨h1, h2, h3, rfl⟩
  · exact blank_no (.inl h1)
  · exact blank_no (.inr (.inl h2))
  · exact blank_no (.inr (.inr h3))
/-! ### a token by itself -/
def Good (t : Tk) : Prop := ∀ (q : Nat) (r : By), nextIn r = false → tok q (t.text ++ r) = .ok { t with at' := q }
theorem tok_good {p : Nat} {l : By} {t : Tk} (h : tok p l = .ok t) : Good t ∧ ∃ c s, t.text = c :: s ∧ isBlank c = false ∧ c.toNat ≠ 35 := by
  cases l with
  | nil => cases h
  | cons c r =>
    have hh := tok_head h
    obtain ⟨_, hl, _, ht⟩ := tok_text h
    refine ⟨?_, c, t.text.tail, ?_, hh⟩
    · intro q r' hr
      rcases tok_cases h with ⟨h1, h2, rfl⟩ | ⟨h1, h2, h3, h4, rfl⟩ | ⟨h1, h2, h3, rfl⟩
      · have hall := spn_take isIn (c :: r)
        have hlen : ((c :: r).take (spn isIn (c :: r))).length = spn isIn (c :: r) := by rw [List.length_take]; exact Nat.min_eq_left (spn_le _ _)
        have h5 : spn isIn ((c :: r).take (spn isIn (c :: r)) ++ r') = spn isIn (c :: r) := by rw [spn_app _ _ hall, spn_next (fun _ h => h) hr, hlen]; omega
        obtain ⟨s, hs⟩ : ∃ s, (c :: r).take (spn isIn (c :: r)) = c :: s := ⟨r.take (spn isIn r), by rw [spn_cons (let_in h1), List.take_succ_cons]⟩
        simp only
        rw [hs] at h5 hlen ⊢
        rw [List.cons_append] at h5 ⊢
        rw [tok_eq]
        rw [if_pos h1, if_neg (by omega), h5, ← hlen, ← List.cons_append, List.take_left]
      · have hall := spn_take isDig (c :: r)
        have hlen : ((c :: r).take (spn isDig (c :: r))).length = spn isDig (c :: r) := by rw [List.length_take]; exact Nat.min_eq_left (spn_le _ _)
        have h5 : spn isDig ((c :: r).take (spn isDig (c :: r)) ++ r') = spn isDig (c :: r) := by rw [spn_app _ _ hall, spn_next (fun _ h => dig_in h) hr, hlen]; omega
        obtain ⟨s, hs⟩ : ∃ s, (c :: r).take (spn isDig (c :: r)) = c :: s := ⟨r.take (spn isDig r), by rw [spn_cons h2, List.take_succ_cons]⟩
        simp only
        rw [hs] at h3 h5 hlen ⊢
        rw [List.cons_append] at h5 ⊢
        rw [tok_eq]
        rw [if_neg (by rw [h1]; decide), if_pos h2, h5, ← hlen, ← List.cons_append, List.take_left, List.drop_left, if_neg (by rw [hr]; simp; omega)]
      · simp only [List.cons_append, List.nil_append]
        rw [tok_eq]
        rw [if_neg (by rw [h1]; decide), if_neg (by rw [h2]; decide), if_pos h3]
    · rw [ht]
      obtain ⟨k, hk⟩ : ∃ k, t.text.length = k + 1 := ⟨t.text.length - 1, by omega⟩
      rw [hk, List.take_succ_cons]; simp
def GoodT (t : Tk) : Prop := Good t ∧ ∃ c s, t.text = c :: s ∧ isBlank c = false ∧ c.toNat ≠ 35
theorem lex_front {t : Tk} (hg : GoodT t) (q : Nat) (r : By) (hr : nextIn r = false) : lex q (t.text ++ r) = pre [{ t with at' := q }] (lex (q + t.text.length) r) := by
  obtain ⟨h1, c, s, h2, h3, h4⟩ := hg
  have h5 := h1 q r hr
  rw [h2, List.cons_append] at h5 ⊢
  rw [lex_ok' h3 h4 h5]
  simp only [h2]
  rw [← List.cons_append, List.drop_left]
theorem lex_alone {t : Tk} (hg : GoodT t) : lex 0 t.text = .ok [{ t with at' := 0 }] := by
  have := lex_front hg 0 [] rfl
  rw [List.append_nil, lex_nil] at this; exact this
/-! ### all that lex gives -/
theorem lex_ind {P : Nat → By → Prop} (nil : ∀ p, P p []) (blank : ∀ p c r, isBlank c = true → P (p + 1) r → P p (c :: r))
    (hash : ∀ p c r, c.toNat = 35 → P (p + 1 + spn notNl r) (r.drop (spn notNl r)) → P p (c :: r))
    (err : ∀ p c r e, isBlank c = false → c.toNat ≠ 35 → tok p (c :: r) = .error e → P p (c :: r))
    (ok : ∀ p c r t, isBlank c = false → c.toNat ≠ 35 → tok p (c :: r) = .ok t → P (p + t.text.length) ((c :: r).drop t.text.length) → P p (c :: r)) : ∀ p l, P p l := by
  intro p l
  have key : ∀ m p (l : By), l.length = m → P p l := by
    intro m
    induction m using Nat.strongRecOn with
    | _ m ih =>
      intro p l hl
      cases l with
      | nil => exact nil p
      | cons c r =>
        simp only [List.length_cons] at hl
        cases hb : isBlank c with
        | true => exact blank p c r hb (ih r.length (by omega) _ _ rfl)
        | false =>
          by_cases h35 : c.toNat = 35
          · exact hash p c r h35 (ih (r.drop (spn notNl r)).length (by simp only [List.length_drop]; omega) _ _ rfl)
          · cases ht : tok p (c :: r) with
            | error e => exact err p c r e hb h35 ht
            | ok t =>
              obtain ⟨_, h1, h2, _⟩ := tok_text ht
              exact ok p c r t hb h35 ht (ih _ (by simp only [List.length_drop, List.length_cons]; omega) _ _ rfl)
  exact key _ p l rfl
theorem lex_all {Q : Tk → Prop} (hq : ∀ p l t, tok p l = .ok t → Q t) (p : Nat) (l : By) : ∀ T, lex p l = .ok T → ∀ t ∈ T, Q t := by
  refine lex_ind (P := fun p l => ∀ T, lex p l = .ok T → ∀ t ∈ T, Q t) ?_ ?_ ?_ ?_ ?_ p l
  · intro p T h t ht; rw [lex_nil] at h; injection h with h; subst h; cases ht
  · intro p c r hb ih T h; rw [lex_blank hb] at h; exact ih T h
  · intro p c r h35 ih T h; rw [lex_hash h35] at h; exact ih T h
  · intro p c r e hb h35 ht T h; rw [lex_err hb h35 ht] at h; cases h
  · intro p c r t hb h35 ht ih T h
    rw [lex_ok' hb h35 ht] at h
    obtain ⟨Y, hY, rfl⟩ := pre_ok h
    intro u hu
    rcases List.mem_cons.1 hu with rfl | hu
    · exact hq _ _ _ ht
    · exact ih Y hY u hu
theorem lex_good {p : Nat} {l : By} {T : List Tk} (h : lex p l = .ok T) : ∀ t ∈ T, GoodT t := lex_all (fun _ _ _ h => tok_good h) p l T h
/-- where tokens lie -/
def Pl : Nat → By → List Tk → Prop
  | _, _, [] => True
  | p, l, t :: T => ∃ k, t.at' = p + k ∧ 1 ≤ t.text.length ∧ k + t.text.length ≤ l.length ∧ (l.drop k).take t.text.length = t.text ∧ Pl (p + k + t.text.length) (l.drop (k + t.text.length)) T
theorem Pl.front {T : List Tk} {p m : Nat} {l l' : By} (h : Pl (p + m) l' T) (e : l.drop m = l') (hm : m ≤ l.length) : Pl p l T := by
  cases T with
  | nil => trivial
  | cons t T =>
    obtain ⟨k, h1, h2, h3, h4, h5⟩ := h
    subst e
    rw [List.length_drop] at h3
    refine ⟨m + k, by omega, h2, by omega, ?_, ?_⟩
    · rw [← List.drop_drop]; exact h4
    · rw [List.drop_drop] at h5
      rw [show p + (m + k) + t.text.length = p + m + k + t.text.length by omega, show m + k + t.text.length = m + (k + t.text.length) by omega]; exact h5
theorem lex_pl (p : Nat) (l : By) : ∀ T, lex p l = .ok T → Pl p l T := by
  refine lex_ind (P := fun p l => ∀ T, lex p l = .ok T → Pl p l T) ?_ ?_ ?_ ?_ ?_ p l
  · intro p T h; rw [lex_nil] at h; injection h with h; subst h; trivial
  · intro p c r hb ih T h; rw [lex_blank hb] at h; exact (ih T h).front rfl (by simp)
  · intro p c r h35 ih T h
    rw [lex_hash h35] at h
    have hs := spn_le notNl r
    have h1 := ih T h
    rw [Nat.add_assoc] at h1
    exact h1.front (by rw [Nat.add_comm 1]; rfl) (by simp only [List.length_cons]; omega)
  · intro p c r e hb h35 ht T h; rw [lex_err hb h35 ht] at h; cases h
  · intro p c r t hb h35 ht ih T h
    rw [lex_ok' hb h35 ht] at h
    obtain ⟨Y, hY, rfl⟩ := pre_ok h
    obtain ⟨h1, h2, h3, h4⟩ := tok_text ht
    exact ⟨0, by omega, h2, by simp only [List.length_cons]; omega, by rw [List.drop_zero]; exact h4.symm, by rw [Nat.add_zero, Nat.zero_add]; exact ih Y hY⟩
def sumL : List Tk → Nat
  | [] => 0
  | t :: T => t.text.length + sumL T
theorem pl_sum : ∀ (T : List Tk) (p : Nat) (l : By), Pl p l T → sumL T ≤ l.length ∧ T.length ≤ sumL T
  | [], _, _, _ => by simp [sumL]
  | t :: T, p, l, ⟨k, h1, h2, h3, h4, h5⟩ => by
    have := pl_sum T _ _ h5
    simp only [List.length_drop, List.length_cons, sumL] at *; omega
/-! ### all tokens with a blank behind each -/
def joinT (T : List Tk) : By := T.flatMap fun t => t.text ++ [32]
def reAt (q : Nat) : List Tk → List Tk
  | [] => []
  | t :: T => { t with at' := q } :: reAt (q + t.text.length + 1) T
theorem lex_join : ∀ (T : List Tk) (q : Nat), (∀ t ∈ T, GoodT t) → lex q (joinT T) = .ok (reAt q T)
  | [], q, _ => lex_nil q
  | t :: T, q, h => by
    have h1 := lex_join T (q + t.text.length + 1) (fun u hu => h u (List.mem_cons_of_mem _ hu))
    rw [show joinT (t :: T) = t.text ++ (32 :: joinT T) by simp [joinT], lex_front (h t List.mem_cons_self) q _ rfl, lex_blank (by decide), h1]
    rfl
theorem joinT_length : ∀ T : List Tk, (joinT T).length = sumL T + T.length
  | [] => rfl
  | t :: T => by
    rw [show joinT (t :: T) = t.text ++ (32 :: joinT T) by simp [joinT], List.length_append, List.length_cons, joinT_length T]
    simp only [sumL, List.length_cons]; omega
theorem reAt_length : ∀ (T : List Tk) (q : Nat), (reAt q T).length = T.length
  | [], _ => rfl
  | t :: T, q => by simp [reAt, reAt_length T]
theorem reAt_get : ∀ (T : List Tk) (q i : Nat) (t : Tk), T[i]? = some t → ∃ q', (reAt q T)[i]? = some { t with at' := q' }
  | [], _, _, _, h => by simp at h
  | t :: T, q, 0, u, h => by simp at h; subst h; exact ⟨q, rfl⟩
  | t :: T, q, i + 1, u, h => by simp at h; exact reAt_get T _ i u h
/-! ### one text behind another -/
def shT (k : Nat) (t : Tk) : Tk := { t with at' := t.at' + k }
def shR (k : Nat) : Res → Res
  | .ok l => .ok (l.map (shT k))
  | .error e => .error (e.1, e.2 + k)
theorem tok_shift (p k : Nat) (c : UInt8) (r : By) : tok (p + k) (c :: r) = match tok p (c :: r) with | .ok t => .ok (shT k t) | .error e => .error (e.1, e.2 + k) := by
  rw [tok_eq, tok_eq]
  split
  · split <;> rfl
  · split
    · split <;> rfl
    · split <;> rfl
theorem shR_pre (k : Nat) (X : List Tk) (r : Res) : shR k (pre X r) = pre (X.map (shT k)) (shR k r) := by cases r <;> simp [pre, shR]
theorem lex_shift (k : Nat) (p : Nat) (l : By) : lex (p + k) l = shR k (lex p l) := by
  refine lex_ind (P := fun p l => lex (p + k) l = shR k (lex p l)) ?_ ?_ ?_ ?_ ?_ p l
  · intro p; rw [lex_nil, lex_nil]; rfl
  · intro p c r hb ih; rw [lex_blank hb, lex_blank hb, ← ih]; congr 1; omega
  · intro p c r h35 ih; rw [lex_hash h35, lex_hash h35, ← ih]; congr 1; omega
  · intro p c r e hb h35 ht
    have := tok_shift p k c r
    rw [ht] at this
    rw [lex_err hb h35 ht, lex_err hb h35 this]; rfl
  · intro p c r t hb h35 ht ih
    have := tok_shift p k c r
    rw [ht] at this
    rw [lex_ok' hb h35 ht, lex_ok' hb h35 this, shR_pre, ← ih]
    show pre [shT k t] (lex (p + k + t.text.length) _) = _
    congr 2; omega
theorem nextIn_app {a s : By} {d : UInt8} (hd : isIn d = false) : nextIn (a ++ d :: s) = nextIn a := by
  cases a with
  | nil => exact hd
  | cons c a => rfl
theorem tok_app {p : Nat} {c d : UInt8} {r s : By} (hd : isIn d = false) : tok p (c :: r ++ d :: s) = tok p (c :: r) := by
  have h1 : spn isIn (c :: r ++ d :: s) = spn isIn (c :: r) := spn_stop hd _ _
  have h2 : spn isDig (c :: r ++ d :: s) = spn isDig (c :: r) := spn_stop (dig_in hd) _ _
  have h3 := spn_le isIn (c :: r); have h4 := spn_le isDig (c :: r)
  rw [List.cons_append] at *
  rw [tok_eq, tok_eq, h1, h2]
  rw [show (c :: (r ++ d :: s)).take (spn isIn (c :: r)) = (c :: r).take (spn isIn (c :: r)) by rw [← List.cons_append, List.take_append_of_le_length h3],
    show (c :: (r ++ d :: s)).take (spn isDig (c :: r)) = (c :: r).take (spn isDig (c :: r)) by rw [← List.cons_append, List.take_append_of_le_length h4],
    show (c :: (r ++ d :: s)).drop (spn isDig (c :: r)) = (c :: r).drop (spn isDig (c :: r)) ++ d :: s by rw [← List.cons_append, List.drop_append_of_le_length h4], nextIn_app hd]
theorem nl_in : isIn 10 = false := by decide
/-- a text, a line's end, whatever -/
theorem lex_app (s : By) (p : Nat) (a : By) : lex p (a ++ 10 :: s) = match lex p a with | .ok X => pre X (lex (p + a.length) (10 :: s)) | .error e => .error e := by
  refine lex_ind (P := fun p a => lex p (a ++ 10 :: s) = match lex p a with | .ok X => pre X (lex (p + a.length) (10 :: s)) | .error e => .error e) ?_ ?_ ?_ ?_ ?_ p a
  · intro p; rw [lex_nil]; simp [pre_nil]
  · intro p c r hb ih
    rw [List.cons_append, lex_blank hb, lex_blank hb, ih, List.length_cons]
    rw [show p + 1 + r.length = p + (r.length + 1) by omega]
  · intro p c r h35 ih
    have h1 : spn notNl (r ++ 10 :: s) = spn notNl r := spn_stop (by decide) _ _
    have h2 := spn_le notNl r
    rw [List.cons_append, lex_hash h35, lex_hash h35, h1, List.drop_append_of_le_length h2, ih, List.length_cons, List.length_drop]
    rw [show p + 1 + spn notNl r + (r.length - spn notNl r) = p + (r.length + 1) by omega]
  · intro p c r e hb h35 ht
    rw [lex_err hb h35 ht]
    rw [← tok_app (s := s) (d := 10) nl_in] at ht
    rw [List.cons_append] at ht ⊢
    exact lex_err hb h35 ht
  · intro p c r t hb h35 ht ih
    obtain ⟨_, h1, h2, _⟩ := tok_text ht
    rw [lex_ok' hb h35 ht]
    rw [← tok_app (s := s) (d := 10) nl_in] at ht
    rw [List.cons_append] at ht ⊢
    rw [lex_ok' hb h35 ht, ← List.cons_append, List.drop_append_of_le_length (by simpa using h2), ih]
    cases lex (p + t.text.length) ((c :: r).drop t.text.length) with
    | error e => rfl
    | ok X =>
      rw [pre_pre]
      simp only [List.length_drop, List.length_cons]
      rw [show p + t.text.length + (r.length + 1 - t.text.length) = p + (r.length + 1) by omega]
      rfl
/-- blanks and a remark between -/
theorem lex_between (a rem b : By) (hr : ∀ c ∈ rem, notNl c = true) : lex 0 (a ++ (10 :: 9 :: 35 :: (rem ++ 10 :: 32 :: b))) = match lex 0 a with | .ok X => pre X (shR (a.length + rem.length + 5) (lex 0 b)) | .error e => .error e := by
  have h1 : spn notNl (rem ++ 10 :: 32 :: b) = rem.length := by rw [spn_app _ _ hr, spn_zero (by decide)]; omega
  rw [lex_app]
  cases lex 0 a with
  | error e => rfl
  | ok X =>
    simp only
    rw [lex_blank (by decide), lex_blank (by decide), lex_hash (by decide), h1, List.drop_left, lex_blank (by decide), lex_blank (by decide), ← lex_shift]
    congr 2; omega
/-! ### names -/
def isName (l : By) : Bool := match l with
  | [] => false
  | c :: r => isLet c && decide (spn isIn (c :: r) = (c :: r).length) && decide ((c :: r).length ≤ 16)
theorem pre_one {X : List Tk} {r : Res} {t : Tk} (h : pre [t] r = .ok X) (hx : X.length = 1) : r = .ok [] ∧ X = [t] := by
  obtain ⟨Y, rfl, rfl⟩ := pre_ok h
  cases Y with
  | nil => exact ⟨rfl, rfl⟩
  | cons y Y => simp at hx
theorem len_one {l : By} {t : Tk} {T : List Tk} {p : Nat} (h : Pl p l (t :: T)) (hl : t.text.length = l.length) : t.text = l := by
  obtain ⟨k, h1, h2, h3, h4, h5⟩ := h
  obtain rfl : k = 0 := by omega
  rw [List.drop_zero, hl, List.take_length] at h4; exact h4.symm
theorem isName_good {l : By} (h : isName l = true) : GoodT ⟨1, l, 0, 0⟩ := by
  cases l with
  | nil => cases h
  | cons c r =>
    simp only [isName, Bool.and_eq_true, decide_eq_true_eq] at h
    obtain ⟨⟨h1, h2⟩, h3⟩ := h
    have : tok 0 (c :: r) = .ok ⟨1, c :: r, 0, 0⟩ := by
      rw [tok_eq, if_pos h1, h2, if_neg (by omega), List.take_length]
    exact tok_good this
theorem name_iff (l : By) : isName l = true ↔ ∃ t, lexAll l = .ok [t] ∧ t.kind = 1 ∧ t.text = l := by
  constructor
  · intro h
    have h1 := lex_alone (isName_good h)
    refine ⟨⟨1, l, 0, 0⟩, ?_, rfl, rfl⟩
    unfold lexAll
    rw [if_neg ?_]
    · exact h1
    · cases l with
      | nil => cases h
      | cons c r => simp only [isName, Bool.and_eq_true, decide_eq_true_eq] at h; omega
  · rintro ⟨t, h1, h2, h3⟩
    unfold lexAll at h1
    split at h1
    · cases h1
    · obtain ⟨hg, c, s, h4, h5, h6⟩ := lex_good h1 t List.mem_cons_self
      have h7 := hg 0 [] rfl
      rw [List.append_nil] at h7
      rw [h4] at h7
      rcases tok_cases h7 with ⟨g1, g2, g3⟩ | ⟨g1, g2, g3, g4, g5⟩ | ⟨g1, g2, g3, g5⟩
      · have g4 := congrArg Tk.text g3
        simp only at g4
        have g5 := congrArg List.length g4
        rw [List.length_take, Nat.min_eq_left (spn_le _ _)] at g5
        subst h3
        rw [h4]
        simp only [isName, Bool.and_eq_true, decide_eq_true_eq]
        exact ⟨⟨g1, g5.symm⟩, by omega⟩
      · have := congrArg Tk.kind g5; simp only at this; omega
      · have := congrArg Tk.kind g5; simp only at this; omega
/-! ### numbers -/
def dec (n : Nat) : By := if n < 10 then [UInt8.ofNat (48 + n)] else dec (n / 10) ++ [UInt8.ofNat (48 + n % 10)]
theorem dig_nat {k : Nat} (h : k < 10) : (UInt8.ofNat (48 + k)).toNat = 48 + k := by simp; omega
theorem dec_dig (n : Nat) : ∀ c ∈ dec n, isDig c = true := by
  induction n using Nat.strongRecOn with
  | _ n ih =>
    intro c hc
    have key : ∀ k, k < 10 → isDig (UInt8.ofNat (48 + k)) = true := fun k hk => by unfold isDig; rw [dig_nat hk]; simp; omega
    rw [dec] at hc
    split at hc
    · rcases List.mem_cons.1 hc with rfl | hc
      · exact key _ (by assumption)
      · cases hc
    · rcases List.mem_append.1 hc with hc | hc
      · exact ih (n / 10) (by omega) c hc
      · rcases List.mem_cons.1 hc with rfl | hc
        · exact key _ (by omega)
        · cases hc
theorem dec_num (n : Nat) : num (dec n) = min n 65536 := by
  induction n using Nat.strongRecOn with
  | _ n ih =>
    rw [dec]
    split
    · rename_i h
      show min (10 * 0 + ((UInt8.ofNat (48 + n)).toNat - 48)) 65536 = _
      rw [dig_nat h]; omega
    · rw [num_snoc, ih (n / 10) (by omega), dig_nat (by omega)]; omega
theorem dec_ne (n : Nat) : dec n ≠ [] := by rw [dec]; split <;> simp
def zeros (k : Nat) (l : By) : By := List.replicate k 48 ++ l
theorem zeros_num (l : By) : ∀ k, num (zeros k l) = num l
  | 0 => rfl
  | k + 1 => zeros_num l k
theorem zeros_dig {l : By} (h : ∀ c ∈ l, isDig c = true) (k : Nat) : ∀ c ∈ zeros k l, isDig c = true := fun c hc => by
  rcases List.mem_append.1 hc with hc | hc
  · rw [List.eq_of_mem_replicate hc]; decide
  · exact h c hc
theorem dig_let {c : UInt8} (h : isDig c = true) : isLet c = false := by
  unfold isDig at h; unfold isLet; simp only [decide_eq_true_eq, decide_eq_false_iff_not] at *; omega
theorem tok_dig {p : Nat} {l r : By} (hl : l ≠ []) (hd : ∀ c ∈ l, isDig c = true) (hr : spn isDig r = 0) : tok p (l ++ r) = if 65535 < num l ∨ nextIn r = true then .error (21, p) else .ok ⟨2, l, num l, p⟩ := by
  have h1 : spn isDig (l ++ r) = l.length := by rw [spn_app _ _ hd, hr]; rfl
  cases l with
  | nil => exact absurd rfl hl
  | cons c s =>
    have hc := hd c List.mem_cons_self
    rw [List.cons_append] at *
    rw [tok_eq]
    rw [if_neg (by rw [dig_let hc]; decide), if_pos hc, h1]
    rw [← List.cons_append, List.take_left, List.drop_left]
theorem lex_num {l : By} (hl : l ≠ []) (hd : ∀ c ∈ l, isDig c = true) (h16 : l.length ≤ 16383) :
    (65535 < num l → lexAll (l ++ [59]) = .error (21, 0)) ∧ (num l ≤ 65535 → lexAll (l ++ [59]) = .ok [⟨2, l, num l, 0⟩, ⟨3, [59], 0, l.length⟩]) ∧ lexAll (l ++ [95]) = .error (21, 0) := by
  have h1 := tok_dig (p := 0) (r := [59]) hl hd (by decide)
  have h2 := tok_dig (p := 0) (r := [95]) hl hd (by decide)
  rw [if_pos (.inr (by decide))] at h2
  have hlen : ∀ d : UInt8, ¬ 16384 < (l ++ [d]).length := fun d => by simp; omega
  obtain ⟨c, s, rfl⟩ : ∃ c s, l = c :: s := by cases l with
    | nil => exact absurd rfl hl
    | cons c s => exact ⟨c, s, rfl⟩
  obtain ⟨hb, h35⟩ := blank_no (.inr (.inl (hd c List.mem_cons_self)))
  unfold lexAll
  rw [if_neg (hlen _), if_neg (hlen _)]
  refine ⟨fun h => ?_, fun h => ?_, lex_err hb h35 h2⟩
  · rw [if_pos (.inl h)] at h1
    exact lex_err hb h35 h1
  · rw [if_neg (by rintro (h' | h'); · omega
                   · exact absurd h' (by decide))] at h1
    rw [List.cons_append] at h1 ⊢
    rw [lex_ok' hb h35 h1]
    simp only
    rw [← List.cons_append, List.drop_left]
    have : tok (0 + (c :: s).length) [59] = .ok ⟨3, [59], 0, (c :: s).length⟩ := by rw [Nat.zero_add]; rfl
    rw [lex_ok' (by decide) (by decide) this]
    simp [lex_nil, pre]
/-! ### by fuel: for texts that are written out -/
def lexF : Nat → Nat → By → Res
  | 0, _, _ => .ok []
  | _ + 1, _, [] => .ok []
  | m + 1, p, c :: r =>
    if isBlank c then lexF m (p + 1) r
    else if c.toNat = 35 then lexF m (p + 1 + spn notNl r) (r.drop (spn notNl r))
    else match tok p (c :: r) with
      | .error e => .error e
      | .ok t => pre [t] (lexF m (p + t.text.length) (r.drop (t.text.length - 1)))
theorem lexF_eq : ∀ (m p : Nat) (l : By), l.length ≤ m → lexF m p l = lex p l
  | 0, p, l, h => by
    have : l = [] := List.eq_nil_of_length_eq_zero (by omega)
    subst this; rw [lex_nil]; rfl
  | m + 1, p, [], _ => by rw [lex_nil]; rfl
  | m + 1, p, c :: r, h => by
    simp only [List.length_cons] at h
    rw [lex, lexF]
    split
    · exact lexF_eq m _ _ (by omega)
    · split
      · exact lexF_eq m _ _ (by simp only [List.length_drop]; omega)
      · cases tok p (c :: r) with
        | error e => rfl
        | ok t => simp only; rw [lexF_eq m _ _ (by simp only [List.length_drop]; omega)]
def lexAllF (l : By) : Res := if 16384 < l.length then .error (5, 0) else lexF l.length 0 l
theorem lexAllF_eq (l : By) : lexAll l = lexAllF l := by unfold lexAll lexAllF; rw [lexF_eq _ _ _ (Nat.le_refl _)]
theorem lexAll_code {l : By} {e : Err} (h : lexAll l = .error e) : e.1 ≠ 0 := by
  have key : ∀ p (l : By) e, lex p l = .error e → e.1 ≠ 0 := by
    intro p l
    refine lex_ind (P := fun p l => ∀ e, lex p l = .error e → e.1 ≠ 0) ?_ ?_ ?_ ?_ ?_ p l
    · intro p e h; rw [lex_nil] at h; cases h
    · intro p c r hb ih e h; rw [lex_blank hb] at h; exact ih e h
    · intro p c r h35 ih e h; rw [lex_hash h35] at h; exact ih e h
    · intro p c r e hb h35 ht e' h
      rw [lex_err hb h35 ht] at h
      injection h with h; subst h
      rw [tok_eq] at ht
      (repeat' split at ht) <;> cases ht <;> simp
    · intro p c r t hb h35 ht ih e h
      rw [lex_ok' hb h35 ht] at h
      exact ih e (pre_err h)
  unfold lexAll at h
  split at h
  · injection h with h; subst h; simp
  · exact key _ _ _ h
end Go.L.Lx
