/-
  The reference's reader of programs, on paper: a state that may be bad, and how its steps stand to the readings. Own work; no program.
-/
import Derived.Test.YtgkjnilckmminaaGreatDoorParP
set_option linter.unusedSimpArgs false
set_option linter.unusedVariables false
set_option linter.unusedSectionVars false
namespace Go.L.Pa
open Go.L Go.L.Lx Go.L.Pg
/-- the tokens that are left, and whether one may not stand where it stands -/
abbrev Sg := List Tk × Bool
def runP {α : Type} (p : List Tk → PR α) (σ : Sg) : PR α := if σ.2 then .bad σ.1 else p σ.1
def outP {α : Type} (σ : Sg) (a : α) : PR α := if σ.2 then .bad σ.1 else .ok a σ.1
theorem rp_bad {α : Type} {p : List Tk → PR α} {σ : Sg} (h : σ.2 = true) : runP p σ = .bad σ.1 := by unfold runP; rw [if_pos h]
theorem rp_go {α : Type} {p : List Tk → PR α} {σ : Sg} (h : σ.2 = false) : runP p σ = p σ.1 := by unfold runP; rw [if_neg (by rw [h]; decide)]
theorem op_bad {α : Type} {a : α} {σ : Sg} (h : σ.2 = true) : outP σ a = .bad σ.1 := by unfold outP; rw [if_pos h]
theorem op_go {α : Type} {a : α} {σ : Sg} (h : σ.2 = false) : outP σ a = .ok a σ.1 := by unfold outP; rw [if_neg (by rw [h]; decide)]
theorem op_any {α : Type} {a b : α} {σ : Sg} (h : σ.2 = true) : outP σ a = outP σ b := by rw [op_bad h, op_bad h]
theorem rp_bind {α β : Type} {p : List Tk → PR α} {f : α → List Tk → PR β} {σ σ' : Sg} {a : α} (h : outP σ' a = runP p σ) : runP (f a) σ' = runP (fun T => (p T).bind f) σ := by
  cases h1 : σ.2 with
  | true =>
    rw [rp_bad h1] at h ⊢
    cases h2 : σ'.2 with
    | true => rw [op_bad h2] at h; rw [rp_bad h2]; injection h with h; rw [h]
    | false => rw [op_go h2] at h; cases h
  | false =>
    rw [rp_go h1] at h ⊢
    rw [← h]
    cases h2 : σ'.2 with
    | true => rw [op_bad h2, rp_bad h2]; rfl
    | false => rw [op_go h2, rp_go h2]; rfl
theorem op_bind {α β : Type} {p : List Tk → PR α} {g : α → β} {σ σ' : Sg} {a : α} (h : outP σ' a = runP p σ) : outP σ' (g a) = runP (fun T => (p T).bind fun a r => .ok (g a) r) σ := by
  rw [← rp_bind (f := fun a r => PR.ok (g a) r) h]; rfl
def wordB (s : By) (σ : Sg) : Bool := !σ.2 && isW s σ.1
def mustS (s : By) (σ : Sg) : Sg := if wordB s σ then (σ.1.tail, σ.2) else (σ.1, true)
def headK (k : Nat) : List Tk → Bool
  | [] => false
  | t :: _ => decide (t.kind = k)
def oneB (k : Nat) (σ : Sg) : Bool := !σ.2 && headK k σ.1
def oneS (k : Nat) (σ : Sg) : Sg := if oneB k σ then (σ.1.tail, σ.2) else (σ.1, true)
def tk0 : Tk := ⟨0, [], 0, 0⟩
def oneT (k : Nat) (σ : Sg) : Tk := if oneB k σ then σ.1.headD tk0 else tk0
theorem wordB_inv {s : By} {σ : Sg} (h : wordB s σ = true) : σ.2 = false ∧ isW s σ.1 = true := by unfold wordB at h; simpa using h
theorem wordB_no {s : By} {σ : Sg} (h : wordB s σ = false) (hb : σ.2 = false) : isW s σ.1 = false := by unfold wordB at h; rw [hb] at h; simpa using h
theorem rp_must (s : By) (σ : Sg) : outP (mustS s σ) () = runP (mustP [s]) σ := by
  unfold mustS
  cases hw : wordB s σ with
  | true =>
    obtain ⟨h1, h2⟩ := wordB_inv hw
    rw [if_pos rfl, rp_go h1, op_go (σ := (σ.1.tail, σ.2)) h1]
    unfold mustP; rw [if_pos h2]; rfl
  | false =>
    rw [if_neg (by decide), op_bad rfl]
    cases h1 : σ.2 with
    | true => rw [rp_bad h1]
    | false => rw [rp_go h1]; unfold mustP; rw [wordB_no hw h1, if_neg (by decide)]
theorem rp_take (k : Nat) (σ : Sg) : outP (oneS k σ) (oneT k σ) = runP (takeP k) σ := by
  unfold oneS oneT
  cases hw : oneB k σ with
  | true =>
    unfold oneB at hw
    simp only [Bool.and_eq_true, Bool.not_eq_true'] at hw
    obtain ⟨h1, h2⟩ := hw
    rw [if_pos rfl, rp_go h1, op_go (σ := (σ.1.tail, σ.2)) h1, if_pos rfl]
    cases hT : σ.1 with
    | nil => rw [hT] at h2; cases h2
    | cons t T =>
      rw [hT] at h2
      show PR.ok t T = if t.kind = k then .ok t T else .bad (t :: T)
      rw [if_pos (by simpa [headK] using h2)]
  | false =>
    rw [if_neg (by decide), op_bad rfl]
    cases h1 : σ.2 with
    | true => rw [rp_bad h1]
    | false =>
      rw [rp_go h1]
      unfold oneB at hw; rw [h1] at hw
      cases hT : σ.1 with
      | nil => rfl
      | cons t T =>
        rw [hT] at hw
        show PR.bad (t :: T) = if t.kind = k then .ok t T else .bad (t :: T)
        rw [if_neg (by simpa [headK] using hw)]
theorem rp_name (σ : Sg) : outP (oneS 1 σ) (oneT 1 σ).text = runP nameP σ := op_bind (g := fun t : Tk => t.text) (rp_take 1 σ)
theorem rp_num (σ : Sg) : outP (oneS 2 σ) ((oneT 2 σ).n : Int) = runP numP σ := op_bind (g := fun t : Tk => (t.n : Int)) (rp_take 2 σ)
/-- what is left is a rest -/
theorem sv_of {α : Type} {p : List Tk → PR α} (hp : ∀ T, Lv T (p T)) {σ σ' : Sg} {a : α} (h : outP σ' a = runP p σ) : Suf σ'.1 σ.1 := by
  have h2 : Lv σ.1 (runP p σ) := by
    cases h1 : σ.2 with
    | true => rw [rp_bad h1]; exact Suf.refl _
    | false => rw [rp_go h1]; exact hp _
  rw [← h] at h2
  cases h1 : σ'.2 with
  | true => rw [op_bad h1] at h2; exact h2
  | false => rw [op_go h1] at h2; exact h2
theorem sv_must (s : By) (σ : Sg) : Suf (mustS s σ).1 σ.1 := sv_of (fun T => lv_must [s] T) (rp_must s σ)
theorem sv_one (k : Nat) (σ : Sg) : Suf (oneS k σ).1 σ.1 := sv_of (fun T => lv_take k T) (rp_take k σ)
/-- bad stays bad -/
theorem bad_of {α : Type} {p : List Tk → PR α} {σ σ' : Sg} {a : α} (h : outP σ' a = runP p σ) (hb : σ.2 = true) : σ'.2 = true ∧ σ'.1 = σ.1 := by
  rw [rp_bad hb] at h
  cases h1 : σ'.2 with
  | true => rw [op_bad h1] at h; injection h with h; exact ⟨rfl, h⟩
  | false => rw [op_go h1] at h; cases h
def mS (σ : Sg) : Nat := 2 * σ.1.length + (if σ.2 then 0 else 1)
/-- one round of a loop: fewer tokens, or bad -/
theorem lt_of' {α : Type} {p : List Tk → PR α} (hl : ∀ T, Lv T (p T)) (hp : ∀ T, Lt T (p T)) {σ σ' : Sg} {a : α} (h : outP σ' a = runP p σ) (hb : σ.2 = false) : (σ'.2 = false → σ'.1.length < σ.1.length) ∧ σ'.1.length ≤ σ.1.length := by
  refine ⟨fun h1 => ?_, (sv_of hl h).1⟩
  rw [op_go h1, rp_go hb] at h
  have := hp σ.1
  rw [← h] at this; exact this
theorem tk_text {T : List Tk} (hT : TB T) (k : Nat) (b : Bool) : (oneT k (T, b)).text.length ≤ 16384 := by
  unfold oneT
  split
  · cases T with
    | nil => exact Nat.zero_le _
    | cons t T => exact hT t List.mem_cons_self
  · exact Nat.zero_le _
/-! ### effects -/
theorem rp_part_r (e : Eff) (σ : Sg) : outP (oneS 1 σ) { e with ref := (oneT 1 σ).text } = runP (partP 114 e) σ := op_bind (g := fun s : By => { e with ref := s }) (rp_name σ)
theorem rp_part_s (e : Eff) (σ : Sg) : outP (oneS 1 σ) { e with slot := (oneT 1 σ).text } = runP (partP 115 e) σ := op_bind (g := fun s : By => { e with slot := s }) (rp_name σ)
theorem rp_part_n (e : Eff) (σ : Sg) : outP (oneS 1 σ) { e with name := (oneT 1 σ).text } = runP (partP 110 e) σ := op_bind (g := fun s : By => { e with name := s }) (rp_name σ)
theorem rp_part_d (e : Eff) (σ : Sg) : outP (oneS 2 σ) { e with delay := ((oneT 2 σ).n : Int) } = runP (partP 100 e) σ := op_bind (g := fun s : Int => { e with delay := s }) (rp_num σ)
theorem isW_two {s s' : By} {T : List Tk} (h : isW s T = true) (hn : s ≠ s') : isW s' T = false := by
  cases T with
  | nil => rfl
  | cons t T =>
    unfold isW at h ⊢
    simp only [Bool.and_eq_true, decide_eq_true_eq] at h
    show (!decide (t.kind = 2) && decide (t.text = s')) = false
    rw [h.2, decide_eq_false hn, Bool.and_false]
theorem rp_part_less {e : Eff} {σ : Sg} (h : wordB wLess σ = true) : outP (σ.1.tail, σ.2) { e with value := 1 } = runP (partP 118 e) σ := by
  obtain ⟨h1, h2⟩ := wordB_inv h
  rw [rp_go h1, op_go (σ := (σ.1.tail, σ.2)) h1]
  show _ = valP e σ.1
  unfold valP; rw [if_neg (by rw [isW_two h2 (by decide)]; decide), if_pos h2]
theorem rp_part_keep {e : Eff} {σ : Sg} (h : wordB wKeep σ = true) : outP (σ.1.tail, σ.2) e = runP (partP 118 e) σ := by
  obtain ⟨h1, h2⟩ := wordB_inv h
  rw [rp_go h1, op_go (σ := (σ.1.tail, σ.2)) h1]
  show _ = valP e σ.1
  unfold valP; rw [if_pos h2]
theorem rp_part_n2 {e : Eff} {σ : Sg} (h : wordB wLess σ = false) (h' : wordB wKeep σ = false) : outP (oneS 2 σ) { e with value := 2, n := ((oneT 2 σ).n : Int) } = runP (partP 118 e) σ := by
  have h3 := op_bind (g := fun s : Int => { e with value := 2, n := s }) (rp_num σ)
  rw [h3]
  cases h1 : σ.2 with
  | true => rw [rp_bad h1, rp_bad h1]
  | false =>
    rw [rp_go h1, rp_go h1]
    show _ = valP e σ.1
    unfold valP; rw [if_neg (by rw [wordB_no h' h1]; decide), if_neg (by rw [wordB_no h h1]; decide)]
theorem rp_parts {e e' : Eff} {ps : By} {q : Nat} {ch : UInt8} {σ σ' : Sg} (h : ps[q]? = some ch) (h1 : outP σ' e' = runP (partP ch e) σ) : runP (partsP (ps.drop (q + 1)) e') σ' = runP (partsP (ps.drop q) e) σ := by
  rw [rp_bind (f := partsP (ps.drop (q + 1))) h1, drop_at h]; rfl
theorem rp_parts0 {e : Eff} {ps : By} {q : Nat} {ch : UInt8} {σ : Sg} (h : ps[q]? = some ch) (h1 : ¬ ch.toNat = 114) (h2 : ¬ ch.toNat = 115) (h3 : ¬ ch.toNat = 110) (h4 : ¬ ch.toNat = 100) (h5 : ¬ ch.toNat = 118) : runP (partsP (ps.drop (q + 1)) e) σ = runP (partsP (ps.drop q) e) σ := by
  rw [drop_at h]
  cases hb : σ.2 with
  | true => rw [rp_bad hb, rp_bad hb]
  | false =>
    rw [rp_go hb, rp_go hb]
    show _ = (partP ch e σ.1).bind _
    unfold partP; rw [if_neg h1, if_neg h2, if_neg h3, if_neg h4, if_neg h5]; rfl
theorem ch_of {ch : UInt8} (c : UInt8) (e : ch.toNat = c.toNat) : ch = c := UInt8.toNat_inj.1 e
/-- the verb at its turn -/
theorem rp_verb {i : Nat} {w ps : By} {σ : Sg} (h : VB[i]? = some (w, ps)) (hw : wordB w σ = true) : runP (partsP ps { e0 with do' := ((i + 1 : Nat) : Int) }) (σ.1.tail, σ.2) = runP (effG (VB.drop i) i) σ := by
  obtain ⟨h1, h2⟩ := wordB_inv hw
  obtain ⟨g1, g2⟩ := List.getElem?_eq_some_iff.1 h
  rw [rp_go h1, rp_go (σ := (σ.1.tail, σ.2)) h1, List.drop_eq_getElem_cons g1, g2]
  show _ = (if isW w σ.1 then _ else _)
  rw [if_pos h2]
theorem rp_verb0 {i : Nat} {w ps : By} {σ : Sg} (h : VB[i]? = some (w, ps)) (hw : wordB w σ = false) : runP (effG (VB.drop (i + 1)) (i + 1)) σ = runP (effG (VB.drop i) i) σ := by
  cases h1 : σ.2 with
  | true => rw [rp_bad h1, rp_bad h1]
  | false =>
    obtain ⟨g1, g2⟩ := List.getElem?_eq_some_iff.1 h
    rw [rp_go h1, rp_go h1, List.drop_eq_getElem_cons g1, g2]
    show _ = (if isW w σ.1 then _ else _)
    rw [wordB_no hw h1, if_neg (by decide)]
theorem rp_verbs {σ : Sg} {e : Eff} : outP (σ.1, true) e = runP (effG (VB.drop 12) 12) σ := by
  rw [op_bad rfl]
  cases h1 : σ.2 with
  | true => rw [rp_bad h1]
  | false => rw [rp_go h1]; rfl
theorem rp_last {e : Eff} {ps : By} {σ : Sg} : outP σ e = runP (partsP (ps.drop ps.length) e) σ := by
  rw [List.drop_length]; rfl
/-! ### rows -/
theorem rp_effs {f : Nat} {es : List Eff} {e : Eff} {σ σ2 : Sg} (hb : σ.2 = false) (hw : isW wShut σ.1 = false) (h : outP σ2 e = runP effP σ) : runP (effsP f (es ++ [e])) (mustS wSemi σ2) = runP (effsP (f + 1) es) σ := by
  have h1 := rp_bind (f := fun _ r' => effsP f (es ++ [e]) r') (rp_must wSemi σ2)
  have h2 := rp_bind (f := fun e r => (mustP [wSemi] r).bind fun _ r' => effsP f (es ++ [e]) r') h
  rw [show runP (effsP f (es ++ [e])) (mustS wSemi σ2) = _ from h1, show runP (fun T => (mustP [wSemi] T).bind fun _ r' => effsP f (es ++ [e]) r') σ2 = _ from h2, rp_go hb, rp_go hb]
  show _ = (if isW wShut σ.1 then _ else _)
  rw [hw, if_neg (by decide)]
theorem rp_effs1 {f : Nat} {es : List Eff} {σ : Sg} (hw : wordB wShut σ = true) : outP (σ.1.tail, σ.2) es = runP (effsP (f + 1) es) σ := by
  obtain ⟨h1, h2⟩ := wordB_inv hw
  rw [rp_go h1, op_go (σ := (σ.1.tail, σ.2)) h1]
  show _ = (if isW wShut σ.1 then _ else _)
  rw [if_pos h2]
theorem op_bad_rp {α : Type} {a : α} {p : List Tk → PR α} {σ : Sg} (hb : σ.2 = true) : outP σ a = runP p σ := by rw [op_bad hb, rp_bad hb]
theorem rp_rowX {w : Row} {es : List Eff} {σ σ' : Sg} (h : outP σ' es = runP (fun T => effsP (T.length + 1) [] T) (mustS wOpen σ)) : outP σ' { w with effs := es } = runP (rowX w) σ := by
  have h1 := op_bind (g := fun es => { w with effs := es }) h
  rw [h1]
  exact rp_bind (f := fun _ r => (effsP (r.length + 1) [] r).bind fun es r' => PR.ok { w with effs := es } r') (rp_must wOpen σ)
theorem rp_any {σ : Sg} (hw : wordB wAny σ = true) : runP (rowX r0) (σ.1.tail, σ.2) = runP rowP σ := by
  obtain ⟨h1, h2⟩ := wordB_inv hw
  rw [rp_go h1, rp_go (σ := (σ.1.tail, σ.2)) h1]
  show _ = (if isW wAny σ.1 then _ else _)
  rw [if_pos h2]
theorem rp_on {σ : Sg} (hw : wordB wAny σ = false) : runP (rowN (oneT 1 (mustS wOn σ)).text) (oneS 1 (mustS wOn σ)) = runP rowP σ := by
  have h1 := rp_bind (f := rowN) (rp_name (mustS wOn σ))
  have h2 := rp_bind (f := fun _ r => (nameP r).bind rowN) (rp_must wOn σ)
  rw [h1, h2]
  cases hb : σ.2 with
  | true => rw [rp_bad hb, rp_bad hb]
  | false =>
    rw [rp_go hb, rp_go hb]
    show _ = (if isW wAny σ.1 then _ else _)
    rw [wordB_no hw hb, if_neg (by decide)]
theorem headNum_K (T : List Tk) : headNum T = headK 2 T := by cases T <;> rfl
theorem rp_rn1 {s : By} {σ : Sg} (h : oneB 2 σ = true) : runP (rowX { r0 with tag := s, only := true, n := ((oneT 2 σ).n : Int) }) (oneS 2 σ) = runP (rowN s) σ := by
  rw [rp_bind (f := fun n => rowX { r0 with tag := s, only := true, n := n }) (rp_num σ)]
  unfold oneB at h
  simp only [Bool.and_eq_true, Bool.not_eq_true'] at h
  rw [rp_go h.1, rp_go h.1]
  show _ = (if headNum σ.1 then _ else _)
  rw [headNum_K, if_pos h.2]
theorem rp_rn0 {s : By} {σ : Sg} (h : oneB 2 σ = false) : runP (rowX { r0 with tag := s }) σ = runP (rowN s) σ := by
  cases hb : σ.2 with
  | true => rw [rp_bad hb, rp_bad hb]
  | false =>
    rw [rp_go hb, rp_go hb]
    show _ = (if headNum σ.1 then _ else _)
    unfold oneB at h; rw [hb] at h
    rw [headNum_K, show headK 2 σ.1 = false by simpa using h, if_neg (by decide)]
/-! ### states -/
theorem rp_rows {f : Nat} {R : List Row} {w : Row} {σ σ2 : Sg} (hb : σ.2 = false) (hw : isW wShut σ.1 = false) (h : outP σ2 w = runP rowP σ) : runP (rowsP f (R ++ [w])) σ2 = runP (rowsP (f + 1) R) σ := by
  have h2 := rp_bind (f := fun w r => rowsP f (R ++ [w]) r) h
  rw [show runP (rowsP f (R ++ [w])) σ2 = _ from h2, rp_go hb, rp_go hb]
  show _ = (if isW wShut σ.1 then _ else _)
  rw [hw, if_neg (by decide)]
theorem rp_rows1 {f : Nat} {R : List Row} {σ : Sg} (hw : wordB wShut σ = true) : outP (σ.1.tail, σ.2) R = runP (rowsP (f + 1) R) σ := by
  obtain ⟨h1, h2⟩ := wordB_inv hw
  rw [rp_go h1, op_go (σ := (σ.1.tail, σ.2)) h1]
  show _ = (if isW wShut σ.1 then _ else _)
  rw [if_pos h2]
theorem rp_sta {R : List Row} {σ σ' : Sg} (h : outP σ' R = runP (fun T => rowsP (T.length + 1) [] T) (mustS wOpen (oneS 1 σ))) : outP σ' (⟨(oneT 1 σ).text, none, 0, R⟩ : Sta) = runP staP σ := by
  have h1 := op_bind (g := fun R => (⟨(oneT 1 σ).text, none, 0, R⟩ : Sta)) h
  have h2 := rp_bind (f := fun _ r2 => (rowsP (r2.length + 1) [] r2).bind fun R r3 => PR.ok (⟨(oneT 1 σ).text, none, 0, R⟩ : Sta) r3) (rp_must wOpen (oneS 1 σ))
  have h3 := rp_bind (f := fun s r => (mustP [wOpen] r).bind fun _ r2 => (rowsP (r2.length + 1) [] r2).bind fun R r3 => PR.ok (⟨s, none, 0, R⟩ : Sta) r3) (rp_name σ)
  rw [h1]; exact h2.trans h3
theorem rp_stas {f : Nat} {S : List Sta} {s : Sta} {σ σ2 : Sg} (hw : wordB wState σ = true) (h : outP σ2 s = runP staP (σ.1.tail, σ.2)) : runP (stasP f (S ++ [s])) σ2 = runP (stasP (f + 1) S) σ := by
  have h2 := rp_bind (f := fun s r => stasP f (S ++ [s]) r) h
  obtain ⟨h3, h4⟩ := wordB_inv hw
  rw [show runP (stasP f (S ++ [s])) σ2 = _ from h2, rp_go h3, rp_go (σ := (σ.1.tail, σ.2)) h3]
  show _ = (if isW wState σ.1 then _ else _)
  rw [if_pos h4]
theorem rp_stas0 {f : Nat} {S : List Sta} {σ : Sg} (hw : wordB wState σ = false) : outP σ S = runP (stasP (f + 1) S) σ := by
  cases hb : σ.2 with
  | true => exact op_bad_rp hb
  | false =>
    rw [rp_go hb, op_go hb]
    show _ = (if isW wState σ.1 then _ else _)
    rw [wordB_no hw hb, if_neg (by decide)]
/-! ### directives and cases -/
theorem rp_dir {i : Nat} {w : By} {σ : Sg} (h : dirs[i]? = some w) (hw : wordB w σ = true) : outP (mustS wSemi (σ.1.tail, σ.2)) ((i + 1 : Nat) : Int) = runP (dirG (dirs.drop i) i) σ := by
  obtain ⟨h1, h2⟩ := wordB_inv hw
  obtain ⟨g1, g2⟩ := List.getElem?_eq_some_iff.1 h
  have h3 := op_bind (g := fun _ : Unit => ((i + 1 : Nat) : Int)) (rp_must wSemi (σ.1.tail, σ.2))
  rw [h3, rp_go h1, rp_go (σ := (σ.1.tail, σ.2)) h1, List.drop_eq_getElem_cons g1, g2]
  show _ = (if isW w σ.1 then _ else _)
  rw [if_pos h2]
theorem rp_dir0 {i : Nat} {w : By} {σ : Sg} (h : dirs[i]? = some w) (hw : wordB w σ = false) : runP (dirG (dirs.drop (i + 1)) (i + 1)) σ = runP (dirG (dirs.drop i) i) σ := by
  cases h1 : σ.2 with
  | true => rw [rp_bad h1, rp_bad h1]
  | false =>
    obtain ⟨g1, g2⟩ := List.getElem?_eq_some_iff.1 h
    rw [rp_go h1, rp_go h1, List.drop_eq_getElem_cons g1, g2]
    show _ = (if isW w σ.1 then _ else _)
    rw [wordB_no hw h1, if_neg (by decide)]
theorem must_bad (s : By) {σ : Sg} (h : σ.2 = true) : mustS s σ = (σ.1, true) := by unfold mustS wordB; rw [h]; rfl
theorem rp_dirN {d : Int} {σ : Sg} : outP (mustS wSemi (σ.1, true)) d = runP (dirG (dirs.drop 4) 4) σ := by
  rw [must_bad _ rfl, op_bad rfl]
  cases h1 : σ.2 with
  | true => rw [rp_bad h1]
  | false => rw [rp_go h1]; rfl
theorem rp_case {f : Nat} {C : List Cas} {d : Int} {σ σ2 : Sg} (hw : wordB wCase σ = true) (h : outP σ2 d = runP dirP (oneS 1 (σ.1.tail, σ.2))) : runP (casesP f (C ++ [⟨(oneT 1 (σ.1.tail, σ.2)).text, d⟩])) σ2 = runP (casesP (f + 1) C) σ := by
  have h1 := rp_bind (f := fun d r2 => casesP f (C ++ [⟨(oneT 1 (σ.1.tail, σ.2)).text, d⟩]) r2) h
  have h2 := rp_bind (f := fun s r => (dirP r).bind fun d r2 => casesP f (C ++ [⟨s, d⟩]) r2) (rp_name (σ.1.tail, σ.2))
  obtain ⟨h3, h4⟩ := wordB_inv hw
  rw [show runP (casesP f (C ++ [⟨(oneT 1 (σ.1.tail, σ.2)).text, d⟩])) σ2 = _ from h1.trans h2, rp_go h3, rp_go (σ := (σ.1.tail, σ.2)) h3]
  show _ = (if isW wCase σ.1 then _ else _)
  rw [if_pos h4]
theorem rp_else {f : Nat} {C : List Cas} {d : Int} {σ σ2 : Sg} (hc : wordB wCase σ = false) (hw : wordB wElse σ = true) (h : outP σ2 d = runP dirP (σ.1.tail, σ.2)) : runP (casesP f (C ++ [⟨[], d⟩])) σ2 = runP (casesP (f + 1) C) σ := by
  have h1 := rp_bind (f := fun d r2 => casesP f (C ++ [⟨[], d⟩]) r2) h
  obtain ⟨h3, h4⟩ := wordB_inv hw
  rw [show runP (casesP f (C ++ [⟨[], d⟩])) σ2 = _ from h1, rp_go h3, rp_go (σ := (σ.1.tail, σ.2)) h3]
  show _ = (if isW wCase σ.1 then _ else if isW wElse σ.1 then _ else _)
  rw [wordB_no hc h3, if_neg (by decide), if_pos h4]
theorem rp_cases0 {f : Nat} {C : List Cas} {σ : Sg} (hc : wordB wCase σ = false) (hw : wordB wElse σ = false) : outP σ C = runP (casesP (f + 1) C) σ := by
  cases hb : σ.2 with
  | true => exact op_bad_rp hb
  | false =>
    rw [rp_go hb, op_go hb]
    show _ = (if isW wCase σ.1 then _ else if isW wElse σ.1 then _ else _)
    rw [wordB_no hc hb, if_neg (by decide), wordB_no hw hb, if_neg (by decide)]
/-! ### kinds -/
theorem rp_lim1 {σ : Sg} (hw : wordB wLimit σ = true) : outP (mustS wSemi (oneS 2 (mustS wIn (oneS 2 (σ.1.tail, σ.2))))) (((oneT 2 (σ.1.tail, σ.2)).n : Int), ((oneT 2 (mustS wIn (oneS 2 (σ.1.tail, σ.2)))).n : Int)) = runP limP σ := by
  obtain ⟨h3, h4⟩ := wordB_inv hw
  have h1 := op_bind (g := fun _ : Unit => (((oneT 2 (σ.1.tail, σ.2)).n : Int), ((oneT 2 (mustS wIn (oneS 2 (σ.1.tail, σ.2)))).n : Int))) (rp_must wSemi (oneS 2 (mustS wIn (oneS 2 (σ.1.tail, σ.2)))))
  have h2 := rp_bind (f := fun b r3 => (mustP [wSemi] r3).bind fun _ r4 => PR.ok (((oneT 2 (σ.1.tail, σ.2)).n : Int), b) r4) (rp_num (mustS wIn (oneS 2 (σ.1.tail, σ.2))))
  have h5 := rp_bind (f := fun _ r2 => (numP r2).bind fun b r3 => (mustP [wSemi] r3).bind fun _ r4 => PR.ok (((oneT 2 (σ.1.tail, σ.2)).n : Int), b) r4) (rp_must wIn (oneS 2 (σ.1.tail, σ.2)))
  have h6 := rp_bind (f := fun a r => (mustP [wIn] r).bind fun _ r2 => (numP r2).bind fun b r3 => (mustP [wSemi] r3).bind fun _ r4 => PR.ok ((a : Int), b) r4) (rp_num (σ.1.tail, σ.2))
  rw [h1.trans (h2.trans (h5.trans h6)), rp_go h3, rp_go (σ := (σ.1.tail, σ.2)) h3]
  show _ = (if isW wLimit σ.1 then _ else _)
  rw [if_pos h4]
theorem rp_lim0 {σ : Sg} (hw : wordB wLimit σ = false) : outP σ ((0 : Int), (1 : Int)) = runP limP σ := by
  cases hb : σ.2 with
  | true => exact op_bad_rp hb
  | false =>
    rw [rp_go hb, op_go hb]
    show _ = (if isW wLimit σ.1 then _ else _)
    rw [wordB_no hw hb, if_neg (by decide)]
theorem rp_knd {s : By} {ab : Int × Int} {C : List Cas} {S : List Sta} {σ σ2 σ3 σ4 : Sg} (hs : s = (oneT 1 σ).text) (h2 : outP σ2 ab = runP limP (mustS wOpen (oneS 1 σ))) (h3 : outP σ3 C = runP (fun T => casesP (T.length + 1) [] T) σ2) (h4 : outP σ4 S = runP (fun T => stasP (T.length + 1) [] T) σ3) :
    outP (mustS wShut σ4) (⟨s, ab.1, ab.2, none, 0, C, none, 0, S⟩ : Knd) = runP kndP σ := by
  subst hs
  have g1 := op_bind (g := fun _ : Unit => (⟨(oneT 1 σ).text, ab.1, ab.2, none, 0, C, none, 0, S⟩ : Knd)) (rp_must wShut σ4)
  have g2 := rp_bind (f := fun S r5 => (mustP [wShut] r5).bind fun _ r6 => PR.ok (⟨(oneT 1 σ).text, ab.1, ab.2, none, 0, C, none, 0, S⟩ : Knd) r6) h4
  have g3 := rp_bind (f := fun C r4 => (stasP (r4.length + 1) [] r4).bind fun S r5 => (mustP [wShut] r5).bind fun _ r6 => PR.ok (⟨(oneT 1 σ).text, ab.1, ab.2, none, 0, C, none, 0, S⟩ : Knd) r6) h3
  have g4 := rp_bind (f := fun (ab : Int × Int) r3 => (casesP (r3.length + 1) [] r3).bind fun C r4 => (stasP (r4.length + 1) [] r4).bind fun S r5 => (mustP [wShut] r5).bind fun _ r6 => PR.ok (⟨(oneT 1 σ).text, ab.1, ab.2, none, 0, C, none, 0, S⟩ : Knd) r6) h2
  have g5 := rp_bind (f := fun _ r2 => (limP r2).bind fun ab r3 => (casesP (r3.length + 1) [] r3).bind fun C r4 => (stasP (r4.length + 1) [] r4).bind fun S r5 => (mustP [wShut] r5).bind fun _ r6 => PR.ok (⟨(oneT 1 σ).text, ab.1, ab.2, none, 0, C, none, 0, S⟩ : Knd) r6) (rp_must wOpen (oneS 1 σ))
  have g6 := rp_bind (f := fun s r => (mustP [wOpen] r).bind fun _ r2 => (limP r2).bind fun ab r3 => (casesP (r3.length + 1) [] r3).bind fun C r4 => (stasP (r4.length + 1) [] r4).bind fun S r5 => (mustP [wShut] r5).bind fun _ r6 => PR.ok (⟨s, ab.1, ab.2, none, 0, C, none, 0, S⟩ : Knd) r6) (rp_name σ)
  exact g1.trans (g2.trans (g3.trans (g4.trans (g5.trans g6))))
theorem rp_knds {f : Nat} {K : List Knd} {k : Knd} {σ σ2 : Sg} (hb : σ.2 = false) (hne : σ.1 ≠ []) (h : outP σ2 k = runP kndP (mustS wKind σ)) : runP (kndsP f (K ++ [k])) σ2 = runP (kndsP (f + 1) K) σ := by
  have h1 := rp_bind (f := fun k r2 => kndsP f (K ++ [k]) r2) h
  have h2 := rp_bind (f := fun _ r => (kndP r).bind fun k r2 => kndsP f (K ++ [k]) r2) (rp_must wKind σ)
  rw [show runP (kndsP f (K ++ [k])) σ2 = _ from h1.trans h2, rp_go hb, rp_go hb]
  show _ = (if σ.1.isEmpty then _ else _)
  rw [if_neg (by cases hs : σ.1 with | nil => exact absurd hs hne | cons t T => simp)]
theorem rp_knds0 {f : Nat} {K : List Knd} {σ : Sg} (hb : σ.2 = false) (hne : σ.1 = []) : runP (kndsP (f + 1) K) σ = .ok K [] := by
  rw [rp_go hb, hne]; rfl
/-! ### what lies in memory, a little more of it -/
theorem mk_row2 {a : Option Addr} {c : Nat} {e : TypeId} {tag : By} {only : Bool} {n : Int} {es : List Eff} {R : List Assn} (h1 : ok63 tag.length) (h2 : es.length ≤ 20000) (h3 : ∀ x ∈ es, EffOk x) : ∀ h, Sat (own (.slice a es.length c) e 7 es.length (es.flatMap effC) :: R) h → Sat (rowA ⟨tag, only, n, a, c, es⟩ :: R) h :=
  fun _ => Sat.head fun g hh => ⟨h1, rdh_own hh, by show es.length * 80 ≤ 140737488351232; omega, h3⟩
theorem mk_sta2 {a : Option Addr} {c : Nat} {e : TypeId} {name : By} {R : List Row} {F : List Assn} (h1 : ok63 name.length) (h2 : R.length ≤ 20000) : ∀ h, Sat (own (.slice a R.length c) e 4 R.length (R.flatMap rowC) :: rowsA R :: F) h → Sat (staA ⟨name, a, c, R⟩ :: F) h :=
  sat_merge fun h k d ha hb => ⟨h1, (rdh_own ha).imp imp_l, by show R.length * 56 ≤ 140737488351232; omega, fun r hr => (hb r hr).imp (imp_r d)⟩
theorem mk_knd2 {a a2 : Option Addr} {c c2 : Nat} {e e2 : TypeId} {name : By} {lim wi : Int} {C : List Cas} {S : List Sta} {F : List Assn} (h1 : ok63 name.length) (h2 : C.length ≤ 20000) (h3 : S.length ≤ 20000) (h4 : ∀ x ∈ C, ok63 x.reason.length) :
    ∀ h, Sat (own (.slice a C.length c) e 2 C.length (C.flatMap casC) :: own (.slice a2 S.length c2) e2 2 S.length (S.flatMap staC) :: stasA S :: F) h → Sat (kndA ⟨name, lim, wi, a, c, C, a2, c2, S⟩ :: F) h := fun h s => by
  have s1 := Sat.tail (sat_merge (C := fun h => RdH h a2 c2 S.length (S.flatMap staC) ∧ ∀ s ∈ S, StaOk h s) fun h k d ha hb => ⟨(rdh_own ha).imp imp_l, fun r hr => (hb r hr).imp (imp_r d)⟩) s
  exact sat_merge (fun h k d ha hb => ⟨h1, (rdh_own ha).imp imp_l, by show C.length * 24 ≤ 140737488351232; omega, h4, hb.1.imp (imp_r d), by show S.length * 40 ≤ 140737488351232; omega, fun r hr => (hb.2 r hr).imp (imp_r d)⟩) h s1
theorem mk_prg2 {a : Option Addr} {c : Nat} {e : TypeId} {K : List Knd} {F : List Assn} (h2 : K.length ≤ 20000) : ∀ h, Sat (own (.slice a K.length c) e 5 K.length (K.flatMap kndC) :: kndsA K :: F) h → Sat (prgA a c K :: F) h :=
  sat_merge fun h k d ha hb => ⟨(rdh_own ha).imp imp_l, by show K.length * 80 ≤ 140737488351232; omega, fun r hr => (hb r hr).imp (imp_r d)⟩
end Go.L.Pa
