/-
  Texts one behind the other and texts cut off, on paper: how a reading goes on when more tokens follow. Own work; no program.
-/
import Derived.Test.YtgkjnilckmminaaGreatDoorParP
set_option linter.unusedSimpArgs false
set_option linter.unusedVariables false
set_option linter.unusedSectionVars false
namespace Go.L.Pa
open Go.L Go.L.Lx Go.L.Pg
/-- tokens at other places, and more behind them -/
def up (k : Nat) (X T : List Tk) : List Tk := T.map (shT k) ++ X
theorem up_nil (k : Nat) (X : List Tk) : up k X [] = X := rfl
theorem up_cons (k : Nat) (X : List Tk) (t : Tk) (T : List Tk) : up k X (t :: T) = shT k t :: up k X T := rfl
theorem up_zero (X T : List Tk) : up 0 X T = T ++ X := by
  unfold up
  have : T.map (shT 0) = T := by
    induction T with
    | nil => rfl
    | cons t T ih => rw [List.map_cons, ih]; rfl
  rw [this]
theorem up_x (k : Nat) (T : List Tk) : up k [] T = T.map (shT k) := List.append_nil _
theorem up_len (k : Nat) (X T : List Tk) : (up k X T).length = T.length + X.length := by unfold up; rw [List.length_append, List.length_map]
/-- how a reading of T stands to that of T with more behind it, if it looks at nothing behind what it reads -/
def Dn {α : Type} (k : Nat) (X : List Tk) : PR α → PR α → Prop
  | .ok a r, q => q = .ok a (up k X r)
  | .bad (t :: r), q => q = .bad (up k X (t :: r))
  | .bad [], q => Lv X q ∧ (X = [] → q = .bad [])
/-- the same, if it looks at the next token -/
def Wk {α : Type} (k : Nat) (X : List Tk) : PR α → PR α → Prop
  | .ok a (t :: r), q => q = .ok a (up k X (t :: r))
  | .ok a [], q => Lv X q ∧ (X = [] → q = .ok a [])
  | .bad (t :: r), q => q = .bad (up k X (t :: r))
  | .bad [], q => Lv X q ∧ (X = [] → q = .bad [])
theorem Dn.wk {α : Type} {k : Nat} {X : List Tk} {p q : PR α} (h : Dn k X p q) : Wk k X p q := by
  cases p with
  | ok a r =>
    cases r with
    | nil => replace h : q = .ok a X := h; subst h; exact ⟨Suf.refl X, fun e => by rw [e]⟩
    | cons t r => exact h
  | bad r => cases r <;> exact h
theorem Dn.bind {α β : Type} {k : Nat} {X : List Tk} {p q : PR α} {f f' : α → List Tk → PR β} (h : Dn k X p q) (hf : ∀ a r, p = .ok a r → Dn k X (f a r) (f' a (up k X r))) (hl : ∀ a r, Lv r (f' a r)) : Dn k X (p.bind f) (q.bind f') := by
  cases p with
  | ok a r => replace h : q = .ok a (up k X r) := h; subst h; exact hf a r rfl
  | bad r =>
    cases r with
    | nil => exact ⟨h.1.bind fun a r _ => hl a r, fun e => by rw [h.2 e]; rfl⟩
    | cons t r => replace h : q = .bad (up k X (t :: r)) := h; subst h; rfl
theorem Dn.bindW {α β : Type} {k : Nat} {X : List Tk} {p q : PR α} {f f' : α → List Tk → PR β} (h : Dn k X p q) (hf : ∀ a r, p = .ok a r → Wk k X (f a r) (f' a (up k X r))) (hl : ∀ a r, Lv r (f' a r)) : Wk k X (p.bind f) (q.bind f') := by
  cases p with
  | ok a r => replace h : q = .ok a (up k X r) := h; subst h; exact hf a r rfl
  | bad r =>
    cases r with
    | nil => exact ⟨h.1.bind fun a r _ => hl a r, fun e => by rw [h.2 e]; rfl⟩
    | cons t r => replace h : q = .bad (up k X (t :: r)) := h; subst h; rfl
theorem Wk.bindD {α β : Type} {k : Nat} {X : List Tk} {p q : PR α} {f f' : α → List Tk → PR β} (h : Wk k X p q) (h0 : ∀ a, f a [] = .bad []) (hf : ∀ a r, p = .ok a r → Dn k X (f a r) (f' a (up k X r))) (hl : ∀ a r, Lv r (f' a r)) : Dn k X (p.bind f) (q.bind f') := by
  cases p with
  | ok a r =>
    cases r with
    | nil =>
      have h1 := hf a [] rfl
      show Dn k X (f a []) _
      rw [h0] at h1 ⊢
      exact ⟨h.1.bind fun a r _ => hl a r, fun e => by rw [h.2 e]; subst e; exact h1.2 rfl⟩
    | cons t r => replace h : q = .ok a (up k X (t :: r)) := h; subst h; exact hf a _ rfl
  | bad r =>
    cases r with
    | nil => exact ⟨h.1.bind fun a r _ => hl a r, fun e => by rw [h.2 e]; rfl⟩
    | cons t r => replace h : q = .bad (up k X (t :: r)) := h; subst h; rfl
/-! ### each reader -/
theorem isW_up (w : By) (k : Nat) (X : List Tk) (t : Tk) (T : List Tk) : isW w (up k X (t :: T)) = isW w (t :: T) := rfl
theorem dn_must (k : Nat) (X : List Tk) : ∀ (ws : List By) (T : List Tk), Dn k X (mustP ws T) (mustP ws (up k X T))
  | [], T => rfl
  | w :: ws, [] => ⟨lv_must (w :: ws) X, fun e => by subst e; rfl⟩
  | w :: ws, t :: T => by
    unfold mustP
    rw [isW_up]
    split
    · exact dn_must k X ws T
    · rfl
theorem dn_name (k : Nat) (X T : List Tk) : Dn k X (nameP T) (nameP (up k X T)) := by
  cases T with
  | nil => exact ⟨lv_name X, fun e => by subst e; rfl⟩
  | cons t T =>
    show Dn k X ((if t.kind = 1 then PR.ok t T else .bad (t :: T)).bind _) ((if t.kind = 1 then PR.ok (shT k t) (up k X T) else .bad (shT k t :: up k X T)).bind _)
    split <;> rfl
theorem dn_num (k : Nat) (X T : List Tk) : Dn k X (numP T) (numP (up k X T)) := by
  cases T with
  | nil => exact ⟨lv_num X, fun e => by subst e; rfl⟩
  | cons t T =>
    show Dn k X ((if t.kind = 2 then PR.ok t T else .bad (t :: T)).bind _) ((if t.kind = 2 then PR.ok (shT k t) (up k X T) else .bad (shT k t :: up k X T)).bind _)
    split <;> rfl
theorem dn_val (k : Nat) (X : List Tk) (e : Eff) (T : List Tk) : Dn k X (valP e T) (valP e (up k X T)) := by
  cases T with
  | nil => exact ⟨lv_val e X, fun e => by subst e; rfl⟩
  | cons t T =>
    unfold valP
    rw [isW_up, isW_up]
    split
    · rfl
    · split
      · rfl
      · exact (dn_num k X (t :: T)).bind (fun _ _ _ => rfl) (fun _ r => lv_ok (.refl r))
theorem dn_part (k : Nat) (X : List Tk) (c : UInt8) (e : Eff) (T : List Tk) : Dn k X (partP c e T) (partP c e (up k X T)) := by
  unfold partP
  repeat' split
  · exact (dn_name k X T).bind (fun _ _ _ => rfl) (fun _ r => lv_ok (.refl r))
  · exact (dn_name k X T).bind (fun _ _ _ => rfl) (fun _ r => lv_ok (.refl r))
  · exact (dn_name k X T).bind (fun _ _ _ => rfl) (fun _ r => lv_ok (.refl r))
  · exact (dn_num k X T).bind (fun _ _ _ => rfl) (fun _ r => lv_ok (.refl r))
  · exact dn_val k X e T
  · rfl
theorem dn_parts (k : Nat) (X : List Tk) : ∀ (cs : By) (e : Eff) (T : List Tk), Dn k X (partsP cs e T) (partsP cs e (up k X T))
  | [], e, T => rfl
  | c :: cs, e, T => (dn_part k X c e T).bind (fun e r _ => dn_parts k X cs e r) (fun e r => lv_parts cs e r)
theorem effG_nil : ∀ (vs : List (By × By)) (i : Nat), effG vs i [] = .bad []
  | [], _ => rfl
  | (w, ps) :: vs, i => effG_nil vs (i + 1)
theorem dn_effG (k : Nat) (X : List Tk) : ∀ (vs : List (By × By)) (i : Nat) (T : List Tk), Dn k X (effG vs i T) (effG vs i (up k X T))
  | vs, i, [] => by rw [effG_nil]; exact ⟨lv_effG vs i X, fun e => by subst e; exact effG_nil vs i⟩
  | [], i, t :: T => rfl
  | (w, ps) :: vs, i, t :: T => by
    unfold effG
    rw [isW_up]
    split
    · exact dn_parts k X ps _ T
    · exact dn_effG k X vs (i + 1) (t :: T)
theorem dn_eff (k : Nat) (X T : List Tk) : Dn k X (effP T) (effP (up k X T)) := dn_effG k X VB 0 T
theorem dn_effs (k : Nat) (X : List Tk) : ∀ (f : Nat) (acc : List Eff) (T : List Tk) (f' : Nat), T.length < f → (up k X T).length < f' → Dn k X (effsP f acc T) (effsP f' acc (up k X T))
  | 0, _, _, _, h, _ => absurd h (Nat.not_lt_zero _)
  | _ + 1, _, _, 0, _, h => absurd h (Nat.not_lt_zero _)
  | f + 1, acc, [], f' + 1, _, _ => ⟨lv_effs (f' + 1) acc X, fun e => by subst e; rfl⟩
  | f + 1, acc, t :: T, f' + 1, h, h' => by
    rw [up_len] at h'
    simp only [List.length_cons] at h h'
    unfold effsP
    rw [isW_up]
    split
    · rfl
    · refine (dn_eff k X (t :: T)).bind (fun e r he => ?_) (fun e r => (lv_must _ r).bind fun _ r' _ => lv_effs f' _ r')
      have h1 := lt_eff (t :: T); rw [he] at h1; replace h1 : r.length < T.length + 1 := h1
      refine (dn_must k X _ r).bind (fun _ r' hm => ?_) (fun _ r' => lv_effs f' _ r')
      have h2 := lv_must [wSemi] r; rw [hm] at h2; replace h2 := h2.1
      exact dn_effs k X f _ r' f' (by omega) (by rw [up_len]; omega)
theorem dn_rowX (k : Nat) (X : List Tk) (w : Row) (T : List Tk) : Dn k X (rowX w T) (rowX w (up k X T)) :=
  (dn_must k X _ T).bind (fun _ r _ => (dn_effs k X _ [] r _ (Nat.lt_succ_self _) (Nat.lt_succ_self _)).bind (fun _ _ _ => rfl) (fun _ r => lv_ok (.refl r))) (fun _ r => (lv_effs _ _ r).bind fun _ r' _ => .refl r')
theorem dn_rowN (k : Nat) (X : List Tk) (s : By) (T : List Tk) : Dn k X (rowN s T) (rowN s (up k X T)) := by
  cases T with
  | nil => exact ⟨lv_rowN s X, fun e => by subst e; rfl⟩
  | cons t T =>
    unfold rowN
    rw [show headNum (up k X (t :: T)) = headNum (t :: T) from rfl]
    split
    · exact (dn_num k X (t :: T)).bind (fun _ r _ => dn_rowX k X _ r) (fun _ r => lv_rowE _ r)
    · exact dn_rowX k X _ (t :: T)
theorem dn_row (k : Nat) (X T : List Tk) : Dn k X (rowP T) (rowP (up k X T)) := by
  cases T with
  | nil => exact ⟨lv_row X, fun e => by subst e; rfl⟩
  | cons t T =>
    unfold rowP
    rw [isW_up]
    split
    · exact dn_rowX k X _ T
    · exact (dn_must k X _ (t :: T)).bind (fun _ r _ => (dn_name k X r).bind (fun s r' _ => dn_rowN k X s r') (fun s r' => lv_rowN s r')) (fun _ r => (lv_name r).bind fun s r' _ => lv_rowN s r')
theorem dn_rows (k : Nat) (X : List Tk) : ∀ (f : Nat) (acc : List Row) (T : List Tk) (f' : Nat), T.length < f → (up k X T).length < f' → Dn k X (rowsP f acc T) (rowsP f' acc (up k X T))
  | 0, _, _, _, h, _ => absurd h (Nat.not_lt_zero _)
  | _ + 1, _, _, 0, _, h => absurd h (Nat.not_lt_zero _)
  | f + 1, acc, [], f' + 1, _, _ => ⟨lv_rows (f' + 1) acc X, fun e => by subst e; rfl⟩
  | f + 1, acc, t :: T, f' + 1, h, h' => by
    rw [up_len] at h'
    simp only [List.length_cons] at h h'
    unfold rowsP
    rw [isW_up]
    split
    · rfl
    · refine (dn_row k X (t :: T)).bind (fun e r he => ?_) (fun e r => lv_rows f' _ r)
      have h1 := lt_row (t :: T); rw [he] at h1; replace h1 : r.length < T.length + 1 := h1
      exact dn_rows k X f _ r f' (by omega) (by rw [up_len]; omega)
theorem dn_sta (k : Nat) (X T : List Tk) : Dn k X (staP T) (staP (up k X T)) :=
  (dn_name k X T).bind (fun _ r _ => (dn_must k X _ r).bind (fun _ r2 _ => (dn_rows k X _ [] r2 _ (Nat.lt_succ_self _) (Nat.lt_succ_self _)).bind (fun _ _ _ => rfl) (fun _ r => lv_ok (.refl r))) (fun _ r2 => (lv_rows _ _ r2).bind fun _ r3 _ => .refl r3)) (fun _ r => (lv_must _ r).bind fun _ r2 _ => (lv_rows _ _ r2).bind fun _ r3 _ => .refl r3)
theorem dirG_nil : ∀ (ws : List By) (i : Nat), dirG ws i [] = .bad []
  | [], _ => rfl
  | w :: ws, i => dirG_nil ws (i + 1)
theorem dn_dirG (k : Nat) (X : List Tk) : ∀ (ws : List By) (i : Nat) (T : List Tk), Dn k X (dirG ws i T) (dirG ws i (up k X T))
  | ws, i, [] => by rw [dirG_nil]; exact ⟨lv_dirG ws i X, fun e => by subst e; exact dirG_nil ws i⟩
  | [], i, t :: T => rfl
  | w :: ws, i, t :: T => by
    unfold dirG
    rw [isW_up]
    split
    · exact (dn_must k X _ T).bind (fun _ _ _ => rfl) (fun _ r => lv_ok (.refl r))
    · exact dn_dirG k X ws (i + 1) (t :: T)
theorem dn_dir (k : Nat) (X T : List Tk) : Dn k X (dirP T) (dirP (up k X T)) := dn_dirG k X dirs 0 T
theorem wk_cases (k : Nat) (X : List Tk) : ∀ (f : Nat) (acc : List Cas) (T : List Tk) (f' : Nat), T.length < f → (up k X T).length < f' → Wk k X (casesP f acc T) (casesP f' acc (up k X T))
  | 0, _, _, _, h, _ => absurd h (Nat.not_lt_zero _)
  | _ + 1, _, _, 0, _, h => absurd h (Nat.not_lt_zero _)
  | f + 1, acc, [], f' + 1, _, _ => ⟨lv_cases (f' + 1) acc X, fun e => by subst e; rfl⟩
  | f + 1, acc, t :: T, f' + 1, h, h' => by
    rw [up_len] at h'
    simp only [List.length_cons] at h h'
    unfold casesP
    rw [isW_up, isW_up]
    split
    · refine (dn_name k X T).bindW (fun s r hn => ?_) (fun s r => (lv_dir r).bind fun _ r2 _ => lv_cases f' _ r2)
      have h1 := lv_name T; rw [hn] at h1; replace h1 := h1.1
      refine (dn_dir k X r).bindW (fun d r2 hd => ?_) (fun _ r2 => lv_cases f' _ r2)
      have h2 := lv_dir r; rw [hd] at h2; replace h2 := h2.1
      exact wk_cases k X f _ r2 f' (by omega) (by rw [up_len]; omega)
    · split
      · refine (dn_dir k X T).bindW (fun d r2 hd => ?_) (fun _ r2 => lv_cases f' _ r2)
        have h2 := lv_dir T; rw [hd] at h2; replace h2 := h2.1
        exact wk_cases k X f _ r2 f' (by omega) (by rw [up_len]; omega)
      · rfl
theorem wk_stas (k : Nat) (X : List Tk) : ∀ (f : Nat) (acc : List Sta) (T : List Tk) (f' : Nat), T.length < f → (up k X T).length < f' → Wk k X (stasP f acc T) (stasP f' acc (up k X T))
  | 0, _, _, _, h, _ => absurd h (Nat.not_lt_zero _)
  | _ + 1, _, _, 0, _, h => absurd h (Nat.not_lt_zero _)
  | f + 1, acc, [], f' + 1, _, _ => ⟨lv_stas (f' + 1) acc X, fun e => by subst e; rfl⟩
  | f + 1, acc, t :: T, f' + 1, h, h' => by
    rw [up_len] at h'
    simp only [List.length_cons] at h h'
    unfold stasP
    rw [isW_up]
    split
    · refine (dn_sta k X T).bindW (fun s r hn => ?_) (fun s r => lv_stas f' _ r)
      have h1 := lv_sta T; rw [hn] at h1; replace h1 := h1.1
      exact wk_stas k X f _ r f' (by omega) (by rw [up_len]; omega)
    · rfl
theorem wk_lim (k : Nat) (X T : List Tk) : Wk k X (limP T) (limP (up k X T)) := by
  cases T with
  | nil => exact ⟨lv_lim X, fun e => by subst e; rfl⟩
  | cons t T =>
    unfold limP
    rw [isW_up]
    split
    · exact Dn.wk ((dn_num k X T).bind (fun a r _ => (dn_must k X _ r).bind (fun _ r2 _ => (dn_num k X r2).bind (fun b r3 _ => (dn_must k X _ r3).bind (fun _ _ _ => rfl) (fun _ r4 => lv_ok (.refl r4)))
        (fun _ r3 => (lv_must _ r3).bind fun _ r4 _ => lv_ok (.refl r4))) (fun _ r2 => (lv_num r2).bind fun _ r3 _ => (lv_must _ r3).bind fun _ r4 _ => lv_ok (.refl r4)))
        (fun _ r => (lv_must _ r).bind fun _ r2 _ => (lv_num r2).bind fun _ r3 _ => (lv_must _ r3).bind fun _ r4 _ => lv_ok (.refl r4)))
    · rfl
theorem dn_knd (k : Nat) (X T : List Tk) : Dn k X (kndP T) (kndP (up k X T)) :=
  (dn_name k X T).bind (fun s r _ => (dn_must k X _ r).bind (fun _ r2 _ => (wk_lim k X r2).bindD (fun _ => rfl) (fun ab r3 _ => (wk_cases k X _ [] r3 _ (Nat.lt_succ_self _) (Nat.lt_succ_self _)).bindD (fun _ => rfl) (fun C r4 _ => (wk_stas k X _ [] r4 _ (Nat.lt_succ_self _) (Nat.lt_succ_self _)).bindD (fun _ => rfl)
    (fun S r5 _ => (dn_must k X _ r5).bind (fun _ _ _ => rfl) (fun _ r => lv_ok (.refl r))) (fun _ r5 => (lv_must _ r5).bind fun _ r6 _ => .refl r6))
    (fun _ r4 => (lv_stas _ _ r4).bind fun _ r5 _ => (lv_must _ r5).bind fun _ r6 _ => .refl r6)) (fun _ r3 => (lv_cases _ _ r3).bind fun _ r4 _ => (lv_stas _ _ r4).bind fun _ r5 _ => (lv_must _ r5).bind fun _ r6 _ => .refl r6))
    (fun _ r2 => (lv_lim r2).bind fun _ r3 _ => (lv_cases _ _ r3).bind fun _ r4 _ => (lv_stas _ _ r4).bind fun _ r5 _ => (lv_must _ r5).bind fun _ r6 _ => .refl r6))
    (fun _ r => (lv_must _ r).bind fun _ r2 _ => (lv_lim r2).bind fun _ r3 _ => (lv_cases _ _ r3).bind fun _ r4 _ => (lv_stas _ _ r4).bind fun _ r5 _ => (lv_must _ r5).bind fun _ r6 _ => .refl r6)
/-! ### all kinds -/
def Kn (k : Nat) (X : List Tk) : PR (List Knd) → PR (List Knd) → Prop
  | .ok K _, q => ∃ f, X.length < f ∧ q = kndsP f K X
  | .bad (t :: r), q => q = .bad (up k X (t :: r))
  | .bad [], q => Lv X q ∧ (X = [] → q = .bad [])
theorem Dn.bindK {α : Type} {k : Nat} {X : List Tk} {p q : PR α} {f f' : α → List Tk → PR (List Knd)} (h : Dn k X p q) (hf : ∀ a r, p = .ok a r → Kn k X (f a r) (f' a (up k X r))) (hl : ∀ a r, Lv r (f' a r)) : Kn k X (p.bind f) (q.bind f') := by
  cases p with
  | ok a r => replace h : q = .ok a (up k X r) := h; subst h; exact hf a r rfl
  | bad r =>
    cases r with
    | nil => exact ⟨h.1.bind fun a r _ => hl a r, fun e => by rw [h.2 e]; rfl⟩
    | cons t r => replace h : q = .bad (up k X (t :: r)) := h; subst h; rfl
theorem kn_knds (k : Nat) (X : List Tk) : ∀ (f : Nat) (acc : List Knd) (T : List Tk) (f' : Nat), T.length < f → (up k X T).length < f' → Kn k X (kndsP f acc T) (kndsP f' acc (up k X T))
  | 0, _, _, _, h, _ => absurd h (Nat.not_lt_zero _)
  | _ + 1, _, _, 0, _, h => absurd h (Nat.not_lt_zero _)
  | f + 1, acc, [], f' + 1, _, h => ⟨f' + 1, h, rfl⟩
  | f + 1, acc, t :: T, f' + 1, h, h' => by
    rw [up_len] at h'
    simp only [List.length_cons] at h h'
    show Kn k X ((mustP [wKind] (t :: T)).bind fun _ r => (kndP r).bind fun k r2 => kndsP f (acc ++ [k]) r2) ((mustP [wKind] (up k X (t :: T))).bind fun _ r => (kndP r).bind fun k r2 => kndsP f' (acc ++ [k]) r2)
    refine (dn_must k X _ (t :: T)).bindK (fun _ r hm => ?_) (fun _ r => (lv_knd r).bind fun _ r2 _ => lv_knds f' _ r2)
    have h1 := lt_must (w := wKind) (ws := []) (t :: T); rw [hm] at h1; replace h1 : r.length < T.length + 1 := h1
    refine (dn_knd k X r).bindK (fun _ r2 hk => ?_) (fun _ r2 => lv_knds f' _ r2)
    have h2 := lv_knd r; rw [hk] at h2; replace h2 := h2.1
    exact kn_knds k X f _ r2 f' (by omega) (by rw [up_len]; omega)
def mapOk {α : Type} (g : α → α) : PR α → PR α
  | .ok a r => .ok (g a) r
  | .bad r => .bad r
theorem mapOk_bind {α β : Type} (g : β → β) (p : PR α) (f : α → List Tk → PR β) : mapOk g (p.bind f) = p.bind fun a r => mapOk g (f a r) := by cases p <;> rfl
theorem bind_congr {α β : Type} (p : PR α) {f f' : α → List Tk → PR β} (h : ∀ a r, f a r = f' a r) : p.bind f = p.bind f' := by cases p with
  | ok a r => exact h a r
  | bad r => rfl
theorem knds_acc (A : List Knd) : ∀ (f : Nat) (acc : List Knd) (T : List Tk), kndsP f (A ++ acc) T = mapOk (A ++ ·) (kndsP f acc T)
  | 0, _, _ => rfl
  | f + 1, acc, T => by
    unfold kndsP
    split
    · rfl
    · rw [mapOk_bind]
      refine bind_congr _ fun _ r => ?_
      rw [mapOk_bind]
      refine bind_congr _ fun kd r2 => ?_
      rw [← knds_acc A f, List.append_assoc]
/-- all kinds of tokens at other places: the same -/
theorem knds_sh (k : Nat) (T : List Tk) (f f' : Nat) (h : T.length < f) (h' : T.length < f') (acc : List Knd) : match kndsP f acc T with
    | .ok K _ => kndsP f' acc (T.map (shT k)) = .ok K []
    | .bad r => kndsP f' acc (T.map (shT k)) = .bad (r.map (shT k)) := by
  have h1 := kn_knds k [] f acc T f' h (by rw [up_len]; exact h')
  rw [up_x] at h1
  cases hp : kndsP f acc T with
  | ok K r =>
    rw [hp] at h1
    obtain ⟨f2, h2, h3⟩ := h1
    show _ = PR.ok K []
    rw [h3]
    cases f2 with
    | zero => exact absurd h2 (Nat.not_lt_zero _)
    | succ f2 => rfl
  | bad r =>
    rw [hp] at h1
    cases r with
    | nil => exact h1.2 rfl
    | cons t r =>
      replace h1 : kndsP f' acc (T.map (shT k)) = .bad (up k [] (t :: r)) := h1
      rw [up_x] at h1; exact h1
theorem lexAll_small {l : By} (h : l.length ≤ 16384) : lexAll l = lex 0 l := by unfold lexAll; rw [if_neg (by omega)]
theorem progP_lex {l : By} (h : l.length ≤ 16384) : progP l = match lex 0 l with | .error e => .error e | .ok T => progT l.length T := by
  unfold progP; rw [lexAll_small h]; cases lex 0 l <;> rfl
theorem fltOf_sh (n k : Nat) (r : List Tk) : fltOf (n + k) (r.map (shT k)) = ((fltOf n r).1, (fltOf n r).2 + k) := by cases r <;> rfl
/-- one text behind another -/
theorem join_prg {a b : By} (hl : a.length + b.length ≤ 16000) : match progP a with
    | .error e => e.1 = 31 ∨ ∃ e', progP (a ++ 10 :: b) = .error e' ∧ (e' = e ∨ e.1 = 30)
    | .ok K => match progP b with
      | .error f => progP (a ++ 10 :: b) = .error (f.1, f.2 + (a.length + 1))
      | .ok K2 => progP (a ++ 10 :: b) = .ok (K ++ K2) := by
  rw [progP_lex (l := a) (by omega), progP_lex (l := b) (by omega), progP_lex (l := a ++ 10 :: b) (by rw [List.length_append, List.length_cons]; omega), lex_app, lex_blank (by decide), show 0 + a.length + 1 = 0 + (a.length + 1) by omega, lex_shift]
  cases hA : lex 0 a with
  | error e => exact .inr ⟨e, rfl, .inl rfl⟩
  | ok A =>
    show match progT a.length A with
      | .error e => e.1 = 31 ∨ ∃ e', _ = Except.error e' ∧ (e' = e ∨ e.1 = 30)
      | .ok K => _
    cases hk : kndsP (A.length + 1) [] A with
    | bad r =>
      have e1 : progT a.length A = .error (fltOf a.length r) := by unfold progT; rw [hk]
      rw [e1]
      cases r with
      | nil => exact .inl rfl
      | cons t r =>
        refine .inr ?_
        cases hB : lex 0 b with
        | error e => exact ⟨(e.1, e.2 + (a.length + 1)), rfl, .inr rfl⟩
        | ok B =>
          have h1 := kn_knds 0 (B.map (shT (a.length + 1))) (A.length + 1) [] A ((A ++ B.map (shT (a.length + 1))).length + 1) (Nat.lt_succ_self _) (by rw [up_zero]; exact Nat.lt_succ_self _)
          rw [hk, up_zero] at h1
          replace h1 : _ = PR.bad (up 0 _ (t :: r)) := h1
          refine ⟨(30, t.at'), ?_, .inr rfl⟩
          show progT _ (A ++ B.map (shT (a.length + 1))) = _
          unfold progT
          rw [h1]; rfl
    | ok K r =>
      have e1 : progT a.length A = .ok K := by unfold progT; rw [hk]
      rw [e1]
      show match (match lex 0 b with | .error e => Except.error e | .ok T => progT b.length T) with
        | .error f => _
        | .ok K2 => _
      cases hB : lex 0 b with
      | error e => rfl
      | ok B =>
        have h1 := kn_knds 0 (B.map (shT (a.length + 1))) (A.length + 1) [] A ((A ++ B.map (shT (a.length + 1))).length + 1) (Nat.lt_succ_self _) (by rw [up_zero]; exact Nat.lt_succ_self _)
        rw [hk, up_zero] at h1
        obtain ⟨f2, h2, h3⟩ := h1
        have h4 := knds_acc K f2 [] (B.map (shT (a.length + 1)))
        rw [List.append_nil] at h4
        have h5 := knds_sh (a.length + 1) B (B.length + 1) f2 (Nat.lt_succ_self _) (by rw [List.length_map] at h2; exact h2) []
        have e3 : (match pre A (shR (a.length + 1) (.ok B)) with | .error e => Except.error e | .ok T => progT (a ++ 10 :: b).length T) = progT (a ++ 10 :: b).length (A ++ B.map (shT (a.length + 1))) := rfl
        show match progT b.length B with
          | .error f => _ = _
          | .ok K2 => _ = _
        cases hb : kndsP (B.length + 1) [] B with
        | bad r =>
          have e2 : progT b.length B = .error (fltOf b.length r) := by unfold progT; rw [hb]
          rw [e2]
          rw [hb] at h5
          replace h5 : kndsP f2 [] (B.map (shT (a.length + 1))) = .bad (r.map (shT (a.length + 1))) := h5
          show progT (a ++ 10 :: b).length (A ++ B.map (shT (a.length + 1))) = .error _
          unfold progT
          rw [h3, h4, h5]
          show Except.error (fltOf _ _) = Except.error _
          rw [show (a ++ 10 :: b).length = b.length + (a.length + 1) by rw [List.length_append, List.length_cons]; omega, fltOf_sh]
        | ok K2 r2 =>
          have e2 : progT b.length B = .ok K2 := by unfold progT; rw [hb]
          rw [e2]
          rw [hb] at h5
          replace h5 : kndsP f2 [] (B.map (shT (a.length + 1))) = .ok K2 [] := h5
          show progT (a ++ 10 :: b).length (A ++ B.map (shT (a.length + 1))) = .ok _
          unfold progT
          rw [h3, h4, h5]; rfl
/-! ### a text cut off -/
theorem spn_cut (p : UInt8 → Bool) : ∀ (l : By) (n : Nat), spn p (l.take n) = min n (spn p l)
  | [], n => by simp [spn]
  | c :: l, 0 => by simp [spn]
  | c :: l, n + 1 => by
    rw [List.take_succ_cons]
    simp only [spn]
    split
    · rw [spn_cut p l n]; omega
    · omega
theorem numG_ge : ∀ (l : By) (a : Nat), a ≤ 65536 → a ≤ numG a l
  | [], a, h => Nat.le_refl _
  | c :: l, a, h => Nat.le_trans (by omega) (numG_ge l (min (10 * a + (c.toNat - 48)) 65536) (Nat.min_le_right _ _))
theorem numG_app : ∀ (x y : By) (a : Nat), numG a (x ++ y) = numG (numG a x) y
  | [], y, a => rfl
  | c :: x, y, a => numG_app x y _
theorem num_cut (l : By) (n : Nat) : num (l.take n) ≤ num l := by
  unfold num
  have h := numG_app (l.take n) (l.drop n) 0
  rw [List.take_append_drop] at h
  rw [h]; exact numG_ge _ _ (numG_le _ _ (by omega))
theorem nextIn_cut {l : By} (n : Nat) (h : nextIn l = false) : nextIn (l.take n) = false := by
  cases l with
  | nil => simp [nextIn]
  | cons c l =>
    cases n with
    | zero => rfl
    | succ n => exact h
/-- a token cut off -/
theorem tok_cut {p : Nat} {c : UInt8} {r : By} {t : Tk} (h : tok p (c :: r) = .ok t) (n : Nat) : ∃ u, tok p ((c :: r).take (n + 1)) = .ok u ∧ (t.text.length ≤ n + 1 → u = t) ∧ (n + 1 < t.text.length → u.at' = p ∧ u.text.length = n + 1) := by
  have s1 := spn_cut isIn (c :: r) (n + 1); have s2 := spn_cut isDig (c :: r) (n + 1)
  have l1 := spn_le isIn (c :: r); have l2 := spn_le isDig (c :: r)
  rcases tok_cases h with ⟨h1, h2, rfl⟩ | ⟨h1, h2, h3, h4, rfl⟩ | ⟨h1, h2, h3, rfl⟩
  · rw [List.take_succ_cons] at s1 ⊢
    rw [tok_eq, if_pos h1, s1, if_neg (by omega), ← List.take_succ_cons, List.take_take]
    refine ⟨_, rfl, fun hle => ?_, fun hlt => ⟨rfl, ?_⟩⟩
    · rw [List.length_take] at hle
      rw [show min (min (n + 1) (spn isIn (c :: r))) (n + 1) = spn isIn (c :: r) by omega]
    · rw [List.length_take] at hlt ⊢; omega
  · rw [List.take_succ_cons] at s2 ⊢
    rw [tok_eq, if_neg (by rw [h1]; decide), if_pos h2, s2, ← List.take_succ_cons, List.take_take]
    by_cases hs : spn isDig (c :: r) ≤ n + 1
    · rw [show min (min (n + 1) (spn isDig (c :: r))) (n + 1) = spn isDig (c :: r) by omega, show min (n + 1) (spn isDig (c :: r)) = spn isDig (c :: r) by omega, List.drop_take]
      rw [if_neg (by rw [nextIn_cut _ h4]; simp; omega)]
      refine ⟨_, rfl, fun _ => rfl, fun hlt => ⟨rfl, ?_⟩⟩
      rw [List.length_take] at hlt; omega
    · rw [show min (min (n + 1) (spn isDig (c :: r))) (n + 1) = n + 1 by omega, show min (n + 1) (spn isDig (c :: r)) = n + 1 by omega, List.drop_take, Nat.sub_self, List.take_zero]
      have hc := num_cut ((c :: r).take (spn isDig (c :: r))) (n + 1)
      rw [List.take_take, show min (n + 1) (spn isDig (c :: r)) = n + 1 by omega] at hc
      rw [if_neg (fun hh => by
        rcases hh with hh | hh
        · omega
        · cases hh)]
      refine ⟨_, rfl, fun hle => ?_, fun hlt => ⟨rfl, ?_⟩⟩
      · rw [List.length_take] at hle; omega
      · rw [List.length_take] at hlt ⊢; omega
  · rw [List.take_succ_cons]
    rw [tok_eq, if_neg (by rw [h1]; decide), if_neg (by rw [h2]; decide), if_pos h3]
    exact ⟨_, rfl, fun _ => rfl, fun hlt => absurd hlt (by simp)⟩
/-- all tokens of a text cut off -/
theorem lex_cut (p : Nat) (l : By) : ∀ T, lex p l = .ok T → ∀ n, n ≤ l.length → ∃ m u, lex p (l.take n) = .ok (T.take m ++ u) ∧ (u = [] ∨ ∃ t, u = [t] ∧ t.at' + t.text.length = p + n) := by
  refine lex_ind (P := fun p l => ∀ T, lex p l = .ok T → ∀ n, n ≤ l.length → ∃ m u, lex p (l.take n) = .ok (T.take m ++ u) ∧ (u = [] ∨ ∃ t, u = [t] ∧ t.at' + t.text.length = p + n)) ?_ ?_ ?_ ?_ ?_ p l
  · intro p T h n hn
    exact ⟨0, [], by rw [List.take_nil, lex_nil]; rfl, .inl rfl⟩
  · intro p c r hb ih T h n hn
    cases n with
    | zero => exact ⟨0, [], by rw [List.take_zero, lex_nil]; rfl, .inl rfl⟩
    | succ n =>
      rw [lex_blank hb] at h
      obtain ⟨m, u, h1, h2⟩ := ih T h n (by simpa using hn)
      exact ⟨m, u, by rw [List.take_succ_cons, lex_blank hb]; exact h1, h2.imp id fun ⟨t, e, h3⟩ => ⟨t, e, by omega⟩⟩
  · intro p c r h35 ih T h n hn
    cases n with
    | zero => exact ⟨0, [], by rw [List.take_zero, lex_nil]; rfl, .inl rfl⟩
    | succ n =>
      rw [lex_hash h35] at h
      rw [List.length_cons] at hn
      rw [List.take_succ_cons, lex_hash h35, spn_cut]
      have hs := spn_le notNl r
      by_cases hns : n ≤ spn notNl r
      · rw [Nat.min_eq_left hns, List.drop_take, Nat.sub_self, List.take_zero, lex_nil]
        exact ⟨0, [], rfl, .inl rfl⟩
      · rw [Nat.min_eq_right (by omega), List.drop_take]
        obtain ⟨m, u, h1, h2⟩ := ih T h (n - spn notNl r) (by rw [List.length_drop]; omega)
        exact ⟨m, u, h1, h2.imp id fun ⟨t, e, h3⟩ => ⟨t, e, by omega⟩⟩
  · intro p c r e hb h35 ht T h
    rw [lex_err hb h35 ht] at h; cases h
  · intro p c r t hb h35 ht ih T h n hn
    cases n with
    | zero => exact ⟨0, [], by rw [List.take_zero, lex_nil]; rfl, .inl rfl⟩
    | succ n =>
      rw [lex_ok' hb h35 ht] at h
      obtain ⟨Y, hY, rfl⟩ := pre_ok h
      obtain ⟨t1, t2, t3, t4⟩ := tok_text ht
      obtain ⟨u, hu, c1, c2⟩ := tok_cut ht n
      rw [List.length_cons] at hn
      rw [List.take_succ_cons] at hu ⊢
      rw [lex_ok' hb h35 hu, ← List.take_succ_cons, List.drop_take]
      by_cases hlt : n + 1 < t.text.length
      · obtain ⟨c3, c4⟩ := c2 hlt
        rw [c4, Nat.sub_self, List.take_zero, lex_nil]
        exact ⟨0, [u], rfl, .inr ⟨u, rfl, by omega⟩⟩
      · obtain rfl := c1 (by omega)
        obtain ⟨m, v, h1, h2⟩ := ih Y hY (n + 1 - u.text.length) (by rw [List.length_drop, List.length_cons]; omega)
        refine ⟨m + 1, v, ?_, h2.imp id fun ⟨t, e, h3⟩ => ⟨t, e, by omega⟩⟩
        rw [h1]; rfl
/-- a text that is read, cut off anywhere -/
theorem ends_prg {l : By} {K : List Knd} (h : progP l = .ok K) (n : Nat) (hn : n ≤ l.length) : match progP (l.take n) with
    | .ok _ => True
    | .error e => e = (31, n) ∨ ∃ T t, lexAll (l.take n) = .ok (T ++ [t]) ∧ e = (30, t.at') ∧ t.at' + t.text.length = n := by
  have hl : l.length ≤ 16384 := by
    by_cases hl : l.length ≤ 16384
    · exact hl
    · unfold progP lexAll at h; rw [if_pos (by omega)] at h; cases h
  have hl2 : (l.take n).length = n := by rw [List.length_take]; omega
  rw [progP_lex hl] at h
  rw [progP_lex (by omega), hl2, lexAll_small (by omega)]
  cases hT : lex 0 l with
  | error e => rw [hT] at h; cases h
  | ok T =>
    rw [hT] at h
    replace h : progT l.length T = .ok K := h
    obtain ⟨m, u, h1, h2⟩ := lex_cut 0 l T hT n hn
    rw [h1]
    show match progT n (T.take m ++ u) with
      | .ok _ => True
      | .error e => _
    have hk : ∃ r, kndsP (T.length + 1) [] T = .ok K r := by
      unfold progT at h
      cases hk : kndsP (T.length + 1) [] T with
      | ok K' r => rw [hk] at h; cases h; exact ⟨r, rfl⟩
      | bad r => rw [hk] at h; cases h
    obtain ⟨rK, hk⟩ := hk
    have a1 := kn_knds 0 (T.drop m) ((T.take m).length + 1) [] (T.take m) (T.length + 1) (Nat.lt_succ_self _) (by rw [up_zero, List.take_append_drop]; exact Nat.lt_succ_self _)
    have a2 := kn_knds 0 u ((T.take m).length + 1) [] (T.take m) ((T.take m ++ u).length + 1) (Nat.lt_succ_self _) (by rw [up_zero]; exact Nat.lt_succ_self _)
    rw [up_zero, List.take_append_drop, hk] at a1
    rw [up_zero] at a2
    cases hc : kndsP ((T.take m ++ u).length + 1) [] (T.take m ++ u) with
    | ok K' r =>
      have e1 : progT n (T.take m ++ u) = .ok K' := by unfold progT; rw [hc]
      rw [e1]; trivial
    | bad r =>
      have e1 : progT n (T.take m ++ u) = .error (fltOf n r) := by unfold progT; rw [hc]
      rw [e1]
      cases r with
      | nil => exact .inl rfl
      | cons t r =>
        refine .inr ?_
        rw [hc] at a2
        have a3 : Lv u (PR.bad (t :: r) : PR (List Knd)) := by
          cases hq : kndsP ((T.take m).length + 1) [] (T.take m) with
          | ok K1 r1 =>
            rw [hq] at a2
            obtain ⟨f, -, a4⟩ := a2
            rw [a4]; exact lv_knds f K1 u
          | bad r1 =>
            cases r1 with
            | nil => rw [hq] at a2; exact a2.1
            | cons t1 r1 => rw [hq] at a1; cases a1
        obtain ⟨b1, b2⟩ := a3
        rcases h2 with rfl | ⟨x, rfl, h3⟩
        · exact absurd b1 (by simp)
        · simp only [List.length_cons, List.length_nil] at b1 b2
          obtain rfl : r = [] := List.eq_nil_of_length_eq_zero (by omega)
          rw [show 0 + 1 - (([] : List Tk).length + 1) = 0 by simp, List.drop_zero] at b2
          obtain rfl : t = x := by injection b2
          exact ⟨T.take m, t, rfl, rfl, by omega⟩
end Go.L.Pa
