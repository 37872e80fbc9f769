/-
  Programs out of tokens, on paper: the reader with one end for what is read and one for what may not stand there. Own work; no program.
-/
import Derived.Test.YtcglaiacohkaeaaDoorPgP
set_option linter.unusedSimpArgs false
set_option linter.unusedVariables false
set_option linter.unusedSectionVars false
namespace Go.L.Pa
open Go.L Go.L.Lx Go.L.Pg
/-- what a reading comes to: something and the tokens left, or the tokens of which the first may not stand there -/
inductive PR (α : Type) where
  | ok (a : α) (r : List Tk)
  | bad (r : List Tk)
def PR.bind {α β : Type} : PR α → (α → List Tk → PR β) → PR β
  | .ok a r, f => f a r
  | .bad r, _ => .bad r
theorem bind_ok {α β : Type} (a : α) (r : List Tk) (f : α → List Tk → PR β) : (PR.ok a r).bind f = f a r := rfl
theorem bind_bad {α β : Type} (r : List Tk) (f : α → List Tk → PR β) : (PR.bad r : PR α).bind f = .bad r := rfl
theorem bind_inv {α β : Type} {p : PR α} {f : α → List Tk → PR β} {b : β} {r : List Tk} (h : p.bind f = .ok b r) : ∃ a r', p = .ok a r' ∧ f a r' = .ok b r := by
  cases p with
  | ok a r' => exact ⟨a, r', rfl, h⟩
  | bad r' => cases h
def isW (s : By) : List Tk → Bool
  | [] => false
  | t :: _ => !decide (t.kind = 2) && decide (t.text = s)
def mustP : List By → List Tk → PR Unit
  | [], T => .ok () T
  | w :: ws, T => if isW w T then mustP ws T.tail else .bad T
def takeP (k : Nat) : List Tk → PR Tk
  | t :: T => if t.kind = k then .ok t T else .bad (t :: T)
  | [] => .bad []
def nameP (T : List Tk) : PR By := (takeP 1 T).bind fun t r => .ok t.text r
def numP (T : List Tk) : PR Int := (takeP 2 T).bind fun t r => .ok (t.n : Int) r
/-! words -/
abbrev wKeep : By := [107, 101, 101, 112]
abbrev wLess : By := [108, 101, 115, 115]
abbrev wKind : By := [107, 105, 110, 100]
abbrev wOpen : By := [123]
abbrev wShut : By := [125]
abbrev wSemi : By := [59]
abbrev wLimit : By := [108, 105, 109, 105, 116]
abbrev wIn : By := [105, 110]
abbrev wCase : By := [99, 97, 115, 101]
abbrev wElse : By := [101, 108, 115, 101]
abbrev wState : By := [115, 116, 97, 116, 101]
abbrev wAny : By := [97, 110, 121]
abbrev wOn : By := [111, 110]
def dirs : List By := [[114, 101, 115, 117, 109, 101], [114, 101, 115, 116, 97, 114, 116], [115, 116, 111, 112], [101, 115, 99, 97, 108, 97, 116, 101]]
def VB : List (By × By) := (List.range 12).map fun i : Nat => verb ((i + 1 : Nat) : Int)
def e0 : Eff := ⟨0, [], [], [], 0, 0, 0⟩
def valP (e : Eff) (T : List Tk) : PR Eff := if isW wKeep T then .ok e T.tail else if isW wLess T then .ok { e with value := 1 } T.tail else (numP T).bind fun n r => .ok { e with value := 2, n := n } r
def partP (c : UInt8) (e : Eff) (T : List Tk) : PR Eff :=
  if c.toNat = 114 then (nameP T).bind fun s r => .ok { e with ref := s } r
  else if c.toNat = 115 then (nameP T).bind fun s r => .ok { e with slot := s } r
  else if c.toNat = 110 then (nameP T).bind fun s r => .ok { e with name := s } r
  else if c.toNat = 100 then (numP T).bind fun n r => .ok { e with delay := n } r
  else if c.toNat = 118 then valP e T
  else .ok e T
def partsP : By → Eff → List Tk → PR Eff
  | [], e, T => .ok e T
  | c :: cs, e, T => (partP c e T).bind (partsP cs)
def effG : List (By × By) → Nat → List Tk → PR Eff
  | [], _, T => .bad T
  | (w, ps) :: vs, i, T => if isW w T then partsP ps { e0 with do' := ((i + 1 : Nat) : Int) } T.tail else effG vs (i + 1) T
def effP (T : List Tk) : PR Eff := effG VB 0 T
def effsP : Nat → List Eff → List Tk → PR (List Eff)
  | 0, _, T => .bad T
  | f + 1, acc, T => if isW wShut T then .ok acc T.tail else (effP T).bind fun e r => (mustP [wSemi] r).bind fun _ r' => effsP f (acc ++ [e]) r'
def r0 : Row := ⟨[], false, 0, none, 0, []⟩
def rowX (w : Row) (T : List Tk) : PR Row := (mustP [wOpen] T).bind fun _ r => (effsP (r.length + 1) [] r).bind fun es r' => .ok { w with effs := es } r'
def headNum : List Tk → Bool
  | [] => false
  | t :: _ => decide (t.kind = 2)
def rowN (s : By) (T : List Tk) : PR Row := if headNum T then (numP T).bind fun n r => rowX { r0 with tag := s, only := true, n := n } r else rowX { r0 with tag := s } T
def rowP (T : List Tk) : PR Row := if isW wAny T then rowX r0 T.tail else (mustP [wOn] T).bind fun _ r => (nameP r).bind rowN
def rowsP : Nat → List Row → List Tk → PR (List Row)
  | 0, _, T => .bad T
  | f + 1, acc, T => if isW wShut T then .ok acc T.tail else (rowP T).bind fun w r => rowsP f (acc ++ [w]) r
def staP (T : List Tk) : PR Sta := (nameP T).bind fun s r => (mustP [wOpen] r).bind fun _ r2 => (rowsP (r2.length + 1) [] r2).bind fun R r3 => .ok ⟨s, none, 0, R⟩ r3
def dirG : List By → Nat → List Tk → PR Int
  | [], _, T => .bad T
  | w :: ws, i, T => if isW w T then (mustP [wSemi] T.tail).bind fun _ r => .ok ((i + 1 : Nat) : Int) r else dirG ws (i + 1) T
def dirP (T : List Tk) : PR Int := dirG dirs 0 T
def casesP : Nat → List Cas → List Tk → PR (List Cas)
  | 0, _, T => .bad T
  | f + 1, acc, T => if isW wCase T then (nameP T.tail).bind fun s r => (dirP r).bind fun d r2 => casesP f (acc ++ [⟨s, d⟩]) r2
    else if isW wElse T then (dirP T.tail).bind fun d r => casesP f (acc ++ [⟨[], d⟩]) r else .ok acc T
def stasP : Nat → List Sta → List Tk → PR (List Sta)
  | 0, _, T => .bad T
  | f + 1, acc, T => if isW wState T then (staP T.tail).bind fun s r => stasP f (acc ++ [s]) r else .ok acc T
def limP (T : List Tk) : PR (Int × Int) :=
  if isW wLimit T then (numP T.tail).bind fun a r => (mustP [wIn] r).bind fun _ r2 => (numP r2).bind fun b r3 => (mustP [wSemi] r3).bind fun _ r4 => .ok (a, b) r4 else .ok (0, 1) T
def kndP (T : List Tk) : PR Knd := (nameP T).bind fun s r => (mustP [wOpen] r).bind fun _ r2 => (limP r2).bind fun ab r3 =>
  (casesP (r3.length + 1) [] r3).bind fun C r4 => (stasP (r4.length + 1) [] r4).bind fun S r5 => (mustP [wShut] r5).bind fun _ r6 => .ok ⟨s, ab.1, ab.2, none, 0, C, none, 0, S⟩ r6
def kndsP : Nat → List Knd → List Tk → PR (List Knd)
  | 0, _, T => .bad T
  | f + 1, acc, T => if T.isEmpty then .ok acc T else (mustP [wKind] T).bind fun _ r => (kndP r).bind fun k r2 => kndsP f (acc ++ [k]) r2
def fltOf (n : Nat) : List Tk → Err
  | [] => (31, n)
  | t :: _ => (30, t.at')
def progT (n : Nat) (T : List Tk) : Except Err (List Knd) := match kndsP (T.length + 1) [] T with
  | .ok K _ => .ok K
  | .bad r => .error (fltOf n r)
def progP (l : By) : Except Err (List Knd) := match lexAll l with
  | .error e => .error e
  | .ok T => progT l.length T
/-! ### tokens are used up, never made -/
def Suf (r T : List Tk) : Prop := r.length ≤ T.length ∧ r = T.drop (T.length - r.length)
theorem Suf.refl (T : List Tk) : Suf T T := ⟨Nat.le_refl _, by simp⟩
theorem Suf.tail (T : List Tk) : Suf T.tail T := by
  cases T with
  | nil => exact .refl _
  | cons t T => exact ⟨Nat.le_succ _, by simp⟩
theorem Suf.trans {a b c : List Tk} (h1 : Suf a b) (h2 : Suf b c) : Suf a c := by
  obtain ⟨l1, e1⟩ := h1; obtain ⟨l2, e2⟩ := h2
  refine ⟨Nat.le_trans l1 l2, ?_⟩
  rw [e2, List.drop_drop] at e1
  rw [← e2] at e1
  rw [show c.length - a.length = c.length - b.length + (b.length - a.length) by omega]
  exact e1
theorem Suf.mem {r T : List Tk} (h : Suf r T) : ∀ t ∈ r, t ∈ T := fun t ht => by rw [h.2] at ht; exact List.mem_of_mem_drop ht
theorem Suf.drop {r l : List Tk} {j : Nat} (h : Suf r (l.drop j)) (hj : j ≤ l.length) : ∃ k, j ≤ k ∧ k ≤ l.length ∧ r = l.drop k := by
  obtain ⟨h1, h2⟩ := h
  rw [List.length_drop] at h1 h2
  rw [List.drop_drop] at h2
  exact ⟨j + (l.length - j - r.length), by omega, by omega, h2⟩
/-- what a reading leaves is a rest of what there was -/
def Lv {α : Type} (T : List Tk) : PR α → Prop
  | .ok _ r => Suf r T
  | .bad r => Suf r T
theorem Lv.up {α : Type} {a b : List Tk} {p : PR α} (h : Lv a p) (h2 : Suf a b) : Lv b p := by cases p <;> exact Suf.trans h h2
theorem Lv.bind {α β : Type} {T : List Tk} {p : PR α} {f : α → List Tk → PR β} (h : Lv T p) (hf : ∀ a r, Suf r T → Lv r (f a r)) : Lv T (p.bind f) := by
  cases p with
  | ok a r => exact (hf a r h).up h
  | bad r => exact h
theorem lv_ok {α : Type} {a : α} {r T : List Tk} (h : Suf r T) : Lv T (PR.ok a r) := h
theorem lv_must : ∀ (ws : List By) (T : List Tk), Lv T (mustP ws T)
  | [], T => .refl _
  | w :: ws, T => by
    unfold mustP; split
    · exact (lv_must ws T.tail).up (.tail T)
    · exact .refl _
theorem lv_take (k : Nat) (T : List Tk) : Lv T (takeP k T) := by
  cases T with
  | nil => exact .refl _
  | cons t T =>
    show Lv (t :: T) (if t.kind = k then .ok t T else .bad (t :: T))
    split
    · exact Suf.tail (t :: T)
    · exact Suf.refl (t :: T)
theorem lv_name (T : List Tk) : Lv T (nameP T) := (lv_take 1 T).bind fun _ r _ => .refl r
theorem lv_num (T : List Tk) : Lv T (numP T) := (lv_take 2 T).bind fun _ r _ => .refl r
theorem lv_val (e : Eff) (T : List Tk) : Lv T (valP e T) := by
  unfold valP; split
  · exact Suf.tail _
  · split
    · exact Suf.tail _
    · exact (lv_num T).bind fun _ r _ => .refl r
theorem lv_part (c : UInt8) (e : Eff) (T : List Tk) : Lv T (partP c e T) := by
  unfold partP
  repeat' split
  · exact (lv_name T).bind fun _ r _ => .refl r
  · exact (lv_name T).bind fun _ r _ => .refl r
  · exact (lv_name T).bind fun _ r _ => .refl r
  · exact (lv_num T).bind fun _ r _ => .refl r
  · exact lv_val e T
  · exact .refl _
theorem lv_parts : ∀ (cs : By) (e : Eff) (T : List Tk), Lv T (partsP cs e T)
  | [], e, T => .refl _
  | c :: cs, e, T => (lv_part c e T).bind fun e r _ => lv_parts cs e r
theorem lv_effG : ∀ (vs : List (By × By)) (i : Nat) (T : List Tk), Lv T (effG vs i T)
  | [], i, T => .refl _
  | (w, ps) :: vs, i, T => by
    unfold effG; split
    · exact (lv_parts ps _ T.tail).up (.tail T)
    · exact lv_effG vs (i + 1) T
theorem lv_eff (T : List Tk) : Lv T (effP T) := lv_effG _ _ T
theorem lv_effs : ∀ (f : Nat) (acc : List Eff) (T : List Tk), Lv T (effsP f acc T)
  | 0, acc, T => .refl _
  | f + 1, acc, T => by
    unfold effsP; split
    · exact Suf.tail _
    · exact (lv_eff T).bind fun e r _ => (lv_must _ r).bind fun _ r' _ => lv_effs f _ r'
theorem lv_rowE (w : Row) (T : List Tk) : Lv T (rowX w T) := (lv_must _ T).bind fun _ r _ => (lv_effs _ _ r).bind fun _ r' _ => .refl r'
theorem lv_rowN (s : By) (T : List Tk) : Lv T (rowN s T) := by
  unfold rowN; split
  · exact (lv_num T).bind fun _ r _ => lv_rowE _ r
  · exact lv_rowE _ T
theorem lv_row (T : List Tk) : Lv T (rowP T) := by
  unfold rowP; split
  · exact (lv_rowE _ T.tail).up (.tail T)
  · exact (lv_must _ T).bind fun _ r _ => (lv_name r).bind fun s r' _ => lv_rowN s r'
theorem lv_rows : ∀ (f : Nat) (acc : List Row) (T : List Tk), Lv T (rowsP f acc T)
  | 0, acc, T => .refl _
  | f + 1, acc, T => by
    unfold rowsP; split
    · exact Suf.tail _
    · exact (lv_row T).bind fun e r _ => lv_rows f _ r
theorem lv_sta (T : List Tk) : Lv T (staP T) := (lv_name T).bind fun _ r _ => (lv_must _ r).bind fun _ r2 _ => (lv_rows _ _ r2).bind fun _ r3 _ => .refl r3
theorem lv_dirG : ∀ (ws : List By) (i : Nat) (T : List Tk), Lv T (dirG ws i T)
  | [], i, T => .refl _
  | w :: ws, i, T => by
    unfold dirG; split
    · exact ((lv_must _ T.tail).bind fun _ r _ => lv_ok (.refl r)).up (.tail T)
    · exact lv_dirG ws (i + 1) T
theorem lv_dir (T : List Tk) : Lv T (dirP T) := lv_dirG _ _ T
theorem lv_cases : ∀ (f : Nat) (acc : List Cas) (T : List Tk), Lv T (casesP f acc T)
  | 0, acc, T => .refl _
  | f + 1, acc, T => by
    unfold casesP; split
    · exact ((lv_name T.tail).bind fun _ r _ => (lv_dir r).bind fun _ r2 _ => lv_cases f _ r2).up (.tail T)
    · split
      · exact ((lv_dir T.tail).bind fun _ r _ => lv_cases f _ r).up (.tail T)
      · exact .refl _
theorem lv_stas : ∀ (f : Nat) (acc : List Sta) (T : List Tk), Lv T (stasP f acc T)
  | 0, acc, T => .refl _
  | f + 1, acc, T => by
    unfold stasP; split
    · exact ((lv_sta T.tail).bind fun _ r _ => lv_stas f _ r).up (.tail T)
    · exact .refl _
theorem lv_lim (T : List Tk) : Lv T (limP T) := by
  unfold limP; split
  · exact ((lv_num T.tail).bind fun _ r _ => (lv_must _ r).bind fun _ r2 _ => (lv_num r2).bind fun _ r3 _ => (lv_must _ r3).bind fun _ r4 _ => lv_ok (.refl r4)).up (.tail T)
  · exact .refl _
theorem lv_knd (T : List Tk) : Lv T (kndP T) := (lv_name T).bind fun _ r _ => (lv_must _ r).bind fun _ r2 _ => (lv_lim r2).bind fun _ r3 _ => (lv_cases _ _ r3).bind fun _ r4 _ => (lv_stas _ _ r4).bind fun _ r5 _ => (lv_must _ r5).bind fun _ r6 _ => .refl r6
theorem lv_knds : ∀ (f : Nat) (acc : List Knd) (T : List Tk), Lv T (kndsP f acc T)
  | 0, acc, T => .refl _
  | f + 1, acc, T => by
    unfold kndsP; split
    · exact .refl _
    · exact (lv_must _ T).bind fun _ r _ => (lv_knd r).bind fun _ r2 _ => lv_knds f _ r2
/-- what reads something uses a token up -/
def Lt {α : Type} (T : List Tk) : PR α → Prop
  | .ok _ r => r.length < T.length
  | .bad _ => True
theorem isW_ne {w : By} {T : List Tk} (h : isW w T = true) : T.tail.length < T.length := by cases T with
  | nil => cases h
  | cons t T => exact Nat.lt_succ_self _
theorem Lt.le {α β : Type} {T : List Tk} {p : PR α} {f : α → List Tk → PR β} (h : Lt T p) (hf : ∀ a r, Lv r (f a r)) : Lt T (p.bind f) := by
  cases p with
  | bad r => trivial
  | ok a r =>
    have h2 := hf a r
    show Lt T (f a r)
    cases hp : f a r with
    | bad _ => trivial
    | ok b r' => rw [hp] at h2; exact Nat.lt_of_le_of_lt h2.1 h
theorem lt_tail {α : Type} {T r : List Tk} {p : PR α} (h : T.length < r.length) (hp : Lv T p) : Lt r p := by
  cases p with
  | bad _ => trivial
  | ok b r' => exact Nat.lt_of_le_of_lt hp.1 h
theorem lt_must {w : By} {ws : List By} (T : List Tk) : Lt T (mustP (w :: ws) T) := by
  unfold mustP; split
  · rename_i h; exact lt_tail (isW_ne h) (lv_must ws T.tail)
  · trivial
theorem lt_take (k : Nat) (T : List Tk) : Lt T (takeP k T) := by
  unfold takeP; split
  · split
    · exact Nat.lt_succ_self _
    · trivial
  · trivial
theorem lt_name (T : List Tk) : Lt T (nameP T) := (lt_take 1 T).le fun _ r => lv_ok (.refl r)
theorem lt_effG : ∀ (vs : List (By × By)) (i : Nat) (T : List Tk), Lt T (effG vs i T)
  | [], i, T => trivial
  | (w, ps) :: vs, i, T => by
    unfold effG; split
    · rename_i h; exact lt_tail (isW_ne h) (lv_parts ps _ T.tail)
    · exact lt_effG vs (i + 1) T
theorem lt_eff (T : List Tk) : Lt T (effP T) := lt_effG _ _ T
theorem lt_row (T : List Tk) : Lt T (rowP T) := by
  unfold rowP; split
  · rename_i h; exact lt_tail (isW_ne h) (lv_rowE _ T.tail)
  · exact (lt_must T).le fun _ r => (lv_name r).bind fun s r' _ => lv_rowN s r'
theorem lt_sta (T : List Tk) : Lt T (staP T) := (lt_name T).le fun _ r => (lv_must _ r).bind fun _ r2 _ => (lv_rows _ _ r2).bind fun _ r3 _ => lv_ok (.refl r3)
theorem lt_knd (T : List Tk) : Lt T (kndP T) := (lt_name T).le fun _ r => (lv_must _ r).bind fun _ r2 _ => (lv_lim r2).bind fun _ r3 _ => (lv_cases _ _ r3).bind fun _ r4 _ => (lv_stas _ _ r4).bind fun _ r5 _ => (lv_must _ r5).bind fun _ r6 _ => lv_ok (.refl r6)
/-! ### programs without the places at which they lie -/
def Row.strip (r : Row) : Row := ⟨r.tag, r.only, r.n, none, 0, r.effs⟩
def Sta.strip (s : Sta) : Sta := ⟨s.name, none, 0, s.rows.map Row.strip⟩
def Knd.strip (k : Knd) : Knd := ⟨k.name, k.limit, k.within, none, 0, k.cases, none, 0, k.states.map Sta.strip⟩
def strip (K : List Knd) : List Knd := K.map Knd.strip
theorem strip_app (K : List Knd) (k : Knd) : strip (K ++ [k]) = strip K ++ [Knd.strip k] := by simp [strip]
/-! ### what is read is small -/
def TB (T : List Tk) : Prop := ∀ t ∈ T, t.text.length ≤ 16384
theorem TB.suf {r T : List Tk} (h : TB T) (s : Suf r T) : TB r := fun t ht => h t (s.mem t ht)
theorem TB.tl {T : List Tk} (h : TB T) : TB T.tail := h.suf (.tail T)
/-- what is read satisfies Q, and so does every rest -/
def Al {α : Type} (Q : α → Prop) : PR α → Prop
  | .ok a r => Q a ∧ TB r
  | .bad _ => True
theorem Al.bind {α β : Type} {Q : α → Prop} {Q' : β → Prop} {p : PR α} {f : α → List Tk → PR β} (h : Al Q p) (hf : ∀ a r, Q a → TB r → Al Q' (f a r)) : Al Q' (p.bind f) := by
  cases p with
  | ok a r => exact hf a r h.1 h.2
  | bad r => trivial
theorem al_must {T : List Tk} (h : TB T) : ∀ (ws : List By), Al (fun _ => True) (mustP ws T) := fun ws => by
  have := lv_must ws T
  cases hp : mustP ws T with
  | ok a r => rw [hp] at this; exact ⟨trivial, h.suf this⟩
  | bad r => trivial
theorem al_name {T : List Tk} (h : TB T) : Al (fun s : By => ok63 s.length) (nameP T) := by
  cases T with
  | nil => trivial
  | cons t T =>
    have h1 := h t List.mem_cons_self
    show Al _ ((if t.kind = 1 then PR.ok t T else PR.bad (t :: T)).bind _)
    split
    · exact ⟨by unfold ok63; omega, h.tl⟩
    · trivial
theorem al_num {T : List Tk} (h : TB T) : Al (fun _ : Int => True) (numP T) := by
  have := lv_num T
  cases hp : numP T with
  | ok a r => rw [hp] at this; exact ⟨trivial, h.suf this⟩
  | bad r => trivial
theorem al_part {c : UInt8} {e : Eff} (he : EffOk e) {T : List Tk} (h : TB T) : Al EffOk (partP c e T) := by
  unfold partP valP
  repeat' split
  · exact (al_name h).bind fun s r hs hr => ⟨⟨hs, he.slot, he.name⟩, hr⟩
  · exact (al_name h).bind fun s r hs hr => ⟨⟨he.ref, hs, he.name⟩, hr⟩
  · exact (al_name h).bind fun s r hs hr => ⟨⟨he.ref, he.slot, hs⟩, hr⟩
  · exact (al_num h).bind fun s r _ hr => ⟨⟨he.ref, he.slot, he.name⟩, hr⟩
  · exact ⟨he, h.tl⟩
  · exact ⟨⟨he.ref, he.slot, he.name⟩, h.tl⟩
  · exact (al_num h).bind fun s r _ hr => ⟨⟨he.ref, he.slot, he.name⟩, hr⟩
  · exact ⟨he, h⟩
theorem al_parts : ∀ (cs : By) {e : Eff} (_ : EffOk e) {T : List Tk} (_ : TB T), Al EffOk (partsP cs e T)
  | [], e, he, T, h => ⟨he, h⟩
  | c :: cs, e, he, T, h => (al_part he h).bind fun e r h1 h2 => al_parts cs h1 h2
theorem e0_ok (d : Int) : EffOk { e0 with do' := d } := ⟨by show 0 ≤ 140737488351232; decide, by show 0 ≤ 140737488351232; decide, by show 0 ≤ 140737488351232; decide⟩
theorem al_eff {T : List Tk} (h : TB T) : Al EffOk (effP T) := by
  have key : ∀ (vs : List (By × By)) (i : Nat), Al EffOk (effG vs i T) := by
    intro vs
    induction vs with
    | nil => intro i; trivial
    | cons q vs ih =>
      intro i
      show Al EffOk (if isW q.1 T then partsP q.2 { e0 with do' := ((i + 1 : Nat) : Int) } T.tail else effG vs (i + 1) T)
      split
      · exact al_parts _ (e0_ok _) h.tl
      · exact ih (i + 1)
  exact key VB 0
theorem VB_ascii : ∀ q ∈ VB, ∀ c ∈ q.2, c.toNat < 128 := by decide
theorem VB_len : VB.length = 12 := rfl
/-! ### what lies in memory -/
theorem imp_l {h k : Hp} : ∀ b o, h b = some o → join h k b = some o := fun _ _ e => join_some e
theorem imp_r {h k : Hp} (d : Disj h k) : ∀ b o, k b = some o → join h k b = some o := fun b o e => by rw [join_comm d]; exact join_some e
theorem sat_merge {A B C : Assn} {R : List Assn} (f : ∀ h k, Disj h k → A h → B k → C (join h k)) : ∀ h, Sat (A :: B :: R) h → Sat (C :: R) h := by
  rintro _ ⟨h1, h2, d, rfl, ha, h3, h4, d', rfl, hb, hr⟩
  obtain ⟨d13, d14⟩ := disj_join'.1 d
  exact ⟨join h1 h3, h4, disj_join.2 ⟨d14, d'⟩, by rw [join_assoc], f _ _ d13 ha hb, hr⟩
theorem sat_nil {A : Assn} {R : List Assn} (f : A (fun _ => none)) : ∀ h, Sat R h → Sat (A :: R) h := fun h s => ⟨fun _ => none, h, fun _ => .inl rfl, by funext b; simp [join], f, s⟩
def rowA (r : Row) : Assn := fun h => RowOk h r
def rowsA (R : List Row) : Assn := fun h => ∀ r ∈ R, RowOk h r
def staA (s : Sta) : Assn := fun h => StaOk h s
def stasA (S : List Sta) : Assn := fun h => ∀ s ∈ S, StaOk h s
def kndA (k : Knd) : Assn := fun h => KndOk h k
def kndsA (K : List Knd) : Assn := fun h => ∀ k ∈ K, KndOk h k
def prgA (a : Option Addr) (c : Nat) (K : List Knd) : Assn := fun h => PrgOk h a c K
theorem rdh_own {h : Hp} {a : Option Addr} {c n : Nat} {e : TypeId} {sz : Nat} {xs : List Value} (hh : own (.slice a n c) e sz n xs h) : RdH h a c n xs := by
  refine ⟨SlO.rd hh, ?_⟩
  obtain ⟨_, h | ⟨b, cap, sp, h1, h2, h3, h4, h5⟩⟩ := hh
  · simp only [Value.slice.injEq] at h; omega
  · simp only [Value.slice.injEq] at h1; omega
theorem mk_row {a : Option Addr} {c : Nat} {e : TypeId} {tag : By} {only : Bool} {n : Int} {es : List Eff} {R : List Assn} (h1 : ok63 tag.length) (h2 : es.length ≤ 16384) (h3 : ∀ x ∈ es, EffOk x) : ∀ h, Sat (own (.slice a es.length c) e 7 es.length (es.flatMap effC) :: R) h → Sat (rowA ⟨tag, only, n, a, c, es⟩ :: R) h :=
  fun _ => Sat.head fun g hh => ⟨h1, rdh_own hh, by show es.length * 80 ≤ 140737488351232; omega, h3⟩
theorem rows_push {r : Row} {R : List Row} {F : List Assn} : ∀ h, Sat (rowA r :: rowsA R :: F) h → Sat (rowsA (R ++ [r]) :: F) h :=
  sat_merge fun h k d ha hb x hx => by
    rcases List.mem_append.1 hx with hx | hx
    · exact (hb x hx).imp (imp_r d)
    · rw [List.mem_singleton.1 hx]; exact RowOk.imp ha imp_l
theorem mk_sta {a : Option Addr} {c : Nat} {e : TypeId} {name : By} {R : List Row} {F : List Assn} (h1 : ok63 name.length) (h2 : R.length ≤ 16384) : ∀ h, Sat (own (.slice a R.length c) e 4 R.length (R.flatMap rowC) :: rowsA R :: F) h → Sat (staA ⟨name, a, c, R⟩ :: F) h :=
  sat_merge fun h k d ha hb => ⟨h1, (rdh_own ha).imp imp_l, by show R.length * 56 ≤ 140737488351232; omega, fun r hr => (hb r hr).imp (imp_r d)⟩
theorem stas_push {r : Sta} {R : List Sta} {F : List Assn} : ∀ h, Sat (staA r :: stasA R :: F) h → Sat (stasA (R ++ [r]) :: F) h :=
  sat_merge fun h k d ha hb x hx => by
    rcases List.mem_append.1 hx with hx | hx
    · exact (hb x hx).imp (imp_r d)
    · rw [List.mem_singleton.1 hx]; exact StaOk.imp ha imp_l
theorem mk_knd {a a2 : Option Addr} {c c2 : Nat} {e e2 : TypeId} {name : By} {lim wi : Int} {C : List Cas} {S : List Sta} {F : List Assn} (h1 : ok63 name.length) (h2 : C.length ≤ 16384) (h3 : S.length ≤ 16384) (h4 : ∀ x ∈ C, ok63 x.reason.length) :
    ∀ h, Sat (own (.slice a C.length c) e 2 C.length (C.flatMap casC) :: own (.slice a2 S.length c2) e2 2 S.length (S.flatMap staC) :: stasA S :: F) h → Sat (kndA ⟨name, lim, wi, a, c, C, a2, c2, S⟩ :: F) h := fun h s => by
  have s1 := Sat.tail (sat_merge (C := fun h => RdH h a2 c2 S.length (S.flatMap staC) ∧ ∀ s ∈ S, StaOk h s) fun h k d ha hb => ⟨(rdh_own ha).imp imp_l, fun r hr => (hb r hr).imp (imp_r d)⟩) s
  exact sat_merge (fun h k d ha hb => ⟨h1, (rdh_own ha).imp imp_l, by show C.length * 24 ≤ 140737488351232; omega, h4, hb.1.imp (imp_r d), by show S.length * 40 ≤ 140737488351232; omega, fun r hr => (hb.2 r hr).imp (imp_r d)⟩) h s1
theorem knds_push {r : Knd} {R : List Knd} {F : List Assn} : ∀ h, Sat (kndA r :: kndsA R :: F) h → Sat (kndsA (R ++ [r]) :: F) h :=
  sat_merge fun h k d ha hb x hx => by
    rcases List.mem_append.1 hx with hx | hx
    · exact (hb x hx).imp (imp_r d)
    · rw [List.mem_singleton.1 hx]; exact KndOk.imp ha imp_l
theorem mk_prg {a : Option Addr} {c : Nat} {e : TypeId} {K : List Knd} {F : List Assn} (h2 : K.length ≤ 16384) : ∀ h, Sat (own (.slice a K.length c) e 5 K.length (K.flatMap kndC) :: kndsA K :: F) h → Sat (prgA a c K :: F) h :=
  sat_merge fun h k d ha hb => ⟨(rdh_own ha).imp imp_l, by show K.length * 80 ≤ 140737488351232; omega, fun r hr => (hb r hr).imp (imp_r d)⟩
end Go.L.Pa
