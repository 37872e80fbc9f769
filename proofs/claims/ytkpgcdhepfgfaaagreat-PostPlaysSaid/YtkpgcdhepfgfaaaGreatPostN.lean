/-
  PostPlays on paper: the document's next access of a box's operation, by what the accesses ahead have answered. Own work; no program.
-/
import Derived.Test.YtkpgcdhepfgfaaaGreatPostP
import Derived.Test.YtkpgcdhepfgfaaaGreatRingN
set_option linter.unusedSimpArgs false
set_option linter.unusedVariables false
set_option linter.unusedSectionVars false
namespace Go.L.Post
open Go.L Go.L.Ring
/-- a part of a log, gone through from its beginning: the next access or the end, and how many accesses it had -/
def partG (f : List Int → Wt) : List Int → List Int → Wt × Nat
  | pre, [] => (f pre, pre.length)
  | pre, x :: r => if (f pre).over then (f pre, pre.length) else partG f (pre ++ [x]) r
/-- a log of an operation that was not over ahead of its end -/
def RunF (f : List Int → Wt) (l : List Int) : Prop := ∀ r, partG f [] (l ++ r) = partG f l r
theorem RunF.nil {f : List Int → Wt} : RunF f [] := fun _ => rfl
theorem RunF.go {f : List Int → Wt} {l : List Int} (h : RunF f l) (ho : (f l).over = false) (x : Int) : RunF f (l ++ [x]) := fun r => by
  rw [List.append_assoc, h, List.singleton_append, partG, ho]; rfl
theorem RunF.all {f : List Int → Wt} {l : List Int} (h : RunF f l) : partG f [] l = (f l, l.length) := by have := h []; rw [List.append_nil] at this; rw [this]; rfl
theorem RunF.over {f : List Int → Wt} {l : List Int} (h : RunF f l) (ho : (f l).over = true) (r : List Int) : partG f [] (l ++ r) = (f l, l.length) := by
  rw [h]; cases r with
  | nil => rfl
  | cons x r => rw [partG, ho]; rfl
def pairN (b : Nat) (nt : Bool) : List Int → Wt
  | [] => wLd b
  | [s] => if rouses nt s then wSw b s 1 else wOv 1 0 0
  | s :: x :: r => if rouses nt s then (if x = 1 then wOv 7 0 0 else pairN b nt r) else wOv 1 0 0
abbrev fN (B : PB) (r : Bool) (k v : Int) : List Int → Wt := nextN (B.rb r) (B.rn r) k v
def layN (B : PB) (nt : Bool) (v : Int) (l : List Int) : Wt :=
  if (partG (fN B nt 1 v) [] l).1.over then (if (partG (fN B nt 1 v) [] l).1.out = 1 then pairN B.b nt (l.drop (partG (fN B nt 1 v) [] l).2) else wOv (partG (fN B nt 1 v) [] l).1.out 0 0) else (partG (fN B nt 1 v) [] l).1
def tailN (b : Nat) (st : Int) : List Int → Wt
  | [] => wSw b st 1
  | x :: _ => if x = 1 then wOv 8 0 0 else wOv 1 0 0
def mailN (B : PB) (l : List Int) : Wt :=
  if (partG (fN B false 5 0) [] l).1.over then (if (partG (fN B false 5 0) [] l).1.out = 4 then wOv 4 0 0 else tailN B.b 0 (l.drop (partG (fN B false 5 0) [] l).2)) else (partG (fN B false 5 0) [] l).1
def noteN (B : PB) (held : Bool) (l : List Int) : Wt :=
  if (partG (fN B true 5 0) [] l).1.over then (if (partG (fN B true 5 0) [] l).1.out = 4 then (if held then wOv 4 0 0 else mailN B (l.drop (partG (fN B true 5 0) [] l).2)) else tailN B.b (stOf held) (l.drop (partG (fN B true 5 0) [] l).2)) else (partG (fN B true 5 0) [] l).1
def settleN (B : PB) (held : Bool) : List Int → Wt
  | [] => wSt B.b (stOf held)
  | _ :: l => noteN B held l
def storeN (B : PB) (st : Int) : List Int → Wt
  | [] => wSt B.b st
  | _ :: _ => wOv 1 0 0
def askN (B : PB) (v : Int) : List Int → Wt
  | [] => wSw ((B.b : Int) + 1) 0 1
  | a :: r => if a = 0 then wOv 4 0 0 else layN B true v r
def goneN (B : PB) : List Int → Wt
  | [] => wLd B.b
  | a :: _ => if a = 4 then wOv 1 0 0 else wOv 4 0 0
/-- which ring, and which of its operations -/
def ringK (kind : Int) : Bool := decide (kind = 6)
def opKd (kind : Int) : Int := if kind = 9 then 4 else if kind = 10 then 3 else 2
def nextP (B : PB) (kind v : Int) (l : List Int) : Wt :=
  if kind = 1 then layN B false v l else if kind = 2 then layN B true v l else if kind = 3 then askN B v l else if kind = 4 then storeN B 2 l else if kind = 8 then storeN B 1 l else if kind = 11 then storeN B 4 l else if kind = 12 then goneN B l
  else if kind = 7 then settleN B (decide (v = 1)) l else (partG (fN B (ringK kind) (opKd kind) 0) [] l).1
/-! ### a ring's operation as a part -/
structure RelR (b n : Nat) (k v : Int) (o : RO) (l : List Int) : Prop where
  rel : RelN b n o k v l
  run : RunF (nextN b n k v) l
theorem RelR.start (b n : Nat) {k : Int} (hk : 1 ≤ k ∧ k ≤ 5) (v : Int) : RelR b n k v (beginO k v) [] := ⟨RelN.start b n k v hk, RunF.nil⟩
theorem RelR.ov {b n : Nat} {k v : Int} {o : RO} {l : List Int} (h : RelR b n k v o l) : (nextN b n k v l).over = o.over := h.rel.like.1
theorem RelR.go {b n : Nat} {k v : Int} {o : RO} {l : List Int} (h : RelR b n k v o l) (ho : o.out = 0) (L : List Int) : goL b n L o = accL (nextN b n k v l) L ∧ RelR b n k v (goO b n L o) (l ++ [accX (nextN b n k v l) L]) := by
  have hov : o.over = false := by simp [RO.over, ho]
  have S := h.rel.step hov L
  exact ⟨S.cells, S.on, h.run.go (by rw [h.ov, hov]) _⟩
/-- what is to be seen of a box's operation -/
def LikeP (p : PO) (w : Wt) : Prop := w.over = p.over ∧ (p.over = true → w.out = p.out ∧ w.value = p.val)
theorem likeP_run {p : PO} {w : Wt} (h : p.out = 0) (h1 : w.over = false) : LikeP p w := by
  have : p.over = false := by simp [PO.over, h]
  exact ⟨by rw [this, h1], fun e => (by rw [this] at e; cases e)⟩
theorem likeP_ov {p : PO} {w : Wt} (h : p.out ≠ 0) (h1 : w.over = true) (h2 : w.out = p.out) (h3 : w.value = p.val) : LikeP p w := ⟨by rw [h1]; simp [PO.over, h], fun _ => ⟨h2, h3⟩⟩
variable {B : PB} {L : List Int}
/-! ### Tell, Push, and Ask behind its first access -/
def RelL (B : PB) (nt : Bool) (v : Int) (p : PO) (l : List Int) : Prop := p.val = 0 ∧ (
  (∃ o, p.ph = .put nt o ∧ RelR (B.rb nt) (B.rn nt) 1 v o l ∧ o.out = p.out ∧ p.out ≠ 1) ∨
  (∃ tl, (∀ r, layN B nt v (l ++ r) = pairN B.b nt (tl ++ r)) ∧ (
    (p.ph = .see nt ∧ p.out = 0 ∧ tl = []) ∨ (∃ s, p.ph = .see nt ∧ p.out = 1 ∧ tl = [s] ∧ rouses nt s = false) ∨
    (∃ s, p.ph = .swp nt s ∧ p.out = 0 ∧ tl = [s] ∧ rouses nt s = true) ∨ (∃ s, p.ph = .swp nt s ∧ p.out = 7 ∧ tl = [s, 1] ∧ rouses nt s = true))))
theorem lay_put {nt : Bool} {v : Int} {o : RO} {l : List Int} (h : RelR (B.rb nt) (B.rn nt) 1 v o l) : layN B nt v l = if o.over then (if o.out = 1 then pairN B.b nt [] else wOv o.out 0 0) else fN B nt 1 v l := by
  unfold layN
  rw [RunF.all (f := fN B nt 1 v) h.run]
  simp only
  rw [show (fN B nt 1 v l).over = o.over from h.ov]
  cases hov : o.over with
  | false => rfl
  | true =>
    simp only [if_true]
    rw [show (fN B nt 1 v l).out = o.out from (h.rel.like.2.2 hov).1, List.drop_length]
theorem lay_on {nt : Bool} {v : Int} {o : RO} {l : List Int} (h : RelR (B.rb nt) (B.rn nt) 1 v o l) (ho : o.out = 1) (r : List Int) : layN B nt v (l ++ r) = pairN B.b nt ([] ++ r) := by
  have hov : o.over = true := by simp [RO.over, ho]
  have h1 : (fN B nt 1 v l).over = true := h.ov.trans hov
  unfold layN
  rw [RunF.over (f := fN B nt 1 v) h.run h1]
  simp only
  rw [if_pos h1, if_pos ((h.rel.like.2.2 hov).1.trans ho), List.drop_left, List.nil_append]
theorem RelL.like {nt : Bool} {v : Int} {p : PO} {l : List Int} (h : RelL B nt v p l) : LikeP p (layN B nt v l) := by
  obtain ⟨hv, ⟨o, h1, h2, h3, h4⟩ | ⟨tl, h1, h2⟩⟩ := h
  · rw [lay_put h2]
    by_cases ho : p.out = 0
    · have hov : o.over = false := by simp [RO.over, h3, ho]
      rw [hov]; exact likeP_run ho (h2.ov.trans hov)
    · have hov : o.over = true := by simp [RO.over, h3, ho]
      rw [hov, if_pos rfl, if_neg (by rw [h3]; exact h4)]; exact likeP_ov ho rfl h3 hv.symm
  · have e := h1 []
    rw [List.append_nil, List.append_nil] at e
    rw [e]
    rcases h2 with ⟨a, b, rfl⟩ | ⟨s, a, b, rfl, c⟩ | ⟨s, a, b, rfl, c⟩ | ⟨s, a, b, rfl, c⟩
    · exact likeP_run b rfl
    · simp only [pairN, c]; exact likeP_ov (by omega) rfl b.symm hv.symm
    · simp only [pairN, c, if_true]; exact likeP_run b rfl
    · simp only [pairN, c, if_true]; exact likeP_ov (by omega) rfl b.symm hv.symm
theorem RelL.step {nt : Bool} {v : Int} {p : PO} {l : List Int} (h : RelL B nt v p l) (ho : p.out = 0) : (stepP B L p.ph).1 = accL (layN B nt v l) L ∧ RelL B nt v (stepP B L p.ph).2 (l ++ [accX (layN B nt v l) L]) := by
  obtain ⟨hv, ⟨o, h1, h2, h3, h4⟩ | ⟨tl, h1, h2⟩⟩ := h
  · have ho0 : o.out = 0 := h3.trans ho
    have hov : o.over = false := by simp [RO.over, ho0]
    have e : layN B nt v l = fN B nt 1 v l := by rw [lay_put h2, hov]; rfl
    obtain ⟨g1, g2⟩ := h2.go ho0 L
    rw [e, h1]
    refine ⟨g1, ?_⟩
    simp only [stepP]
    cases hov2 : (goO (B.rb nt) (B.rn nt) L o).over with
    | false => exact ⟨rfl, .inl ⟨_, rfl, g2, by simpa [RO.over] using hov2, (show (0 : Int) ≠ 1 by decide)⟩⟩
    | true =>
      simp only [if_true]
      by_cases h5 : (goO (B.rb nt) (B.rn nt) L o).out = 1
      · rw [if_pos h5]; exact ⟨rfl, .inr ⟨[], fun r => lay_on g2 h5 r, .inl ⟨rfl, rfl, rfl⟩⟩⟩
      · rw [if_neg h5]; exact ⟨rfl, .inl ⟨_, rfl, g2, rfl, h5⟩⟩
  · have e := h1 []
    rw [List.append_nil, List.append_nil] at e
    have h1' : ∀ x, ∀ r, layN B nt v (l ++ [x] ++ r) = pairN B.b nt ((tl ++ [x]) ++ r) := fun x r => by rw [List.append_assoc, h1, List.append_assoc]
    rw [e]
    rcases h2 with ⟨a, b, rfl⟩ | ⟨s, a, b, rfl, c⟩ | ⟨s, a, b, rfl, c⟩ | ⟨s, a, b, rfl, c⟩
    · rw [a]
      simp only [stepP, pairN]
      rw [accL_ld, accX_ld, Int.toNat_natCast]
      refine ⟨rfl, ?_⟩
      cases c : rouses nt (L.getD B.b 0) with
      | true => exact ⟨rfl, .inr ⟨_, h1' _, .inr (.inr (.inl ⟨_, rfl, rfl, rfl, c⟩))⟩⟩
      | false => exact ⟨rfl, .inr ⟨_, h1' _, .inr (.inl ⟨_, rfl, rfl, rfl, c⟩)⟩⟩
    · omega
    · rw [a]
      simp only [stepP, pairN, c, if_true]
      rw [accL_sw, accX_sw, Int.toNat_natCast]
      by_cases h5 : L.getD B.b 0 = s
      · rw [if_pos h5, if_pos h5, if_pos h5]
        exact ⟨rfl, rfl, .inr ⟨_, h1' _, .inr (.inr (.inr ⟨s, rfl, rfl, rfl, c⟩))⟩⟩
      · rw [if_neg h5, if_neg h5, if_neg h5]
        refine ⟨rfl, rfl, .inr ⟨[], fun r => ?_, .inl ⟨rfl, rfl, rfl⟩⟩⟩
        rw [h1' _ r]; simp only [List.cons_append, List.nil_append, pairN, c, if_true]; rfl
    · omega
/-! ### Settle -/
def RelS (B : PB) (held : Bool) (p : PO) (l : List Int) : Prop := p.val = 0 ∧ (
  (p.ph = .sto held ∧ p.out = 0 ∧ l = []) ∨
  (∃ o a l1, p.ph = .look held true o ∧ l = a :: l1 ∧ RelR (B.rb true) (B.rn true) 5 0 o l1 ∧ o.out = p.out ∧ (p.out = 0 ∨ p.out = 4 ∧ held = true)) ∨
  (held = false ∧ ∃ o tl, p.ph = .look held false o ∧ (∀ r, settleN B held (l ++ r) = mailN B (tl ++ r)) ∧ RelR (B.rb false) (B.rn false) 5 0 o tl ∧ o.out = p.out ∧ (p.out = 0 ∨ p.out = 4) ∧ ∃ k, k ≤ l.length ∧ tl = l.drop k) ∨
  (∃ tl, p.ph = .more held ∧ (∀ r, settleN B held (l ++ r) = tailN B.b (stOf held) (tl ++ r)) ∧ ((p.out = 0 ∧ tl = []) ∨ (p.out = 8 ∧ tl = [1]) ∨ (p.out = 1 ∧ tl = [0]))))
theorem look_out {b n : Nat} {v : Int} {o : RO} {l : List Int} (h : RelN b n o 5 v l) : o.out = 0 ∨ o.out = 1 ∨ o.out = 4 := by
  rcases h with ⟨h, _⟩ | ⟨h, _⟩ | ⟨h, _⟩ | ⟨_, ⟨_, h, _⟩ | ⟨_, h⟩⟩
  · exact absurd h (by decide)
  · exact absurd h (by decide)
  · exact absurd h (by decide)
  · exact .inl h
  · rcases h with ⟨_, _, _, _, h, _⟩ | ⟨_, _, h, _⟩ | ⟨_, _, _, _, _, h⟩ | ⟨_, _, _, _, _, h, _⟩ | ⟨_, _, _, _, h, _⟩ | ⟨_, _, _, _, _, h, _⟩ | ⟨_, _, _, _, _, _, h, _⟩ | ⟨_, _, _, _, _, _, _, h, _⟩
    · exact .inl h
    · exact absurd h (by decide)
    · exact .inr (.inr h)
    · exact .inr (.inl h)
    · exact absurd rfl h
    · exact absurd rfl h
    · exact absurd rfl h
    · exact absurd rfl h
theorem note_run {held : Bool} {o : RO} {l : List Int} (h : RelR (B.rb true) (B.rn true) 5 0 o l) (ho : o.out = 0) : noteN B held l = fN B true 5 0 l := by
  have hov : o.over = false := by simp [RO.over, ho]
  unfold noteN
  rw [RunF.all (f := fN B true 5 0) h.run]
  simp only
  rw [if_neg (by rw [show (fN B true 5 0 l).over = o.over from h.ov, hov]; decide)]
theorem note_over {held : Bool} {o : RO} {l : List Int} (h : RelR (B.rb true) (B.rn true) 5 0 o l) (ho : o.out ≠ 0) (r : List Int) : noteN B held (l ++ r) = if o.out = 4 then (if held then wOv 4 0 0 else mailN B r) else tailN B.b (stOf held) r := by
  have hov : o.over = true := by simp [RO.over, ho]
  have h1 : (fN B true 5 0 l).over = true := h.ov.trans hov
  unfold noteN
  rw [RunF.over (f := fN B true 5 0) h.run h1]
  simp only
  rw [if_pos h1, show (fN B true 5 0 l).out = o.out from (h.rel.like.2.2 hov).1, List.drop_left]
theorem mail_run {o : RO} {l : List Int} (h : RelR (B.rb false) (B.rn false) 5 0 o l) (ho : o.out = 0) : mailN B l = fN B false 5 0 l := by
  have hov : o.over = false := by simp [RO.over, ho]
  unfold mailN
  rw [RunF.all (f := fN B false 5 0) h.run]
  simp only
  rw [if_neg (by rw [show (fN B false 5 0 l).over = o.over from h.ov, hov]; decide)]
theorem mail_over {o : RO} {l : List Int} (h : RelR (B.rb false) (B.rn false) 5 0 o l) (ho : o.out ≠ 0) (r : List Int) : mailN B (l ++ r) = if o.out = 4 then wOv 4 0 0 else tailN B.b 0 r := by
  have hov : o.over = true := by simp [RO.over, ho]
  have h1 : (fN B false 5 0 l).over = true := h.ov.trans hov
  unfold mailN
  rw [RunF.over (f := fN B false 5 0) h.run h1]
  simp only
  rw [if_pos h1, show (fN B false 5 0 l).out = o.out from (h.rel.like.2.2 hov).1, List.drop_left]
theorem RelS.like {held : Bool} {p : PO} {l : List Int} (h : RelS B held p l) : LikeP p (settleN B held l) := by
  obtain ⟨hv, ⟨h1, h2, rfl⟩ | ⟨o, a, l1, h1, rfl, h3, h4, h5⟩ | ⟨rfl, o, tl, h1, h2, h3, h4, h5, hk⟩ | ⟨tl, h1, h2, h3⟩⟩ := h
  · exact likeP_run h2 rfl
  · show LikeP p (noteN B held l1)
    rcases h5 with h5 | ⟨h5, rfl⟩
    · rw [note_run h3 (h4.trans h5)]; exact likeP_run h5 (h3.ov.trans (by simp [RO.over, h4, h5]))
    · have := note_over (held := true) h3 (by omega) []
      rw [List.append_nil] at this
      rw [this, if_pos (by omega), if_pos rfl]; exact likeP_ov (by omega) rfl h5.symm hv.symm
  · have e := h2 []
    rw [List.append_nil, List.append_nil] at e
    rw [e]
    rcases h5 with h5 | h5
    · rw [mail_run h3 (h4.trans h5)]; exact likeP_run h5 (h3.ov.trans (by simp [RO.over, h4, h5]))
    · have := mail_over h3 (by omega) []
      rw [List.append_nil] at this
      rw [this, if_pos (by omega)]; exact likeP_ov (by omega) rfl h5.symm hv.symm
  · have e := h2 []
    rw [List.append_nil, List.append_nil] at e
    rw [e]
    rcases h3 with ⟨h3, rfl⟩ | ⟨h3, rfl⟩ | ⟨h3, rfl⟩
    · exact likeP_run h3 rfl
    · exact likeP_ov (by omega) rfl h3.symm hv.symm
    · exact likeP_ov (by omega) rfl h3.symm hv.symm
theorem RelS.step {held : Bool} {p : PO} {l : List Int} (h : RelS B held p l) (ho : p.out = 0) : (stepP B L p.ph).1 = accL (settleN B held l) L ∧ RelS B held (stepP B L p.ph).2 (l ++ [accX (settleN B held l) L]) := by
  obtain ⟨hv, ⟨h1, h2, rfl⟩ | ⟨o, a, l1, h1, rfl, h3, h4, h5⟩ | ⟨rfl, o, tl, h1, h2, h3, h4, h5, k, hk, htk⟩ | ⟨tl, h1, h2, h3⟩⟩ := h
  · rw [h1]
    simp only [stepP, settleN]
    rw [accL_st, accX_st, Int.toNat_natCast]
    exact ⟨rfl, rfl, .inr (.inl ⟨_, 0, [], rfl, rfl, RelR.start _ _ (by decide) 0, rfl, .inl rfl⟩)⟩
  · have ho0 : o.out = 0 := h4.trans ho
    obtain ⟨g1, g2⟩ := h3.go ho0 L
    have e : settleN B held (a :: l1) = fN B true 5 0 l1 := note_run h3 ho0
    rw [e, h1]
    refine ⟨g1, ?_⟩
    simp only [stepP]
    cases hov2 : (goO (B.rb true) (B.rn true) L o).over with
    | false => exact ⟨rfl, .inr (.inl ⟨_, a, _, rfl, rfl, g2, by simpa [RO.over] using hov2, .inl rfl⟩)⟩
    | true =>
      have hz : (goO (B.rb true) (B.rn true) L o).out ≠ 0 := by simpa [RO.over] using hov2
      simp only [if_true]
      by_cases h6 : (goO (B.rb true) (B.rn true) L o).out = 1
      · rw [if_pos h6]
        refine ⟨rfl, .inr (.inr (.inr ⟨[], rfl, fun r => ?_, .inl ⟨rfl, rfl⟩⟩))⟩
        show noteN B held (l1 ++ _ ++ r) = _
        rw [note_over g2 hz r, if_neg (by omega)]; rfl
      · have h7 : (goO (B.rb true) (B.rn true) L o).out = 4 := by rcases look_out g2.rel with h | h | h <;> first | exact absurd h hz | exact absurd h h6 | exact h
        rw [if_neg h6]
        cases held with
        | true => exact ⟨rfl, .inr (.inl ⟨_, a, _, rfl, rfl, g2, h7, .inr ⟨rfl, rfl⟩⟩)⟩
        | false =>
          refine ⟨rfl, .inr (.inr (.inl ⟨rfl, _, [], rfl, fun r => ?_, RelR.start _ _ (by decide) 0, rfl, .inl rfl, _, Nat.le_refl _, (List.drop_length ..).symm⟩))⟩
          show noteN B false (l1 ++ _ ++ r) = _
          rw [note_over g2 hz r, if_pos h7]; rfl
  · have ho0 : o.out = 0 := h4.trans ho
    obtain ⟨g1, g2⟩ := h3.go ho0 L
    have e := h2 []
    rw [List.append_nil, List.append_nil] at e
    rw [e, mail_run h3 ho0, h1]
    refine ⟨g1, ?_⟩
    simp only [stepP]
    have h2' : ∀ x, ∀ r, settleN B false (l ++ [x] ++ r) = mailN B ((tl ++ [x]) ++ r) := fun x r => by rw [List.append_assoc, h2, List.append_assoc]
    cases hov2 : (goO (B.rb false) (B.rn false) L o).over with
    | false => exact ⟨rfl, .inr (.inr (.inl ⟨rfl, _, _, rfl, h2' _, g2, by simpa [RO.over] using hov2, .inl rfl, k, by simp; omega, by rw [List.drop_append_of_le_length hk, htk]⟩))⟩
    | true =>
      have hz : (goO (B.rb false) (B.rn false) L o).out ≠ 0 := by simpa [RO.over] using hov2
      simp only [if_true]
      by_cases h6 : (goO (B.rb false) (B.rn false) L o).out = 1
      · rw [if_pos h6]
        refine ⟨rfl, .inr (.inr (.inr ⟨[], rfl, fun r => ?_, .inl ⟨rfl, rfl⟩⟩))⟩
        rw [h2' _ r, mail_over g2 hz r, if_neg (by omega)]; rfl
      · have h7 : (goO (B.rb false) (B.rn false) L o).out = 4 := by rcases look_out g2.rel with h | h | h <;> first | exact absurd h hz | exact absurd h h6 | exact h
        rw [if_neg h6]
        exact ⟨rfl, .inr (.inr (.inl ⟨rfl, _, _, rfl, h2' _, g2, h7, .inr rfl, k, by simp; omega, by rw [List.drop_append_of_le_length hk, htk]⟩))⟩
  · have e := h2 []
    rw [List.append_nil, List.append_nil] at e
    have h2' : ∀ x, ∀ r, settleN B held (l ++ [x] ++ r) = tailN B.b (stOf held) ((tl ++ [x]) ++ r) := fun x r => by rw [List.append_assoc, h2, List.append_assoc]
    rcases h3 with ⟨h3, rfl⟩ | ⟨h3, rfl⟩ | ⟨h3, rfl⟩
    · rw [e, h1]
      simp only [stepP, tailN]
      rw [accL_sw, accX_sw, Int.toNat_natCast]
      by_cases h5 : L.getD B.b 0 = stOf held
      · rw [if_pos h5, if_pos h5, if_pos h5]; exact ⟨rfl, rfl, .inr (.inr (.inr ⟨_, rfl, h2' _, .inr (.inl ⟨rfl, rfl⟩)⟩))⟩
      · rw [if_neg h5, if_neg h5, if_neg h5]; exact ⟨rfl, rfl, .inr (.inr (.inr ⟨_, rfl, h2' _, .inr (.inr ⟨rfl, rfl⟩)⟩))⟩
    · omega
    · omega
/-! ### all operations -/
def RelP (B : PB) (kind v : Int) (p : PO) (l : List Int) : Prop :=
  (kind = 1 ∧ RelL B false v p l) ∨ (kind = 2 ∧ RelL B true v p l) ∨
  (kind = 3 ∧ ((p.val = 0 ∧ p.ph = .ask v ∧ ((p.out = 0 ∧ l = []) ∨ (p.out = 4 ∧ l = [0]))) ∨ ∃ l1, l = 1 :: l1 ∧ RelL B true v p l1)) ∨
  ((kind = 4 ∨ kind = 8 ∨ kind = 11) ∧ p.val = 0 ∧ p.ph = .set (if kind = 4 then 2 else if kind = 8 then 1 else 4) ∧ ((p.out = 0 ∧ l = []) ∨ (p.out = 1 ∧ ∃ x, l = [x]))) ∨
  (kind = 12 ∧ p.val = 0 ∧ p.ph = .gone ∧ ((p.out = 0 ∧ l = []) ∨ (∃ x, l = [x] ∧ p.out = if x = 4 then 1 else 4))) ∨
  (kind = 7 ∧ RelS B (decide (v = 1)) p l) ∨
  ((kind = 5 ∨ kind = 6 ∨ kind = 9 ∨ kind = 10) ∧ ∃ o, p.ph = .of (ringK kind) o ∧ RelR (B.rb (ringK kind)) (B.rn (ringK kind)) (opKd kind) 0 o l ∧ o.out = p.out ∧ o.value = p.val)
theorem RelP.like {kind v : Int} {p : PO} {l : List Int} (h : RelP B kind v p l) : LikeP p (nextP B kind v l) := by
  unfold nextP
  rcases h with ⟨rfl, h⟩ | ⟨rfl, h⟩ | ⟨rfl, h⟩ | ⟨hk, hv, h1, h2⟩ | ⟨rfl, hv, h1, h2⟩ | ⟨rfl, h⟩ | ⟨hk, o, h1, h2, h3, h4⟩
  · exact h.like
  · exact h.like
  · rcases h with ⟨hv, h1, ⟨h2, rfl⟩ | ⟨h2, rfl⟩⟩ | ⟨l1, rfl, h⟩
    · exact likeP_run h2 rfl
    · exact likeP_ov (by omega) rfl h2.symm hv.symm
    · exact h.like
  · rcases hk with rfl | rfl | rfl <;> rcases h2 with ⟨h2, rfl⟩ | ⟨h2, x, rfl⟩ <;> first | exact likeP_run h2 rfl | exact likeP_ov (by omega) rfl h2.symm hv.symm
  · rcases h2 with ⟨h2, rfl⟩ | ⟨x, rfl, h2⟩
    · exact likeP_run h2 rfl
    · show LikeP p (if x = 4 then wOv 1 0 0 else wOv 4 0 0)
      split <;> rename_i hx
      · rw [if_pos hx] at h2; exact likeP_ov (by omega) rfl h2.symm hv.symm
      · rw [if_neg hx] at h2; exact likeP_ov (by omega) rfl h2.symm hv.symm
  · exact h.like
  · rw [if_neg (by omega), if_neg (by omega), if_neg (by omega), if_neg (by omega), if_neg (by omega), if_neg (by omega), if_neg (by omega), if_neg (by omega), RunF.all (f := fN B (ringK kind) (opKd kind) 0) h2.run]
    have hl := h2.rel.like
    exact ⟨hl.1.trans (by simp [RO.over, PO.over, h3]), fun e => by
      have : o.over = true := by simpa [RO.over, PO.over, h3] using e
      exact ⟨(hl.2.2 this).1.trans h3, (hl.2.2 this).2.1.trans h4⟩⟩
/-- the access that comes: the same cells, and on -/
theorem RelP.step {kind v : Int} {p : PO} {l : List Int} (h : RelP B kind v p l) (ho : p.over = false) : goPL B L p = accL (nextP B kind v l) L ∧ RelP B kind v (goPO B L p) (l ++ [accX (nextP B kind v l) L]) := by
  have h0 : p.out = 0 := by simpa [PO.over] using ho
  have e1 : goPL B L p = (stepP B L p.ph).1 := by unfold goPL; rw [ho]; rfl
  have e2 : goPO B L p = (stepP B L p.ph).2 := by unfold goPO; rw [ho]; rfl
  rw [e1, e2]
  unfold nextP
  rcases h with ⟨rfl, h⟩ | ⟨rfl, h⟩ | ⟨rfl, h⟩ | ⟨hk, hv, h1, h2⟩ | ⟨rfl, hv, h1, h2⟩ | ⟨rfl, h⟩ | ⟨hk, o, h1, h2, h3, h4⟩
  · have := h.step (L := L) h0; exact ⟨this.1, .inl ⟨rfl, this.2⟩⟩
  · have := h.step (L := L) h0; exact ⟨this.1, .inr (.inl ⟨rfl, this.2⟩)⟩
  · rcases h with ⟨hv, h1, ⟨h2, rfl⟩ | ⟨h2, rfl⟩⟩ | ⟨l1, rfl, h⟩
    · rw [h1]
      show (stepP B L (.ask v)).1 = accL (wSw ((B.b : Int) + 1) 0 1) L ∧ RelP B 3 v (stepP B L (.ask v)).2 ([] ++ [accX (wSw ((B.b : Int) + 1) 0 1) L])
      rw [accL_sw, accX_sw, show ((B.b : Int) + 1).toNat = B.b + 1 by omega]
      simp only [stepP]
      by_cases h5 : L.getD (B.b + 1) 0 = 0
      · rw [if_pos h5, if_pos h5, if_pos h5]
        exact ⟨rfl, .inr (.inr (.inl ⟨rfl, .inr ⟨[], rfl, rfl, .inl ⟨_, rfl, RelR.start _ _ (by decide) v, rfl, (show (0 : Int) ≠ 1 by decide)⟩⟩⟩))⟩
      · rw [if_neg h5, if_neg h5, if_neg h5]
        exact ⟨rfl, .inr (.inr (.inl ⟨rfl, .inl ⟨rfl, rfl, .inr ⟨rfl, rfl⟩⟩⟩))⟩
    · omega
    · have := h.step (L := L) h0
      exact ⟨this.1, .inr (.inr (.inl ⟨rfl, .inr ⟨_, rfl, this.2⟩⟩))⟩
  · rcases h2 with ⟨h2, rfl⟩ | ⟨h2, x, rfl⟩
    · rw [h1]
      rcases hk with rfl | rfl | rfl
      · show L.set B.b 2 = accL (wSt B.b 2) L ∧ _
        rw [accL_st]; exact ⟨rfl, .inr (.inr (.inr (.inl ⟨.inl rfl, rfl, rfl, .inr ⟨rfl, _, rfl⟩⟩)))⟩
      · show L.set B.b 1 = accL (wSt B.b 1) L ∧ _
        rw [accL_st]; exact ⟨rfl, .inr (.inr (.inr (.inl ⟨.inr (.inl rfl), rfl, rfl, .inr ⟨rfl, _, rfl⟩⟩)))⟩
      · show L.set B.b 4 = accL (wSt B.b 4) L ∧ _
        rw [accL_st]; exact ⟨rfl, .inr (.inr (.inr (.inl ⟨.inr (.inr rfl), rfl, rfl, .inr ⟨rfl, _, rfl⟩⟩)))⟩
    · omega
  · rcases h2 with ⟨h2, rfl⟩ | ⟨x, rfl, h2⟩
    · rw [h1]
      show L = accL (wLd B.b) L ∧ RelP B 12 v ⟨.gone, if L.getD B.b 0 = 4 then 1 else 4, 0⟩ ([] ++ [accX (wLd B.b) L])
      rw [accL_ld, accX_ld, Int.toNat_natCast]
      exact ⟨rfl, .inr (.inr (.inr (.inr (.inl ⟨rfl, rfl, rfl, .inr ⟨_, rfl, rfl⟩⟩))))⟩
    · split at h2 <;> omega
  · have := h.step (L := L) h0; exact ⟨this.1, .inr (.inr (.inr (.inr (.inr (.inl ⟨rfl, this.2⟩)))))⟩
  · rw [if_neg (by omega), if_neg (by omega), if_neg (by omega), if_neg (by omega), if_neg (by omega), if_neg (by omega), if_neg (by omega), if_neg (by omega), RunF.all (f := fN B (ringK kind) (opKd kind) 0) h2.run, h1]
    obtain ⟨g1, g2⟩ := h2.go (h3.trans h0) L
    refine ⟨g1, .inr (.inr (.inr (.inr (.inr (.inr ⟨hk, goO (B.rb (ringK kind)) (B.rn (ringK kind)) L o, ?_⟩)))))⟩
    simp only [stepP]
    cases hov2 : (goO (B.rb (ringK kind)) (B.rn (ringK kind)) L o).over with
    | false =>
      have hz : (goO (B.rb (ringK kind)) (B.rn (ringK kind)) L o).out = 0 := by simpa [RO.over] using hov2
      exact ⟨rfl, g2, hz, by unfold RO.value; rw [if_neg (by omega)]; rfl⟩
    | true => exact ⟨rfl, g2, rfl, rfl⟩
/-! ### the accesses lie in the box -/
theorem wok_up {b n b' n' : Nat} {w : Wt} (h : WOk b n w) (hb : b + 2 + 2 * n ≤ b' + 2 + 2 * n') : WOk b' n' w := ⟨let ⟨i, e, hi⟩ := h.cell; ⟨i, e, by omega⟩, h.what, h.a, h.b⟩
def topB (B : PB) : Nat := B.b + 4 + 2 * B.nm + 2 * B.nn
theorem wok_ring {r : Bool} (h1 : 1 ≤ B.nm) (h2 : 1 ≤ B.nn) {k v : Int} {l : List Int} (hv : 0 ≤ v ∧ v ≤ 18446744073709551615) (hl : LI l) (h : (fN B r k v l).over = false) : WOk (topB B) 0 (fN B r k v l) :=
  wok_up (wok_next (by cases r <;> simp [PB.rn] <;> omega) hv hl h) (by cases r <;> simp [PB.rb, PB.rn, topB] <;> omega)
theorem LI_dropN {l : List Int} (h : LI l) (k : Nat) : LI (l.drop k) := fun x hx => h x (List.mem_of_mem_drop hx)
theorem wokL {nt : Bool} {v : Int} {p : PO} {l : List Int} (h1 : 1 ≤ B.nm) (h2 : 1 ≤ B.nn) (hv : 0 ≤ v ∧ v ≤ 18446744073709551615) (hl : LI l) (hp : POI p) (ho : p.out = 0) (h : RelL B nt v p l) : WOk (topB B) 0 (layN B nt v l) := by
  have i1 : (0 : Int) ≤ 1 ∧ (1 : Int) ≤ 18446744073709551615 := by decide
  obtain ⟨_, ⟨o, e1, e2, e3, e4⟩ | ⟨tl, e1, e2⟩⟩ := h
  · have hov : o.over = false := by simp [RO.over, e3, ho]
    rw [lay_put e2, hov]
    exact wok_ring h1 h2 hv hl (e2.ov.trans hov)
  · have e := e1 []
    rw [List.append_nil, List.append_nil] at e
    rw [e]
    rcases e2 with ⟨a, b, rfl⟩ | ⟨s, a, b, rfl, c⟩ | ⟨s, a, b, rfl, c⟩ | ⟨s, a, b, rfl, c⟩
    · exact wok_ld _ (by simp [topB]; omega)
    · omega
    · have := (hp ho).1; rw [a] at this
      simp only [pairN, c, if_true]; exact wok_sw _ (by simp [topB]; omega) this i1
    · omega
theorem wokP {kind v : Int} {p : PO} {l : List Int} (h1 : 1 ≤ B.nm) (h2 : 1 ≤ B.nn) (hv : 0 ≤ v ∧ v ≤ 18446744073709551615) (hl : LI l) (hp : POI p) (ho : p.out = 0) (h : RelP B kind v p l) : WOk (topB B) 0 (nextP B kind v l) := by
  have i0 : (0 : Int) ≤ 0 ∧ (0 : Int) ≤ 18446744073709551615 := by decide
  have i1 : (0 : Int) ≤ 1 ∧ (1 : Int) ≤ 18446744073709551615 := by decide
  unfold nextP
  rcases h with ⟨rfl, h⟩ | ⟨rfl, h⟩ | ⟨rfl, h⟩ | ⟨hk, hv0, h3, h4⟩ | ⟨rfl, hv0, h3, h4⟩ | ⟨rfl, h⟩ | ⟨hk, o, h3, h4, h5, h6⟩
  · exact wokL h1 h2 hv hl hp ho h
  · exact wokL h1 h2 hv hl hp ho h
  · rcases h with ⟨_, h3, ⟨h4, rfl⟩ | ⟨h4, rfl⟩⟩ | ⟨l1, rfl, h⟩
    · exact wok_sw (B.b + 1) (by simp [topB]; omega) i0 i1
    · omega
    · exact wokL h1 h2 hv (fun x hx => hl x (List.mem_cons_of_mem _ hx)) hp ho h
  · rcases h4 with ⟨h4, rfl⟩ | ⟨h4, x, rfl⟩
    · rcases hk with rfl | rfl | rfl
      · exact wok_st _ (by simp [topB]; omega) (by decide)
      · exact wok_st _ (by simp [topB]; omega) (by decide)
      · exact wok_st _ (by simp [topB]; omega) (by decide)
    · omega
  · rcases h4 with ⟨h4, rfl⟩ | ⟨x, rfl, h4⟩
    · exact wok_ld _ (by simp [topB]; omega)
    · split at h4 <;> omega
  · show WOk (topB B) 0 (settleN B (decide (v = 1)) l)
    have hst : 0 ≤ stOf (decide (v = 1)) ∧ stOf (decide (v = 1)) ≤ 18446744073709551615 := by cases (decide (v = 1)) <;> decide
    generalize decide (v = 1) = held at h hst ⊢
    obtain ⟨_, ⟨e1, e2, rfl⟩ | ⟨o, a, l1, e1, rfl, e3, e4, e5⟩ | ⟨rfl, o, tl, e1, e2, e3, e4, e5, k, hk, htk⟩ | ⟨tl, e1, e2, e3⟩⟩ := h
    · exact wok_st _ (by simp [topB]; omega) hst
    · show WOk (topB B) 0 (noteN B held l1)
      rw [note_run e3 (e4.trans ho)]
      exact wok_ring h1 h2 i0 (fun x hx => hl x (List.mem_cons_of_mem _ hx)) (e3.ov.trans (by simp [RO.over, e4, ho]))
    · have e := e2 []
      rw [List.append_nil, List.append_nil] at e
      rw [e, mail_run e3 (e4.trans ho)]
      exact wok_ring h1 h2 i0 (by rw [htk]; exact LI_dropN hl k) (e3.ov.trans (by simp [RO.over, e4, ho]))
    · have e := e2 []
      rw [List.append_nil, List.append_nil] at e
      rw [e]
      rcases e3 with ⟨e3, rfl⟩ | ⟨e3, rfl⟩ | ⟨e3, rfl⟩
      · exact wok_sw _ (by simp [topB]; omega) hst i1
      · omega
      · omega
  · rw [if_neg (by omega), if_neg (by omega), if_neg (by omega), if_neg (by omega), if_neg (by omega), if_neg (by omega), if_neg (by omega), if_neg (by omega), RunF.all (f := fN B (ringK kind) (opKd kind) 0) h4.run]
    exact wok_ring h1 h2 i0 hl (h4.ov.trans (by simp [RO.over, h5, ho]))
end Go.L.Post
