/-
  RingPlays on paper: the document's next access, by what the accesses ahead have answered; an operation is at the same access. Own work; no program.
-/
import Derived.Test.YtkpgcdhepfgfaaaGreatRingO
set_option linter.unusedSimpArgs false
set_option linter.unusedVariables false
set_option linter.unusedSectionVars false
namespace Go.L.Ring
open Go.L
/-- an operation's next access, or its end -/
structure Wt where
  over : Bool
  what : Int
  cell : Int
  a : Int
  b : Int
  out : Int
  value : Int
  ticket : Int
  deriving DecidableEq
def Wt.cells (w : Wt) : List Value := [.bool w.over, I64 w.what, I64 w.cell, U64 w.a, U64 w.b, I64 w.out, U64 w.value, U64 w.ticket]
def wLd (c : Int) : Wt := ⟨false, 1, c, 0, 0, 0, 0, 0⟩
def wSt (c a : Int) : Wt := ⟨false, 2, c, a, 0, 0, 0, 0⟩
def wSw (c a b : Int) : Wt := ⟨false, 3, c, a, b, 0, 0, 0⟩
def wOv (out value ticket : Int) : Wt := ⟨true, 0, 0, 0, 0, out, value, ticket⟩
abbrev tnI (b n : Nat) (t : Int) : Int := (tn b n t : Nat)
/-- a Put that has its ticket -/
def putT (b n : Nat) (v t : Int) : List Int → Wt
  | [] => wSt (tnI b n t + 1) v
  | [_] => wSt (tnI b n t) (uw (wt n t + 1))
  | _ => wOv 1 0 t
def putN (b n : Nat) (v : Int) : List Int → Wt
  | [] => wLd b
  | [t] => if top ≤ t then wOv 3 0 0 else wLd (tnI b n t)
  | [t, s] => if top ≤ t then wOv 3 0 0 else if s < wt n t then wOv 2 0 0 else if wt n t < s then wLd b else wSw b t (uw (t + 1))
  | t :: s :: x :: r => if top ≤ t then wOv 3 0 0 else if s < wt n t then wOv 2 0 0 else if wt n t < s then putN b n v (x :: r) else if x = 0 then putN b n v r else putT b n v t r
def shutN (b : Nat) : List Int → Wt
  | [] => wLd b
  | [t] => if top ≤ t then wOv 1 0 0 else wSw b t (uw (t + top))
  | t :: s :: r => if top ≤ t then wOv 1 0 0 else if s = 1 then wOv 1 0 0 else shutN b r
/-- Take, Drain, Look behind Drain's first access -/
def headN (b n : Nat) (kind t : Int) : List Int → Wt
  | [] => wLd ((b : Int) + 1)
  | h :: r => if kind = 3 ∧ t = uw (h + top) then wOv 5 0 0 else match r with
    | [] => wLd (tnI b n h)
    | s :: r2 => if s ≠ uw (wt n h + 1) then wOv 4 0 0 else if kind = 5 then wOv 1 0 0 else match r2 with
      | [] => wLd (tnI b n h + 1)
      | [_] => wSt (tnI b n h) (uw (wt n h + 2))
      | [_, _] => wSt ((b : Int) + 1) (uw (h + 1))
      | v :: _ => wOv 1 v 0
def nextN (b n : Nat) (kind v : Int) (l : List Int) : Wt :=
  if kind = 1 then putN b n v l else if kind = 4 then shutN b l else if kind = 3 then (match l with | [] => wLd b | t :: r => headN b n kind t r) else headN b n kind 0 l
/-- an access, done -/
def accL (w : Wt) (L : List Int) : List Int := if w.what = 2 then L.set w.cell.toNat w.a else if w.what = 3 then (if L.getD w.cell.toNat 0 = w.a then L.set w.cell.toNat w.b else L) else L
def accX (w : Wt) (L : List Int) : Int := if w.what = 1 then L.getD w.cell.toNat 0 else if w.what = 3 then (if L.getD w.cell.toNat 0 = w.a then 1 else 0) else 0
theorem htop' : top = 9223372036854775808 := rfl
theorem accL_ld (c : Int) (L : List Int) : accL (wLd c) L = L := by simp [accL, wLd]
theorem accX_ld (c : Int) (L : List Int) : accX (wLd c) L = L.getD c.toNat 0 := by unfold accX wLd; exact if_pos rfl
theorem accL_st (c a : Int) (L : List Int) : accL (wSt c a) L = L.set c.toNat a := by unfold accL wSt; exact if_pos rfl
theorem accX_st (c a : Int) (L : List Int) : accX (wSt c a) L = 0 := by simp [accX, wSt]
theorem accL_sw (c a x : Int) (L : List Int) : accL (wSw c a x) L = if L.getD c.toNat 0 = a then L.set c.toNat x else L := by unfold accL wSw; exact (if_neg (show ¬ (3 : Int) = 2 by decide)).trans (if_pos rfl)
theorem accX_sw (c a x : Int) (L : List Int) : accX (wSw c a x) L = if L.getD c.toNat 0 = a then 1 else 0 := by unfold accX wSw; exact (if_neg (show ¬ (3 : Int) = 1 by decide)).trans (if_pos rfl)
theorem putN_skip1 {b n : Nat} {v t s : Int} (h1 : t < top) (h2 : wt n t < s) (r : List Int) : putN b n v (t :: s :: r) = putN b n v r := by
  cases r with
  | nil => simp only [putN]; rw [if_neg (by omega), if_neg (by omega), if_pos h2]
  | cons x r => rw [putN]; rw [if_neg (by omega), if_neg (by omega), if_pos h2]
theorem putN_skip2 {b n : Nat} {v t s : Int} (h1 : t < top) (h2 : s = wt n t) (r : List Int) : putN b n v (t :: s :: 0 :: r) = putN b n v r := by
  rw [putN]; rw [if_neg (by omega), if_neg (by omega), if_neg (by omega), if_pos rfl]
theorem shutN_skip {b : Nat} {t : Int} (h1 : t < top) (r : List Int) : shutN b (t :: 0 :: r) = shutN b r := by
  rw [shutN]; rw [if_neg (by omega), if_neg (by decide)]
/-- an operation is where the document has it -/
def PutR (b n : Nat) (o : RO) (v : Int) (l : List Int) : Prop :=
  ∃ tl, (∀ r, putN b n v (l ++ r) = putN b n v (tl ++ r)) ∧ (
    (o.pc = 0 ∧ o.out = 0 ∧ o.val = v ∧ tl = []) ∨
    (∃ t, tl = [t] ∧ o.pc = 1 ∧ o.val = v ∧ o.tick = t ∧ ((t < top ∧ o.out = 0) ∨ (top ≤ t ∧ o.out = 3))) ∨
    (∃ t s, tl = [t, s] ∧ t < top ∧ s < wt n t ∧ o.pc = 1 ∧ o.out = 2 ∧ o.val = v ∧ o.tick = t) ∨
    (∃ t s, tl = [t, s] ∧ t < top ∧ s = wt n t ∧ o.pc = 2 ∧ o.out = 0 ∧ o.val = v ∧ o.tick = t) ∨
    (∃ t s, tl = [t, s, 1] ∧ t < top ∧ s = wt n t ∧ o.pc = 3 ∧ o.out = 0 ∧ o.val = v ∧ o.tick = t) ∨
    (∃ t s x, tl = [t, s, 1, x] ∧ t < top ∧ s = wt n t ∧ o.pc = 4 ∧ o.out = 0 ∧ o.val = v ∧ o.tick = t) ∨
    (∃ t s x y, tl = [t, s, 1, x, y] ∧ t < top ∧ s = wt n t ∧ o.pc = 4 ∧ o.out = 1 ∧ o.val = 0 ∧ o.tick = t))
def ShutR (b : Nat) (o : RO) (l : List Int) : Prop :=
  o.tick = 0 ∧ ∃ tl, (∀ r, shutN b (l ++ r) = shutN b (tl ++ r)) ∧ (
    (o.pc = 14 ∧ o.out = 0 ∧ tl = []) ∨
    (∃ t, tl = [t] ∧ o.pc = 15 ∧ ((t < top ∧ o.out = 0 ∧ o.val = t) ∨ (top ≤ t ∧ o.out = 1 ∧ o.val = 0))) ∨
    (∃ t, tl = [t, 1] ∧ t < top ∧ o.out = 1 ∧ o.val = 0))
/-- behind Drain's first access; t: what it answered -/
def HeadR (b n : Nat) (kind t : Int) (o : RO) (l : List Int) : Prop :=
  o.tick = 0 ∧ (
    (∃ h, l = [h] ∧ o.en = h ∧ (kind = 3 → t ≠ uw (h + top)) ∧ o.out = 0 ∧ ((kind ≠ 5 ∧ o.pc = 6) ∨ (kind = 5 ∧ o.pc = 13 ∧ o.val = 0))) ∨
    (∃ h, l = [h] ∧ kind = 3 ∧ t = uw (h + top) ∧ o.out = 5) ∨
    (∃ h s, l = [h, s] ∧ (kind = 3 → t ≠ uw (h + top)) ∧ s ≠ uw (wt n h + 1) ∧ o.out = 4) ∨
    (∃ h s, l = [h, s] ∧ kind = 5 ∧ s = uw (wt n h + 1) ∧ o.out = 1 ∧ o.val = 0) ∨
    (∃ h s, l = [h, s] ∧ (kind = 3 → t ≠ uw (h + top)) ∧ kind ≠ 5 ∧ s = uw (wt n h + 1) ∧ o.en = h ∧ o.out = 0 ∧ o.pc = 7) ∨
    (∃ h s v, l = [h, s, v] ∧ (kind = 3 → t ≠ uw (h + top)) ∧ kind ≠ 5 ∧ s = uw (wt n h + 1) ∧ o.en = h ∧ o.out = 0 ∧ o.pc = 8 ∧ o.val = v) ∨
    (∃ h s v x, l = [h, s, v, x] ∧ (kind = 3 → t ≠ uw (h + top)) ∧ kind ≠ 5 ∧ s = uw (wt n h + 1) ∧ o.en = h ∧ o.out = 0 ∧ o.pc = 9 ∧ o.val = v) ∨
    (∃ h s v x y, l = [h, s, v, x, y] ∧ (kind = 3 → t ≠ uw (h + top)) ∧ kind ≠ 5 ∧ s = uw (wt n h + 1) ∧ o.out = 1 ∧ o.val = v))
def RelN (b n : Nat) (o : RO) (kind v : Int) (l : List Int) : Prop :=
  (kind = 1 ∧ PutR b n o v l) ∨ (kind = 4 ∧ ShutR b o l) ∨
  (kind = 3 ∧ ((l = [] ∧ o.pc = 10 ∧ o.out = 0 ∧ o.tick = 0) ∨ (∃ t, l = [t] ∧ o.pc = 11 ∧ o.out = 0 ∧ o.val = t ∧ o.tick = 0) ∨ ∃ t r, l = t :: r ∧ HeadR b n kind t o r)) ∨
  ((kind = 2 ∨ kind = 5) ∧ ((l = [] ∧ o.out = 0 ∧ o.tick = 0 ∧ o.val = 0 ∧ ((kind = 2 ∧ o.pc = 5) ∨ (kind = 5 ∧ o.pc = 12))) ∨ HeadR b n kind 0 o l))
/-- what is to be seen of it -/
def Like (o : RO) (w : Wt) : Prop := w.over = o.over ∧ (o.over = false → w.out = 0 ∧ w.value = 0 ∧ w.ticket = 0) ∧ (o.over = true → w.out = o.out ∧ w.value = o.value ∧ w.ticket = o.ticket)
theorem like_run {o : RO} {w : Wt} (h : o.out = 0) (h1 : w.over = false) (h2 : w.out = 0 ∧ w.value = 0 ∧ w.ticket = 0) : Like o w := by
  have : o.over = false := by simp [RO.over, h]
  exact ⟨by rw [this, h1], fun _ => h2, fun e => (by rw [this] at e; cases e)⟩
theorem like_over {o : RO} {w : Wt} (h : o.out ≠ 0) (h1 : w.over = true) (h2 : w.out = o.out) (h3 : w.value = if o.out = 1 then o.val else 0) (h4 : w.ticket = if o.out = 1 then o.tick else 0) : Like o w := by
  have : o.over = true := by simp [RO.over, h]
  exact ⟨by rw [this, h1], fun e => (by rw [this] at e; cases e), fun _ => ⟨h2, h3, h4⟩⟩
variable {b n : Nat} {o : RO} {kind v : Int} {l L : List Int}
/-- 'x' is the access that comes: the same cells, and on -/
structure Sim (b n : Nat) (o : RO) (kind v : Int) (l L : List Int) : Prop where
  cells : goL b n L o = accL (nextN b n kind v l) L
  on : RelN b n (goO b n L o) kind v (l ++ [accX (nextN b n kind v l) L])
theorem tnI_nat (b n : Nat) (t : Int) : (tnI b n t).toNat = tn b n t := Int.toNat_natCast _
theorem PutR.like (R : PutR b n o v l) : Like o (putN b n v l) := by
  obtain ⟨tl, hp, h⟩ := R
  have e := hp []
  rw [List.append_nil, List.append_nil] at e
  rw [e]
  rcases h with ⟨a1, a2, a3, rfl⟩ | ⟨t, rfl, a1, a2, a3, ⟨a4, a5⟩ | ⟨a4, a5⟩⟩ | ⟨t, s, rfl, a1, a2, a3, a4, a5, a6⟩ | ⟨t, s, rfl, a1, a2, a3, a4, a5, a6⟩ | ⟨t, s, rfl, a1, a2, a3, a4, a5, a6⟩ | ⟨t, s, x, rfl, a1, a2, a3, a4, a5, a6⟩ | ⟨t, s, x, y, rfl, a1, a2, a3, a4, a5, a6⟩
  · exact like_run a2 rfl ⟨rfl, rfl, rfl⟩
  · rw [putN, if_neg (by omega)]; exact like_run a5 rfl ⟨rfl, rfl, rfl⟩
  · rw [putN, if_pos a4]; exact like_over (by omega) rfl a5.symm (by rw [if_neg (by omega)]; rfl) (by rw [if_neg (by omega)]; rfl)
  · rw [putN, if_neg (by omega), if_pos a2]; exact like_over (by omega) rfl a4.symm (by rw [if_neg (by omega)]; rfl) (by rw [if_neg (by omega)]; rfl)
  · rw [putN, if_neg (by omega), if_neg (by omega), if_neg (by omega)]; exact like_run a4 rfl ⟨rfl, rfl, rfl⟩
  · rw [putN, if_neg (by omega), if_neg (by omega), if_neg (by omega), if_neg (by decide)]; exact like_run a4 rfl ⟨rfl, rfl, rfl⟩
  · rw [putN, if_neg (by omega), if_neg (by omega), if_neg (by omega), if_neg (by decide)]; exact like_run a4 rfl ⟨rfl, rfl, rfl⟩
  · rw [putN, if_neg (by omega), if_neg (by omega), if_neg (by omega), if_neg (by decide)]; exact like_over (by omega) rfl a4.symm (by rw [if_pos a4, a5]; rfl) (by rw [if_pos a4, a6]; rfl)
theorem PutR.step (R : PutR b n o v l) (ho : o.over = false) : goL b n L o = accL (putN b n v l) L ∧ PutR b n (goO b n L o) v (l ++ [accX (putN b n v l) L]) := by
  obtain ⟨tl, hp, h⟩ := R
  have hout : o.out = 0 := by simpa [RO.over] using ho
  obtain ⟨eL, eO⟩ := go_st (b := b) (n := n) (L := L) hout
  have e := hp []
  rw [List.append_nil, List.append_nil] at e
  have hp' : ∀ x, ∀ r, putN b n v (l ++ [x] ++ r) = putN b n v ((tl ++ [x]) ++ r) := fun x r => by rw [List.append_assoc, hp, List.append_assoc]
  rw [e, eL, eO]
  rcases h with ⟨a1, a2, a3, rfl⟩ | ⟨t, rfl, a1, a2, a3, ⟨a4, a5⟩ | ⟨a4, a5⟩⟩ | ⟨t, s, rfl, a1, a2, a3, a4, a5, a6⟩ | ⟨t, s, rfl, a1, a2, a3, a4, a5, a6⟩ | ⟨t, s, rfl, a1, a2, a3, a4, a5, a6⟩ | ⟨t, s, x, rfl, a1, a2, a3, a4, a5, a6⟩ | ⟨t, s, x, y, rfl, a1, a2, a3, a4, a5, a6⟩
  · rw [(stp0 a1).1, (stp0 a1).2]
    refine ⟨(accL_ld _ _).symm, [L.getD b 0], hp' _, .inr (.inl ⟨_, rfl, rfl, a3, rfl, ?_⟩)⟩
    by_cases h : top ≤ L.getD b 0
    · right; exact ⟨h, by unfold putTailO; rw [if_pos h]⟩
    · left; exact ⟨by omega, by unfold putTailO; rw [if_neg h]; exact a2⟩
  · rw [(stp1 a1).1, (stp1 a1).2, putN, if_neg (by omega)]
    refine ⟨(accL_ld _ _).symm, ?_⟩
    rw [accX_ld, tnI_nat]
    unfold putTurnO
    rw [a3]
    by_cases h1 : wt n t < L.getD (tn b n t) 0
    · rw [if_pos h1]
      exact ⟨[], fun r => by rw [hp' _ r]; exact putN_skip1 a4 h1 r, .inl ⟨rfl, a5, a2, rfl⟩⟩
    · rw [if_neg h1]
      by_cases h2 : L.getD (tn b n t) 0 < wt n t
      · rw [if_pos h2]; exact ⟨_, hp' _, .inr (.inr (.inl ⟨t, _, rfl, a4, h2, a1, rfl, a2, rfl⟩))⟩
      · rw [if_neg h2]; exact ⟨_, hp' _, .inr (.inr (.inr (.inl ⟨t, _, rfl, a4, by omega, rfl, a5, a2, rfl⟩)))⟩
  · omega
  · omega
  · rw [(stp2 a3).1, (stp2 a3).2, putN, if_neg (by omega), if_neg (by omega), if_neg (by omega)]
    unfold putSwapL putSwapO
    rw [accL_sw, accX_sw, Int.toNat_natCast, a6]
    refine ⟨rfl, ?_⟩
    by_cases h1 : L.getD b 0 = t
    · rw [if_pos h1, if_pos h1]; exact ⟨_, hp' _, .inr (.inr (.inr (.inr (.inl ⟨t, s, rfl, a1, a2, rfl, a4, a5, rfl⟩))))⟩
    · rw [if_neg h1, if_neg h1]
      exact ⟨[], fun r => by rw [hp' _ r]; exact putN_skip2 a1 a2 r, .inl ⟨rfl, a4, a5, rfl⟩⟩
  · rw [(stp3 a3).1, (stp3 a3).2, putN, if_neg (by omega), if_neg (by omega), if_neg (by omega), if_neg (by decide)]
    unfold putValueL putValueO
    refine ⟨?_, _, hp' _, .inr (.inr (.inr (.inr (.inr (.inl ⟨t, s, _, rfl, a1, a2, rfl, a4, a5, a6⟩)))))⟩
    show L.set (tn b n o.tick + 1) o.val = accL (wSt (tnI b n t + 1) v) L
    rw [accL_st, a6, a5]; congr 1
  · rw [(stp4 a3).1, (stp4 a3).2, putN, if_neg (by omega), if_neg (by omega), if_neg (by omega), if_neg (by decide)]
    unfold putDoneL putDoneO
    refine ⟨?_, _, hp' _, .inr (.inr (.inr (.inr (.inr (.inr ⟨t, s, x, _, rfl, a1, a2, a3, rfl, rfl, a6⟩)))))⟩
    show L.set (tn b n o.tick) (uw (wt n o.tick + 1)) = accL (wSt (tnI b n t) _) L
    rw [accL_st, a6, tnI_nat]
  · omega
theorem ShutR.like (R : ShutR b o l) : Like o (shutN b l) := by
  obtain ⟨h0, tl, hp, h⟩ := R
  have e := hp []
  rw [List.append_nil, List.append_nil] at e
  rw [e]
  rcases h with ⟨a1, a2, rfl⟩ | ⟨t, rfl, a1, ⟨a4, a5, a6⟩ | ⟨a4, a5, a6⟩⟩ | ⟨t, rfl, a1, a2, a3⟩
  · exact like_run a2 rfl ⟨rfl, rfl, rfl⟩
  · rw [shutN, if_neg (by omega)]; exact like_run a5 rfl ⟨rfl, rfl, rfl⟩
  · rw [shutN, if_pos a4]; exact like_over (by omega) rfl a5.symm (by rw [if_pos a5, a6]; rfl) (by rw [if_pos a5, h0]; rfl)
  · rw [shutN, if_neg (by omega), if_pos rfl]; exact like_over (by omega) rfl a2.symm (by rw [if_pos a2, a3]; rfl) (by rw [if_pos a2, h0]; rfl)
theorem ShutR.step (R : ShutR b o l) (ho : o.over = false) : goL b n L o = accL (shutN b l) L ∧ ShutR b (goO b n L o) (l ++ [accX (shutN b l) L]) := by
  obtain ⟨h0, tl, hp, h⟩ := R
  have hout : o.out = 0 := by simpa [RO.over] using ho
  obtain ⟨eL, eO⟩ := go_st (b := b) (n := n) (L := L) hout
  have e := hp []
  rw [List.append_nil, List.append_nil] at e
  have hp' : ∀ x, ∀ r, shutN b (l ++ [x] ++ r) = shutN b ((tl ++ [x]) ++ r) := fun x r => by rw [List.append_assoc, hp, List.append_assoc]
  rw [e, eL, eO]
  rcases h with ⟨a1, a2, rfl⟩ | ⟨t, rfl, a1, ⟨a4, a5, a6⟩ | ⟨a4, a5, a6⟩⟩ | ⟨t, rfl, a1, a2, a3⟩
  · have s1 : stepL b n L o = L ∧ stepO b n L o = closeTailO b L o := by unfold stepL stepO; rw [a1]; exact ⟨rfl, rfl⟩
    rw [s1.1, s1.2]
    refine ⟨(accL_ld _ _).symm, h0, [L.getD b 0], hp' _, .inr (.inl ⟨_, rfl, rfl, ?_⟩)⟩
    unfold closeTailO
    by_cases h : top ≤ L.getD b 0
    · right; rw [if_pos h, if_pos h]; exact ⟨h, rfl, rfl⟩
    · left; rw [if_neg h, if_neg h]; exact ⟨by omega, a2, rfl⟩
  · have s1 : stepL b n L o = closeSwapL b L o ∧ stepO b n L o = closeSwapO b L o := by unfold stepL stepO; rw [a1]; exact ⟨rfl, rfl⟩
    rw [s1.1, s1.2, shutN, if_neg (by omega)]
    unfold closeSwapL closeSwapO
    rw [accL_sw, accX_sw, Int.toNat_natCast, a6]
    refine ⟨rfl, h0, ?_⟩
    by_cases h1 : L.getD b 0 = t
    · rw [if_pos h1, if_pos h1, if_pos h1]; exact ⟨_, hp' _, .inr (.inr ⟨t, rfl, a4, rfl, rfl⟩)⟩
    · rw [if_neg h1, if_neg h1, if_neg h1]
      exact ⟨[], fun r => by rw [hp' _ r]; exact shutN_skip a4 r, .inl ⟨rfl, a5, rfl⟩⟩
  · omega
  · omega
theorem HeadR.like {t : Int} (R : HeadR b n kind t o l) : Like o (headN b n kind t l) := by
  obtain ⟨h0, h⟩ := R
  rcases h with ⟨h, rfl, a1, a2, a3, a4⟩ | ⟨h, rfl, a1, a2, a3⟩ | ⟨h, s, rfl, a1, a2, a3⟩ | ⟨h, s, rfl, a1, a2, a3, a4⟩ | ⟨h, s, rfl, a1, a2, a3, a4, a5, a6⟩ | ⟨h, s, w, rfl, a1, a2, a3, a4, a5, a6, a7⟩ | ⟨h, s, w, x, rfl, a1, a2, a3, a4, a5, a6, a7⟩ | ⟨h, s, w, x, y, rfl, a1, a2, a3, a4, a5⟩
  · simp only [headN]; rw [if_neg (fun h => a2 h.1 h.2)]; exact like_run a3 rfl ⟨rfl, rfl, rfl⟩
  · simp only [headN]; rw [if_pos ⟨a1, a2⟩]; exact like_over (by omega) rfl a3.symm (by rw [if_neg (by omega)]; rfl) (by rw [if_neg (by omega)]; rfl)
  · simp only [headN]; rw [if_neg (fun h => a1 h.1 h.2), if_pos a2]; exact like_over (by omega) rfl a3.symm (by rw [if_neg (by omega)]; rfl) (by rw [if_neg (by omega)]; rfl)
  · simp only [headN]; rw [if_neg (by omega), if_neg (fun h => h a2), if_pos a1]; exact like_over (by omega) rfl a3.symm (by rw [if_pos a3, a4]; rfl) (by rw [if_pos a3, h0]; rfl)
  · simp only [headN]; rw [if_neg (fun h => a1 h.1 h.2), if_neg (fun h => h a3), if_neg a2]; exact like_run a5 rfl ⟨rfl, rfl, rfl⟩
  · simp only [headN]; rw [if_neg (fun h => a1 h.1 h.2), if_neg (fun h => h a3), if_neg a2]; exact like_run a5 rfl ⟨rfl, rfl, rfl⟩
  · simp only [headN]; rw [if_neg (fun h => a1 h.1 h.2), if_neg (fun h => h a3), if_neg a2]; exact like_run a5 rfl ⟨rfl, rfl, rfl⟩
  · simp only [headN]; rw [if_neg (fun h => a1 h.1 h.2), if_neg (fun h => h a3), if_neg a2]; exact like_over (by omega) rfl a4.symm (by rw [if_pos a4, a5]; rfl) (by rw [if_pos a4, h0]; rfl)
theorem HeadR.step {t : Int} (R : HeadR b n kind t o l) (ho : o.over = false) : goL b n L o = accL (headN b n kind t l) L ∧ HeadR b n kind t (goO b n L o) (l ++ [accX (headN b n kind t l) L]) := by
  obtain ⟨h0, h⟩ := R
  have hout : o.out = 0 := by simpa [RO.over] using ho
  obtain ⟨eL, eO⟩ := go_st (b := b) (n := n) (L := L) hout
  rw [eL, eO]
  rcases h with ⟨h, rfl, a1, a2, a3, ⟨a4, a5⟩ | ⟨a4, a5, a6⟩⟩ | ⟨h, rfl, a1, a2, a3⟩ | ⟨h, s, rfl, a1, a2, a3⟩ | ⟨h, s, rfl, a1, a2, a3, a4⟩ | ⟨h, s, rfl, a1, a2, a3, a4, a5, a6⟩ | ⟨h, s, w, rfl, a1, a2, a3, a4, a5, a6, a7⟩ | ⟨h, s, w, x, rfl, a1, a2, a3, a4, a5, a6, a7⟩ | ⟨h, s, w, x, y, rfl, a1, a2, a3, a4, a5⟩
  · rw [(stp6 a5).1, (stp6 a5).2]
    simp only [headN]; rw [if_neg (fun h => a2 h.1 h.2), accL_ld, accX_ld, tnI_nat]
    refine ⟨rfl, h0, ?_⟩
    unfold takeTurnO
    rw [a1]
    by_cases e : L.getD (tn b n h) 0 = uw (wt n h + 1)
    · rw [if_pos e]; exact .inr (.inr (.inr (.inr (.inl ⟨h, _, rfl, a2, a4, e, rfl, a3, rfl⟩))))
    · rw [if_neg e]; exact .inr (.inr (.inl ⟨h, _, rfl, a2, e, rfl⟩))
  · have s1 : stepL b n L o = L ∧ stepO b n L o = lookTurnO b n L o := by unfold stepL stepO; rw [a5]; exact ⟨rfl, rfl⟩
    rw [s1.1, s1.2]
    simp only [headN]; rw [if_neg (fun h => a2 h.1 h.2), accL_ld, accX_ld, tnI_nat]
    refine ⟨rfl, h0, ?_⟩
    unfold lookTurnO takeTurnO
    rw [a1]
    by_cases e : L.getD (tn b n h) 0 = uw (wt n h + 1)
    · simp only [if_pos e]; rw [if_neg (by simp [RO.over, a3])]; exact .inr (.inr (.inr (.inl ⟨h, _, rfl, a4, e, rfl, a6⟩)))
    · simp only [if_neg e]; rw [if_pos (by simp [RO.over])]; exact .inr (.inr (.inl ⟨h, _, rfl, a2, e, rfl⟩))
  · omega
  · omega
  · omega
  · rw [(stp7 a6).1, (stp7 a6).2]
    simp only [headN]; rw [if_neg (fun h => a1 h.1 h.2), if_neg (fun h => h a3), if_neg a2, accL_ld, accX_ld, show (tnI b n h + 1).toNat = tn b n h + 1 by show (((tn b n h : Nat) : Int) + 1).toNat = _; omega]
    refine ⟨rfl, h0, ?_⟩
    unfold takeValueO
    rw [a4]
    exact .inr (.inr (.inr (.inr (.inr (.inl ⟨h, s, _, rfl, a1, a2, a3, rfl, a5, rfl, rfl⟩)))))
  · rw [(stp8 a6).1, (stp8 a6).2]
    simp only [headN]; rw [if_neg (fun h => a1 h.1 h.2), if_neg (fun h => h a3), if_neg a2, accL_st, accX_st, tnI_nat]
    unfold takeFreeL takeFreeO
    rw [a4]
    exact ⟨rfl, h0, .inr (.inr (.inr (.inr (.inr (.inr (.inl ⟨h, s, w, 0, rfl, a1, a2, a3, rfl, a5, rfl, a7⟩))))))⟩
  · rw [(stp9 a6).1, (stp9 a6).2]
    simp only [headN]; rw [if_neg (fun h => a1 h.1 h.2), if_neg (fun h => h a3), if_neg a2, accL_st, accX_st, show ((b : Int) + 1).toNat = b + 1 by omega]
    unfold takeDoneL takeDoneO
    rw [a4]
    exact ⟨rfl, h0, .inr (.inr (.inr (.inr (.inr (.inr (.inr ⟨h, s, w, x, 0, rfl, a1, a2, a3, rfl, a7⟩))))))⟩
  · omega
theorem RelN.like (R : RelN b n o kind v l) : Like o (nextN b n kind v l) := by
  unfold nextN
  rcases R with ⟨rfl, R⟩ | ⟨rfl, R⟩ | ⟨rfl, R⟩ | ⟨hk, R⟩
  · rw [if_pos rfl]; exact R.like
  · rw [if_neg (by decide), if_pos rfl]; exact R.like
  · rw [if_neg (by decide), if_neg (by decide), if_pos rfl]
    rcases R with ⟨rfl, a1, a2, a3⟩ | ⟨t, rfl, a1, a2, a3, a4⟩ | ⟨t, r, rfl, R⟩
    · exact like_run a2 rfl ⟨rfl, rfl, rfl⟩
    · exact like_run a2 rfl ⟨rfl, rfl, rfl⟩
    · exact R.like
  · rw [if_neg (by omega), if_neg (by omega), if_neg (by omega)]
    rcases R with ⟨rfl, a1, _⟩ | R
    · exact like_run a1 rfl ⟨rfl, rfl, rfl⟩
    · exact R.like
theorem RelN.step (R : RelN b n o kind v l) (ho : o.over = false) (L : List Int) : Sim b n o kind v l L := by
  have hout : o.out = 0 := by simpa [RO.over] using ho
  obtain ⟨eL, eO⟩ := go_st (b := b) (n := n) (L := L) hout
  rcases R with ⟨rfl, R⟩ | ⟨rfl, R⟩ | ⟨rfl, R⟩ | ⟨hk, R⟩
  · have := R.step (L := L) ho
    exact ⟨this.1, .inl ⟨rfl, this.2⟩⟩
  · have := R.step (n := n) (L := L) ho
    exact ⟨this.1, .inr (.inl ⟨rfl, this.2⟩)⟩
  · rcases R with ⟨rfl, a1, a2, a3⟩ | ⟨t, rfl, a1, a2, a3, a4⟩ | ⟨t, r, rfl, R⟩
    · have s1 : stepL b n L o = L ∧ stepO b n L o = drainTailO b L o := by unfold stepL stepO; rw [a1]; exact ⟨rfl, rfl⟩
      refine ⟨?_, .inr (.inr (.inl ⟨rfl, .inr (.inl ⟨L.getD b 0, ?_, ?_⟩)⟩))⟩
      · rw [eL, s1.1]; exact (accL_ld _ _).symm
      · show [accX (wLd b) L] = _; rw [accX_ld, Int.toNat_natCast]
      · rw [eO, s1.2]; exact ⟨rfl, a2, rfl, a3⟩
    · have s1 : stepL b n L o = L ∧ stepO b n L o = drainHeadO b L o := by unfold stepL stepO; rw [a1]; exact ⟨rfl, rfl⟩
      refine ⟨?_, .inr (.inr (.inl ⟨rfl, .inr (.inr ⟨t, [L.getD (b + 1) 0], ?_, ?_⟩)⟩))⟩
      · rw [eL, s1.1]; exact (accL_ld _ _).symm
      · show [t, accX (wLd ((b : Int) + 1)) L] = _; rw [accX_ld, show ((b : Int) + 1).toNat = b + 1 by omega]
      · rw [eO, s1.2]
        unfold drainHeadO takeHeadO
        refine ⟨a4, ?_⟩
        by_cases e : o.val = uw (L.getD (b + 1) 0 + top)
        · rw [if_pos e]; exact .inr (.inl ⟨_, rfl, rfl, by rw [← a3]; exact e, rfl⟩)
        · rw [if_neg e]; exact .inl ⟨_, rfl, rfl, fun _ => by rw [← a3]; exact e, a2, .inl ⟨by decide, rfl⟩⟩
    · have := R.step (L := L) ho
      exact ⟨this.1, .inr (.inr (.inl ⟨rfl, .inr (.inr ⟨t, _, rfl, this.2⟩)⟩))⟩
  · have e : nextN b n kind v l = headN b n kind 0 l := by unfold nextN; rw [if_neg (by omega), if_neg (by omega), if_neg (by omega)]
    rcases R with ⟨rfl, a1, a2, a3, a4⟩ | R
    · have hx : accX (nextN b n kind v []) L = L.getD (b + 1) 0 := by rw [e]; show accX (wLd ((b : Int) + 1)) L = _; rw [accX_ld, show ((b : Int) + 1).toNat = b + 1 by omega]
      have hl : accL (nextN b n kind v []) L = L := by rw [e]; exact accL_ld _ _
      refine ⟨?_, .inr (.inr (.inr ⟨hk, .inr ?_⟩))⟩
      · rw [hl, eL]; rcases a4 with ⟨_, a4⟩ | ⟨_, a4⟩ <;> unfold stepL <;> rw [a4] <;> rfl
      · rw [hx, eO]
        rcases a4 with ⟨a4, a5⟩ | ⟨a4, a5⟩
        · rw [(stp5 a5).2]; exact ⟨a2, .inl ⟨_, rfl, rfl, fun h => by omega, a1, .inl ⟨by omega, rfl⟩⟩⟩
        · have s1 : stepO b n L o = lookHeadO b L o := by unfold stepO; rw [a5]; rfl
          rw [s1]; exact ⟨a2, .inl ⟨_, rfl, rfl, fun h => by omega, a1, .inr ⟨a4, rfl, a3⟩⟩⟩
    · have := R.step (L := L) ho
      exact ⟨by rw [e]; exact this.1, .inr (.inr (.inr ⟨hk, .inr (by rw [e]; exact this.2)⟩))⟩
def beginO (kind v : Int) : RO := ⟨if kind = 1 then 0 else if kind = 2 then 5 else if kind = 3 then 10 else if kind = 4 then 14 else 12, 0, if kind = 1 then v else 0, 0, 0⟩
theorem headN_0 {b n : Nat} {kind t h : Int} (h1 : ¬ (kind = 3 ∧ t = uw (h + top))) : headN b n kind t [h] = wLd (tnI b n h) := by simp only [headN]; rw [if_neg h1]
theorem headN_end {b n : Nat} {kind t h : Int} (h1 : kind = 3 ∧ t = uw (h + top)) (r : List Int) : headN b n kind t (h :: r) = wOv 5 0 0 := by simp only [headN]; rw [if_pos h1]
theorem headN_none {b n : Nat} {kind t h s : Int} (h1 : ¬ (kind = 3 ∧ t = uw (h + top))) (h2 : s ≠ uw (wt n h + 1)) (r : List Int) : headN b n kind t (h :: s :: r) = wOv 4 0 0 := by simp only [headN]; rw [if_neg h1, if_pos h2]
theorem headN_look {b n : Nat} {kind t h s : Int} (h1 : ¬ (kind = 3 ∧ t = uw (h + top))) (h2 : s = uw (wt n h + 1)) (hk : kind = 5) (r : List Int) : headN b n kind t (h :: s :: r) = wOv 1 0 0 := by
  simp only [headN]; rw [if_neg h1, if_neg (fun e => e h2), if_pos hk]
theorem headN_2 {b n : Nat} {kind t h s : Int} (h1 : ¬ (kind = 3 ∧ t = uw (h + top))) (h2 : s = uw (wt n h + 1)) (hk : kind ≠ 5) {r : List Int} (hr : r.length = 0) : headN b n kind t (h :: s :: r) = wLd (tnI b n h + 1) := by
  match r, hr with | [], _ => (simp only [headN]; rw [if_neg h1, if_neg (fun e => e h2), if_neg hk])
theorem headN_3 {b n : Nat} {kind t h s : Int} (h1 : ¬ (kind = 3 ∧ t = uw (h + top))) (h2 : s = uw (wt n h + 1)) (hk : kind ≠ 5) {r : List Int} (hr : r.length = 1) : headN b n kind t (h :: s :: r) = wSt (tnI b n h) (uw (wt n h + 2)) := by
  match r, hr with | [_], _ => (simp only [headN]; rw [if_neg h1, if_neg (fun e => e h2), if_neg hk])
theorem headN_4 {b n : Nat} {kind t h s : Int} (h1 : ¬ (kind = 3 ∧ t = uw (h + top))) (h2 : s = uw (wt n h + 1)) (hk : kind ≠ 5) {r : List Int} (hr : r.length = 2) : headN b n kind t (h :: s :: r) = wSt ((b : Int) + 1) (uw (h + 1)) := by
  match r, hr with | [_, _], _ => (simp only [headN]; rw [if_neg h1, if_neg (fun e => e h2), if_neg hk])
theorem headN_5 {b n : Nat} {kind t h s : Int} (h1 : ¬ (kind = 3 ∧ t = uw (h + top))) (h2 : s = uw (wt n h + 1)) (hk : kind ≠ 5) {r : List Int} (hr : 3 ≤ r.length) : headN b n kind t (h :: s :: r) = wOv 1 (r.getD 0 0) 0 := by
  match r, hr with | _ :: _ :: _ :: _, _ => (simp only [headN]; rw [if_neg h1, if_neg (fun e => e h2), if_neg hk]; rfl)
/-- an access's cell is one of the ring's -/
structure WOk (b n : Nat) (w : Wt) : Prop where
  cell : ∃ i : Nat, w.cell = i ∧ i < b + 2 + 2 * n
  what : w.what = 1 ∨ w.what = 2 ∨ w.what = 3
  a : 0 ≤ w.a ∧ w.a ≤ 18446744073709551615
  b : 0 ≤ w.b ∧ w.b ≤ 18446744073709551615
theorem tn_top' {b n : Nat} (hn : 1 ≤ n) (t : Int) : tn b n t + 1 < b + 2 + 2 * n := by
  unfold tn
  have : (t % (n : Int)).toNat < n := by have := Int.emod_lt_of_pos t (show (0 : Int) < n by omega); omega
  omega
theorem wok_ld {b n : Nat} (i : Nat) (h : i < b + 2 + 2 * n) : WOk b n (wLd i) := ⟨⟨i, rfl, h⟩, .inl rfl, ⟨Int.le_refl 0, (show (0 : Int) ≤ 18446744073709551615 by decide)⟩, ⟨Int.le_refl 0, (show (0 : Int) ≤ 18446744073709551615 by decide)⟩⟩
theorem wok_st {b n : Nat} (i : Nat) (h : i < b + 2 + 2 * n) {x : Int} (hx : 0 ≤ x ∧ x ≤ 18446744073709551615) : WOk b n (wSt i x) := ⟨⟨i, rfl, h⟩, .inr (.inl rfl), hx, ⟨Int.le_refl 0, (show (0 : Int) ≤ 18446744073709551615 by decide)⟩⟩
theorem wok_sw {b n : Nat} (i : Nat) (h : i < b + 2 + 2 * n) {x y : Int} (hx : 0 ≤ x ∧ x ≤ 18446744073709551615) (hy : 0 ≤ y ∧ y ≤ 18446744073709551615) : WOk b n (wSw i x y) := ⟨⟨i, rfl, h⟩, .inr (.inr rfl), hx, hy⟩
theorem wok_putT {b n : Nat} (hn : 1 ≤ n) {v t : Int} (hv : 0 ≤ v ∧ v ≤ 18446744073709551615) (r : List Int) (h : (putT b n v t r).over = false) : WOk b n (putT b n v t r) := by
  have := tn_top' (b := b) hn t
  match r, h with
  | [], _ => exact wok_st (tn b n t + 1) (by omega) hv
  | [_], _ => exact wok_st (tn b n t) (by omega) (uw_in _)
  | _ :: _ :: _, h => cases h
theorem wok_put {b n : Nat} (hn : 1 ≤ n) {v : Int} (hv : 0 ≤ v ∧ v ≤ 18446744073709551615) : ∀ (k : Nat) (l : List Int), l.length ≤ k → LI l → (putN b n v l).over = false → WOk b n (putN b n v l) := by
  intro k
  induction k with
  | zero => intro l hk _ _; obtain rfl : l = [] := List.eq_nil_of_length_eq_zero (by omega); exact wok_ld b (by omega)
  | succ k ih =>
    intro l hk hl h
    match l, hk, hl, h with
    | [], _, _, _ => exact wok_ld b (by omega)
    | [t], _, _, h =>
      have := tn_top' (b := b) hn t
      by_cases e : top ≤ t
      · rw [putN, if_pos e] at h; cases h
      · rw [putN, if_neg e]; exact wok_ld _ (by omega)
    | [t, s], _, hl, h =>
      by_cases e : top ≤ t
      · rw [putN, if_pos e] at h; cases h
      · by_cases e2 : s < wt n t
        · rw [putN, if_neg e, if_pos e2] at h; cases h
        · rw [putN, if_neg e, if_neg e2]; split
          · exact wok_ld b (by omega)
          · exact wok_sw b (by omega) (hl t (by simp)) (uw_in _)
    | t :: s :: x :: r, hk, hl, h =>
      by_cases e : top ≤ t
      · rw [putN, if_pos e] at h; cases h
      · by_cases e2 : s < wt n t
        · rw [putN, if_neg e, if_pos e2] at h; cases h
        · rw [putN, if_neg e, if_neg e2] at h ⊢
          by_cases e3 : wt n t < s
          · rw [if_pos e3] at h ⊢; exact ih _ (by simp at hk ⊢; omega) (fun y hy => hl y (by simp at hy ⊢; simp [hy])) h
          · rw [if_neg e3] at h ⊢
            by_cases e4 : x = 0
            · rw [if_pos e4] at h ⊢; exact ih _ (by simp at hk; omega) (fun y hy => hl y (by simp [hy])) h
            · rw [if_neg e4] at h ⊢; exact wok_putT hn hv r h
theorem wok_shut {b n : Nat} : ∀ (k : Nat) (l : List Int), l.length ≤ k → LI l → (shutN b l).over = false → WOk b n (shutN b l) := by
  intro k
  induction k with
  | zero => intro l hk _ _; obtain rfl : l = [] := List.eq_nil_of_length_eq_zero (by omega); exact wok_ld b (by omega)
  | succ k ih =>
    intro l hk hl h
    match l, hk, hl, h with
    | [], _, _, _ => exact wok_ld b (by omega)
    | [t], _, hl, h =>
      by_cases e : top ≤ t
      · rw [shutN, if_pos e] at h; cases h
      · rw [shutN, if_neg e]; exact wok_sw b (by omega) (hl t (by simp)) (uw_in _)
    | t :: s :: r, hk, hl, h =>
      by_cases e : top ≤ t
      · rw [shutN, if_pos e] at h; cases h
      · by_cases e2 : s = 1
        · rw [shutN, if_neg e, if_pos e2] at h; cases h
        · rw [shutN, if_neg e, if_neg e2] at h ⊢; exact ih _ (by simp at hk; omega) (fun y hy => hl y (by simp [hy])) h
theorem wok_head {b n : Nat} (hn : 1 ≤ n) {kind t : Int} (l : List Int) (h : (headN b n kind t l).over = false) : WOk b n (headN b n kind t l) := by
  match l, h with
  | [], _ => exact wok_ld (b + 1) (by omega)
  | [h], g =>
    have := tn_top' (b := b) hn h
    by_cases e : kind = 3 ∧ t = uw (h + top)
    · rw [headN_end e] at g; cases g
    · rw [headN_0 e]; exact wok_ld _ (by omega)
  | h :: s :: r, g =>
    have := tn_top' (b := b) hn h
    by_cases e : kind = 3 ∧ t = uw (h + top)
    · rw [headN_end e] at g; cases g
    · by_cases e2 : s = uw (wt n h + 1)
      · by_cases e3 : kind = 5
        · rw [headN_look e e2 e3] at g; cases g
        · match r, g with
          | [], _ => rw [headN_2 e e2 e3 rfl]; exact wok_ld (tn b n h + 1) (by omega)
          | [_], _ => rw [headN_3 e e2 e3 rfl]; exact wok_st _ (by omega) (uw_in _)
          | [_, _], _ => rw [headN_4 e e2 e3 rfl]; exact wok_st (b + 1) (by omega) (uw_in _)
          | _ :: _ :: _ :: _, g => rw [headN_5 e e2 e3 (by simp)] at g; cases g
      · rw [headN_none e e2] at g; cases g
theorem wok_next {b n : Nat} (hn : 1 ≤ n) {kind v : Int} (hv : 0 ≤ v ∧ v ≤ 18446744073709551615) {l : List Int} (hl : LI l) (h : (nextN b n kind v l).over = false) : WOk b n (nextN b n kind v l) := by
  unfold nextN at *
  split
  · rename_i e; rw [if_pos e] at h; exact wok_put hn hv _ l (Nat.le_refl _) hl h
  · rename_i e; rw [if_neg e] at h
    split
    · rename_i e; rw [if_pos e] at h; exact wok_shut _ l (Nat.le_refl _) hl h
    · rename_i e; rw [if_neg e] at h
      split
      · rename_i e; rw [if_pos e] at h
        match l, h with
        | [], _ => exact wok_ld b (by omega)
        | t :: r, h => exact wok_head hn r h
      · rename_i e; rw [if_neg e] at h; exact wok_head hn l h
theorem accX_in {w : Wt} {L : List Int} (hL : LI L) : 0 ≤ accX w L ∧ accX w L ≤ 18446744073709551615 := by
  unfold accX; split
  · exact hL.get _
  · split
    · split <;> decide
    · decide
theorem accL_len (w : Wt) (L : List Int) : (accL w L).length = L.length := by unfold accL; (repeat' split) <;> simp
theorem accL_in {b n : Nat} {w : Wt} {L : List Int} (hL : LI L) (hw : WOk b n w) : LI (accL w L) := by
  unfold accL; (repeat' split) <;> first | exact hL | exact hL.set _ _ hw.a | exact hL.set _ _ hw.b
theorem RelN.start (b n : Nat) (kind v : Int) (h : 1 ≤ kind ∧ kind ≤ 5) : RelN b n (beginO kind v) kind v [] := by
  have : kind = 1 ∨ kind = 2 ∨ kind = 3 ∨ kind = 4 ∨ kind = 5 := by omega
  rcases this with rfl | rfl | rfl | rfl | rfl
  · exact .inl ⟨rfl, [], fun _ => rfl, .inl ⟨rfl, rfl, rfl, rfl⟩⟩
  · exact .inr (.inr (.inr ⟨.inl rfl, .inl ⟨rfl, rfl, rfl, rfl, .inl ⟨rfl, rfl⟩⟩⟩))
  · exact .inr (.inr (.inl ⟨rfl, .inl ⟨rfl, rfl, rfl, rfl⟩⟩))
  · exact .inr (.inl ⟨rfl, rfl, [], fun _ => rfl, .inl ⟨rfl, rfl, rfl⟩⟩)
  · exact .inr (.inr (.inr ⟨.inr rfl, .inl ⟨rfl, rfl, rfl, rfl, .inr ⟨rfl, rfl⟩⟩⟩))
end Go.L.Ring
