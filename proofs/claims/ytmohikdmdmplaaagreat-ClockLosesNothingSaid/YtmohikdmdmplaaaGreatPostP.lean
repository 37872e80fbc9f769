/-
  The mailbox on paper: its operations, step by step. Own work; no program.
-/
import Derived.Test.YtmohikdmdmplaaaGreatRingQ
import Derived.Test.YtmohikdmdmplaaaGreatTree
set_option linter.unusedSimpArgs false
set_option linter.unusedVariables false
set_option linter.unusedSectionVars false
namespace Go.L.Post
open Go.L Go.L.Ring
/-- where a box lies -/
structure PB where
  b : Nat
  nm : Nat
  nn : Nat
def PB.rb (B : PB) (r : Bool) : Nat := if r then B.b + 2 + (2 + 2 * B.nm) else B.b + 2
def PB.rn (B : PB) (r : Bool) : Nat := if r then B.nn else B.nm
/-- what an operation is at; a note's ring is 'true' -/
inductive Ph
  | put (nt : Bool) (o : RO)
  | see (nt : Bool)
  | swp (nt : Bool) (s : Int)
  | ask (v : Int)
  | set (st : Int)
  | of (r : Bool) (o : RO)
  | gone
  | sto (held : Bool)
  | look (held r : Bool) (o : RO)
  | more (held : Bool)
structure PO where
  ph : Ph
  out : Int
  val : Int
def PO.over (p : PO) : Bool := !decide (p.out = 0)
def ini (pc : Nat) (v : Int) : RO := ⟨pc, 0, v, 0, 0⟩
def stOf (held : Bool) : Int := if held then 3 else 0
def rouses (nt : Bool) (s : Int) : Bool := decide (s = 0) || (nt && decide (s = 3))
/-- a step: the cells, what it is at then -/
def stepP (B : PB) (L : List Int) : Ph → List Int × PO
  | .put nt o =>
    let L' := goL (B.rb nt) (B.rn nt) L o
    let o' := goO (B.rb nt) (B.rn nt) L o
    (L', if o'.over then (if o'.out = 1 then ⟨.see nt, 0, 0⟩ else ⟨.put nt o', o'.out, 0⟩) else ⟨.put nt o', 0, 0⟩)
  | .see nt => (L, if rouses nt (L.getD B.b 0) then ⟨.swp nt (L.getD B.b 0), 0, 0⟩ else ⟨.see nt, 1, 0⟩)
  | .swp nt s => if L.getD B.b 0 = s then (L.set B.b 1, ⟨.swp nt s, 7, 0⟩) else (L, ⟨.see nt, 0, 0⟩)
  | .ask v => if L.getD (B.b + 1) 0 = 0 then (L.set (B.b + 1) 1, ⟨.put true (ini 0 v), 0, 0⟩) else (L, ⟨.ask v, 4, 0⟩)
  | .set st => (L.set B.b st, ⟨.set st, 1, 0⟩)
  | .of r o =>
    let L' := goL (B.rb r) (B.rn r) L o
    let o' := goO (B.rb r) (B.rn r) L o
    (L', if o'.over then ⟨.of r o', o'.out, o'.value⟩ else ⟨.of r o', 0, 0⟩)
  | .gone => (L, ⟨.gone, if L.getD B.b 0 = 4 then 1 else 4, 0⟩)
  | .sto held => (L.set B.b (stOf held), ⟨.look held true (ini 12 0), 0, 0⟩)
  | .look held r o =>
    let L' := goL (B.rb r) (B.rn r) L o
    let o' := goO (B.rb r) (B.rn r) L o
    (L', if o'.over then (if o'.out = 1 then ⟨.more held, 0, 0⟩ else if r && !held then ⟨.look held false (ini 12 0), 0, 0⟩ else ⟨.look held r o', 4, 0⟩) else ⟨.look held r o', 0, 0⟩)
  | .more held => if L.getD B.b 0 = stOf held then (L.set B.b 1, ⟨.more held, 8, 0⟩) else (L, ⟨.more held, 1, 0⟩)
def goPL (B : PB) (L : List Int) (p : PO) : List Int := if p.over then L else (stepP B L p.ph).1
def goPO (B : PB) (L : List Int) (p : PO) : PO := if p.over then p else (stepP B L p.ph).2
/-- so many steps, or fewer if it is over -/
def doP (B : PB) : Nat → List Int → PO → Nat × List Int × PO
  | 0, L, p => (0, L, p)
  | k + 1, L, p => if p.over then (0, L, p) else ((doP B k (goPL B L p) (goPO B L p)).1 + 1, (doP B k (goPL B L p) (goPO B L p)).2)
/-- the cells are all there -/
structure PI (B : PB) (L : List Int) : Prop where
  m1 : 1 ≤ B.nm
  m64 : B.nm ≤ 64
  n1 : 1 ≤ B.nn
  n64 : B.nn ≤ 64
  len : B.b + 6 + 2 * B.nm + 2 * B.nn ≤ L.length
  top : L.length ≤ 65536
def PhI : Ph → Prop
  | .put _ o => OI o ∧ o.out = 0
  | .swp _ s => 0 ≤ s ∧ s ≤ 18446744073709551615
  | .ask v => 0 ≤ v ∧ v ≤ 18446744073709551615
  | .set st => 0 ≤ st ∧ st ≤ 18446744073709551615
  | .of _ o => OI o ∧ o.out = 0
  | .look held r o => OI o ∧ o.out = 0 ∧ (held = true → r = true)
  | _ => True
/-- what is under way is in order -/
def POI (p : PO) : Prop := p.out = 0 → PhI p.ph ∧ p.val = 0
theorem PI.rb {B : PB} {L : List Int} (h : PI B L) (r : Bool) : 1 ≤ B.rn r ∧ B.rn r ≤ 64 ∧ B.rb r + 2 + 2 * B.rn r ≤ L.length ∧ L.length ≤ 65536 := by
  have h1 := h.m1; have h2 := h.m64; have h3 := h.n1; have h4 := h.n64; have h5 := h.len; have h6 := h.top
  cases r <;> simp [PB.rb, PB.rn] <;> omega
theorem OI_ini {pc : Nat} {v : Int} (h : pc ≤ 15) (hv : 0 ≤ v ∧ v ≤ 18446744073709551615) : OI (ini pc v) := ⟨h, hv.1, hv.2, Int.le_refl 0, (show (0 : Int) ≤ 18446744073709551615 by decide), Int.le_refl 0, (show (0 : Int) ≤ 18446744073709551615 by decide)⟩
theorem goPL_len (B : PB) (L : List Int) (p : PO) : (goPL B L p).length = L.length := by
  unfold goPL; split
  · rfl
  · obtain ⟨ph, out, val⟩ := p
    cases ph <;> simp only [stepP, goL_len] <;> (try split) <;> simp
theorem PI.go {B : PB} {L : List Int} (h : PI B L) (p : PO) : PI B (goPL B L p) := ⟨h.m1, h.m64, h.n1, h.n64, by rw [goPL_len]; exact h.len, by rw [goPL_len]; exact h.top⟩
theorem out_of {o : RO} (h : o.over = false) : o.out = 0 := by simpa [RO.over] using h
theorem goP_in {B : PB} {L : List Int} {p : PO} (hL : LI L) (hp : POI p) : LI (goPL B L p) ∧ POI (goPO B L p) := by
  unfold goPL goPO
  cases hov : p.over with
  | true => exact ⟨hL, hp⟩
  | false =>
    simp only [Bool.false_eq_true, if_false]
    obtain ⟨ph, out, val⟩ := p
    have ho : out = 0 := by simpa [PO.over] using hov
    obtain ⟨hph, hv⟩ := hp ho
    have i0 : (0 : Int) ≤ 0 ∧ (0 : Int) ≤ 18446744073709551615 := by decide
    cases ph with
    | put nt o =>
      simp only [stepP]
      have g := goO_in (b := B.rb nt) (n := B.rn nt) hL hph.1
      refine ⟨goL_in hL hph.1, ?_⟩
      cases hov' : (goO (B.rb nt) (B.rn nt) L o).over with
      | false => simp only [Bool.false_eq_true, if_false]; exact fun _ => ⟨⟨g, out_of hov'⟩, rfl⟩
      | true =>
        simp only [if_true]
        split
        · exact fun _ => ⟨trivial, rfl⟩
        · intro h; exact absurd h (by simpa [RO.over] using hov')
    | see nt =>
      simp only [stepP]
      refine ⟨hL, ?_⟩
      split
      · exact fun _ => ⟨hL.get _, rfl⟩
      · intro h; cases h
    | swp nt s =>
      simp only [stepP]
      split
      · exact ⟨hL.set _ _ (by decide), fun h => by cases h⟩
      · exact ⟨hL, fun _ => ⟨trivial, rfl⟩⟩
    | ask v =>
      simp only [stepP]
      split
      · exact ⟨hL.set _ _ (by decide), fun _ => ⟨⟨OI_ini (by decide) hph, rfl⟩, rfl⟩⟩
      · exact ⟨hL, fun h => by cases h⟩
    | set st => exact ⟨hL.set _ _ hph, fun h => by cases h⟩
    | of r o =>
      simp only [stepP]
      have g := goO_in (b := B.rb r) (n := B.rn r) hL hph.1
      refine ⟨goL_in hL hph.1, ?_⟩
      cases hov' : (goO (B.rb r) (B.rn r) L o).over with
      | false => simp only [Bool.false_eq_true, if_false]; exact fun _ => ⟨⟨g, out_of hov'⟩, rfl⟩
      | true => simp only [if_true]; intro h; exact absurd h (by simpa [RO.over] using hov')
    | gone =>
      refine ⟨hL, fun h => ?_⟩
      simp only [stepP] at h; split at h <;> cases h
    | sto held => exact ⟨hL.set _ _ (by cases held <;> decide), fun _ => ⟨⟨OI_ini (by decide) i0, rfl, fun _ => rfl⟩, rfl⟩⟩
    | look held r o =>
      simp only [stepP]
      have g := goO_in (b := B.rb r) (n := B.rn r) hL hph.1
      refine ⟨goL_in hL hph.1, ?_⟩
      cases hov' : (goO (B.rb r) (B.rn r) L o).over with
      | false => simp only [Bool.false_eq_true, if_false]; exact fun _ => ⟨⟨g, out_of hov', hph.2.2⟩, rfl⟩
      | true =>
        simp only [if_true]
        split
        · exact fun _ => ⟨trivial, rfl⟩
        · split
          · rename_i hh; exact fun _ => ⟨⟨OI_ini (by decide) i0, rfl, fun h => by rw [h] at hh; simp at hh⟩, rfl⟩
          · intro h; cases h
    | more held =>
      simp only [stepP]
      split
      · exact ⟨hL.set _ _ (by decide), fun h => by cases h⟩
      · exact ⟨hL, fun h => by cases h⟩
theorem doP_over (B : PB) (k : Nat) (L : List Int) (p : PO) (h : p.over = true) : doP B k L p = (0, L, p) := by
  cases k with
  | zero => rfl
  | succ k => rw [doP, if_pos h]
theorem doP_go (B : PB) (k : Nat) (L : List Int) (p : PO) (h : p.over = false) : doP B (k + 1) L p = ((doP B k (goPL B L p) (goPO B L p)).1 + 1, (doP B k (goPL B L p) (goPO B L p)).2) := by
  rw [doP, if_neg (by simp [h])]
end Go.L.Post
