/-
  Lines of scripts and traces, on paper: words, numbers, entries. Own work; no program.
-/
import Derived.Test.YtcglaiacohkaeaaDoorParW
set_option linter.unusedSimpArgs false
set_option linter.unusedVariables false
set_option linter.unusedSectionVars false
namespace Go.L.Sc
open Go.L Go.L.Lx Go.L.Pa
/-! ### pieces -/
def splitB (c : UInt8) : By → List By
  | [] => [[]]
  | x :: l => if x = c then [] :: splitB c l else (x :: (splitB c l).headD []) :: (splitB c l).tail
theorem split_T (c : UInt8) (l : By) : splitB c (c :: l) = [] :: splitB c l := by
  show (if c = c then _ else _) = _
  rw [if_pos rfl]
theorem split_F {c x : UInt8} (h : ¬ x = c) (l : By) : splitB c (x :: l) = (x :: (splitB c l).headD []) :: (splitB c l).tail := by
  show (if x = c then _ else _) = _
  rw [if_neg h]
theorem split_ne (c : UInt8) (l : By) : splitB c l ≠ [] := by
  cases l with
  | nil => simp [splitB]
  | cons x l => unfold splitB; split <;> simp
theorem split_cons {c : UInt8} {l : By} : ∃ w ws, splitB c l = w :: ws := by
  cases h : splitB c l with
  | nil => exact absurd h (split_ne c l)
  | cons w ws => exact ⟨w, ws, rfl⟩
theorem split_app {c : UInt8} : ∀ {w : By} (l : By), c ∉ w → splitB c (w ++ c :: l) = w :: splitB c l
  | [], l, _ => split_T c l
  | x :: w, l, h => by
    have h1 : ¬ x = c := fun e => h (e ▸ List.mem_cons_self)
    show splitB c (x :: (w ++ c :: l)) = _
    rw [split_F h1, split_app l (fun h2 => h (List.mem_cons_of_mem _ h2))]; rfl
theorem split_one {c : UInt8} : ∀ {w : By}, c ∉ w → splitB c w = [w]
  | [], _ => rfl
  | x :: w, h => by
    have h1 : ¬ x = c := fun e => h (e ▸ List.mem_cons_self)
    rw [split_F h1, split_one (fun h2 => h (List.mem_cons_of_mem _ h2))]; rfl
def joinC (c : UInt8) : List By → By
  | [] => []
  | w :: ws => w ++ ws.flatMap fun v => c :: v
theorem joinC_cons (c : UInt8) (w v : By) (ws : List By) : joinC c (w :: v :: ws) = w ++ c :: joinC c (v :: ws) := by simp [joinC]
theorem split_join {c : UInt8} : ∀ {ws : List By}, ws ≠ [] → (∀ w ∈ ws, c ∉ w) → splitB c (joinC c ws) = ws
  | [], h, _ => absurd rfl h
  | [w], _, h => by show splitB c (w ++ []) = _; rw [List.append_nil]; exact split_one (h w List.mem_cons_self)
  | w :: v :: ws, _, h => by
    rw [joinC_cons, split_app _ (h w List.mem_cons_self), split_join (by simp) fun x hx => h x (List.mem_cons_of_mem _ hx)]
theorem join_split (c : UInt8) : ∀ l : By, joinC c (splitB c l) = l
  | [] => rfl
  | x :: l => by
    have ih := join_split c l
    obtain ⟨w, ws, hw⟩ := split_cons (c := c) (l := l)
    unfold splitB
    rw [hw] at ih ⊢
    split
    · rename_i h; subst h; rw [joinC_cons, ih]; rfl
    · show joinC c ((x :: w) :: ws) = _
      show x :: joinC c (w :: ws) = _
      rw [ih]
theorem split_free {c : UInt8} : ∀ (l : By), ∀ w ∈ splitB c l, c ∉ w
  | [], w, h => by rw [show w = [] by simpa [splitB] using h]; simp
  | x :: l, w, h => by
    have ih := split_free (c := c) l
    obtain ⟨v, vs, hv⟩ := split_cons (c := c) (l := l)
    unfold splitB at h
    rw [hv] at h ih
    split at h
    · rcases List.mem_cons.1 h with rfl | h
      · simp
      · exact ih w h
    · rename_i hx
      rcases List.mem_cons.1 h with rfl | h
      · intro h2
        rcases List.mem_cons.1 h2 with h2 | h2
        · exact hx h2.symm
        · exact ih v List.mem_cons_self h2
      · exact ih w (List.mem_cons_of_mem _ h)
/-! ### numbers -/
def natV : By → Nat → Nat
  | [], a => a
  | c :: l, a => natV l (10 * a + (c.toNat - 48))
def rawV : By → Int
  | [] => 0
  | c :: l => if c.toNat = 45 then -((natV l 0 : Nat) : Int) else ((natV (c :: l) 0 : Nat) : Int)
/-- the number that a word is, from lo to hi -/
def numV (lo hi : Int) (s : By) : Option Int := if lo ≤ rawV s ∧ rawV s ≤ hi ∧ itoaB (rawV s) = s then some (rawV s) else none
theorem natV_app : ∀ (x y : By) (a : Nat), natV (x ++ y) a = natV y (natV x a)
  | [], _, _ => rfl
  | c :: x, y, a => natV_app x y _
theorem natV_dec (n : Nat) : natV (dec n) 0 = n := by
  induction n using Nat.strongRecOn with
  | _ n ih =>
    by_cases h : n < 10
    · rw [dec.eq_1, if_pos h]
      show 10 * 0 + ((UInt8.ofNat (48 + n)).toNat - 48) = n
      rw [dig_nat h]; omega
    · rw [dec.eq_1, if_neg h, natV_app, ih (n / 10) (by omega)]
      show 10 * (n / 10) + ((UInt8.ofNat (48 + n % 10)).toNat - 48) = n
      rw [dig_nat (by omega)]; omega
theorem dec_head (n : Nat) : ∃ c l, dec n = c :: l ∧ 48 ≤ c.toNat ∧ c.toNat ≤ 57 := by
  cases hd : dec n with
  | nil => exact absurd hd (dec_ne n)
  | cons c l =>
    have := dec_dig n c (by rw [hd]; exact List.mem_cons_self)
    unfold isDig at this; simp only [decide_eq_true_eq] at this
    exact ⟨c, l, rfl, this⟩
theorem raw_itoa (n : Int) : rawV (itoaB n) = n := by
  unfold itoaB
  split
  · show (if (45 : UInt8).toNat = 45 then -((natV (dec n.natAbs) 0 : Nat) : Int) else ((natV (45 :: dec n.natAbs) 0 : Nat) : Int)) = n
    rw [if_pos (show (45 : UInt8).toNat = 45 from rfl), natV_dec]; omega
  · obtain ⟨c, l, hd, h1, h2⟩ := dec_head n.toNat
    have h3 := natV_dec n.toNat
    rw [hd] at h3 ⊢
    show (if c.toNat = 45 then -((natV l 0 : Nat) : Int) else ((natV (c :: l) 0 : Nat) : Int)) = n
    rw [if_neg (by omega), h3]; omega
theorem numV_iff {lo hi n : Int} {s : By} : numV lo hi s = some n ↔ lo ≤ n ∧ n ≤ hi ∧ itoaB n = s := by
  unfold numV
  constructor
  · intro h
    split at h
    · rename_i h1; injection h with h; subst h; exact h1
    · cases h
  · rintro ⟨h1, h2, rfl⟩
    rw [raw_itoa, if_pos ⟨h1, h2, rfl⟩]
theorem split_app2 {c : UInt8} : ∀ (x y : By), splitB c (x ++ c :: y) = splitB c x ++ splitB c y
  | [], y => split_T c y
  | a :: x, y => by
    have ih := split_app2 (c := c) x y
    by_cases h : a = c
    · subst h; rw [List.cons_append, split_T, split_T, ih]; rfl
    · obtain ⟨w, ws, hw⟩ := split_cons (c := c) (l := x)
      rw [List.cons_append, split_F h, split_F h, ih, hw]; rfl
theorem itoa_free (n : Int) : (32 : UInt8) ∉ itoaB n := by
  have key : ∀ m : Nat, (32 : UInt8) ∉ dec m := fun m h => by
    have := dec_dig m 32 h
    exact absurd this (by decide)
  unfold itoaB
  split
  · intro h
    rcases List.mem_cons.1 h with h | h
    · exact absurd h (by decide)
    · exact key _ h
  · exact key _
/-! ### entries -/
structure Ent where
  kind : Int
  a : Int
  b : Int
  tag : By
  n : Int
deriving DecidableEq
def ent0 : Ent := ⟨0, 0, 0, [], 0⟩
def formE (k : Int) : By × By :=
  if k = 1 then ([119, 111, 114, 107], [97, 110])
  else if k = 2 then ([104, 97, 110, 100], [97])
  else if k = 3 then ([99, 108, 111, 99, 107], [])
  else if k = 4 then ([116, 101, 108, 108], [97, 98, 116, 110])
  else if k = 5 then ([115, 116, 111, 112], [97, 98])
  else if k = 6 then ([116, 105, 99, 107], [])
  else if k = 7 then ([115, 104, 117, 116], [97])
  else ([], [])
def kindE (w : By) : Int :=
  if w = [119, 111, 114, 107] then 1
  else if w = [104, 97, 110, 100] then 2
  else if w = [99, 108, 111, 99, 107] then 3
  else if w = [116, 101, 108, 108] then 4
  else if w = [115, 116, 111, 112] then 5
  else if w = [116, 105, 99, 107] then 6
  else if w = [115, 104, 117, 116] then 7
  else 0
def partE (c : UInt8) (s : By) (e : Ent) : Option Ent :=
  if c.toNat = 116 then (if isName s then some { e with tag := s } else none)
  else (numV 0 65535 s).map fun n => if c.toNat = 97 then { e with a := n } else if c.toNat = 98 then { e with b := n } else { e with n := n }
def partsE : By → List By → Ent → Option Ent
  | [], [], e => some e
  | c :: cs, w :: ws, e => (partE c w e).bind (partsE cs ws)
  | _, _, _ => none
def wordsE (w : By) (ws : List By) : Option Ent := if kindE w = 0 then none else partsE (formE (kindE w)).2 ws { ent0 with kind := kindE w }
def readE (s : By) : Option Ent := match splitB 32 s with
  | [] => none
  | w :: ws => wordsE w ws
def fieldE (e : Ent) (c : UInt8) : By := if c.toNat = 116 then e.tag else itoaB (if c.toNat = 97 then e.a else if c.toNat = 98 then e.b else e.n)
def candE (e : Ent) : By := joinC 32 ((formE e.kind).1 :: (formE e.kind).2.map (fieldE e))
def lineE (e : Ent) : Option By := if readE (candE e) = some e then some (candE e) else none
/-! ### events -/
structure Evt where
  kind : Int
  actor : Int
  id : Nat
  from' : Int
  to : Int
  name : By
  n : Int
  why : Int
  timed : Bool
deriving DecidableEq
def evt0 : Evt := ⟨0, 0, 0, 0, 0, [], 0, 0, false⟩
def formV (k : Int) : By × By :=
  if k = 1 then ([114, 101, 102, 117, 115, 101, 100], [70, 84, 82, 78])
  else if k = 2 then ([115, 101, 110, 116], [105, 70, 84, 77, 78])
  else if k = 3 then ([115, 116, 97, 114, 116], [65, 105])
  else if k = 4 then ([101, 110, 100], [65, 105, 77])
  else if k = 5 then ([115, 116, 97, 115, 104, 101, 100], [65, 105])
  else if k = 6 then ([100, 101, 97, 100], [105, 84, 87])
  else if k = 7 then ([115, 112, 97, 119, 110, 101, 100], [65, 70, 77])
  else if k = 8 then ([110, 111, 114, 111, 111, 109], [65, 77])
  else if k = 9 then ([102, 97, 105, 108, 101, 100], [65, 77])
  else if k = 10 then ([116, 111, 108, 100], [65, 70, 87, 77])
  else if k = 11 then ([114, 101, 115, 117, 109, 101, 100], [65])
  else if k = 12 then ([114, 101, 115, 116, 97, 114, 116, 101, 100], [65])
  else if k = 13 then ([115, 116, 111, 112, 112, 105, 110, 103], [65])
  else if k = 14 then ([101, 110, 100, 101, 100], [65])
  else if k = 15 then ([116, 105, 99, 107], [78])
  else ([], [])
def kindV (w : By) : Int :=
  if w = [114, 101, 102, 117, 115, 101, 100] then 1
  else if w = [115, 101, 110, 116] then 2
  else if w = [115, 116, 97, 114, 116] then 3
  else if w = [101, 110, 100] then 4
  else if w = [115, 116, 97, 115, 104, 101, 100] then 5
  else if w = [100, 101, 97, 100] then 6
  else if w = [115, 112, 97, 119, 110, 101, 100] then 7
  else if w = [110, 111, 114, 111, 111, 109] then 8
  else if w = [102, 97, 105, 108, 101, 100] then 9
  else if w = [116, 111, 108, 100] then 10
  else if w = [114, 101, 115, 117, 109, 101, 100] then 11
  else if w = [114, 101, 115, 116, 97, 114, 116, 101, 100] then 12
  else if w = [115, 116, 111, 112, 112, 105, 110, 103] then 13
  else if w = [101, 110, 100, 101, 100] then 14
  else if w = [116, 105, 99, 107] then 15
  else 0
abbrev wDash : By := [45]
abbrev wTimed : By := [116, 105, 109, 101, 100]
def big50 : Int := 1125899906842624
/-- A 65, F 70, T 84, W 87, N 78, M 77, R 82, i 105 -/
def partV (c : UInt8) (s : By) (e : Evt) : Option Evt :=
  if c.toNat = 82 ∧ s = wDash then some { e with name := [] }
  else if c.toNat = 77 ∨ c.toNat = 82 then (if isName s then some { e with name := s } else none)
  else if c.toNat = 105 then (numV 0 big50 s).map fun n => { e with id := n.toNat }
  else (numV (-65535) 65535 s).map fun n => if c.toNat = 65 then { e with actor := n } else if c.toNat = 70 then { e with from' := n } else if c.toNat = 84 then { e with to := n } else if c.toNat = 87 then { e with why := n } else { e with n := n }
def partsV : By → List By → Evt → Option Evt
  | [], [], e => some e
  | [], [w], e => if e.kind = 2 ∧ w = wTimed then some { e with timed := true } else none
  | c :: cs, w :: ws, e => (partV c w e).bind (partsV cs ws)
  | _, _, _ => none
def wordsV (w : By) (ws : List By) : Option Evt := if kindV w = 0 then none else partsV (formV (kindV w)).2 ws { evt0 with kind := kindV w }
def readV (s : By) : Option Evt := match splitB 32 s with
  | [] => none
  | w :: ws => wordsV w ws
def fieldV (e : Evt) (c : UInt8) : By :=
  if c.toNat = 82 ∧ e.name = [] then wDash else if c.toNat = 77 ∨ c.toNat = 82 then e.name else itoaB (if c.toNat = 105 then (e.id : Int) else if c.toNat = 65 then e.actor else if c.toNat = 70 then e.from' else if c.toNat = 84 then e.to else if c.toNat = 87 then e.why else e.n)
def candV (e : Evt) : By := joinC 32 ((formV e.kind).1 :: (formV e.kind).2.map (fieldV e) ++ (if e.kind = 2 ∧ e.timed = true then [wTimed] else []))
def lineV (e : Evt) : Option By := if readV (candV e) = some e then some (candV e) else none
/-! ### whole texts -/
def passed (l : By) : Bool := match l with
  | [] => true
  | c :: _ => decide (c.toNat = 35)
/-- the lines' entries, or the place of the first wrong line -/
def linesS : Nat → List By → List Ent → List Ent × Int × Int
  | _, [], acc => (acc, 0, 0)
  | i, l :: ls, acc => if passed l then linesS (i + 1) ls acc else match readE l with
    | none => ([], ((i + 1 : Nat) : Int), 60)
    | some e => linesS (i + 1) ls (acc ++ [e])
def scriptS (s : By) : List Ent × Int × Int := if 16384 < s.length then ([], 0, 5) else linesS 0 (splitB 10 s) []
def textG : Nat → List Ent → By → By × Int × Int
  | _, [], b => if 16384 < b.length then ([], 0, 5) else (b, 0, 0)
  | i, e :: es, b => match lineE e with
    | none => ([], (i : Int), 1)
    | some l => textG (i + 1) es (b ++ (l ++ [10]))
def textS (l : List Ent) : By × Int × Int := textG 0 l []
end Go.L.Sc
