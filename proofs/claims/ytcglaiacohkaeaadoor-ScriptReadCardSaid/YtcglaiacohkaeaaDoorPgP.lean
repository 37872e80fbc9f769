/-
  Programs of actors on paper: their parts, how they lie in memory, which are right. Own work; no program.
-/
import Derived.Test.YtcglaiacohkaeaaDoorLexP
import Derived.Test.YtcglaiacohkaeaaDoorMem
set_option linter.unusedSimpArgs false
set_option linter.unusedVariables false
set_option linter.unusedSectionVars false
namespace Go.L.Pg
open Go.L Go.L.Lx
abbrev iv (x : Int) : Value := .int .i64 x
abbrev sv (l : List UInt8) : Value := .string ⟨l.toArray⟩
structure Eff where
  do' : Int
  ref : By
  slot : By
  name : By
  value : Int
  n : Int
  delay : Int
deriving Inhabited, DecidableEq
structure Row where
  tag : By
  only : Bool
  n : Int
  ea : Option Addr
  ec : Nat
  effs : List Eff
deriving Inhabited
structure Sta where
  name : By
  ra : Option Addr
  rc : Nat
  rows : List Row
deriving Inhabited
structure Cas where
  reason : By
  do' : Int
deriving Inhabited, DecidableEq
structure Knd where
  name : By
  limit : Int
  within : Int
  ca : Option Addr
  cc : Nat
  cases : List Cas
  sa : Option Addr
  sc : Nat
  states : List Sta
deriving Inhabited
def effC (e : Eff) : List Value := [iv e.do', sv e.ref, sv e.slot, sv e.name, iv e.value, iv e.n, iv e.delay]
def rowC (r : Row) : List Value := [sv r.tag, .bool r.only, iv r.n, .slice r.ea r.effs.length r.ec]
def staC (s : Sta) : List Value := [sv s.name, .slice s.ra s.rows.length s.rc]
def casC (c : Cas) : List Value := [sv c.reason, iv c.do']
def kndC (k : Knd) : List Value := [sv k.name, iv k.limit, iv k.within, .slice k.ca k.cases.length k.cc, .slice k.sa k.states.length k.sc]
theorem effC_len (e : Eff) : (effC e).length = 7 := rfl
theorem rowC_len (r : Row) : (rowC r).length = 4 := rfl
theorem staC_len (s : Sta) : (staC s).length = 2 := rfl
theorem casC_len (c : Cas) : (casC c).length = 2 := rfl
theorem kndC_len (k : Knd) : (kndC k).length = 5 := rfl
/-! ### how a program lies in memory -/
def RdH (h : Hp) (a : Option Addr) (c n : Nat) (xs : List Value) : Prop := SlR h (.slice a n c) n xs ∧ n ≤ c
def ok63 (n : Nat) : Prop := n ≤ 140737488351232
structure EffOk (e : Eff) : Prop where
  ref : ok63 e.ref.length
  slot : ok63 e.slot.length
  name : ok63 e.name.length
structure RowOk (h : Hp) (r : Row) : Prop where
  tag : ok63 r.tag.length
  rd : RdH h r.ea r.ec r.effs.length (r.effs.flatMap effC)
  len : ok63 (r.effs.length * 80)
  effs : ∀ e ∈ r.effs, EffOk e
structure StaOk (h : Hp) (s : Sta) : Prop where
  name : ok63 s.name.length
  rd : RdH h s.ra s.rc s.rows.length (s.rows.flatMap rowC)
  len : ok63 (s.rows.length * 56)
  rows : ∀ r ∈ s.rows, RowOk h r
structure KndOk (h : Hp) (k : Knd) : Prop where
  name : ok63 k.name.length
  rdc : RdH h k.ca k.cc k.cases.length (k.cases.flatMap casC)
  lenc : ok63 (k.cases.length * 24)
  cases : ∀ c ∈ k.cases, ok63 c.reason.length
  rds : RdH h k.sa k.sc k.states.length (k.states.flatMap staC)
  lens : ok63 (k.states.length * 40)
  states : ∀ s ∈ k.states, StaOk h s
structure PrgOk (h : Hp) (a : Option Addr) (c : Nat) (K : List Knd) : Prop where
  rd : RdH h a c K.length (K.flatMap kndC)
  len : ok63 (K.length * 80)
  kinds : ∀ k ∈ K, KndOk h k
theorem RdH.imp {h k : Hp} {a : Option Addr} {c n : Nat} {xs : List Value} (r : RdH h a c n xs) (f : ∀ b o, h b = some o → k b = some o) : RdH k a c n xs := ⟨r.1.imp f, r.2⟩
theorem RowOk.imp {h k : Hp} {r : Row} (s : RowOk h r) (f : ∀ b o, h b = some o → k b = some o) : RowOk k r := ⟨s.tag, s.rd.imp f, s.len, s.effs⟩
theorem StaOk.imp {h k : Hp} {r : Sta} (s : StaOk h r) (f : ∀ b o, h b = some o → k b = some o) : StaOk k r := ⟨s.name, s.rd.imp f, s.len, fun r hr => (s.rows r hr).imp f⟩
theorem KndOk.imp {h k : Hp} {r : Knd} (s : KndOk h r) (f : ∀ b o, h b = some o → k b = some o) : KndOk k r := ⟨s.name, s.rdc.imp f, s.lenc, s.cases, s.rds.imp f, s.lens, fun r hr => (s.states r hr).imp f⟩
theorem PrgOk.imp {h k : Hp} {a : Option Addr} {c : Nat} {K : List Knd} (s : PrgOk h a c K) (f : ∀ b o, h b = some o → k b = some o) : PrgOk k a c K := ⟨s.rd.imp f, s.len, fun r hr => (s.kinds r hr).imp f⟩
/-- a slice's front -/
theorem SlR.to {h : Hp} {a : Option Addr} {n c i sz : Nat} {xs : List Value} (s : SlR h (.slice a n c) n xs) (hi : i ≤ n) : SlR h (.slice a i c) i (xs.take (i * sz)) := by
  rcases s with ⟨h1, h2, h3⟩ | ⟨b, off, spot, cap, h1, h2, h3⟩
  · obtain rfl : i = 0 := by omega
    subst h2
    simp only [Value.slice.injEq] at h1
    exact .inl ⟨by simp [h1.1, h1.2.2], by simp, rfl⟩
  · simp only [Value.slice.injEq, true_and] at h1
    obtain ⟨rfl, rfl⟩ := h1
    exact .inr ⟨b, off, spot, c, rfl, fun h0 => h2 (by omega), fun j x hx => h3 j x (by
      rw [List.getElem?_take] at hx
      split at hx
      · exact hx
      · cases hx)⟩
theorem RdH.to {h : Hp} {a : Option Addr} {n c i sz : Nat} {xs : List Value} (s : RdH h a c n xs) (hi : i ≤ n) : RdH h a c i (xs.take (i * sz)) := ⟨SlR.to s.1 hi, Nat.le_trans hi s.2⟩
theorem flat_to {α : Type} (f : α → List Value) (sz : Nat) (hf : ∀ x, (f x).length = sz) : ∀ (l : List α) (i : Nat), (l.flatMap f).take (i * sz) = (l.take i).flatMap f
  | l, 0 => by simp
  | [], i + 1 => by simp
  | x :: l, i + 1 => by
    have e1 : (i + 1) * sz = (f x).length + i * sz := by rw [hf, Nat.add_mul]; omega
    rw [List.flatMap_cons, e1, List.take_length_add_append, flat_to f sz hf l i, List.take_succ_cons, List.flatMap_cons]
/-! ### which programs are right -/
def firstR : List (Bool × Int) → Int
  | [] => 0
  | (b, c) :: r => if b then c else firstR r
abbrev Flt := Option (Int × List Int)
def nx (i : Nat) (r k : Flt) : Flt := match r with
  | some (c, ws) => some (c, ((i + 1 : Nat) : Int) :: ws)
  | none => k
def fst (R : Nat → Flt) : Nat → Nat → Flt
  | _, 0 => none
  | i, n + 1 => nx i (R i) (fst R (i + 1) n)
def withinP (own : Int) (n : Nat) (R : Nat → Flt) : Flt := if own = 0 then fst R 0 n else some (own, [])
def named (s : By) : Bool := decide (s = []) || isName s
def pR (d : Int) : Bool := decide (d = 1) || decide (d = 6) || decide (d = 7)
def pS (d : Int) : Bool := decide (d = 2) || decide (d = 10)
def pN (d : Int) : Bool := decide (d = 1) || decide (d = 2) || decide (d = 3) || decide (d = 8) || decide (d = 9) || decide (d = 12)
def pV (d : Int) : Bool := decide (d = 1) || decide (d = 8)
def pD (d : Int) : Bool := decide (d = 8)
def refs7 : List By := [[115, 101, 108, 102], [115, 101, 110, 100, 101, 114], [112, 97, 114, 101, 110, 116], [97], [98], [99], [100]]
def slots4 : List By := [[97], [98], [99], [100]]
def e1 (e : Eff) : Bool := decide (e.do' < 1) || decide (12 < e.do')
def e2 (e : Eff) : Bool := (pR e.do' && !decide (e.ref ∈ refs7)) || (!pR e.do' && !decide (e.ref = []))
def e3 (e : Eff) : Bool := (pS e.do' && !decide (e.slot ∈ slots4)) || (!pS e.do' && !decide (e.slot = []))
def e4 (e : Eff) : Bool := (pN e.do' && !isName e.name) || (!pN e.do' && !decide (e.name = []))
def e5 (e : Eff) : Bool := (pD e.do' && (decide (e.delay < 1) || decide (4095 < e.delay))) || (!pD e.do' && !decide (e.delay = 0))
def e6 (e : Eff) : Bool := decide (e.value < 0) || decide (2 < e.value) || (!pV e.do' && !decide (e.value = 0))
def e7 (e : Eff) : Bool := decide (e.n < 0) || decide (255 < e.n) || (!decide (e.value = 2) && !decide (e.n = 0))
def hasK (K : List Knd) (nm : By) : Bool := K.any fun o => decide (o.name = nm)
def hasS (S : List Sta) (nm : By) : Bool := S.any fun o => decide (o.name = nm)
def e8 (K : List Knd) (S : List Sta) (e : Eff) : Bool := (decide (e.do' = 2) && !hasK K e.name) || (decide (e.do' = 3) && !hasS S e.name)
def e9 (e : Eff) (last : Bool) : Bool := (decide (e.do' = 11) || decide (e.do' = 12)) && !last
def effE (K : List Knd) (S : List Sta) (e : Eff) (last : Bool) : Int :=
  firstR [(e1 e, 43), (e2 e, 43), (e3 e, 43), (e4 e, 43), (e5 e, 43), (e6 e, 43), (e7 e, 43), (e8 K S e, 42), (e9 e last, 44)]
def r1 (r : Row) : Bool := !named r.tag || (r.only && decide (r.tag = [])) || decide (r.n < 0) || decide (255 < r.n) || (!r.only && !decide (r.n = 0))
def sameR (o r : Row) : Bool := decide (o.tag = r.tag) && (o.only == r.only) && decide (o.n = r.n)
def r4 (r : Row) : Bool := (r.effs.any fun e => decide (e.do' = 4)) && decide (1 < (r.effs.length : Int))
def rowE (R : List Row) (i : Nat) (r : Row) : Int :=
  firstR [(r1 r, 43), ((R.take i).any (fun o => sameR o r), 41), (decide (8 < (r.effs.length : Int)), 40), (r4 r, 45)]
def staE (S : List Sta) (i : Nat) (s : Sta) : Int :=
  firstR [(!isName s.name, 43), (hasS (S.take i) s.name, 41), (decide (16 < (s.rows.length : Int)), 40)]
def casB (c : Cas) : Bool := !named c.reason || decide (c.do' < 1) || decide (4 < c.do')
def twc (cs : List Cas) : Nat → Bool
  | 0 => false
  | j + 1 => twc cs j || (match cs[j]? with | some c => (cs.take j).any fun d => decide (d.reason = c.reason) | none => false)
def k1 (k : Knd) : Bool := !isName k.name || decide (k.limit < 0) || decide (100 < k.limit) || decide (k.within < 1) || decide (4095 < k.within)
def k3 (k : Knd) : Bool := decide (8 < (k.cases.length : Int)) || decide ((k.states.length : Int) < 1) || decide (8 < (k.states.length : Int))
def kndE (K : List Knd) (i : Nat) (k : Knd) : Int :=
  firstR [(k1 k, 43), (hasK (K.take i) k.name, 41), (k3 k, 40), (k.cases.any casB, 43), (twc k.cases k.cases.length, 41)]
def effF (K : List Knd) (S : List Sta) (E : List Eff) (j : Nat) : Flt := match E[j]? with
  | some e => if effE K S e (decide ((j : Int) = (E.length : Int) - 1)) = 0 then none else some (effE K S e (decide ((j : Int) = (E.length : Int) - 1)), [])
  | none => none
def rowF (K : List Knd) (S : List Sta) (R : List Row) (j : Nat) : Flt := match R[j]? with
  | some r => withinP (rowE R j r) r.effs.length (effF K S r.effs)
  | none => none
def staF (K : List Knd) (S : List Sta) (j : Nat) : Flt := match S[j]? with
  | some s => withinP (staE S j s) s.rows.length (rowF K S s.rows)
  | none => none
def kndF (K : List Knd) (j : Nat) : Flt := match K[j]? with
  | some k => withinP (kndE K j k) k.states.length (staF K k.states)
  | none => none
def prgE (K : List Knd) : Int := firstR [(decide ((K.length : Int) < 1) || decide (8 < (K.length : Int)), 40)]
def prgF (K : List Knd) : Flt := withinP (prgE K) K.length (kndF K)
/-! ### the reference's words -/
def has (s : By) (c : UInt8) : Bool := s.any fun x => decide ((x.toNat : Int) = c.toNat)
def verb (d : Int) : By × By :=
  if d = 1 then ([115, 101, 110, 100], [114, 110, 118])
  else if d = 2 then ([115, 112, 97, 119, 110], [115, 110])
  else if d = 3 then ([98, 101, 99, 111, 109, 101], [110])
  else if d = 4 then ([115, 116, 97, 115, 104], [])
  else if d = 5 then ([117, 110, 115, 116, 97, 115, 104], [])
  else if d = 6 then ([119, 97, 116, 99, 104], [114])
  else if d = 7 then ([117, 110, 119, 97, 116, 99, 104], [114])
  else if d = 8 then ([116, 105, 109, 101, 114], [100, 110, 118])
  else if d = 9 then ([99, 97, 110, 99, 101, 108], [110])
  else if d = 10 then ([104, 111, 108, 100], [115])
  else if d = 11 then ([115, 116, 111, 112], [])
  else if d = 12 then ([102, 97, 105, 108], [110])
  else ([], [])
def nameB (s : By) (h : Bool) : Bool := if h then isName s else decide (s = [])
def smallB (n : Int) : Bool := decide (0 ≤ n) && decide (n ≤ 65535)
/-- is an effect writable? -/
def effW (e : Eff) : Bool :=
  if e1 e || !nameB e.ref (pR e.do') || !nameB e.slot (pS e.do') || !nameB e.name (pN e.do') then false
  else if (pD e.do' && !smallB e.delay) || (!pD e.do' && !decide (e.delay = 0)) then false
  else if !pV e.do' || !decide (e.value = 2) then decide (e.n = 0) && (decide (e.value = 0) || (decide (e.value = 1) && pV e.do'))
  else smallB e.n
theorem verb_facts (d : Int) : (decide ((verb d).1 = []) = (decide (d < 1) || decide (12 < d))) ∧ has (verb d).2 114 = pR d ∧ has (verb d).2 115 = pS d ∧ has (verb d).2 110 = pN d ∧ has (verb d).2 118 = pV d ∧ has (verb d).2 100 = pD d := by
  by_cases h : 1 ≤ d ∧ d ≤ 12
  · rcases (show d = 1 ∨ d = 2 ∨ d = 3 ∨ d = 4 ∨ d = 5 ∨ d = 6 ∨ d = 7 ∨ d = 8 ∨ d = 9 ∨ d = 10 ∨ d = 11 ∨ d = 12 by omega) with rfl | rfl | rfl | rfl | rfl | rfl | rfl | rfl | rfl | rfl | rfl | rfl <;> decide
  · have hv : verb d = ([], []) := by unfold verb; rw [if_neg (by omega), if_neg (by omega), if_neg (by omega), if_neg (by omega), if_neg (by omega), if_neg (by omega), if_neg (by omega), if_neg (by omega), if_neg (by omega), if_neg (by omega), if_neg (by omega), if_neg (by omega)]
    rw [hv]
    have e : ∀ k : Int, 1 ≤ k → k ≤ 12 → decide (d = k) = false := fun k h1 h2 => decide_eq_false (by omega)
    unfold pR pS pN pV pD
    rw [e 1 (by decide) (by decide), e 2 (by decide) (by decide), e 3 (by decide) (by decide), e 6 (by decide) (by decide), e 7 (by decide) (by decide), e 8 (by decide) (by decide), e 9 (by decide) (by decide), e 10 (by decide) (by decide), e 12 (by decide) (by decide)]
    refine ⟨?_, rfl, rfl, rfl, rfl, rfl⟩
    rw [Bool.eq_iff_iff]; simp; omega
theorem refs_name : ∀ s ∈ refs7, isName s = true := by decide
theorem slots_name : ∀ s ∈ slots4, isName s = true := by decide
theorem refs_ne : ([] : By) ∉ refs7 := by decide
theorem slots_ne : ([] : By) ∉ slots4 := by decide
/-- what the reference asks first of an effect -/
def x1 (e : Eff) : Bool := !effW e || decide (255 < e.n) || (!decide (e.ref = []) && !decide (e.ref ∈ refs7)) || (!decide (e.slot = []) && !decide (e.slot ∈ slots4))
def x2 (e : Eff) : Bool := pD e.do' && (decide (e.delay < 1) || decide (4095 < e.delay))
theorem name_part (s : By) (p : Bool) (L : List By) (hL : ∀ s ∈ L, isName s = true) (h0 : ([] : By) ∉ L) : (!nameB s p || (!decide (s = []) && !decide (s ∈ L))) = ((p && !decide (s ∈ L)) || (!p && !decide (s = []))) := by
  unfold nameB
  cases p with
  | false => by_cases h : s = [] <;> simp [h]
  | true =>
    by_cases h : s ∈ L
    · have := hL s h
      simp [h, this]
    · by_cases hs : s = []
      · subst hs; simp [h0, isName]
      · simp [h, hs]
theorem ref_eff (e : Eff) : (x1 e || x2 e) = (e1 e || e2 e || e3 e || e4 e || e5 e || e6 e || e7 e) := by
  have h1 := name_part e.ref (pR e.do') refs7 refs_name refs_ne
  have h2 := name_part e.slot (pS e.do') slots4 slots_name slots_ne
  unfold x1 effW e2 e3
  rw [← h1, ← h2]
  generalize (!decide (e.ref = []) && !decide (e.ref ∈ refs7)) = A
  generalize (!decide (e.slot = []) && !decide (e.slot ∈ slots4)) = B
  generalize nameB e.ref (pR e.do') = C
  generalize nameB e.slot (pS e.do') = D
  have h4 : e4 e = !nameB e.name (pN e.do') := by unfold e4 nameB; cases pN e.do' <;> simp
  rw [h4]
  generalize nameB e.name (pN e.do') = E
  generalize e1 e = F
  unfold x2 e5 e6 e7 smallB
  generalize pD e.do' = G
  generalize pV e.do' = I
  cases A <;> cases B <;> cases C <;> cases D <;> cases E <;> cases F <;> simp
  rw [Bool.eq_iff_iff]
  cases G <;> cases I <;> by_cases hv : e.value = 2 <;> simp [hv] <;> omega
theorem firstR_or {a b : Bool} {c : Int} {r : List (Bool × Int)} : firstR ((a, c) :: (b, c) :: r) = firstR ((a || b, c) :: r) := by cases a <;> cases b <;> rfl
/-- the reference's answer of an effect is the same -/
theorem effE_ref (K : List Knd) (S : List Sta) (e : Eff) (last : Bool) : effE K S e last = firstR [(x1 e, 43), (x2 e, 43), (e8 K S e, 42), (e9 e last, 44)] := by
  unfold effE
  rw [firstR_or, firstR_or, firstR_or, firstR_or, firstR_or, firstR_or, firstR_or, ref_eff]
theorem fst_none {R : Nat → Flt} : ∀ (n i : Nat), fst R i n = none ↔ ∀ j, i ≤ j → j < i + n → R j = none
  | 0, i => by simp [fst]; omega
  | n + 1, i => by
    have ih := fst_none (R := R) n (i + 1)
    cases h : R i with
    | some x =>
      simp only [fst, nx, h]
      constructor
      · intro h; cases h
      · intro h'; have := h' i (Nat.le_refl _) (by omega); rw [h] at this; cases this
    | none =>
      simp only [fst, nx, h]
      rw [ih]
      constructor
      · intro h' j hj hj2
        rcases Nat.lt_or_ge i j with x | x
        · exact h' j x (by omega)
        · obtain rfl : j = i := by omega
          exact h
      · intro h' j hj hj2; exact h' j (by omega) (by omega)
theorem fst_some {R : Nat → Flt} {c : Int} {ws : List Int} : ∀ (n i : Nat), fst R i n = some (c, ws) → ∃ j us, i ≤ j ∧ j < i + n ∧ R j = some (c, us) ∧ ws = ((j + 1 : Nat) : Int) :: us
  | 0, _, h => by cases h
  | n + 1, i, h => by
    cases hr : R i with
    | some x =>
      obtain ⟨c', us⟩ := x
      simp only [fst, nx, hr, Option.some.injEq, Prod.mk.injEq] at h
      obtain ⟨rfl, rfl⟩ := h
      exact ⟨i, us, Nat.le_refl _, by omega, hr, rfl⟩
    | none =>
      simp only [fst, nx, hr] at h
      obtain ⟨j, us, h1, h2, h3, h4⟩ := fst_some n (i + 1) h
      exact ⟨j, us, by omega, by omega, h3, h4⟩
theorem within_some {own : Int} {n : Nat} {R : Nat → Flt} {c : Int} {ws : List Int} (h : withinP own n R = some (c, ws)) : ws = [] ∨ ∃ j us, j < n ∧ R j = some (c, us) ∧ ws = ((j + 1 : Nat) : Int) :: us := by
  unfold withinP at h
  split at h
  · obtain ⟨j, us, _, h2, h3, h4⟩ := fst_some _ _ h
    exact .inr ⟨j, us, by omega, h3, h4⟩
  · simp only [Option.some.injEq, Prod.mk.injEq] at h; exact .inl h.2.symm
/-- a place that a program has -/
def PlaceOk (K : List Knd) (ws : List Int) : Prop :=
  ws = [] ∨ ∃ (i : Nat) (k : Knd) (u1 : List Int), K[i]? = some k ∧ ws = ((i + 1 : Nat) : Int) :: u1 ∧ (u1 = [] ∨ ∃ (j : Nat) (s : Sta) (u2 : List Int), k.states[j]? = some s ∧ u1 = ((j + 1 : Nat) : Int) :: u2 ∧
    (u2 = [] ∨ ∃ (m : Nat) (r : Row) (u3 : List Int), s.rows[m]? = some r ∧ u2 = ((m + 1 : Nat) : Int) :: u3 ∧ (u3 = [] ∨ ∃ q : Nat, q < r.effs.length ∧ u3 = [((q + 1 : Nat) : Int)])))
theorem places_ok {K : List Knd} {c : Int} {ws : List Int} (h : prgF K = some (c, ws)) : PlaceOk K ws := by
  unfold prgF at h
  rcases within_some h with h1 | ⟨i, u1, hi, h1, rfl⟩
  · exact .inl h1
  · unfold kndF at h1
    cases hk : K[i]? with
    | none => rw [hk] at h1; cases h1
    | some k =>
      rw [hk] at h1
      refine .inr ⟨i, k, u1, hk, rfl, ?_⟩
      rcases within_some h1 with h2 | ⟨j, u2, hj, h2, rfl⟩
      · exact .inl h2
      · unfold staF at h2
        cases hs : k.states[j]? with
        | none => rw [hs] at h2; cases h2
        | some s =>
          rw [hs] at h2
          refine .inr ⟨j, s, u2, hs, rfl, ?_⟩
          rcases within_some h2 with h3 | ⟨m, u3, hm, h3, rfl⟩
          · exact .inl h3
          · unfold rowF at h3
            cases hr : s.rows[m]? with
            | none => rw [hr] at h3; cases h3
            | some r =>
              rw [hr] at h3
              refine .inr ⟨m, r, u3, hr, rfl, ?_⟩
              rcases within_some h3 with h4 | ⟨q, u4, hq, h4, rfl⟩
              · exact .inl h4
              · unfold effF at h4
                cases he : r.effs[q]? with
                | none => rw [he] at h4; cases h4
                | some e =>
                  rw [he] at h4
                  simp only at h4
                  split at h4
                  · cases h4
                  · simp only [Option.some.injEq, Prod.mk.injEq] at h4
                    exact .inr ⟨q, hq, by rw [← h4.2]⟩
theorem firstR_cases : ∀ (l : List (Bool × Int)), firstR l = 0 ∨ ∃ x ∈ l, x.1 = true ∧ firstR l = x.2
  | [] => .inl rfl
  | (b, c) :: r => by
    cases b with
    | true => exact .inr ⟨(true, c), List.mem_cons_self, rfl, rfl⟩
    | false =>
      rcases firstR_cases r with h | ⟨x, h1, h2, h3⟩
      · exact .inl h
      · exact .inr ⟨x, List.mem_cons_of_mem _ h1, h2, h3⟩
end Go.L.Pg
