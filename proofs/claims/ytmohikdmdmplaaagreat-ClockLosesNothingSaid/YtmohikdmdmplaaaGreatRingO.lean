/-
  RingOrder and RingBound on paper: three who put, one who takes, their steps mixed. Own work; no program.
-/
import Derived.Test.YtmohikdmdmplaaaGreatRingQ
import Derived.Test.YtmohikdmdmplaaaGreatFam
set_option linter.unusedSimpArgs false
set_option linter.unusedVariables false
set_option linter.unusedSectionVars false
namespace Go.L.Ring
open Go.L
theorem stp0 {b n : Nat} {L : List Int} {o : RO} (h : o.pc = 0) : stepL b n L o = L ∧ stepO b n L o = putTailO b L o := by unfold stepL stepO; rw [h]; exact ⟨rfl, rfl⟩
theorem stp1 {b n : Nat} {L : List Int} {o : RO} (h : o.pc = 1) : stepL b n L o = L ∧ stepO b n L o = putTurnO b n L o := by unfold stepL stepO; rw [h]; exact ⟨rfl, rfl⟩
theorem stp2 {b n : Nat} {L : List Int} {o : RO} (h : o.pc = 2) : stepL b n L o = putSwapL b L o ∧ stepO b n L o = putSwapO b L o := by unfold stepL stepO; rw [h]; exact ⟨rfl, rfl⟩
theorem stp3 {b n : Nat} {L : List Int} {o : RO} (h : o.pc = 3) : stepL b n L o = putValueL b n L o ∧ stepO b n L o = putValueO o := by unfold stepL stepO; rw [h]; exact ⟨rfl, rfl⟩
theorem stp4 {b n : Nat} {L : List Int} {o : RO} (h : o.pc = 4) : stepL b n L o = putDoneL b n L o ∧ stepO b n L o = putDoneO o := by unfold stepL stepO; rw [h]; exact ⟨rfl, rfl⟩
theorem stp5 {b n : Nat} {L : List Int} {o : RO} (h : o.pc = 5) : stepL b n L o = L ∧ stepO b n L o = takeHeadO b L o := by unfold stepL stepO; rw [h]; exact ⟨rfl, rfl⟩
theorem stp6 {b n : Nat} {L : List Int} {o : RO} (h : o.pc = 6) : stepL b n L o = L ∧ stepO b n L o = takeTurnO b n L o := by unfold stepL stepO; rw [h]; exact ⟨rfl, rfl⟩
theorem stp7 {b n : Nat} {L : List Int} {o : RO} (h : o.pc = 7) : stepL b n L o = L ∧ stepO b n L o = takeValueO b n L o := by unfold stepL stepO; rw [h]; exact ⟨rfl, rfl⟩
theorem stp8 {b n : Nat} {L : List Int} {o : RO} (h : o.pc = 8) : stepL b n L o = takeFreeL b n L o ∧ stepO b n L o = takeFreeO o := by unfold stepL stepO; rw [h]; exact ⟨rfl, rfl⟩
theorem stp9 {b n : Nat} {L : List Int} {o : RO} (h : o.pc = 9) : stepL b n L o = takeDoneL b L o ∧ stepO b n L o = takeDoneO o := by unfold stepL stepO; rw [h]; exact ⟨rfl, rfl⟩
theorem go_st {b n : Nat} {L : List Int} {o : RO} (h : o.out = 0) : goL b n L o = stepL b n L o ∧ goO b n L o = stepO b n L o := by
  have : o.over = false := by simp [RO.over, h]
  unfold goL goO; rw [this]; exact ⟨rfl, rfl⟩
theorem tnN (n t : Nat) : tn 0 n (t : Int) = 2 + 2 * (t % n) := by
  unfold tn; rw [← Int.natCast_emod, Int.toNat_natCast]
theorem wtN (n t : Nat) (h : t < 1000000) : wt n (t : Int) = ((2 * (t / n) : Nat) : Int) := by
  unfold wt
  rw [← Int.natCast_ediv]
  have : t / n ≤ t := Nat.div_le_self _ _
  have e : (((t / n : Nat) : Int) * 2) = ((2 * (t / n) : Nat) : Int) := by omega
  rw [e]; exact wr_u64 (by omega)
theorem uwN (k : Nat) (h : k < 1000000000) : uw (k : Int) = k := wr_u64 (by omega)
theorem mod_inj {n f t u : Nat} (h1 : f ≤ t) (h2 : t < f + n) (h3 : f ≤ u) (h4 : u < f + n) (e : t % n = u % n) : t = u := by
  rcases Nat.lt_trichotomy t u with h | h | h
  · have := Nat.sub_mod_eq_zero_of_mod_eq e.symm
    rw [Nat.mod_eq_of_lt (by omega)] at this; omega
  · exact h
  · have := Nat.sub_mod_eq_zero_of_mod_eq e
    rw [Nat.mod_eq_of_lt (by omega)] at this; omega
theorem mod_ex {n : Nat} (hn : 1 ≤ n) (f t : Nat) : ∃ u, f ≤ u ∧ u < f + n ∧ u % n = t % n := by
  refine ⟨f + (t + (n - f % n)) % n, by omega, by have := Nat.mod_lt (t + (n - f % n)) hn; omega, ?_⟩
  have hf := Nat.div_add_mod f n
  have hm := Nat.mod_lt f hn
  rw [Nat.add_mod, Nat.mod_mod, ← Nat.add_mod]
  have e : f + (t + (n - f % n)) = t + n * (f / n + 1) := by rw [Nat.mul_add]; omega
  rw [e, Nat.add_mul_mod_self_left]
theorem div_mod_eq {n t u : Nat} (h1 : t / n = u / n) (h2 : t % n = u % n) : t = u := by
  rw [← Nat.div_add_mod t n, ← Nat.div_add_mod u n, h1, h2]
theorem mod_add (n f : Nat) : (f + n) % n = f % n := by simp
theorem div_add (n f : Nat) (hn : 1 ≤ n) : (f + n) / n = f / n + 1 := Nat.add_div_right f hn
/-- a ticket that is drawn: whose, of what value, is it over -/
structure Tk where
  own : Nat
  val : Int
  fin : Bool
def dT : Tk := ⟨3, 0, true⟩
def mineOf (p : Nat) (hs : List Tk) : List Int := (hs.filter (fun x => x.own == p && x.fin)).map (·.val)
/-- where one who puts stands -/
def Idle (hs : List Tk) (p : Nat) : Prop := ∀ t, t < hs.length → (hs.getD t dT).own = p → (hs.getD t dT).fin = true
def Busy (hs : List Tk) (p t : Nat) (v : Int) : Prop := t < hs.length ∧ hs.getD t dT = ⟨p, v, false⟩ ∧ (∀ u, u < hs.length → (hs.getD u dT).own = p → u ≠ t → (hs.getD u dT).fin = true) ∧ ∀ u, t < u → u < hs.length → (hs.getD u dT).own ≠ p
def POK (n : Nat) (L : List Int) (hs : List Tk) (f : Nat) (p : Nat) (x : Int) : Option RO → Prop
  | none => Idle hs p
  | some o => o.out = 0 ∧ o.val = (p : Int) * 4294967296 + x ∧
    ((o.pc = 0 ∧ Idle hs p) ∨ (o.pc = 1 ∧ Idle hs p ∧ ∃ t : Nat, o.tick = t ∧ t ≤ hs.length) ∨ (o.pc = 2 ∧ Idle hs p ∧ ∃ t : Nat, o.tick = t ∧ t ≤ hs.length ∧ t < f + n) ∨
      (o.pc = 3 ∧ ∃ t : Nat, o.tick = t ∧ Busy hs p t o.val) ∨ (o.pc = 4 ∧ ∃ t : Nat, o.tick = t ∧ Busy hs p t o.val ∧ L.getD (3 + 2 * (t % n)) 0 = o.val))
def TOK (hs : List Tk) (f h : Nat) : Option RO → Prop
  | none => f = h
  | some o => o.out = 0 ∧ ((o.pc = 5 ∧ f = h) ∨ (o.pc = 6 ∧ o.en = h ∧ f = h) ∨ (o.pc = 7 ∧ o.en = h ∧ f = h ∧ h < hs.length ∧ (hs.getD h dT).fin = true) ∨
      (o.pc = 8 ∧ o.en = h ∧ f = h ∧ h < hs.length ∧ (hs.getD h dT).fin = true ∧ o.val = (hs.getD h dT).val) ∨ (o.pc = 9 ∧ o.en = h ∧ f = h + 1 ∧ h < hs.length ∧ o.val = (hs.getD h dT).val))
/-- all that there is -/
structure CW where
  L : List Int
  ps : List (Option RO)
  nx : List Int
  inn : List (List Int)
  tk : Option RO
  steps : Int
  taken : List Int
  most : Int
  count : Int
def finN (hs : List Tk) : Nat := hs.countP (·.fin)
structure CI (n B : Nat) (c : CW) (hs : List Tk) (f h : Nat) : Prop where
  n1 : 1 ≤ n
  n8 : n ≤ 8
  len : c.L.length = 2 + 2 * n
  li : LI c.L
  lp : c.ps.length = 3
  ln : c.nx.length = 3
  lin : c.inn.length = 3
  nx : ∀ p, p < 3 → 0 ≤ c.nx.getD p 0 ∧ c.nx.getD p 0 ≤ B
  T : c.L.getD 0 0 = hs.length
  H : c.L.getD 1 0 = h
  TB : hs.length ≤ B
  hf : h ≤ f
  fT : f ≤ hs.length
  Tf : hs.length ≤ f + n
  own : ∀ t, t < hs.length → (hs.getD t dT).own < 3 ∧ ∃ k : Int, 0 ≤ k ∧ k < 4294967296 ∧ (hs.getD t dT).val = ((hs.getD t dT).own : Int) * 4294967296 + k
  old : ∀ t, t < f → (hs.getD t dT).fin = true
  turn : ∀ t, f ≤ t → t < f + n → c.L.getD (2 + 2 * (t % n)) 0 = ((2 * (t / n) : Nat) : Int) + (if t < hs.length ∧ (hs.getD t dT).fin = true then 1 else 0)
  value : ∀ t, f ≤ t → t < hs.length → (hs.getD t dT).fin = true → c.L.getD (3 + 2 * (t % n)) 0 = (hs.getD t dT).val
  pok : ∀ p, p < 3 → POK n c.L hs f p (c.nx.getD p 0) (c.ps.getD p none)
  poi : ∀ p o, p < 3 → c.ps.getD p none = some o → OI o
  tok : TOK hs f h c.tk
  toi : ∀ o, c.tk = some o → OI o
  tst : ∀ o, c.tk = some o → c.steps = o.pc - 5
  inn : ∀ p, p < 3 → c.inn.getD p [] = mineOf p hs
  took : c.taken = (hs.take h).map (·.val)
  cnt : c.count = (finN hs : Int) - f
  most : c.most ≤ n
/-- a step of who puts: his operation has come so far -/
def putGo (n p : Nat) (o : RO) (c : CW) : CW :=
  let L' := goL 0 n c.L o
  let o' := goO 0 n c.L o
  if o'.over then
    if o'.out = 1 then { c with L := L', ps := c.ps.set p none, inn := c.inn.set p (c.inn.getD p [] ++ [(p : Int) * 4294967296 + c.nx.getD p 0]), count := c.count + 1, most := if c.most < c.count + 1 then c.count + 1 else c.most }
    else { c with L := L', ps := c.ps.set p none }
  else { c with L := L', ps := c.ps.set p (some o') }
def putStep (n p : Nat) (more : Bool) (c : CW) : CW :=
  match c.ps.getD p none with
  | some o => putGo n p o c
  | none => if more then putGo n p ⟨0, 0, (p : Int) * 4294967296 + (c.nx.getD p 0 + 1), 0, 0⟩ { c with nx := c.nx.set p (c.nx.getD p 0 + 1) } else c
/-- a step of who takes; none more? -/
def outGo (n : Nat) (o : RO) (st : Int) (c : CW) : CW × Bool :=
  let L' := goL 0 n c.L o
  let o' := goO 0 n c.L o
  if o'.over then
    if o'.out = 1 then ({ c with L := L', tk := none, steps := st, taken := c.taken ++ [o'.val] }, false) else ({ c with L := L', tk := none, steps := st }, true)
  else ({ c with L := L', tk := some o', steps := st, count := if st = 4 then c.count - 1 else c.count }, false)
def outStep (n : Nat) (c : CW) : CW × Bool :=
  match c.tk with
  | some o => outGo n o (c.steps + 1) c
  | none => outGo n ⟨5, 0, 0, 0, 0⟩ 1 c
variable {n B : Nat} {c : CW} {hs : List Tk} {f h : Nat}
theorem CI.RI (C : CI n B c hs f h) : 1 ≤ n ∧ n ≤ 64 ∧ 0 + 2 + 2 * n ≤ c.L.length ∧ c.L.length ≤ 65536 := by
  have := C.n1; have := C.n8; have := C.len; omega
theorem fin_lt (C : CI n B c hs f h) {t : Nat} (h1 : (hs.getD t dT).fin = false) : f ≤ t := by
  rcases Nat.lt_or_ge t f with h2 | h2
  · rw [C.old t h2] at h1; cases h1
  · exact h2
theorem getD_app {hs : List Tk} {x : Tk} {t : Nat} : (hs ++ [x]).getD t dT = if t = hs.length then x else hs.getD t dT := by
  simp only [List.getD_eq_getElem?_getD]
  rcases Nat.lt_trichotomy t hs.length with h | h | h
  · rw [List.getElem?_append_left h, if_neg (by omega)]
  · subst h; simp
  · rw [List.getElem?_eq_none (by simp; omega), List.getElem?_eq_none (by omega), if_neg (by omega)]
theorem mineOf_app (p : Nat) (hs : List Tk) (q : Nat) (v : Int) : mineOf p (hs ++ [⟨q, v, false⟩]) = mineOf p hs := by
  simp [mineOf]
theorem mineOf_fin (p : Nat) : ∀ (hs : List Tk) (t : Nat) (v : Int), t < hs.length → hs.getD t dT = ⟨p, v, false⟩ → (∀ u, t < u → u < hs.length → (hs.getD u dT).own ≠ p) → mineOf p (hs.set t ⟨p, v, true⟩) = mineOf p hs ++ [v]
  | [], t, _, h, _, _ => by simp at h
  | x :: hs, 0, v, _, e, hl => by
    have e : x = ⟨p, v, false⟩ := by simpa using e
    have h0 : hs.filter (fun x => x.own == p && x.fin) = [] := by
      rw [List.filter_eq_nil_iff]; intro y hy
      obtain ⟨u, hu, rfl⟩ := List.mem_iff_getElem.1 hy
      have := hl (u + 1) (by omega) (by simp; omega)
      rw [List.getD_cons_succ, List.getD_eq_getElem?_getD, List.getElem?_eq_getElem hu] at this
      have this : hs[u].own ≠ p := this
      simp [this]
    subst e
    simp [mineOf, h0]
  | x :: hs, t + 1, v, h, e, hl => by
    have ih := mineOf_fin p hs t v (by simpa using h) (by simpa using e) (fun u h1 h2 => by have := hl (u + 1) (by omega) (by simp; omega); simpa using this)
    simp only [List.set_cons_succ, mineOf, List.filter_cons] at ih ⊢
    split
    · simp [ih]
    · exact ih
theorem mineOf_other (p q : Nat) (hpq : q ≠ p) : ∀ (hs : List Tk) (t : Nat) (v : Int) (a : Bool), hs.getD t dT = ⟨q, v, a⟩ → mineOf p (hs.set t ⟨q, v, true⟩) = mineOf p hs
  | [], t, _, _, _ => by simp
  | x :: hs, 0, v, a, e => by
    have e : x = ⟨q, v, a⟩ := by simpa using e
    subst e; simp [mineOf, hpq]
  | x :: hs, t + 1, v, a, e => by
    have ih := mineOf_other p q hpq hs t v a (by simpa using e)
    simp only [List.set_cons_succ, mineOf, List.filter_cons] at ih ⊢
    split
    · simp [ih]
    · exact ih
theorem finN_fin : ∀ (hs : List Tk) (t q : Nat) (v : Int), t < hs.length → hs.getD t dT = ⟨q, v, false⟩ → finN (hs.set t ⟨q, v, true⟩) = finN hs + 1
  | [], t, _, _, h, _ => by simp at h
  | x :: hs, 0, q, v, _, e => by
    have e : x = ⟨q, v, false⟩ := by simpa using e
    subst e; simp [finN]
  | x :: hs, t + 1, q, v, h, e => by
    have ih := finN_fin hs t q v (by simpa using h) (by simpa using e)
    simp only [List.set_cons_succ, finN, List.countP_cons] at ih ⊢; omega
theorem finN_le (hs : List Tk) : finN hs ≤ hs.length := List.countP_le_length
theorem take_val {hs hs' : List Tk} (hl : hs'.length = hs.length) (hv : ∀ t, (hs'.getD t dT).val = (hs.getD t dT).val) (h : Nat) : (hs'.take h).map (·.val) = (hs.take h).map (·.val) := by
  apply List.ext_getElem
  · simp [hl]
  · intro i h1 h2
    simp only [List.length_map, List.length_take] at h1 h2
    have := hv i
    simp only [List.getD_eq_getElem?_getD, List.getElem?_eq_getElem (show i < hs'.length by omega), List.getElem?_eq_getElem (show i < hs.length by omega), Option.getD_some] at this
    simpa using this
end Go.L.Ring
