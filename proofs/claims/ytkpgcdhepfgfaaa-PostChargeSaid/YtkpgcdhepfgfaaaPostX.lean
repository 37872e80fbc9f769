/-
  PostCharge on paper: the office, its steps, what holds at each. Own work; no program.
-/
import Derived.Test.YtkpgcdhepfgfaaaPostW
import Derived.Test.YtkpgcdhepfgfaaaPostP
namespace Go.L.Post
open Go.L Go.L.Ring
structure OW where
  L : List Int
  ts : List (Option PO)
  nx : List Int
  inn : Int
  chg : Int
  most : Int
  wk : Option PO
  ph : Int
  got : Int
  se : List PO
def OW.charge (w : OW) : OW := { w with chg := w.chg + 1, most := if w.most < w.chg + 1 then w.chg + 1 else w.most }
/-- a step of who tells -/
def tellGo (B : PB) (p : Nat) (po : PO) (w : OW) : OW :=
  let w1 := { w with L := goPL B w.L po }
  let o' := goPO B w.L po
  if o'.over then
    let w2 := if o'.out = 1 ∨ o'.out = 7 then { w1 with inn := w1.inn + 1 } else w1
    let w3 := if o'.out = 7 then w2.charge else w2
    { w3 with ts := w3.ts.set p none }
  else { w1 with ts := w1.ts.set p (some o') }
def tellStep (B : PB) (p : Nat) (nt more : Bool) (w : OW) : OW :=
  match w.ts.getD p none with
  | some po => tellGo B p po w
  | none => if more then tellGo B p ⟨.put nt (ini 0 (w.nx.getD p 0 + 1)), 0, 0⟩ { w with nx := w.nx.set p (w.nx.getD p 0 + 1) } else w
def workOf (ph : Int) : PO := if ph = 0 then ⟨.set 2, 0, 0⟩ else if ph = 1 then ⟨.of true (ini 5 0), 0, 0⟩ else ⟨.of false (ini 5 0), 0, 0⟩
def runGo (B : PB) (po : PO) (w : OW) : OW :=
  let w1 := { w with L := goPL B w.L po }
  let o' := goPO B w.L po
  if o'.over then
    let w2 := if 0 < w1.ph ∧ o'.out = 1 then { w1 with got := w1.got + 1 } else { w1 with ph := w1.ph + 1 }
    { w2 with wk := none }
  else { w1 with wk := some o' }
/-- a step of who is charged; nobody is -/
def runStep (B : PB) (w : OW) : OW × Bool :=
  if w.chg = 0 then (w, false)
  else if w.ph = 3 then ({ w with L := goPL B w.L ⟨.sto false, 0, 0⟩, se := w.se ++ [goPO B w.L ⟨.sto false, 0, 0⟩], ph := 0, chg := w.chg - 1 }, true)
  else (runGo B (match w.wk with | some po => po | none => workOf w.ph) w, true)
/-- a step of the eldest Settle -/
def layStep (B : PB) (w : OW) : OW × Bool :=
  match w.se with
  | [] => (w, false)
  | s :: r =>
    let w1 := { w with L := goPL B w.L s }
    let o' := goPO B w.L s
    if o'.over then
      let w2 := { w1 with se := r }
      (if o'.out = 8 then w2.charge else w2, true)
    else ({ w1 with se := o' :: r }, true)
/-! ### what holds -/
def putsOf (nt : Bool) (ts : List (Option PO)) : Nat → Option RO := fun p =>
  match ts.getD p none with
  | some ⟨.put nt' o, _, _⟩ => if nt' = nt then some o else none
  | _ => none
def takeOf (r : Bool) : Option PO → Option RO
  | some ⟨.of r' o, _, _⟩ => if r' = r then some o else none
  | _ => none
def TellOK : Option PO → Prop
  | none => True
  | some po => po.out = 0 ∧ po.val = 0 ∧ ((∃ nt o, po.ph = .put nt o ∧ OI o) ∨ (∃ nt, po.ph = .see nt) ∨ ∃ nt, po.ph = .swp nt 0)
def seeing : Option PO → Bool
  | some ⟨.see _, _, _⟩ => true
  | some ⟨.swp _ _, _, _⟩ => true
  | _ => false
def SetOK (s : PO) : Prop := s.out = 0 ∧ s.val = 0 ∧ ((∃ r a b c, s.ph = .look false r ⟨12, 0, a, b, c⟩ ∧ OI ⟨12, 0, a, b, c⟩) ∨ (∃ r a b c, s.ph = .look false r ⟨13, 0, a, b, c⟩ ∧ OI ⟨13, 0, a, b, c⟩) ∨ s.ph = .more false)
/-- such a Settle sees to it that what is in the ring is found -/
def covers (k : Bool → Nat) (r : Bool) (s : PO) : Prop :=
  match s.ph with
  | .look false r' o => (r' = true ∧ r = false) ∨ (r' = r ∧ (o.pc = 12 ∨ o.en = (k r : Int)))
  | .more false => True
  | _ => False
structure OIn (B : PB) (K M : Nat) (w : OW) (hs : Bool → List Tq) (f k : Bool → Nat) : Prop where
  pi : PI B w.L
  b0 : B.b = 0
  li : LI w.L
  lt : w.ts.length = 3
  ln : w.nx.length = 3
  nx : ∀ p, p < 3 → 0 ≤ w.nx.getD p 0 ∧ w.nx.getD p 0 ≤ K
  most : 0 ≤ w.most ∧ w.most ≤ 1
  state : (w.L.getD 0 0 = 0 ∧ w.chg = 0 ∧ w.ph = 0 ∧ w.wk = none) ∨ (w.L.getD 0 0 = 1 ∧ w.chg = 1 ∧ w.ph = 0 ∧ w.wk = none) ∨
    (w.L.getD 0 0 = 2 ∧ w.chg = 1 ∧ ((w.ph = 1 ∧ (w.wk = none ∨ ∃ o, w.wk = some ⟨.of true o, 0, 0⟩ ∧ OI o)) ∨ (w.ph = 2 ∧ (w.wk = none ∨ ∃ o, w.wk = some ⟨.of false o, 0, 0⟩ ∧ OI o)) ∨ (w.ph = 3 ∧ w.wk = none)))
  ring : ∀ r, RQ (B.rb r) (B.rn r) K w.L (hs r) (f r) (k r) (putsOf r w.ts) (takeOf r w.wk)
  tell : ∀ p, p < 3 → TellOK (w.ts.getD p none)
  set : ∀ s, s ∈ w.se → SetOK s
  cover : w.L.getD 0 0 = 0 → ∀ r, fullQ (hs r) (k r) → (∃ p, p < 3 ∧ seeing (w.ts.getD p none) = true) ∨ ∃ s, s ∈ w.se ∧ covers k r s
  inn : w.inn + (w.ts.countP seeing : Nat) = (finQ (hs false) + finQ (hs true) : Nat)
  got : w.got = (k false + k true : Nat)
  few : 4 * (w.se.length : Int) + w.ph ≤ M
theorem countP_set' {α : Type} (g : α → Bool) (d : α) : ∀ (l : List α) (p : Nat) (x : α), p < l.length → (l.set p x).countP g + (if g (l.getD p d) = true then 1 else 0) = l.countP g + (if g x = true then 1 else 0)
  | [], p, x, h => by simp at h
  | a :: l, 0, x, _ => by simp only [List.set_cons_zero, List.countP_cons, List.getD_cons_zero]; omega
  | a :: l, p + 1, x, h => by
    have ih := countP_set' g d l p x (by simpa using h)
    simp only [List.set_cons_succ, List.countP_cons, List.getD_cons_succ]; omega
theorem RQ.congr {b n B : Nat} {L : List Int} {hs : List Tq} {f h : Nat} {ps ps' : Nat → Option RO} {tk : Option RO} (C : RQ b n B L hs f h ps tk) (e : ∀ p, p < 3 → ps' p = ps p) : RQ b n B L hs f h ps' tk :=
  { C with pok := fun p hp => by rw [e p hp]; exact C.pok p hp }
theorem win {B : PB} (r : Bool) {j : Nat} (h1 : B.rb (!r) ≤ j) (h2 : j < B.rb (!r) + 2 + 2 * B.rn (!r)) : j < B.rb r ∨ B.rb r + 2 + 2 * B.rn r ≤ j := by
  cases r <;> simp [PB.rb, PB.rn] at * <;> omega
theorem lowc {B : PB} (r : Bool) {j : Nat} (h : j < B.b + 2) : j < B.rb r := by cases r <;> simp [PB.rb] <;> omega
theorem low_go {B : PB} {L : List Int} (h : PI B L) (r : Bool) (o : RO) {j : Nat} (hj : j < B.b + 2) : (goL (B.rb r) (B.rn r) L o).getD j 0 = L.getD j 0 :=
  goL_frame (PI.rb h r).1 o (.inl (lowc r hj))
theorem set_low {L : List Int} {i j : Nat} {x : Int} (h : i ≠ j) : (L.set i x).getD j 0 = L.getD j 0 := by
  simp only [List.getD_eq_getElem?_getD, List.getElem?_set]; rw [if_neg h]
def putOf (nt : Bool) : Option PO → Option RO
  | some ⟨.put nt' o, _, _⟩ => if nt' = nt then some o else none
  | _ => none
theorem putsOf_eq (nt : Bool) (ts : List (Option PO)) (p : Nat) : putsOf nt ts p = putOf nt (ts.getD p none) := by
  unfold putsOf putOf; split <;> simp_all
theorem ts_set {ts : List (Option PO)} {p q : Nat} {x : Option PO} (lt : ts.length = 3) (hp : p < 3) : (ts.set p x).getD q none = if q = p then x else ts.getD q none := getD_set _ _ _ _ _ (by omega)
theorem puts_set {ts : List (Option PO)} {p : Nat} {x : Option PO} (lt : ts.length = 3) (hp : p < 3) (nt : Bool) (q : Nat) : putsOf nt (ts.set p x) q = upP (putsOf nt ts) p (putOf nt x) q := by
  rw [putsOf_eq, ts_set lt hp]; unfold upP; split
  · rfl
  · rw [putsOf_eq]
/-- the cells of no ring change -/
theorem rings_low {B : PB} {K K' : Nat} {w : OW} {hs : Bool → List Tq} {f k : Bool → Nat} (C : ∀ r, RQ (B.rb r) (B.rn r) K w.L (hs r) (f r) (k r) (putsOf r w.ts) (takeOf r w.wk)) (hK : K ≤ K') {L' : List Int} (hl : L'.length = w.L.length) (hj : ∀ j, B.b + 2 ≤ j → L'.getD j 0 = w.L.getD j 0) {ts' : List (Option PO)} {wk' : Option PO} (hp : ∀ r p, p < 3 → putsOf r ts' p = putsOf r w.ts p) (ht : ∀ r, takeOf r wk' = takeOf r w.wk) :
    ∀ r, RQ (B.rb r) (B.rn r) K' L' (hs r) (f r) (k r) (putsOf r ts') (takeOf r wk') := fun r => by
  rw [ht r]
  exact RQ.congr ((C r).frame hl (fun j h1 _ => hj j (by have : B.b + 2 ≤ B.rb r := by cases r <;> simp [PB.rb] <;> omega
                                                         omega)) hK) (hp r)
/-- who tells is at something else now: all else is as it was, but for the tickets -/
theorem OIn.told {B : PB} {K M : Nat} {w : OW} {hs : Bool → List Tq} {f k : Bool → Nat} (C : OIn B K M w hs f k) {p : Nat} (hp : p < 3) {L' : List Int} (hl : L'.length = w.L.length) (hli : LI L') (hst : L'.getD 0 0 = w.L.getD 0 0)
    {hs' : Bool → List Tq} {x : Option PO} (hx : TellOK x) (hr : ∀ r, RQ (B.rb r) (B.rn r) (K + 1) L' (hs' r) (f r) (k r) (upP (putsOf r w.ts) p (putOf r x)) (takeOf r w.wk)) (i : Int)
    (hi : i + (if seeing x = true then 1 else 0 : Nat) + (finQ (hs false) + finQ (hs true) : Nat) = (if seeing (w.ts.getD p none) = true then 1 else 0 : Nat) + (finQ (hs' false) + finQ (hs' true) : Nat))
    (hc : w.L.getD 0 0 = 0 → seeing x = true ∨ (seeing (w.ts.getD p none) = false ∧ ∀ r u, fullQ (hs' r) u → fullQ (hs r) u)) :
    OIn B (K + 1) M { w with L := L', ts := w.ts.set p x, inn := w.inn + i } hs' f k where
  pi := ⟨C.pi.m1, C.pi.m64, C.pi.n1, C.pi.n64, by show _ ≤ L'.length; rw [hl]; exact C.pi.len, by show L'.length ≤ _; rw [hl]; exact C.pi.top⟩
  b0 := C.b0
  li := hli
  lt := by show (w.ts.set p x).length = 3; simp [C.lt]
  ln := C.ln
  nx := fun q hq => ⟨(C.nx q hq).1, Int.le_trans (C.nx q hq).2 (by omega)⟩
  most := C.most
  state := by
    have h := C.state
    show (L'.getD 0 0 = 0 ∧ _) ∨ (L'.getD 0 0 = 1 ∧ _) ∨ (L'.getD 0 0 = 2 ∧ _)
    rw [hst]; exact h
  ring := fun r => RQ.congr (hr r) (fun q _ => puts_set C.lt hp r q)
  tell := fun q hq => by
    show TellOK ((w.ts.set p x).getD q none)
    rw [ts_set C.lt hp]; split
    · exact hx
    · exact C.tell q hq
  set := C.set
  cover := fun h0 r hf => by
    have h0 : L'.getD 0 0 = 0 := h0
    rw [hst] at h0
    rcases hc h0 with h1 | ⟨h1, h2⟩
    · exact .inl ⟨p, hp, by show seeing ((w.ts.set p x).getD p none) = true; rw [ts_set C.lt hp, if_pos rfl]; exact h1⟩
    · rcases C.cover h0 r (h2 r _ hf) with ⟨q, hq, h3⟩ | h3
      · refine .inl ⟨q, hq, ?_⟩
        show seeing ((w.ts.set p x).getD q none) = true
        have hne : q ≠ p := fun e => by subst e; rw [h1] at h3; cases h3
        rw [ts_set C.lt hp, if_neg hne]; exact h3
      · exact .inr h3
  inn := by
    have h1 := C.inn
    have h2 := countP_set' seeing none w.ts p x (by rw [C.lt]; exact hp)
    show w.inn + i + ((w.ts.set p x).countP seeing : Nat) = _
    omega
  got := C.got
  few := C.few
theorem po_go {B : PB} {L : List Int} {ph : Ph} : goPL B L ⟨ph, 0, 0⟩ = (stepP B L ph).1 ∧ goPO B L ⟨ph, 0, 0⟩ = (stepP B L ph).2 := ⟨rfl, rfl⟩
/-- how far one who tells is from his end -/
def ndo : Option RO → Nat
  | some o => if o.pc ≤ 2 then 1 else 0
  | none => 0
def ndr (r : Bool) (ts : List (Option PO)) (q : Nat) : Nat := ndo (putsOf r ts q)
def nds (r : Bool) (p : Nat) (ts : List (Option PO)) : Nat := (if p = 0 then 0 else ndr r ts 0) + (if p = 1 then 0 else ndr r ts 1) + (if p = 2 then 0 else ndr r ts 2)
def phi (w : OW) (hs : Bool → List Tq) (p : Nat) : Nat :=
  match w.ts.getD p none with
  | none => 0
  | some ⟨.put r o, _, _⟩ => rk (hs r).length o + 3 * nds r p w.ts + 4
  | some ⟨.see _, _, _⟩ => if w.L.getD 0 0 = 0 then 3 else 1
  | some _ => 2
theorem OIn.put {B : PB} {K M : Nat} {w : OW} {hs : Bool → List Tq} {f k : Bool → Nat} (C : OIn B K M w hs f k) (hK : K < 90000) {p : Nat} (hp : p < 3) {nt : Bool} {o : RO} (hts : w.ts.getD p none = some ⟨.put nt o, 0, 0⟩) (hoi : OI o) :
    ∃ hs' x, OIn B (K + 1) M (tellGo B p ⟨.put nt o, 0, 0⟩ w) hs' f k ∧ (∀ r, r ≠ nt → hs' r = hs r) ∧ (tellGo B p ⟨.put nt o, 0, 0⟩ w).ts = w.ts.set p x ∧ (tellGo B p ⟨.put nt o, 0, 0⟩ w).L.getD 0 0 = w.L.getD 0 0 ∧
      ((x = none ∧ hs' = hs) ∨ (x = some ⟨.see nt, 0, 0⟩ ∧ (hs' nt).length = (hs nt).length) ∨ ∃ o', x = some ⟨.put nt o', 0, 0⟩ ∧ rk (hs' nt).length o' < rk (hs nt).length o ∧ (hs' = hs ∨ ((hs' nt).length = (hs nt).length + 1 ∧ o.pc = 2 ∧ o'.pc = 3)) ∧ (o.pc ≥ 3 → o'.pc ≥ 3)) := by
  have hpo : putsOf nt w.ts p = some o := by rw [putsOf_eq, hts]; simp [putOf]
  obtain ⟨h1, R1, E⟩ := (C.ring nt).put (by omega) hp hpo
  have hL := goL_in (b := B.rb nt) (n := B.rn nt) C.li hoi
  have hO := goO_in (b := B.rb nt) (n := B.rn nt) C.li hoi
  have hlen := goL_len (B.rb nt) (B.rn nt) w.L o
  have h00 : (goL (B.rb nt) (B.rn nt) w.L o).getD 0 0 = w.L.getD 0 0 := low_go C.pi nt o (by have := C.b0; omega)
  have hother : ∀ r, r ≠ nt → ∀ x, putOf r x = none → RQ (B.rb r) (B.rn r) (K + 1) (goL (B.rb nt) (B.rn nt) w.L o) (hs r) (f r) (k r) (upP (putsOf r w.ts) p (putOf r x)) (takeOf r w.wk) := fun r hr x hx => by
    have e : (!nt) = r := by cases nt <;> cases r <;> simp_all
    subst e
    refine RQ.congr ((C.ring (!nt)).frame hlen (fun j a b => goL_frame (PI.rb C.pi nt).1 o (win nt a b)) (Nat.le_succ _)) (fun q hq => ?_)
    unfold upP; split
    · rename_i e; subst e; rw [hx, putsOf_eq, hts]; cases nt <;> simp [putOf]
    · rfl
  obtain ⟨eL, eO⟩ := po_go (B := B) (L := w.L) (ph := .put nt o)
  refine ⟨fun r => if r = nt then h1 else hs r, if (goO (B.rb nt) (B.rn nt) w.L o).over then (if (goO (B.rb nt) (B.rn nt) w.L o).out = 1 then some ⟨.see nt, 0, 0⟩ else none) else some ⟨.put nt (goO (B.rb nt) (B.rn nt) w.L o), 0, 0⟩, ?_⟩
  have hsee : seeing (w.ts.getD p none) = false := by rw [hts]; rfl
  have hring : ∀ x, putOf nt x = (if (goO (B.rb nt) (B.rn nt) w.L o).over then none else some (goO (B.rb nt) (B.rn nt) w.L o)) → (∀ r, r ≠ nt → putOf r x = none) →
      ∀ r, RQ (B.rb r) (B.rn r) (K + 1) (goL (B.rb nt) (B.rn nt) w.L o) (if r = nt then h1 else hs r) (f r) (k r) (upP (putsOf r w.ts) p (putOf r x)) (takeOf r w.wk) := fun x e1 e2 r => by
    by_cases e : r = nt
    · subst e; rw [if_pos rfl, e1]; exact R1
    · rw [if_neg e]; exact hother r e x (e2 r e)
  have hfin : ∀ g : List Tq → Nat, g (if false = nt then h1 else hs false) + g (if true = nt then h1 else hs true) + g (hs nt) = g (hs false) + g (hs true) + g h1 := fun g => by cases nt <;> simp <;> omega
  unfold tellGo
  rw [eL, eO]
  simp only [stepP]
  rcases E with ⟨ho, hfq, hrk, hlk, hpc, hfu⟩ | ⟨ho, hh⟩ | ⟨ho, hfq, hle⟩
  · have hov : (goO (B.rb nt) (B.rn nt) w.L o).over = false := by simp [RO.over, ho]
    have hpv : (⟨.put nt (goO (B.rb nt) (B.rn nt) w.L o), 0, 0⟩ : PO).over = false := rfl
    simp only [hov, Bool.false_eq_true, if_false, hpv] at hring ⊢
    refine ⟨?_, fun r hr => if_neg hr, by first | trivial | rfl, h00, .inr (.inr ⟨_, by first | trivial | rfl, by simpa using hrk, ?_, hpc⟩)⟩
    · have := C.told hp hlen hL h00 (x := some ⟨.put nt (goO (B.rb nt) (B.rn nt) w.L o), 0, 0⟩) ⟨rfl, rfl, .inl ⟨_, _, rfl, hO⟩⟩ (hring _ (by simp [putOf]) (fun r hr => by simp [putOf, Ne.symm hr])) 0
        (by have h9 := hfin finQ; rw [hfq] at h9; rw [hsee]; simp only [seeing, Bool.false_eq_true, if_false]; omega) (fun _ => .inr ⟨hsee, fun r u hu => by
          by_cases e : r = nt
          · subst e; rw [if_pos rfl] at hu; exact hfu u hu
          · rw [if_neg e] at hu; exact hu⟩)
      simpa using this
    · rcases hlk with e | e
      · left; funext r; split
        · rename_i e2; rw [e2, e]
        · rfl
      · right; simpa using e
  · have hov : (goO (B.rb nt) (B.rn nt) w.L o).over = true := by simp [RO.over, ho]
    have hn1 : ¬ (goO (B.rb nt) (B.rn nt) w.L o).out = 1 := by rw [ho]; decide
    have hpv : (⟨.put nt (goO (B.rb nt) (B.rn nt) w.L o), (goO (B.rb nt) (B.rn nt) w.L o).out, 0⟩ : PO).over = true := by simp [PO.over, ho]
    simp only [hov, if_true, hn1, if_false, hpv, ho] at hring ⊢
    have hpv2 : (⟨.put nt (goO (B.rb nt) (B.rn nt) w.L o), 2, 0⟩ : PO).over = true := rfl
    try simp only [hpv2, if_true]
    have hEq : (fun r => if r = nt then h1 else hs r) = hs := by funext r; split; (rename_i e2; rw [e2, hh]); rfl
    refine ⟨?_, fun r hr => if_neg hr, rfl, h00, .inl ⟨rfl, hEq⟩⟩
    have := C.told hp hlen hL h00 (x := none) trivial (hring _ rfl (fun r hr => rfl)) 0
      (by have h9 := hfin finQ; rw [hh] at h9; rw [hsee]; simp only [seeing, Bool.false_eq_true, if_false]; rw [hh]; omega) (fun _ => .inr ⟨hsee, fun r u hu => by
        by_cases e : r = nt
        · subst e; rw [if_pos rfl, hh] at hu; exact hu
        · rw [if_neg e] at hu; exact hu⟩)
    simpa [PO.over] using this
  · have hov : (goO (B.rb nt) (B.rn nt) w.L o).over = true := by simp [RO.over, ho]
    have hpv : (⟨.see nt, 0, 0⟩ : PO).over = false := rfl
    simp only [hov, if_true, ho, hpv, Bool.false_eq_true, if_false] at hring ⊢
    refine ⟨?_, fun r hr => if_neg hr, by first | trivial | rfl, h00, .inr (.inl ⟨by first | trivial | rfl, by simpa using hle⟩)⟩
    have := C.told hp hlen hL h00 (x := some ⟨.see nt, 0, 0⟩) ⟨rfl, rfl, .inr (.inl ⟨_, rfl⟩)⟩ (hring _ rfl (fun r hr => rfl)) 0
      (by have h9 := hfin finQ; rw [hfq] at h9; rw [hsee]; simp only [seeing, Bool.false_eq_true, if_false, if_true]; omega) (fun _ => .inl rfl)
    simpa using this
theorem OIn.same {B : PB} {K M : Nat} {w : OW} {hs : Bool → List Tq} {f k : Bool → Nat} (C : OIn B K M w hs f k) {p : Nat} (hp : p < 3) {L' : List Int} (hl : L'.length = w.L.length) (hj : ∀ j, B.b + 2 ≤ j → L'.getD j 0 = w.L.getD j 0) {x : Option PO} (h0 : ∀ r, putsOf r w.ts p = none) (hx : ∀ r, putOf r x = none) :
    ∀ r, RQ (B.rb r) (B.rn r) (K + 1) L' (hs r) (f r) (k r) (upP (putsOf r w.ts) p (putOf r x)) (takeOf r w.wk) := fun r => by
  refine RQ.congr ((C.ring r).frame hl (fun j h1 _ => hj j (by have : B.b + 2 ≤ B.rb r := by cases r <;> simp [PB.rb] <;> omega
                                                               omega)) (Nat.le_succ K)) (fun q _ => ?_)
  unfold upP; split
  · rename_i e; subst e; rw [hx, h0]
  · rfl
theorem OIn.st3 {B : PB} {K M : Nat} {w : OW} {hs : Bool → List Tq} {f k : Bool → Nat} (C : OIn B K M w hs f k) : w.L.getD 0 0 = 0 ∨ w.L.getD 0 0 = 1 ∨ w.L.getD 0 0 = 2 := by
  rcases C.state with h | h | h
  · exact .inl h.1
  · exact .inr (.inl h.1)
  · exact .inr (.inr h.1)
theorem OIn.see {B : PB} {K M : Nat} {w : OW} {hs : Bool → List Tq} {f k : Bool → Nat} (C : OIn B K M w hs f k) {p : Nat} (hp : p < 3) {nt : Bool} (hts : w.ts.getD p none = some ⟨.see nt, 0, 0⟩) :
    ∃ x, OIn B (K + 1) M (tellGo B p ⟨.see nt, 0, 0⟩ w) hs f k ∧ (tellGo B p ⟨.see nt, 0, 0⟩ w).ts = w.ts.set p x ∧ (tellGo B p ⟨.see nt, 0, 0⟩ w).L = w.L ∧ (if w.L.getD 0 0 = 0 then x = some ⟨.swp nt 0, 0, 0⟩ else x = none) := by
  obtain ⟨eL, eO⟩ := po_go (B := B) (L := w.L) (ph := .see nt)
  have hput : ∀ r, putsOf r w.ts p = none := fun r => by rw [putsOf_eq, hts]; rfl
  have hsee : seeing (w.ts.getD p none) = true := by rw [hts]; rfl
  unfold tellGo
  rw [eL, eO]
  simp only [stepP, C.b0]
  by_cases h0 : w.L.getD 0 0 = 0
  · have hr : rouses nt 0 = true := by cases nt <;> rfl
    have hpv : (⟨.swp nt 0, 0, 0⟩ : PO).over = false := rfl
    simp only [h0, hr, if_true, hpv, Bool.false_eq_true, if_false]
    refine ⟨_, ?_, rfl, by first | trivial | rfl, by first | trivial | rfl⟩
    have := C.told hp rfl C.li rfl (hs' := hs) (x := some ⟨.swp nt 0, 0, 0⟩) ⟨rfl, rfl, .inr (.inr ⟨_, rfl⟩)⟩ (C.same hp rfl (fun _ _ => rfl) hput (fun _ => rfl)) 0
      (by rw [hsee]; simp only [seeing, if_true]; omega) (fun _ => .inl rfl)
    simpa using this
  · have hr : rouses nt (w.L.getD 0 0) = false := by
      rcases C.st3 with e | e | e
      · exact absurd e h0
      · rw [e]; cases nt <;> rfl
      · rw [e]; cases nt <;> rfl
    have hpv : (⟨.see nt, 1, 0⟩ : PO).over = true := rfl
    have h17 : ¬ (1 : Int) = 7 := by decide
    simp only [h0, hr, Bool.false_eq_true, if_false, hpv, if_true, true_or, h17]
    refine ⟨none, ?_, rfl, by first | trivial | rfl, by first | trivial | rfl⟩
    have := C.told hp rfl C.li rfl (hs' := hs) (x := none) trivial (C.same hp rfl (fun _ _ => rfl) hput (fun _ => rfl)) 1
      (by rw [hsee]; simp only [seeing, Bool.false_eq_true, if_true, if_false]; omega) (fun e => absurd e h0)
    simpa using this
theorem OIn.swp {B : PB} {K M : Nat} {w : OW} {hs : Bool → List Tq} {f k : Bool → Nat} (C : OIn B K M w hs f k) {p : Nat} (hp : p < 3) {nt : Bool} (hts : w.ts.getD p none = some ⟨.swp nt 0, 0, 0⟩) :
    ∃ x, OIn B (K + 1) M (tellGo B p ⟨.swp nt 0, 0, 0⟩ w) hs f k ∧ (tellGo B p ⟨.swp nt 0, 0, 0⟩ w).ts = w.ts.set p x ∧
      (if w.L.getD 0 0 = 0 then x = none ∧ (tellGo B p ⟨.swp nt 0, 0, 0⟩ w).L.getD 0 0 = 1 else x = some ⟨.see nt, 0, 0⟩ ∧ (tellGo B p ⟨.swp nt 0, 0, 0⟩ w).L = w.L) := by
  obtain ⟨eL, eO⟩ := po_go (B := B) (L := w.L) (ph := .swp nt 0)
  have hput : ∀ r, putsOf r w.ts p = none := fun r => by rw [putsOf_eq, hts]; rfl
  have hsee : seeing (w.ts.getD p none) = true := by rw [hts]; rfl
  have hlen : 0 < w.L.length := by have := C.pi.len; omega
  unfold tellGo
  rw [eL, eO]
  simp only [stepP, C.b0]
  by_cases h0 : w.L.getD 0 0 = 0
  · have hpv : (⟨.swp nt 0, 7, 0⟩ : PO).over = true := rfl
    have h71 : ¬ (7 : Int) = 1 := by decide
    simp only [h0, if_true, hpv, or_true]
    have hset : (w.L.set 0 1).getD 0 0 = 1 := by rw [getDL _ _ _ _ hlen, if_pos rfl]
    refine ⟨none, ?_, rfl, by first | trivial | rfl, hset⟩
    have hc : w.chg = 0 ∧ w.ph = 0 ∧ w.wk = none := by
      rcases C.state with h | h | h
      · exact h.2
      · omega
      · omega
    have hrg := C.same (L' := w.L.set 0 1) (x := none) hp (by simp) (fun j hj => set_low (by omega)) hput (fun _ => rfl)
    have h2 := countP_set' seeing none w.ts p none (by rw [C.lt]; exact hp)
    rw [hsee] at h2
    simp only [seeing, if_true, Bool.false_eq_true, if_false] at h2
    have hin := C.inn
    have hm := C.most
    exact {
      pi := ⟨C.pi.m1, C.pi.m64, C.pi.n1, C.pi.n64, by show _ ≤ (w.L.set 0 1).length; rw [List.length_set]; exact C.pi.len, by show (w.L.set 0 1).length ≤ _; rw [List.length_set]; exact C.pi.top⟩
      b0 := C.b0
      li := C.li.set _ _ (by decide)
      lt := by show (w.ts.set p none).length = 3; simp [C.lt]
      ln := C.ln
      nx := fun q hq => ⟨(C.nx q hq).1, Int.le_trans (C.nx q hq).2 (by omega)⟩
      most := by
        show 0 ≤ (if w.most < w.chg + 1 then w.chg + 1 else w.most) ∧ (if w.most < w.chg + 1 then w.chg + 1 else w.most) ≤ 1
        split <;> omega
      state := .inr (.inl ⟨hset, by show w.chg + 1 = 1; omega, hc.2.1, hc.2.2⟩)
      ring := fun r => RQ.congr (hrg r) (fun q _ => puts_set C.lt hp r q)
      tell := fun q hq => by
        show TellOK ((w.ts.set p none).getD q none)
        rw [ts_set C.lt hp]; split
        · trivial
        · exact C.tell q hq
      set := C.set
      cover := fun e => by
        have e : (w.L.set 0 1).getD 0 0 = 0 := e
        rw [hset] at e; cases e
      inn := by show w.inn + 1 + ((w.ts.set p none).countP seeing : Nat) = _; omega
      got := C.got
      few := C.few }
  · have hpv : (⟨.see nt, 0, 0⟩ : PO).over = false := rfl
    simp only [h0, if_false, hpv, Bool.false_eq_true]
    refine ⟨_, ?_, rfl, by first | trivial | rfl, by first | trivial | rfl⟩
    have := C.told hp rfl C.li rfl (hs' := hs) (x := some ⟨.see nt, 0, 0⟩) ⟨rfl, rfl, .inr (.inl ⟨_, rfl⟩)⟩ (C.same hp rfl (fun _ _ => rfl) hput (fun _ => rfl)) 0
      (by rw [hsee]; simp only [seeing, if_true]; omega) (fun _ => .inl rfl)
    simpa using this
theorem OIn.more {B : PB} {K K' M M' : Nat} {w : OW} {hs : Bool → List Tq} {f k : Bool → Nat} (C : OIn B K M w hs f k) (h : K ≤ K') (h2 : M ≤ M') : OIn B K' M' w hs f k :=
  { C with nx := fun p hp => ⟨(C.nx p hp).1, Int.le_trans (C.nx p hp).2 (by omega)⟩, ring := fun r => (C.ring r).frame rfl (fun _ _ _ => rfl) h, few := Int.le_trans C.few (by omega) }
theorem OIn.tellGo {B : PB} {K M : Nat} {w : OW} {hs : Bool → List Tq} {f k : Bool → Nat} (C : OIn B K M w hs f k) (hK : K < 90000) {p : Nat} (hp : p < 3) {po : PO} (hts : w.ts.getD p none = some po) :
    ∃ hs', OIn B (K + 1) M (tellGo B p po w) hs' f k := by
  have h := C.tell p hp
  rw [hts] at h
  obtain ⟨h1, h2, h3⟩ := h
  obtain ⟨ph, out, val⟩ := po
  dsimp only at h1 h2 h3
  subst h1 h2
  rcases h3 with ⟨nt, o, e, ho⟩ | ⟨nt, e⟩ | ⟨nt, e⟩
  · subst e; obtain ⟨hs', x, h, _⟩ := C.put hK hp hts ho; exact ⟨hs', h⟩
  · subst e; obtain ⟨x, h, _⟩ := C.see hp hts; exact ⟨hs, h⟩
  · subst e; obtain ⟨x, h, _⟩ := C.swp hp hts; exact ⟨hs, h⟩
theorem tellGo_set (B : PB) (p : Nat) (po : PO) (w : OW) (x : Option PO) : Post.tellGo B p po { w with ts := w.ts.set p x } = Post.tellGo B p po w := by
  unfold Post.tellGo; dsimp only
  split
  · split <;> split <;> simp [OW.charge, List.set_set]
  · simp [List.set_set]
theorem OIn.tellStep {B : PB} {K M : Nat} {w : OW} {hs : Bool → List Tq} {f k : Bool → Nat} (C : OIn B K M w hs f k) (hK : K < 80000) {p : Nat} (hp : p < 3) (nt more : Bool) :
    ∃ hs', OIn B (K + 2) M (tellStep B p nt more w) hs' f k := by
  unfold Post.tellStep
  cases hts : w.ts.getD p none with
  | some po => dsimp only; obtain ⟨hs', h⟩ := C.tellGo (by omega) hp hts; exact ⟨hs', h.more (by omega) (Nat.le_refl _)⟩
  | none =>
    dsimp only
    cases more with
    | false => exact ⟨hs, C.more (by omega) (Nat.le_refl _)⟩
    | true =>
      rw [if_pos rfl, ← tellGo_set B p _ _ (some ⟨.put nt (ini 0 (w.nx.getD p 0 + 1)), 0, 0⟩)]
      have hnx := C.nx p hp
      have hput : ∀ r, putsOf r w.ts p = none := fun r => by rw [putsOf_eq, hts]; rfl
      have h2 := countP_set' seeing none w.ts p (some ⟨.put nt (ini 0 (w.nx.getD p 0 + 1)), 0, 0⟩) (by rw [C.lt]; exact hp)
      rw [hts] at h2
      simp only [seeing, Bool.false_eq_true, if_false] at h2
      have C1 : OIn B (K + 1) M { w with nx := w.nx.set p (w.nx.getD p 0 + 1), ts := w.ts.set p (some ⟨.put nt (ini 0 (w.nx.getD p 0 + 1)), 0, 0⟩) } hs f k := {
        C with
        lt := by show (w.ts.set p _).length = 3; simp [C.lt]
        ln := by show (w.nx.set p _).length = 3; simp [C.ln]
        nx := fun q hq => by
          show 0 ≤ (w.nx.set p (w.nx.getD p 0 + 1)).getD q 0 ∧ (w.nx.set p (w.nx.getD p 0 + 1)).getD q 0 ≤ _
          rw [getDL _ _ _ _ (by rw [C.ln]; exact hp)]
          have := C.nx q hq
          split <;> omega
        ring := fun r => by
          have R1 := (C.ring r).frame (B' := K + 1) rfl (fun _ _ _ => rfl) (Nat.le_succ K)
          by_cases e : nt = r
          · exact RQ.congr (R1.begun hp (hput r) (w.nx.getD p 0 + 1)) (fun q _ => by rw [puts_set C.lt hp]; subst e; simp [putOf, ini])
          · refine RQ.congr R1 (fun q _ => ?_)
            rw [puts_set C.lt hp]; unfold upP; split
            · rename_i e2; subst e2; rw [hput]; simp [putOf, e]
            · rfl
        tell := fun q hq => by
          show TellOK ((w.ts.set p _).getD q none)
          rw [ts_set C.lt hp]; split
          · exact ⟨rfl, rfl, .inl ⟨_, _, rfl, OI_ini (by decide) (by omega)⟩⟩
          · exact C.tell q hq
        cover := fun h0 r hf => by
          rcases C.cover h0 r hf with ⟨q, hq, h3⟩ | h3
          · refine .inl ⟨q, hq, ?_⟩
            show seeing ((w.ts.set p _).getD q none) = true
            have hne : q ≠ p := fun e => by subst e; rw [hts] at h3; cases h3
            rw [ts_set C.lt hp, if_neg hne]; exact h3
          · exact .inr h3
        inn := by have := C.inn; show w.inn + ((w.ts.set p _).countP seeing : Nat) = _; omega }
      obtain ⟨hs', h⟩ := C1.tellGo (by omega) hp (po := ⟨.put nt (ini 0 (w.nx.getD p 0 + 1)), 0, 0⟩) (by show (w.ts.set p _).getD p none = _; rw [ts_set C.lt hp, if_pos rfl])
      exact ⟨hs', h⟩
/-- what stays when who is charged makes a step -/
theorem OIn.work {B : PB} {K M : Nat} {w : OW} {hs : Bool → List Tq} {f k f' k' : Bool → Nat} (C : OIn B K M w hs f k) {L' : List Int} (hl : L'.length = w.L.length) (hli : LI L') (hst : L'.getD 0 0 ≠ 0) {wk' : Option PO} {ph' got' : Int} (hstate : (L'.getD 0 0 = 1 ∧ w.chg = 1 ∧ ph' = 0 ∧ wk' = none) ∨
    (L'.getD 0 0 = 2 ∧ w.chg = 1 ∧ ((ph' = 1 ∧ (wk' = none ∨ ∃ o, wk' = some ⟨.of true o, 0, 0⟩ ∧ OI o)) ∨ (ph' = 2 ∧ (wk' = none ∨ ∃ o, wk' = some ⟨.of false o, 0, 0⟩ ∧ OI o)) ∨ (ph' = 3 ∧ wk' = none))))
    (hr : ∀ r, RQ (B.rb r) (B.rn r) K L' (hs r) (f' r) (k' r) (putsOf r w.ts) (takeOf r wk')) (hg : got' = (k' false + k' true : Nat)) (hph : ph' ≤ w.ph + 1) :
    OIn B K (M + 1) { w with L := L', wk := wk', ph := ph', got := got' } hs f' k' where
  pi := ⟨C.pi.m1, C.pi.m64, C.pi.n1, C.pi.n64, by show _ ≤ L'.length; rw [hl]; exact C.pi.len, by show L'.length ≤ _; rw [hl]; exact C.pi.top⟩
  b0 := C.b0
  li := hli
  lt := C.lt
  ln := C.ln
  nx := C.nx
  most := C.most
  state := .inr hstate
  ring := hr
  tell := C.tell
  set := C.set
  cover := fun h0 => absurd h0 hst
  inn := C.inn
  got := hg
  few := by have := C.few; show 4 * (w.se.length : Int) + ph' ≤ _; omega
theorem OIn.takeGo {B : PB} {K M : Nat} {w : OW} {hs : Bool → List Tq} {f k : Bool → Nat} (C : OIn B K M w hs f k) (hK : K < 90000) {r : Bool} {o : RO} (ho : OI o) (hst : w.L.getD 0 0 = 2) (hch : w.chg = 1) (hph : w.ph = if r = true then 1 else 2)
    (hr0 : ∀ x, RQ (B.rb x) (B.rn x) K w.L (hs x) (f x) (k x) (putsOf x w.ts) (takeOf x (some ⟨.of r o, 0, 0⟩))) :
    ∃ f' k', OIn B K (M + 1) (runGo B ⟨.of r o, 0, 0⟩ w) hs f' k' := by
  have hR := hr0 r
  rw [show takeOf r (some ⟨.of r o, 0, 0⟩) = some o by simp [takeOf]] at hR
  obtain ⟨f1, h1, R1, E⟩ := hR.take (by omega)
  have hL := goL_in (b := B.rb r) (n := B.rn r) C.li ho
  have hO := goO_in (b := B.rb r) (n := B.rn r) C.li ho
  have hlen := goL_len (B.rb r) (B.rn r) w.L o
  have h00 : (goL (B.rb r) (B.rn r) w.L o).getD 0 0 = 2 := by rw [low_go C.pi r o (by have := C.b0; omega), hst]
  have hne : (goL (B.rb r) (B.rn r) w.L o).getD 0 0 ≠ 0 := by rw [h00]; decide
  obtain ⟨eL, eO⟩ := po_go (B := B) (L := w.L) (ph := .of r o)
  have hring : ∀ wk', takeOf r wk' = (if (goO (B.rb r) (B.rn r) w.L o).over then none else some (goO (B.rb r) (B.rn r) w.L o)) → takeOf (!r) wk' = none →
      ∀ x, RQ (B.rb x) (B.rn x) K (goL (B.rb r) (B.rn r) w.L o) (hs x) (if x = r then f1 else f x) (if x = r then h1 else k x) (putsOf x w.ts) (takeOf x wk') := fun wk' e1 e2 x => by
    by_cases e : x = r
    · subst e; rw [if_pos rfl, if_pos rfl, e1]; exact R1
    · have e3 : x = !r := by cases x <;> cases r <;> simp_all
      rw [if_neg e, if_neg e]
      have h := hr0 x
      subst e3
      rw [show takeOf (!r) (some ⟨.of r o, 0, 0⟩) = none by cases r <;> simp [takeOf]] at h
      rw [e2]
      exact h.frame hlen (fun j a b => goL_frame (PI.rb C.pi r).1 o (win r a b)) (Nat.le_refl _)
  have hgot := C.got
  have hk : ((if false = r then h1 else k false) + (if true = r then h1 else k true) : Nat) + k r = k false + k true + h1 := by cases r <;> simp <;> omega
  refine ⟨fun x => if x = r then f1 else f x, fun x => if x = r then h1 else k x, ?_⟩
  unfold runGo
  rw [eL, eO]
  simp only [stepP]
  rcases E with ⟨e0, _, e2⟩ | ⟨e0, _, e2, _⟩ | ⟨e0, _, e2⟩
  · have hov : (goO (B.rb r) (B.rn r) w.L o).over = false := by simp [RO.over, e0]
    have hpv : (⟨.of r (goO (B.rb r) (B.rn r) w.L o), 0, 0⟩ : PO).over = false := rfl
    simp only [hov, Bool.false_eq_true, if_false, hpv] at hring ⊢
    exact C.work hlen hL hne (.inr ⟨h00, hch, by cases r <;> simp_all⟩) (hring _ (by simp [takeOf]) (by cases r <;> simp [takeOf])) (by rw [hgot]; omega) (by omega)
  · have hov : (goO (B.rb r) (B.rn r) w.L o).over = true := by simp [RO.over, e0]
    have hpv : (⟨.of r (goO (B.rb r) (B.rn r) w.L o), 4, (goO (B.rb r) (B.rn r) w.L o).value⟩ : PO).over = true := rfl
    have h41 : ¬ (4 : Int) = 1 := by decide
    simp only [hov, if_true, e0, hpv, h41, and_false, if_false] at hring ⊢
    exact C.work hlen hL hne (.inr ⟨h00, hch, by cases r <;> simp_all⟩) (hring none rfl rfl) (by rw [hgot]; omega) (by omega)
  · have hov : (goO (B.rb r) (B.rn r) w.L o).over = true := by simp [RO.over, e0]
    have hpv : (⟨.of r (goO (B.rb r) (B.rn r) w.L o), 1, (goO (B.rb r) (B.rn r) w.L o).value⟩ : PO).over = true := rfl
    have hp0 : 0 < w.ph := by rw [hph]; split <;> decide
    simp only [hov, if_true, e0, hpv, hp0, and_self] at hring ⊢
    exact C.work hlen hL hne (.inr ⟨h00, hch, by cases r <;> simp_all⟩) (hring none rfl rfl) (by rw [hgot]; omega) (by omega)
theorem OIn.runStep {B : PB} {K M : Nat} {w : OW} {hs : Bool → List Tq} {f k : Bool → Nat} (C : OIn B K M w hs f k) (hK : K < 90000) :
    ∃ f' k', OIn B K (M + 1) (runStep B w).1 hs f' k' := by
  unfold Post.runStep
  have hlen : 0 < w.L.length := by have := C.pi.len; omega
  by_cases hc : w.chg = 0
  · rw [if_pos hc]; exact ⟨f, k, C.more (Nat.le_refl _) (by omega)⟩
  rw [if_neg hc]
  rcases C.state with h | ⟨h1, h2, h3, h4⟩ | ⟨h1, h2, h3⟩
  · exact absurd h.2.1 hc
  · rw [if_neg (by omega), h4]
    dsimp only
    have e : workOf w.ph = ⟨.set 2, 0, 0⟩ := by rw [h3]; rfl
    rw [e]
    obtain ⟨eL, eO⟩ := po_go (B := B) (L := w.L) (ph := .set 2)
    refine ⟨f, k, ?_⟩
    unfold runGo
    rw [eL, eO]
    simp only [stepP, C.b0]
    have hpv : (⟨.set 2, 1, 0⟩ : PO).over = true := rfl
    have hp0 : ¬ 0 < w.ph := by omega
    simp only [hpv, if_true, hp0, false_and, if_false]
    have h20 : (w.L.set 0 2).getD 0 0 = 2 := by rw [getDL _ _ _ _ hlen, if_pos rfl]
    exact C.work (by simp) (C.li.set _ _ (by decide)) (by rw [h20]; decide) (.inr ⟨h20, h2, .inl ⟨by omega, .inl rfl⟩⟩)
      (rings_low C.ring (Nat.le_refl _) (by simp) (fun j hj => set_low (by omega)) (fun _ _ _ => rfl) (fun r => by rw [h4])) C.got (by omega)
  · rcases h3 with ⟨h3, hw⟩ | ⟨h3, hw⟩ | ⟨h3, hw⟩
    · rw [if_neg (by omega)]
      rcases hw with hw | ⟨o, hw, ho⟩
      · rw [hw]; dsimp only
        rw [show workOf w.ph = ⟨.of true (ini 5 0), 0, 0⟩ by rw [h3]; rfl]
        exact C.takeGo hK (OI_ini (by decide) (by decide)) h1 h2 (by rw [h3]; rfl) (fun x => by
          have h := C.ring x; rw [hw] at h
          cases x
          · exact h
          · exact RQ.takeBegin h)
      · rw [hw]; exact C.takeGo hK ho h1 h2 (by rw [h3]; rfl) (fun x => by have h := C.ring x; rw [hw] at h; exact h)
    · rw [if_neg (by omega)]
      rcases hw with hw | ⟨o, hw, ho⟩
      · rw [hw]; dsimp only
        rw [show workOf w.ph = ⟨.of false (ini 5 0), 0, 0⟩ by rw [h3]; rfl]
        exact C.takeGo hK (OI_ini (by decide) (by decide)) h1 h2 (by rw [h3]; rfl) (fun x => by
          have h := C.ring x; rw [hw] at h
          cases x
          · exact RQ.takeBegin h
          · exact h)
      · rw [hw]; exact C.takeGo hK ho h1 h2 (by rw [h3]; rfl) (fun x => by have h := C.ring x; rw [hw] at h; exact h)
    · rw [if_pos h3]
      obtain ⟨eL, eO⟩ := po_go (B := B) (L := w.L) (ph := .sto false)
      rw [eL, eO]
      simp only [stepP, C.b0]
      have h20 : (w.L.set 0 (stOf false)).getD 0 0 = 0 := by rw [getDL _ _ _ _ hlen, if_pos rfl]; rfl
      refine ⟨f, k, { C with
        pi := ⟨C.pi.m1, C.pi.m64, C.pi.n1, C.pi.n64, by show _ ≤ (w.L.set 0 _).length; rw [List.length_set]; exact C.pi.len, by show (w.L.set 0 _).length ≤ _; rw [List.length_set]; exact C.pi.top⟩
        li := C.li.set _ _ (by decide)
        state := .inl ⟨h20, by show w.chg - 1 = 0; omega, rfl, hw⟩
        ring := rings_low C.ring (Nat.le_refl _) (by simp) (fun j hj => set_low (by omega)) (fun _ _ _ => rfl) (fun r => rfl)
        set := fun s hs => ?_
        cover := fun _ r _ => .inr ⟨⟨.look false true (ini 12 0), 0, 0⟩, by simp, ?_⟩
        few := by have := C.few; show 4 * ((w.se ++ [_]).length : Int) + 0 ≤ _; simp; omega }⟩
      · rcases List.mem_append.1 hs with h | h
        · exact C.set s h
        · obtain rfl := List.mem_singleton.1 h
          exact ⟨rfl, rfl, .inl ⟨true, 0, 0, 0, rfl, OI_ini (by decide) (by decide)⟩⟩
      · cases r
        · exact .inl ⟨rfl, rfl⟩
        · exact .inr ⟨rfl, .inl rfl⟩
/-- the eldest Settle has gone on, or is over; the cells are as they were -/
theorem OIn.layKeep {B : PB} {K M : Nat} {w : OW} {hs : Bool → List Tq} {f k : Bool → Nat} (C : OIn B K M w hs f k) {s : PO} {r l : List PO} (hse : w.se = s :: r) (hl : l.length ≤ r.length + 1) (hr : ∀ x, x ∈ r → x ∈ l) (hset : ∀ x, x ∈ l → SetOK x)
    (hc : w.L.getD 0 0 = 0 → ∀ x, fullQ (hs x) (k x) → covers k x s → ∃ y, y ∈ l ∧ covers k x y) : OIn B K M { w with se := l } hs f k :=
  { C with
    set := hset
    cover := fun h0 x hf => by
      rcases C.cover h0 x hf with h | ⟨y, hy, h⟩
      · exact .inl h
      · rw [hse] at hy
        rcases List.mem_cons.1 hy with e | e
        · subst e; exact .inr (hc h0 x hf h)
        · exact .inr ⟨y, hr y e, h⟩
    few := by have := C.few; rw [hse] at this; simp only [List.length_cons] at this; show 4 * (l.length : Int) + w.ph ≤ _; omega }
theorem OIn.layStep {B : PB} {K M : Nat} {w : OW} {hs : Bool → List Tq} {f k : Bool → Nat} (C : OIn B K M w hs f k) (hK : K < 90000) : OIn B K M (layStep B w).1 hs f k := by
  unfold Post.layStep
  cases hse : w.se with
  | nil => exact C
  | cons s r =>
    dsimp only
    have hS := C.set s (by rw [hse]; exact List.mem_cons_self)
    have hall : ∀ x, x ∈ r → SetOK x := fun x hx => C.set x (by rw [hse]; exact List.mem_cons_of_mem _ hx)
    obtain ⟨ph, out, val⟩ := s
    obtain ⟨h1, h2, h3⟩ := hS
    dsimp only at h1 h2 h3
    subst h1 h2
    have htk : w.L.getD 0 0 = 0 → w.wk = none := fun h => by
      rcases C.state with h' | h' | h'
      · exact h'.2.2.2
      · omega
      · omega
    rcases h3 with ⟨x, a, b, c, e, ho⟩ | ⟨x, a, b, c, e, ho⟩ | e
    · subst e
      obtain ⟨eL, eO⟩ := po_go (B := B) (L := w.L) (ph := .look false x ⟨12, 0, a, b, c⟩)
      obtain ⟨l1, l2⟩ := look12 (C.ring x) a b c
      rw [eL, eO]
      simp only [stepP, l1, l2]
      have hov : (⟨13, 0, a, b, (k x : Int)⟩ : RO).over = false := rfl
      have hpv : (⟨.look false x ⟨13, 0, a, b, (k x : Int)⟩, 0, 0⟩ : PO).over = false := rfl
      simp only [hov, hpv, Bool.false_eq_true, if_false]
      have ho' := goO_in (b := B.rb x) (n := B.rn x) C.li ho
      rw [l2] at ho'
      have := C.layKeep hse (l := ⟨.look false x ⟨13, 0, a, b, (k x : Int)⟩, 0, 0⟩ :: r) (by simp) (fun y hy => List.mem_cons_of_mem _ hy)
        (fun y hy => by
          rcases List.mem_cons.1 hy with e | e
          · subst e; exact ⟨rfl, rfl, .inr (.inl ⟨x, a, b, _, rfl, ho'⟩)⟩
          · exact hall y e)
        (fun _ z _ hz => ⟨_, List.mem_cons_self, by
          rcases hz with hz | hz
          · exact .inl hz
          · exact .inr ⟨hz.1, .inr (by rw [hz.1])⟩⟩)
      simpa using this
    · subst e
      obtain ⟨eL, eO⟩ := po_go (B := B) (L := w.L) (ph := .look false x ⟨13, 0, a, b, c⟩)
      obtain ⟨l1, l2⟩ := look13 (b := B.rb x) (n := B.rn x) (L := w.L) a b c
      rw [eL, eO]
      simp only [stepP, l1, l2]
      by_cases hf : w.L.getD (tn (B.rb x) (B.rn x) c) 0 = uw (wt (B.rn x) c + 1)
      · have hov : (⟨7, 1, a, b, c⟩ : RO).over = true := rfl
        have hpv : (⟨.more false, 0, 0⟩ : PO).over = false := rfl
        simp only [if_pos hf, hov, hpv, if_true, Bool.false_eq_true, if_false]
        have := C.layKeep hse (l := ⟨.more false, 0, 0⟩ :: r) (by simp) (fun y hy => List.mem_cons_of_mem _ hy)
          (fun y hy => by
            rcases List.mem_cons.1 hy with e | e
            · subst e; exact ⟨rfl, rfl, .inr (.inr rfl)⟩
            · exact hall y e)
          (fun _ z _ _ => ⟨_, List.mem_cons_self, trivial⟩)
        simpa using this
      · have hov : (⟨7, 4, a, b, c⟩ : RO).over = true := rfl
        have h41 : ¬ (4 : Int) = 1 := by decide
        have hno : w.L.getD 0 0 = 0 → c = (k x : Int) → ¬ fullQ (hs x) (k x) := fun h0 hck hfull => by
          have hR := C.ring x
          rw [htk h0] at hR
          have hfk : f x = k x := hR.tok
          exact hf (by rw [hck]; exact (turnAt hR (by omega) hfk).2 hfull)
        cases x with
        | true =>
          have hpv : (⟨.look false false (ini 12 0), 0, 0⟩ : PO).over = false := rfl
          simp only [if_neg hf, hov, if_true, h41, if_false, Bool.not_false, Bool.and_self, hpv, Bool.false_eq_true]
          have := C.layKeep hse (l := ⟨.look false false (ini 12 0), 0, 0⟩ :: r) (by simp) (fun y hy => List.mem_cons_of_mem _ hy)
            (fun y hy => by
              rcases List.mem_cons.1 hy with e | e
              · subst e; exact ⟨rfl, rfl, .inl ⟨false, 0, 0, 0, rfl, OI_ini (by decide) (by decide)⟩⟩
              · exact hall y e)
            (fun h0 z hfz hz => ⟨_, List.mem_cons_self, by
              rcases hz with hz | hz
              · exact .inr ⟨hz.2.symm, .inl rfl⟩
              · exfalso
                obtain ⟨e1, e2⟩ := hz
                subst e1
                rcases e2 with e2 | e2
                · cases e2
                · exact hno h0 e2 hfz⟩)
          simpa using this
        | false =>
          have hpv : (⟨.look false false ⟨7, 4, a, b, c⟩, 4, 0⟩ : PO).over = true := rfl
          have h48 : ¬ (4 : Int) = 8 := by decide
          simp only [if_neg hf, hov, if_true, h41, if_false, Bool.false_and, Bool.false_eq_true, hpv, h48]
          have := C.layKeep hse (l := r) (by omega) (fun y hy => hy) hall
            (fun h0 z hfz hz => by
              exfalso
              rcases hz with hz | hz
              · exact absurd hz.1 (by decide)
              · obtain ⟨e1, e2⟩ := hz
                subst e1
                rcases e2 with e2 | e2
                · cases e2
                · exact hno h0 e2 hfz)
          simpa using this
    · subst e
      obtain ⟨eL, eO⟩ := po_go (B := B) (L := w.L) (ph := .more false)
      rw [eL, eO]
      simp only [stepP, C.b0, stOf, Bool.false_eq_true, if_false]
      have hlen : 0 < w.L.length := by have := C.pi.len; omega
      by_cases h0 : w.L.getD 0 0 = 0
      · have hpv : (⟨.more false, 8, 0⟩ : PO).over = true := rfl
        simp only [h0, if_true, hpv]
        have hset : (w.L.set 0 1).getD 0 0 = 1 := by rw [getDL _ _ _ _ hlen, if_pos rfl]
        have hc : w.chg = 0 ∧ w.ph = 0 ∧ w.wk = none := by
          rcases C.state with h | h | h
          · exact h.2
          · omega
          · omega
        have hm := C.most
        exact { C with
          pi := ⟨C.pi.m1, C.pi.m64, C.pi.n1, C.pi.n64, by show _ ≤ (w.L.set 0 _).length; rw [List.length_set]; exact C.pi.len, by show (w.L.set 0 _).length ≤ _; rw [List.length_set]; exact C.pi.top⟩
          li := C.li.set _ _ (by decide)
          most := by
            show 0 ≤ (if w.most < w.chg + 1 then w.chg + 1 else w.most) ∧ (if w.most < w.chg + 1 then w.chg + 1 else w.most) ≤ 1
            split <;> omega
          state := .inr (.inl ⟨hset, by show w.chg + 1 = 1; omega, hc.2.1, hc.2.2⟩)
          ring := rings_low C.ring (Nat.le_refl _) (by simp) (fun j hj => set_low (by omega)) (fun _ _ _ => rfl) (fun r => rfl)
          set := hall
          cover := fun e => by
            have e : (w.L.set 0 1).getD 0 0 = 0 := e
            rw [hset] at e; cases e
          few := by have := C.few; rw [hse] at this; simp only [List.length_cons] at this; show 4 * (r.length : Int) + w.ph ≤ _; omega }
      · have hpv : (⟨.more false, 1, 0⟩ : PO).over = true := rfl
        have h18 : ¬ (1 : Int) = 8 := by decide
        simp only [h0, if_false, hpv, if_true, h18]
        have := C.layKeep hse (l := r) (by omega) (fun y hy => hy) hall (fun e => absurd e h0)
        simpa using this
end Go.L.Post
