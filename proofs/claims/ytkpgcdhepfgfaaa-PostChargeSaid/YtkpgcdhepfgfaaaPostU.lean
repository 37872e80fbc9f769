/-
  PostCharge on paper: the two last phases. Own work; no program.
-/
import Derived.Test.YtkpgcdhepfgfaaaPostV
namespace Go.L.Post
open Go.L Go.L.Ring
/-- so many steps of those who tell, in turn; nothing new is begun -/
def quietN (B : PB) : Nat → OW → OW
  | 0, w => w
  | n + 1, w => tellStep B (n % 3) false false (quietN B n w)
theorem OIn.quiet {B : PB} {K M : Nat} {w : OW} {hs : Bool → List Tq} {f k : Bool → Nat} (C : OIn B K M w hs f k) : ∀ n, K + n < 90000 →
    ∃ hs', OIn B (K + n) M (quietN B n w) hs' f k ∧ ∀ p, p < 3 → (quietN B n w).ts.getD p none = none ∨ phi (quietN B n w) hs' p + (n + 2 - p) / 3 ≤ 17
  | 0, _ => ⟨hs, C, fun p hp => .inr (by have := phi_17 w hs hp; show phi w hs p + _ ≤ 17; omega)⟩
  | n + 1, hK => by
    obtain ⟨hs', C', h⟩ := OIn.quiet C n (by omega)
    have hq : n % 3 < 3 := Nat.mod_lt _ (by decide)
    simp only [quietN]
    cases hts : (quietN B n w).ts.getD (n % 3) none with
    | none =>
      have e : Post.tellStep B (n % 3) false false (quietN B n w) = quietN B n w := by unfold Post.tellStep; rw [hts]; rfl
      rw [e]
      refine ⟨hs', C'.more (by omega) (Nat.le_refl _), fun p hp => ?_⟩
      by_cases e2 : p = n % 3
      · subst e2; exact .inl hts
      · rcases h p hp with h1 | h1
        · exact .inl h1
        · right; omega
    | some po =>
      have e : Post.tellStep B (n % 3) false false (quietN B n w) = Post.tellGo B (n % 3) po (quietN B n w) := by unfold Post.tellStep; rw [hts]
      rw [e]
      obtain ⟨hs2, C2, h2, h3⟩ := C'.nearer (by omega) hq hts
      refine ⟨hs2, by rw [← Nat.add_assoc]; exact C2, fun p hp => ?_⟩
      by_cases e2 : p = n % 3
      · subst e2
        rcases h2 with h2 | h2
        · exact .inl h2
        · rcases h _ hp with h1 | h1
          · rw [hts] at h1; cases h1
          · right; omega
      · obtain ⟨h4, h5⟩ := h3 p hp e2
        rcases h p hp with h1 | h1
        · exact .inl (h5.2 h1)
        · right; omega
theorem OIn.quiet_end {B : PB} {K M : Nat} {w : OW} {hs : Bool → List Tq} {f k : Bool → Nat} (C : OIn B K M w hs f k) (hK : K + 100 < 90000) :
    ∃ hs', OIn B (K + 100) M (quietN B 100 w) hs' f k ∧ ∀ p, p < 3 → (quietN B 100 w).ts.getD p none = none := by
  obtain ⟨hs', C', h⟩ := C.quiet 100 hK
  refine ⟨hs', C', fun p hp => ?_⟩
  rcases h p hp with h1 | h1
  · exact h1
  · by_cases e : (quietN B 100 w).ts.getD p none = none
    · exact e
    · have := phi_pos (hs := hs') e; omega
/-! ### nobody tells any more -/
def itm (B : PB) (L : List Int) (r : Bool) : Nat := (L.getD (B.rb r) 0 - L.getD (B.rb r + 1) 0).toNat
def spent : Option PO → Nat
  | some ⟨.of _ o, _, _⟩ => o.pc - 5
  | _ => 0
def items (B : PB) (L : List Int) : Nat := itm B L false + itm B L true
def cst (B : PB) (w : OW) : Nat :=
  if w.chg = 0 then 0 else if w.ph = 0 then 11 else if w.ph = 1 then 10 - spent w.wk else if w.ph = 2 then (if 0 < itm B w.L true then 20 else 8) - spent w.wk else if 0 < items B w.L then 18 else 6
def ownS (s : PO) : Nat :=
  match s.ph with
  | .look _ true o => if o.pc = 12 then 5 else 4
  | .look _ false o => if o.pc = 12 then 3 else 2
  | _ => 1
def extS (n : Nat) (s : PO) : Nat :=
  match s.ph with
  | .more _ => 12
  | _ => if 0 < n then 12 else 0
def sesS (n : Nat) (l : List PO) : Nat := (l.map fun s => ownS s + extS n s).sum
def pot (B : PB) (w : OW) : Nat := cst B w + 5 * items B w.L + sesS (items B w.L) w.se
theorem extS_mono {n m : Nat} (h : n ≤ m) (s : PO) : extS n s ≤ extS m s := by
  unfold extS; split
  · exact Nat.le_refl _
  · (repeat' split) <;> omega
theorem sesS_mono {n m : Nat} (h : n ≤ m) : ∀ l, sesS n l ≤ sesS m l
  | [] => Nat.le_refl _
  | s :: l => by have := sesS_mono h l; have := extS_mono h s; simp only [sesS, List.map_cons, List.sum_cons] at *; omega
theorem sesS_cons (n : Nat) (s : PO) (l : List PO) : sesS n (s :: l) = ownS s + extS n s + sesS n l := rfl
theorem sesS_app (n : Nat) (l : List PO) (s : PO) : sesS n (l ++ [s]) = sesS n l + (ownS s + extS n s) := by simp [sesS]
theorem ownS_5 (s : PO) : ownS s ≤ 5 := by unfold ownS; (repeat' split) <;> omega
theorem extS_12 (n : Nat) (s : PO) : extS n s ≤ 12 := by unfold extS; (repeat' split) <;> omega
theorem sesS_17 (n : Nat) : ∀ l, sesS n l ≤ 17 * l.length
  | [] => Nat.le_refl _
  | s :: l => by have := sesS_17 n l; have := ownS_5 s; have := extS_12 n s; rw [sesS_cons, List.length_cons]; omega
theorem RQ.itm {b n K : Nat} {L : List Int} {hs : List Tq} {f h : Nat} {ps : Nat → Option RO} {tk : Option RO} (C : RQ b n K L hs f h ps tk) : (L.getD b 0 - L.getD (b + 1) 0).toNat = hs.length - h ∧ h ≤ hs.length ∧ hs.length - h ≤ n + 1 := by
  rw [C.T, C.H]
  have h1 := C.hf; have h2 := C.fT; have h3 := C.Tf
  refine ⟨by omega, by omega, ?_⟩
  have h4 := C.tok
  cases tk with
  | none => have h4 : f = h := h4; omega
  | some o => obtain ⟨_, h4 | h4 | h4 | h4⟩ := h4 <;> omega
/-- nobody tells -/
def Calm (w : OW) : Prop := ∀ p, p < 3 → w.ts.getD p none = none
theorem Calm.puts {w : OW} (h : Calm w) (r : Bool) : ∀ p, p < 3 → putsOf r w.ts p = none := fun p hp => by rw [putsOf_eq, h p hp]; rfl
theorem OIn.itm {B : PB} {K M : Nat} {w : OW} {hs : Bool → List Tq} {f k : Bool → Nat} (C : OIn B K M w hs f k) (r : Bool) : Post.itm B w.L r = (hs r).length - k r ∧ k r ≤ (hs r).length ∧ (hs r).length - k r ≤ B.rn r + 1 := RQ.itm (C.ring r)
/-- what looked like something is something -/
theorem look_full {b n K : Nat} {L : List Int} {hs : List Tq} {f h : Nat} {ps : Nat → Option RO} {tk : Option RO} (C : RQ b n K L hs f h ps tk) {c : Int} (h0 : 0 ≤ c) (hK : K < 100000) (e : L.getD (tn b n c) 0 = uw (wt n c + 1)) : h < hs.length := by
  obtain ⟨t, rfl⟩ : ∃ t : Nat, c = t := ⟨c.toNat, by omega⟩
  obtain ⟨u, x, h1, h2, h3, h4, h5, h6⟩ := C.turnOf t
  rw [tnB, h5] at e
  have h7 := C.hf; have h8 := C.TB; have h9 := C.fT; have h10 := C.n8; have h11 := C.n1
  have hdl := Nat.div_le_self u n
  unfold uw wt at e
  rcases Nat.lt_or_ge u hs.length with hu | hu
  · omega
  · have := h6 hu; subst this
    exfalso
    have hz : ∀ z : Int, ((2 * (u / n) + 0 : Nat) : Int) ≠ IntKind.u64.wrap (IntKind.u64.wrap (z * 2) + 1) := fun z h => by
      unfold IntKind.wrap at h; simp [IntKind.bits, IntKind.signed] at h; omega
    exact hz _ e
theorem OIn.takePot {B : PB} {K M : Nat} {w : OW} {hs : Bool → List Tq} {f k : Bool → Nat} (C : OIn B K M w hs f k) (hcalm : Calm w) (hK : K < 90000) {r : Bool} {o : RO} (hch : w.chg = 1) (hph : w.ph = if r = true then 1 else 2)
    (hr0 : ∀ x, RQ (B.rb x) (B.rn x) K w.L (hs x) (f x) (k x) (putsOf x w.ts) (takeOf x (some ⟨.of r o, 0, 0⟩))) (hsp : spent w.wk = o.pc - 5) :
    pot B (runGo B ⟨.of r o, 0, 0⟩ w) < pot B w := by
  have hR := hr0 r
  rw [show takeOf r (some ⟨.of r o, 0, 0⟩) = some o by simp [takeOf]] at hR
  obtain ⟨f1, h1, R1, E⟩ := hR.take (by omega)
  have hlen := goL_len (B.rb r) (B.rn r) w.L o
  obtain ⟨eL, eO⟩ := po_go (B := B) (L := w.L) (ph := .of r o)
  have hTQ : TQ (hs r) (f r) (k r) (some o) := hR.tok
  have i0 : ∀ x, Post.itm B w.L x = (hs x).length - k x := fun x => (RQ.itm (hr0 x)).1
  have i1 : Post.itm B (goL (B.rb r) (B.rn r) w.L o) r = (hs r).length - h1 := (RQ.itm R1).1
  have i2 : Post.itm B (goL (B.rb r) (B.rn r) w.L o) (!r) = (hs (!r)).length - k (!r) := by
    have := (RQ.itm ((hr0 (!r)).frame hlen (fun j a b => goL_frame (PI.rb C.pi r).1 o (win r a b)) (Nat.le_refl _))).1
    exact this
  have hkl : k r ≤ (hs r).length := (RQ.itm (hr0 r)).2.1
  have hall := hR.allFin (hcalm.puts r)
  unfold runGo
  rw [eL, eO]
  simp only [stepP]
  obtain ⟨hout, hTQ⟩ := hTQ
  rcases E with ⟨e0, e1, e2⟩ | ⟨e0, e1, e2, e3⟩ | ⟨e0, e1, e2⟩
  · have hov : (goO (B.rb r) (B.rn r) w.L o).over = false := by simp [RO.over, e0]
    have hpv : (⟨.of r (goO (B.rb r) (B.rn r) w.L o), 0, 0⟩ : PO).over = false := rfl
    simp only [hov, Bool.false_eq_true, if_false, hpv]
    have hit : ∀ x, Post.itm B (goL (B.rb r) (B.rn r) w.L o) x = Post.itm B w.L x := fun x => by
      by_cases e : x = r
      · subst e; rw [i1, i0, e2]
      · have : x = !r := by cases x <;> cases r <;> simp_all
        subst this; rw [i2, i0]
    have hR1 := R1.tok
    rw [if_neg (by simp [hov])] at hR1
    obtain ⟨_, hpc⟩ := hR1
    have hpc5 : 5 ≤ o.pc ∧ o.pc ≤ 8 := by omega
    have hits : items B (goL (B.rb r) (B.rn r) w.L o) = items B w.L := by unfold items; rw [hit, hit]
    unfold pot cst
    dsimp only
    rw [hits, hit, hch, hph, hsp]
    simp only [spent, e1]
    cases r <;> simp only [Bool.false_eq_true, if_true, if_false] <;> (repeat' split) <;> omega
  · have hov : (goO (B.rb r) (B.rn r) w.L o).over = true := by simp [RO.over, e0]
    have hpv : (⟨.of r (goO (B.rb r) (B.rn r) w.L o), 4, (goO (B.rb r) (B.rn r) w.L o).value⟩ : PO).over = true := rfl
    have h41 : ¬ (4 : Int) = 1 := by decide
    simp only [hov, if_true, e0, hpv, h41, and_false, if_false]
    have hempty : (hs r).length - k r = 0 := by
      rcases Nat.lt_or_ge (k r) (hs r).length with x | x
      · exact absurd ⟨x, hall _ x⟩ e3
      · omega
    have hit : ∀ x, Post.itm B (goL (B.rb r) (B.rn r) w.L o) x = Post.itm B w.L x := fun x => by
      by_cases e : x = r
      · subst e; rw [i1, i0, e2]
      · have : x = !r := by cases x <;> cases r <;> simp_all
        subst this; rw [i2, i0]
    have hz : Post.itm B w.L r = 0 := by rw [i0, hempty]
    have hits : items B (goL (B.rb r) (B.rn r) w.L o) = items B w.L := by unfold items; rw [hit, hit]
    unfold pot cst
    dsimp only
    rw [hits, hit, hch, hph, hsp, e1]
    cases r
    · have e9 : items B w.L = Post.itm B w.L true := by unfold items; omega
      rw [e9]
      simp [spent]
      (repeat' split) <;> omega
    · simp [spent, hz]
  · have hov : (goO (B.rb r) (B.rn r) w.L o).over = true := by simp [RO.over, e0]
    have hpv : (⟨.of r (goO (B.rb r) (B.rn r) w.L o), 1, (goO (B.rb r) (B.rn r) w.L o).value⟩ : PO).over = true := rfl
    have hp0 : 0 < w.ph := by rw [hph]; split <;> decide
    simp only [hov, if_true, e0, hpv, hp0, and_self]
    have hlt : k r < (hs r).length := by omega
    have hits : items B (goL (B.rb r) (B.rn r) w.L o) + 1 = items B w.L := by
      unfold items
      cases r
      · have : Post.itm B (goL (B.rb false) (B.rn false) w.L o) true = Post.itm B w.L true := by rw [show (true : Bool) = !false from rfl, i2, i0]
        rw [i1, i0 false, this, e2]; omega
      · have : Post.itm B (goL (B.rb true) (B.rn true) w.L o) false = Post.itm B w.L false := by rw [show (false : Bool) = !true from rfl, i2, i0]
        rw [i1, i0 true, this, e2]; omega
    have hmono := sesS_mono (show items B (goL (B.rb r) (B.rn r) w.L o) ≤ items B w.L by omega) w.se
    unfold pot cst
    dsimp only
    rw [hch, hph, hsp, e1]
    cases r
    · have : Post.itm B (goL (B.rb false) (B.rn false) w.L o) true = Post.itm B w.L true := by rw [show (true : Bool) = !false from rfl, i2, i0]
      rw [this]
      simp [spent]
      (repeat' split) <;> omega
    · simp [spent]; omega
theorem OIn.runPot {B : PB} {K M : Nat} {w : OW} {hs : Bool → List Tq} {f k : Bool → Nat} (C : OIn B K M w hs f k) (hcalm : Calm w) (hK : K < 90000) (hc : w.chg ≠ 0) : pot B (Post.runStep B w).1 < pot B w := by
  unfold Post.runStep
  have hlen : 0 < w.L.length := by have := C.pi.len; omega
  rw [if_neg hc]
  have hit : ∀ x r, Post.itm B (w.L.set 0 x) r = Post.itm B w.L r := fun x r => by
    have h2 : B.b + 2 ≤ B.rb r := by cases r <;> simp [PB.rb] <;> omega
    unfold Post.itm; rw [set_low (by omega), set_low (by omega)]
  have hits : ∀ x, items B (w.L.set 0 x) = items B w.L := fun x => by unfold items; rw [hit, hit]
  rcases C.state with h | ⟨h1, h2, h3, h4⟩ | ⟨h1, h2, h3⟩
  · exact absurd h.2.1 hc
  · rw [if_neg (by omega), h4]
    dsimp only
    have e : workOf w.ph = ⟨.set 2, 0, 0⟩ := by rw [h3]; rfl
    rw [e]
    obtain ⟨eL, eO⟩ := po_go (B := B) (L := w.L) (ph := .set 2)
    unfold runGo
    rw [eL, eO]
    simp only [stepP, C.b0]
    have hpv : (⟨.set 2, 1, 0⟩ : PO).over = true := rfl
    have hp0 : ¬ 0 < w.ph := by omega
    simp only [hpv, if_true, hp0, false_and, if_false]
    unfold pot cst
    dsimp only
    rw [hits, h2, h3]
    simp [spent]
  · rcases h3 with ⟨h3, hw⟩ | ⟨h3, hw⟩ | ⟨h3, hw⟩
    · rw [if_neg (by omega)]
      rcases hw with hw | ⟨o, hw, ho⟩
      · rw [hw]; dsimp only
        rw [show workOf w.ph = ⟨.of true (ini 5 0), 0, 0⟩ by rw [h3]; rfl]
        exact C.takePot hcalm hK h2 (by rw [h3]; rfl) (fun x => by
          have h := C.ring x; rw [hw] at h
          cases x
          · exact h
          · exact RQ.takeBegin h) (by rw [hw]; rfl)
      · rw [hw]; exact C.takePot hcalm hK h2 (by rw [h3]; rfl) (fun x => by have h := C.ring x; rw [hw] at h; exact h) (by rw [hw]; rfl)
    · rw [if_neg (by omega)]
      rcases hw with hw | ⟨o, hw, ho⟩
      · rw [hw]; dsimp only
        rw [show workOf w.ph = ⟨.of false (ini 5 0), 0, 0⟩ by rw [h3]; rfl]
        exact C.takePot hcalm hK h2 (by rw [h3]; rfl) (fun x => by
          have h := C.ring x; rw [hw] at h
          cases x
          · exact RQ.takeBegin h
          · exact h) (by rw [hw]; rfl)
      · rw [hw]; exact C.takePot hcalm hK h2 (by rw [h3]; rfl) (fun x => by have h := C.ring x; rw [hw] at h; exact h) (by rw [hw]; rfl)
    · rw [if_pos h3]
      obtain ⟨eL, eO⟩ := po_go (B := B) (L := w.L) (ph := .sto false)
      rw [eL, eO]
      simp only [stepP, C.b0]
      unfold pot cst
      dsimp only
      rw [hits, sesS_app, h2, h3]
      simp [ownS, extS, ini]
      (repeat' split) <;> omega
theorem OIn.layPot {B : PB} {K M : Nat} {w : OW} {hs : Bool → List Tq} {f k : Bool → Nat} (C : OIn B K M w hs f k) (hK : K < 90000) (hc : w.chg = 0) (hse : w.se ≠ []) : pot B (Post.layStep B w).1 < pot B w := by
  unfold Post.layStep
  cases hs0 : w.se with
  | nil => exact absurd hs0 hse
  | cons s r =>
    dsimp only
    have hS := C.set s (by rw [hs0]; exact List.mem_cons_self)
    obtain ⟨ph, out, val⟩ := s
    obtain ⟨h1, h2, h3⟩ := hS
    dsimp only at h1 h2 h3
    subst h1 h2
    have hcst : ∀ L' l, cst B { w with L := L', se := l } = 0 := fun L' l => by unfold cst; rw [if_pos hc]
    have hpot : pot B w = 5 * items B w.L + (ownS ⟨ph, 0, 0⟩ + extS (items B w.L) ⟨ph, 0, 0⟩ + sesS (items B w.L) r) := by
      unfold pot; rw [hs0, sesS_cons]; unfold cst; rw [if_pos hc, Nat.zero_add]
    have hpot2 : ∀ l, pot B { w with se := l } = 5 * items B w.L + sesS (items B w.L) l := fun l => by
      have := hcst w.L l
      unfold pot; rw [show cst B { w with se := l } = 0 from this, Nat.zero_add]
    rcases h3 with ⟨x, a, b, c, e, ho⟩ | ⟨x, a, b, c, e, ho⟩ | e
    · subst e
      obtain ⟨eL, eO⟩ := po_go (B := B) (L := w.L) (ph := .look false x ⟨12, 0, a, b, c⟩)
      obtain ⟨l1, l2⟩ := look12 (C.ring x) a b c
      rw [eL, eO]
      simp only [stepP, l1, l2]
      have hov : (⟨13, 0, a, b, (k x : Int)⟩ : RO).over = false := rfl
      have hpv : (⟨.look false x ⟨13, 0, a, b, (k x : Int)⟩, 0, 0⟩ : PO).over = false := rfl
      simp only [hov, hpv, Bool.false_eq_true, if_false]
      rw [hpot]
      have := hpot2 (⟨.look false x ⟨13, 0, a, b, (k x : Int)⟩, 0, 0⟩ :: r)
      rw [this, sesS_cons]
      cases x <;> simp [ownS, extS]
    · subst e
      obtain ⟨eL, eO⟩ := po_go (B := B) (L := w.L) (ph := .look false x ⟨13, 0, a, b, c⟩)
      obtain ⟨l1, l2⟩ := look13 (b := B.rb x) (n := B.rn x) (L := w.L) a b c
      rw [eL, eO]
      simp only [stepP, l1, l2]
      by_cases hf : w.L.getD (tn (B.rb x) (B.rn x) c) 0 = uw (wt (B.rn x) c + 1)
      · have hov : (⟨7, 1, a, b, c⟩ : RO).over = true := rfl
        have hpv : (⟨.more false, 0, 0⟩ : PO).over = false := rfl
        simp only [if_pos hf, hov, hpv, if_true, Bool.false_eq_true, if_false]
        have hfl := look_full (C.ring x) ho.e0 (by omega) hf
        have hitx := (C.itm x).1
        have hpos : 0 < items B w.L := by unfold items; cases x <;> omega
        rw [hpot]
        have := hpot2 (⟨.more false, 0, 0⟩ :: r)
        rw [this, sesS_cons]
        cases x <;> simp [ownS, extS, hpos] <;> omega
      · have hov : (⟨7, 4, a, b, c⟩ : RO).over = true := rfl
        have h41 : ¬ (4 : Int) = 1 := by decide
        cases x with
        | true =>
          have hpv : (⟨.look false false (ini 12 0), 0, 0⟩ : PO).over = false := rfl
          simp only [if_neg hf, hov, if_true, h41, if_false, Bool.not_false, Bool.and_self, hpv, Bool.false_eq_true]
          rw [hpot]
          have := hpot2 (⟨.look false false (ini 12 0), 0, 0⟩ :: r)
          rw [this, sesS_cons]
          simp [ownS, extS, ini]
        | false =>
          have hpv : (⟨.look false false ⟨7, 4, a, b, c⟩, 4, 0⟩ : PO).over = true := rfl
          have h48 : ¬ (4 : Int) = 8 := by decide
          simp only [if_neg hf, hov, if_true, h41, if_false, Bool.false_and, Bool.false_eq_true, hpv, h48]
          rw [hpot, hpot2]
          simp [ownS]; omega
    · subst e
      obtain ⟨eL, eO⟩ := po_go (B := B) (L := w.L) (ph := .more false)
      rw [eL, eO]
      simp only [stepP, C.b0, stOf, Bool.false_eq_true, if_false]
      have h0 : w.L.getD 0 0 = 0 := by
        rcases C.state with h | h | h
        · exact h.1
        · omega
        · omega
      have hph : w.ph = 0 := by
        rcases C.state with h | h | h
        · exact h.2.2.1
        · omega
        · omega
      have hpv : (⟨.more false, 8, 0⟩ : PO).over = true := rfl
      simp only [h0, if_true, hpv]
      have hit : ∀ r, Post.itm B (w.L.set 0 1) r = Post.itm B w.L r := fun r => by
        have h2 : B.b + 2 ≤ B.rb r := by cases r <;> simp [PB.rb] <;> omega
        unfold Post.itm; rw [set_low (by omega), set_low (by omega)]
      have hits : items B (w.L.set 0 1) = items B w.L := by unfold items; rw [hit, hit]
      rw [hpot]
      unfold pot cst OW.charge
      dsimp only
      rw [hits, hph, hc]
      simp [ownS, extS]
      omega
theorem OIn.pot_le {B : PB} {K M : Nat} {w : OW} {hs : Bool → List Tq} {f k : Bool → Nat} (C : OIn B K M w hs f k) (hM : M ≤ 600) (h4 : B.nm ≤ 4) (h5 : B.nn ≤ 4) : pot B w ≤ 2620 := by
  have h1 := sesS_17 (items B w.L) w.se
  have h2 := C.few
  have h3 : w.ph ≥ 0 := by rcases C.state with h | h | h <;> omega
  have h6 := C.itm false; have h7 := C.itm true
  have h8 : items B w.L ≤ 10 := by unfold items; simp only [PB.rn, Bool.false_eq_true, if_true, if_false] at h6 h7; omega
  have h9 : cst B w ≤ 20 := by unfold cst; (repeat' split) <;> omega
  unfold pot; omega
/-- at the end -/
theorem OIn.fin {B : PB} {K M : Nat} {w : OW} {hs : Bool → List Tq} {f k : Bool → Nat} (C : OIn B K M w hs f k) (hcalm : Calm w) (hc : w.chg = 0) (hse : w.se = []) : w.most ≤ 1 ∧ w.got = w.inn ∧ w.L.getD 0 0 = 0 := by
  have h0 : w.L.getD 0 0 = 0 := by
    rcases C.state with h | h | h
    · exact h.1
    · omega
    · omega
  have hcount : w.ts.countP seeing = 0 := by
    rw [List.countP_eq_zero]
    intro x hx
    obtain ⟨p, hp, e⟩ := List.getElem_of_mem hx
    have h3 := hcalm p (by rw [← C.lt]; exact hp)
    rw [List.getD_eq_getElem?_getD, List.getElem?_eq_getElem hp, e] at h3
    have h3 : x = none := h3
    subst h3; simp [seeing]
  have hk : ∀ r, k r = finQ (hs r) := fun r => by
    have hall := (C.ring r).allFin (hcalm.puts r)
    rw [finQ_all _ hall]
    have hkl := (C.itm r).2.1
    rcases Nat.lt_or_ge (k r) (hs r).length with x | x
    · rcases C.cover h0 r ⟨x, hall _ x⟩ with ⟨p, hp, h⟩ | ⟨s, hs', _⟩
      · rw [hcalm p hp] at h; cases h
      · rw [hse] at hs'; cases hs'
    · omega
  refine ⟨C.most.2, ?_, h0⟩
  have h1 := C.inn; have h2 := C.got
  rw [hcount] at h1
  rw [h2, hk false, hk true]; omega
end Go.L.Post
