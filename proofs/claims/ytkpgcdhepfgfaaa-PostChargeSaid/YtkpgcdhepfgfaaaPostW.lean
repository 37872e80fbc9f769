/-
  A ring among other cells: three who put, one who takes, who looks. Own work; no program.
-/
import Derived.Test.YtkpgcdhepfgfaaaRingT
namespace Go.L.Ring
open Go.L
theorem tnB (b n t : Nat) : tn b n (t : Int) = b + 2 + 2 * (t % n) := by
  unfold tn; rw [← Int.natCast_emod, Int.toNat_natCast]
structure Tq where
  own : Nat
  fin : Bool
def dQ : Tq := ⟨3, true⟩
def Idq (hs : List Tq) (p : Nat) : Prop := ∀ t, t < hs.length → (hs.getD t dQ).own = p → (hs.getD t dQ).fin = true
def Bzq (hs : List Tq) (p t : Nat) : Prop := t < hs.length ∧ hs.getD t dQ = ⟨p, false⟩ ∧ ∀ u, u < hs.length → (hs.getD u dQ).own = p → u ≠ t → (hs.getD u dQ).fin = true
def PQ (n : Nat) (hs : List Tq) (f p : Nat) : Option RO → Prop
  | none => Idq hs p
  | some o => o.out = 0 ∧ ((o.pc = 0 ∧ Idq hs p) ∨ (o.pc = 1 ∧ Idq hs p ∧ ∃ t : Nat, o.tick = t ∧ t ≤ hs.length) ∨ (o.pc = 2 ∧ Idq hs p ∧ ∃ t : Nat, o.tick = t ∧ t ≤ hs.length ∧ t < f + n) ∨ ((o.pc = 3 ∨ o.pc = 4) ∧ ∃ t : Nat, o.tick = t ∧ Bzq hs p t))
def TQ (hs : List Tq) (f h : Nat) : Option RO → Prop
  | none => f = h
  | some o => o.out = 0 ∧ ((o.pc = 5 ∧ f = h) ∨ (o.pc = 6 ∧ o.en = h ∧ f = h) ∨ ((o.pc = 7 ∨ o.pc = 8) ∧ o.en = h ∧ f = h ∧ h < hs.length ∧ (hs.getD h dQ).fin = true) ∨ (o.pc = 9 ∧ o.en = h ∧ f = h + 1 ∧ h < hs.length))
structure RQ (b n B : Nat) (L : List Int) (hs : List Tq) (f h : Nat) (ps : Nat → Option RO) (tk : Option RO) : Prop where
  n1 : 1 ≤ n
  n8 : n ≤ 8
  len : b + 2 + 2 * n ≤ L.length
  T : L.getD b 0 = hs.length
  H : L.getD (b + 1) 0 = h
  TB : hs.length ≤ B
  hf : h ≤ f
  fT : f ≤ hs.length
  Tf : hs.length ≤ f + n
  own : ∀ t, t < hs.length → (hs.getD t dQ).own < 3
  old : ∀ t, t < f → (hs.getD t dQ).fin = true
  turn : ∀ t, f ≤ t → t < f + n → L.getD (b + 2 + 2 * (t % n)) 0 = ((2 * (t / n) : Nat) : Int) + (if t < hs.length ∧ (hs.getD t dQ).fin = true then 1 else 0)
  pok : ∀ p, p < 3 → PQ n hs f p (ps p)
  tok : TQ hs f h tk
def finQ (hs : List Tq) : Nat := hs.countP (·.fin)
def fullQ (hs : List Tq) (h : Nat) : Prop := h < hs.length ∧ (hs.getD h dQ).fin = true
def upP {α : Type} (ps : Nat → α) (p : Nat) (x : α) : Nat → α := fun q => if q = p then x else ps q
theorem getDL (L : List Int) (i j : Nat) (x : Int) (h : i < L.length) : (L.set i x).getD j 0 = if j = i then x else L.getD j 0 := getD_set _ _ _ _ _ h
variable {b n B : Nat} {L : List Int} {hs : List Tq} {f h : Nat} {ps : Nat → Option RO} {tk : Option RO}
theorem RQ.frame (C : RQ b n B L hs f h ps tk) {L' : List Int} (hl : L'.length = L.length) (hw : ∀ j, b ≤ j → j < b + 2 + 2 * n → L'.getD j 0 = L.getD j 0) {B' : Nat} (hB : B ≤ B') : RQ b n B' L' hs f h ps tk :=
  { C with len := by rw [hl]; exact C.len, T := by rw [hw b (by omega) (by omega)]; exact C.T, H := by rw [hw (b + 1) (by omega) (by omega)]; exact C.H, TB := Nat.le_trans C.TB hB,
           turn := fun t h1 h2 => by have := Nat.mod_lt t C.n1; rw [hw _ (by omega) (by omega)]; exact C.turn t h1 h2 }
theorem getQ_app {hs : List Tq} {x : Tq} {t : Nat} : (hs ++ [x]).getD t dQ = if t = hs.length then x else hs.getD t dQ := by
  simp only [List.getD_eq_getElem?_getD]
  rcases Nat.lt_trichotomy t hs.length with h | h | h
  · rw [List.getElem?_append_left h, if_neg (by omega)]
  · subst h; simp
  · rw [List.getElem?_eq_none (by simp; omega), List.getElem?_eq_none (by omega), if_neg (by omega)]
theorem finQ_fin : ∀ (hs : List Tq) (t q : Nat), t < hs.length → hs.getD t dQ = ⟨q, false⟩ → finQ (hs.set t ⟨q, true⟩) = finQ hs + 1
  | [], t, _, h, _ => by simp at h
  | x :: hs, 0, q, _, e => by
    have e : x = ⟨q, false⟩ := by simpa using e
    subst e; simp [finQ]
  | x :: hs, t + 1, q, h, e => by
    have ih := finQ_fin hs t q (by simpa using h) (by simpa using e)
    simp only [List.set_cons_succ, finQ, List.countP_cons] at ih ⊢; omega
theorem goL_frame (hn : 1 ≤ n) (o : RO) {j : Nat} (hj : j < b ∨ b + 2 + 2 * n ≤ j) : (goL b n L o).getD j 0 = L.getD j 0 := by
  have htn : ∀ t : Int, b + 2 ≤ tn b n t ∧ tn b n t + 2 ≤ b + 2 + 2 * n := fun t => by
    unfold tn
    have : (t % (n : Int)).toNat < n := by have := Int.emod_lt_of_pos t (show (0 : Int) < n by omega); omega
    omega
  have h1 := htn o.tick; have h2 := htn o.en
  have hg : ∀ i x, i ≠ j → (L.set i x).getD j 0 = L.getD j 0 := fun i x hi => by
    simp only [List.getD_eq_getElem?_getD, List.getElem?_set]; rw [if_neg hi]
  unfold goL; split
  · rfl
  · unfold stepL; split <;> (try rfl) <;> simp only [putSwapL, putValueL, putDoneL, takeFreeL, takeDoneL, closeSwapL] <;> (try split) <;> first | rfl | exact hg _ _ (by omega)
theorem PQ.mono {hs hs' : List Tq} {f f' q : Nat} {po : Option RO} (P : PQ n hs f q po) (hI : Idq hs q → Idq hs' q) (hBz : ∀ t, Bzq hs q t → Bzq hs' q t) (hl : hs.length ≤ hs'.length) (hf : f ≤ f') : PQ n hs' f' q po := by
  cases po with
  | none => exact hI P
  | some o =>
    obtain ⟨h1, h | h | h | h⟩ := P
    · exact ⟨h1, .inl ⟨h.1, hI h.2⟩⟩
    · obtain ⟨a, b, t, d, e⟩ := h; exact ⟨h1, .inr (.inl ⟨a, hI b, t, d, by omega⟩)⟩
    · obtain ⟨a, b, t, d, e, g⟩ := h; exact ⟨h1, .inr (.inr (.inl ⟨a, hI b, t, d, by omega, by omega⟩))⟩
    · obtain ⟨a, t, d, e⟩ := h; exact ⟨h1, .inr (.inr (.inr ⟨a, t, d, hBz _ e⟩))⟩
theorem RQ.keep (C : RQ b n B L hs f h ps tk) {p : Nat} {x : Option RO} (hx : PQ n hs f p x) : RQ b n (B + 1) L hs f h (upP ps p x) tk :=
  { C with TB := Nat.le_succ_of_le C.TB, pok := fun q hq => by unfold upP; split; (rename_i e; subst e; exact hx); exact C.pok q hq }
theorem RQ.begun (C : RQ b n B L hs f h ps tk) {p : Nat} (hp : p < 3) (h0 : ps p = none) (v : Int) : RQ b n B L hs f h (upP ps p (some ⟨0, 0, v, 0, 0⟩)) tk :=
  have h1 : ∀ q, q < 3 → PQ n hs f q (upP ps p (some ⟨0, 0, v, 0, 0⟩) q) := by
    intro q hq
    unfold upP
    split
    · rename_i e; subst e
      have h2 := C.pok q hq
      rw [h0] at h2
      exact ⟨rfl, .inl ⟨rfl, h2⟩⟩
    · exact C.pok q hq
  { C with pok := h1 }
theorem RQ.turnOf (C : RQ b n B L hs f h ps tk) (t : Nat) : ∃ u c, f ≤ u ∧ u < f + n ∧ u % n = t % n ∧ c ≤ 1 ∧ L.getD (b + 2 + 2 * (t % n)) 0 = ((2 * (u / n) + c : Nat) : Int) ∧ (hs.length ≤ u → c = 0) := by
  obtain ⟨u, h1, h2, h3⟩ := mod_ex C.n1 f t
  have := C.turn u h1 h2
  rw [h3] at this
  by_cases e : u < hs.length ∧ (hs.getD u dQ).fin = true
  · rw [if_pos e] at this; exact ⟨u, 1, h1, h2, h3, by omega, by rw [this]; omega, fun x => by omega⟩
  · rw [if_neg e] at this; exact ⟨u, 0, h1, h2, h3, by omega, by rw [this]; omega, fun _ => rfl⟩
/-- what a step of one who puts comes to -/
def PutEnd (hs hs' : List Tq) (o o' : RO) : Prop :=
  (o'.out = 0 ∧ finQ hs' = finQ hs ∧ rk hs'.length o' < rk hs.length o ∧ (hs' = hs ∨ (hs'.length = hs.length + 1 ∧ o.pc = 2 ∧ o'.pc = 3)) ∧ (o.pc ≥ 3 → o'.pc ≥ 3) ∧ ∀ u, fullQ hs' u → fullQ hs u) ∨
  (o'.out = 2 ∧ hs' = hs) ∨ (o'.out = 1 ∧ finQ hs' = finQ hs + 1 ∧ hs'.length = hs.length)
theorem RQ.put (C : RQ b n B L hs f h ps tk) (hB : B < 100000) {p : Nat} (hp : p < 3) {o : RO} (hps : ps p = some o) :
    ∃ hs', RQ b n (B + 1) (goL b n L o) hs' f h (upP ps p (if (goO b n L o).over then none else some (goO b n L o))) tk ∧ PutEnd hs hs' o (goO b n L o) := by
  have P := C.pok p hp
  rw [hps] at P
  obtain ⟨hout, P⟩ := P
  obtain ⟨eL, eO⟩ := go_st (b := b) (n := n) (L := L) hout
  have htop : top = 9223372036854775808 := rfl
  have hTB := C.TB
  have hn1 := C.n1; have hn8 := C.n8; have hlen := C.len; have hTf := C.Tf; have hfT := C.fT
  rcases P with ⟨hpc, I⟩ | ⟨hpc, I, t, ht, htT⟩ | ⟨hpc, I, t, ht, htT, htf⟩ | ⟨hpc, t, ht, Bz⟩
  · obtain ⟨s1, s2⟩ := stp0 (b := b) (n := n) (L := L) hpc
    have e2 : putTailO b L o = { o with pc := 1, tick := (hs.length : Int), out := 0 } := by
      unfold putTailO; rw [C.T, if_neg (by omega), hout]
    rw [eL, s1, eO, s2, e2]
    refine ⟨hs, C.keep (x := some _) ⟨rfl, .inr (.inl ⟨rfl, I, hs.length, rfl, Nat.le_refl _⟩)⟩, .inl ⟨rfl, rfl, ?_, .inl rfl, fun h => by omega, fun u x => x⟩⟩
    simp [rk, hpc]
  · obtain ⟨s1, s2⟩ := stp1 (b := b) (n := n) (L := L) hpc
    obtain ⟨u, c, hu1, hu2, hu3, hb, hu, hu4⟩ := C.turnOf t
    have hw := wtN n t (by omega)
    have htn := tnB b n t
    have key : (putTurnO b n L o = { o with pc := 0 } ∧ (t : Int) ≠ hs.length) ∨ putTurnO b n L o = { o with out := 2 } ∨ (putTurnO b n L o = { o with pc := 2 } ∧ t = u) := by
      unfold putTurnO
      rw [ht, hw, htn, hu]
      by_cases e1 : 2 * (t / n) < 2 * (u / n) + c
      · left; rw [if_pos (by omega)]; refine ⟨rfl, fun e => ?_⟩
        have e : t = hs.length := by omega
        rcases Nat.lt_or_ge t (f + n) with x | x
        · have := mod_inj hu1 hu2 (by omega) x hu3
          have := hu4 (by omega); subst u; omega
        · have : t = f + n := by omega
          have h1 : f % n = u % n := by rw [hu3, this, mod_add]
          have := mod_inj (Nat.le_refl f) (by omega) hu1 hu2 h1
          have h2 := div_add n f hn1
          subst u; rw [‹t = f + n›, h2] at e1; omega
      · rw [if_neg (by omega)]
        by_cases e2 : 2 * (u / n) + c < 2 * (t / n)
        · right; left; rw [if_pos (by omega)]
        · right; right; rw [if_neg (by omega)]; exact ⟨rfl, div_mod_eq (by omega) hu3.symm⟩
    rw [eL, s1, eO, s2]
    rcases key with ⟨e, hne⟩ | e | ⟨e, htu⟩
    · rw [e, if_neg (by simp [RO.over, hout])]
      refine ⟨hs, C.keep (x := some _) ⟨hout, .inl ⟨rfl, I⟩⟩, .inl ⟨hout, rfl, ?_, .inl rfl, fun h => by omega, fun u x => x⟩⟩
      simp [rk, hpc, ht]; rw [if_neg hne]; omega
    · rw [e, if_pos (by simp [RO.over])]
      exact ⟨hs, C.keep (x := none) I, .inr (.inl ⟨rfl, rfl⟩)⟩
    · rw [e, if_neg (by simp [RO.over, hout])]
      refine ⟨hs, C.keep (x := some _) ⟨hout, .inr (.inr (.inl ⟨rfl, I, t, ht, htT, by omega⟩))⟩, .inl ⟨hout, rfl, ?_, .inl rfl, fun h => by omega, fun u x => x⟩⟩
      simp [rk, hpc, ht]; split <;> omega
  · obtain ⟨s1, s2⟩ := stp2 (b := b) (n := n) (L := L) hpc
    rw [eL, s1, eO, s2]
    unfold putSwapO putSwapL
    by_cases e : L.getD b 0 = o.tick
    · rw [if_pos e, if_pos e, if_neg (by simp [RO.over, hout])]
      have hT := C.T
      have htl : t = hs.length := by omega
      have hu : uw (o.tick + 1) = ((hs.length + 1 : Nat) : Int) := by rw [ht, show ((t : Int) + 1) = ((hs.length + 1 : Nat) : Int) by omega]; exact uwN _ (by omega)
      rw [hu]
      have hg : ∀ j, (L.set b ((hs.length + 1 : Nat) : Int)).getD j 0 = if j = b then ((hs.length + 1 : Nat) : Int) else L.getD j 0 := fun j => getDL _ _ _ _ (by omega)
      have hl : (hs ++ [(⟨p, false⟩ : Tq)]).length = hs.length + 1 := by simp
      have hfin : ∀ t, t < hs.length → (hs ++ [(⟨p, false⟩ : Tq)]).getD t dQ = hs.getD t dQ := fun t h => by rw [getQ_app, if_neg (by omega)]
      have hnew : (hs ++ [(⟨p, false⟩ : Tq)]).getD hs.length dQ = ⟨p, false⟩ := by rw [getQ_app, if_pos rfl]
      refine ⟨hs ++ [(⟨p, false⟩ : Tq)], ?_, .inl ⟨hout, by simp [finQ], by simp [rk, hpc, ht, htl], .inr ⟨hl, hpc, rfl⟩, fun _ => Nat.le_refl 3, fun u x => ?_⟩⟩
      · refine { C with len := by simp [hlen], T := by rw [hg, hl, if_pos rfl], H := by rw [hg, if_neg (by omega)]; exact C.H, TB := by rw [hl]; omega, fT := by rw [hl]; omega, Tf := by rw [hl]; omega, own := ?_, old := ?_, turn := ?_, pok := ?_, tok := ?_ }
        · intro q hq; rw [hl] at hq
          rcases Nat.lt_or_ge q hs.length with x | x
          · rw [hfin q x]; exact C.own q x
          · have : q = hs.length := by omega
            subst this; rw [hnew]; exact hp
        · intro q hq; rw [hfin q (by omega)]; exact C.old q hq
        · intro q h1 h2; rw [hg, if_neg (by omega), C.turn q h1 h2, hl]
          rcases Nat.lt_trichotomy q hs.length with x | x | x
          · rw [hfin q x]; congr 1; simp [x, Nat.lt_succ_of_lt x]
          · subst x; rw [hnew]; simp
          · rw [if_neg (by omega), if_neg (by omega)]
        · intro q hq
          unfold upP
          split
          · rename_i e; subst e
            refine ⟨hout, .inr (.inr (.inr ⟨.inl rfl, t, ht, ?_⟩))⟩
            rw [htl]
            refine ⟨by rw [hl]; omega, hnew, fun u h1 h2 h3 => ?_⟩
            rw [hl] at h1
            rw [hfin u (by omega)] at h2 ⊢; exact I u (by omega) h2
          · rename_i hqp
            refine (C.pok q hq).mono (fun I u h1 h2 => ?_) (fun u Bz => ?_) (by rw [hl]; omega) (Nat.le_refl _)
            · rw [hl] at h1
              rcases Nat.lt_or_ge u hs.length with x | x
              · rw [hfin u x] at h2 ⊢; exact I u x h2
              · have : u = hs.length := by omega
                subst this; rw [hnew] at h2; exact absurd h2.symm hqp
            · obtain ⟨b1, b2, b3⟩ := Bz
              refine ⟨by rw [hl]; omega, by rw [hfin u b1]; exact b2, fun w h1 h2 h3 => ?_⟩
              rw [hl] at h1
              rcases Nat.lt_or_ge w hs.length with x | x
              · rw [hfin w x] at h2 ⊢; exact b3 w x h2 h3
              · have : w = hs.length := by omega
                subst this; rw [hnew] at h2; exact absurd h2.symm hqp
        · have ht := C.tok
          cases tk with
          | none => exact ht
          | some o1 =>
            obtain ⟨k0, k⟩ := ht
            refine ⟨k0, ?_⟩
            rcases k with k | k | k | k
            · exact .inl k
            · exact .inr (.inl k)
            · obtain ⟨a1, a2, a3, a4, a5⟩ := k; exact .inr (.inr (.inl ⟨a1, a2, a3, by rw [hl]; omega, by rw [hfin _ a4]; exact a5⟩))
            · obtain ⟨a1, a2, a3, a4⟩ := k; exact .inr (.inr (.inr ⟨a1, a2, a3, by rw [hl]; omega⟩))
      · obtain ⟨x1, x2⟩ := x
        rw [hl] at x1
        rcases Nat.lt_or_ge u hs.length with y | y
        · rw [hfin u y] at x2; exact ⟨y, x2⟩
        · have : u = hs.length := by omega
          subst this; rw [hnew] at x2; cases x2
    · rw [if_neg e, if_neg e, if_neg (by simp [RO.over, hout])]
      refine ⟨hs, C.keep (x := some _) ⟨hout, .inl ⟨rfl, I⟩⟩, .inl ⟨hout, rfl, ?_, .inl rfl, fun h => by omega, fun u x => x⟩⟩
      have hT := C.T
      simp [rk, hpc, ht]; split <;> omega
  · have hft : f ≤ t := by
      rcases Nat.lt_or_ge t f with x | x
      · have := C.old t x; rw [Bz.2.1] at this; cases this
      · exact x
    have htT := Bz.1
    have hm := Nat.mod_lt t hn1
    have hne : ∀ u, f ≤ u → u < f + n → u ≠ t → u % n ≠ t % n := fun u h1 h2 h3 h4 => h3 (mod_inj h1 h2 hft (by omega) h4)
    rcases hpc with hpc | hpc
    · obtain ⟨s1, s2⟩ := stp3 (b := b) (n := n) (L := L) hpc
      rw [eL, s1, eO, s2]
      have e2 : putValueL b n L o = L.set (b + 2 + 2 * (t % n) + 1) o.val := by unfold putValueL; rw [ht, tnB]
      rw [e2, if_neg (by simp [RO.over, putValueO, hout])]
      have hg : ∀ j, (L.set (b + 2 + 2 * (t % n) + 1) o.val).getD j 0 = if j = b + 2 + 2 * (t % n) + 1 then o.val else L.getD j 0 := fun j => getDL _ _ _ _ (by omega)
      refine ⟨hs, ?_, .inl ⟨hout, rfl, by simp [rk, hpc, putValueO], .inl rfl, fun _ => show 4 ≥ 3 by decide, fun u x => x⟩⟩
      have C1 := C.keep (p := p) (x := some (putValueO o)) ⟨hout, .inr (.inr (.inr ⟨.inr rfl, t, ht, Bz⟩))⟩
      exact { C1 with len := by simp [hlen], T := by rw [hg, if_neg (by omega)]; exact C.T, H := by rw [hg, if_neg (by omega)]; exact C.H, turn := fun u h1 h2 => by rw [hg, if_neg (by omega)]; exact C.turn u h1 h2 }
    · obtain ⟨s1, s2⟩ := stp4 (b := b) (n := n) (L := L) hpc
      rw [eL, s1, eO, s2]
      have e2 : putDoneL b n L o = L.set (b + 2 + 2 * (t % n)) ((2 * (t / n) + 1 : Nat) : Int) := by
        unfold putDoneL
        rw [ht, tnB, wtN n t (by omega)]
        congr 1
        have := Nat.div_le_self t n
        rw [show (((2 * (t / n) : Nat) : Int) + 1) = ((2 * (t / n) + 1 : Nat) : Int) by omega]; exact uwN _ (by omega)
      rw [e2, if_pos (by simp [RO.over, putDoneO])]
      have hg : ∀ j, (L.set (b + 2 + 2 * (t % n)) ((2 * (t / n) + 1 : Nat) : Int)).getD j 0 = if j = b + 2 + 2 * (t % n) then ((2 * (t / n) + 1 : Nat) : Int) else L.getD j 0 := fun j => getDL _ _ _ _ (by omega)
      have hl : (hs.set t (⟨p, true⟩ : Tq)).length = hs.length := by simp
      have hgs : ∀ u, (hs.set t (⟨p, true⟩ : Tq)).getD u dQ = if u = t then ⟨p, true⟩ else hs.getD u dQ := fun u => getD_set _ _ _ _ _ htT
      have hol : ∀ u, ((hs.set t (⟨p, true⟩ : Tq)).getD u dQ).own = (hs.getD u dQ).own := fun u => by
        rw [hgs]; split
        · rename_i e; rw [e, Bz.2.1]
        · rfl
      have hfl : ∀ u, (hs.getD u dQ).fin = true → ((hs.set t (⟨p, true⟩ : Tq)).getD u dQ).fin = true := fun u h => by
        rw [hgs]; split
        · rfl
        · exact h
      refine ⟨hs.set t ⟨p, true⟩, ?_, .inr (.inr ⟨rfl, finQ_fin hs t p htT Bz.2.1, hl⟩)⟩
      refine { C with len := by simp [hlen], T := by rw [hg, hl, if_neg (by omega)]; exact C.T, H := by rw [hg, if_neg (by omega)]; exact C.H, TB := by rw [hl]; omega, fT := by rw [hl]; exact C.fT, Tf := by rw [hl]; exact C.Tf, own := fun u hu => by rw [hol]; exact C.own u (by rw [hl] at hu; exact hu), old := fun u hu => hfl u (C.old u hu), turn := ?_, pok := ?_, tok := ?_ }
      · intro u h1 h2
        rw [hg, hl, hgs]
        by_cases e : u = t
        · subst e; rw [if_pos rfl, if_pos rfl, if_pos ⟨htT, rfl⟩]; omega
        · rw [if_neg (by have := hne u h1 h2 e; omega), if_neg e]; exact C.turn u h1 h2
      · intro q hq
        unfold upP
        by_cases e : q = p
        · rw [if_pos e]; subst e
          intro u h1 h2
          rw [hl] at h1; rw [hol] at h2
          by_cases e : u = t
          · subst e; rw [hgs, if_pos rfl]
          · exact hfl u (Bz.2.2 u h1 h2 e)
        · have hqp := e
          rw [if_neg e]
          refine (C.pok q hq).mono (fun I u h1 h2 => ?_) (fun u Bu => ?_) (by rw [hl]; exact Nat.le_refl _) (Nat.le_refl _)
          · rw [hl] at h1; rw [hol] at h2; exact hfl u (I u h1 h2)
          · obtain ⟨b1, b2, b3⟩ := Bu
            have hut : u ≠ t := fun e => by subst e; rw [Bz.2.1] at b2; cases b2; exact hqp rfl
            exact ⟨by rw [hl]; exact b1, by rw [hgs, if_neg hut]; exact b2, fun w h1 h2 h3 => by rw [hl] at h1; rw [hol] at h2; exact hfl w (b3 w h1 h2 h3)⟩
      · have ht := C.tok
        cases tk with
        | none => exact ht
        | some o1 =>
          obtain ⟨k0, k⟩ := ht
          refine ⟨k0, ?_⟩
          rcases k with k | k | k | k
          · exact .inl k
          · exact .inr (.inl k)
          · obtain ⟨a1, a2, a3, a4, a5⟩ := k; exact .inr (.inr (.inl ⟨a1, a2, a3, by rw [hl]; omega, hfl _ a5⟩))
          · obtain ⟨a1, a2, a3, a4⟩ := k; exact .inr (.inr (.inr ⟨a1, a2, a3, by rw [hl]; omega⟩))
theorem turnAt (C : RQ b n B L hs f h ps tk) (hB : B < 100000) (hf : f = h) : (L.getD (tn b n h) 0 = uw (wt n h + 1)) ↔ fullQ hs h := by
  have hTB := C.TB; have hfT := C.fT; have hn1 := C.n1
  have ht := C.turn h (by omega) (by omega)
  have hw := wtN n h (by omega)
  have hdl := Nat.div_le_self h n
  have hu : uw (wt n (h : Int) + 1) = ((2 * (h / n) + 1 : Nat) : Int) := by
    rw [hw, show (((2 * (h / n) : Nat) : Int) + 1) = ((2 * (h / n) + 1 : Nat) : Int) by omega]; exact uwN _ (by omega)
  rw [hu, tnB, ht]
  by_cases e : h < hs.length ∧ (hs.getD h dQ).fin = true
  · rw [if_pos e]; exact ⟨fun _ => e, fun _ => by omega⟩
  · rw [if_neg e]; exact ⟨fun x => by omega, fun x => absurd x e⟩
def TakeEnd (hs : List Tq) (h h' : Nat) (o o' : RO) : Prop :=
  (o'.out = 0 ∧ o'.pc = o.pc + 1 ∧ h' = h) ∨ (o'.out = 4 ∧ o.pc = 6 ∧ h' = h ∧ ¬ fullQ hs h) ∨ (o'.out = 1 ∧ o.pc = 9 ∧ h' = h + 1)
theorem RQ.take {o : RO} (C : RQ b n B L hs f h ps (some o)) (hB : B < 100000) :
    ∃ f' h', RQ b n B (goL b n L o) hs f' h' ps (if (goO b n L o).over then none else some (goO b n L o)) ∧ TakeEnd hs h h' o (goO b n L o) := by
  obtain ⟨hout, P⟩ := C.tok
  obtain ⟨eL, eO⟩ := go_st (b := b) (n := n) (L := L) hout
  have hTB := C.TB
  have hn1 := C.n1; have hn8 := C.n8; have hlen := C.len
  have hhf := C.hf; have hfT := C.fT; have hTf := C.Tf
  have hm := Nat.mod_lt h hn1
  rcases P with ⟨hpc, hf⟩ | ⟨hpc, hen, hf⟩ | ⟨hpc, hen, hf, hhT, hfin⟩ | ⟨hpc, hen, hf, hhT⟩
  · obtain ⟨s1, s2⟩ := stp5 (b := b) (n := n) (L := L) hpc
    have e2 : takeHeadO b L o = { o with pc := 6, en := (h : Int) } := by unfold takeHeadO; rw [C.H]
    rw [eL, s1, eO, s2, e2, if_neg (by simp [RO.over, hout])]
    exact ⟨f, h, { C with tok := ⟨hout, .inr (.inl ⟨rfl, rfl, hf⟩)⟩ }, .inl ⟨hout, by rw [hpc], rfl⟩⟩
  · obtain ⟨s1, s2⟩ := stp6 (b := b) (n := n) (L := L) hpc
    have ht := turnAt C hB hf
    rw [eL, s1, eO, s2]
    by_cases e : fullQ hs h
    · have e2 : takeTurnO b n L o = { o with pc := 7, out := 0 } := by
        unfold takeTurnO; congr 1; rw [hen, if_pos (ht.2 e), hout]
      rw [e2, if_neg (by simp [RO.over])]
      exact ⟨f, h, { C with tok := ⟨rfl, .inr (.inr (.inl ⟨.inl rfl, hen, hf, e.1, e.2⟩))⟩ }, .inl ⟨rfl, by rw [hpc], rfl⟩⟩
    · have e2 : takeTurnO b n L o = { o with pc := 7, out := 4 } := by
        unfold takeTurnO; congr 1; rw [hen, if_neg (fun x => e (ht.1 x))]
      rw [e2, if_pos (by simp [RO.over])]
      exact ⟨f, h, { C with tok := hf }, .inr (.inl ⟨rfl, hpc, rfl, e⟩)⟩
  · rcases hpc with hpc | hpc
    · obtain ⟨s1, s2⟩ := stp7 (b := b) (n := n) (L := L) hpc
      rw [eL, s1, eO, s2, if_neg (by simp [RO.over, takeValueO, hout])]
      exact ⟨f, h, { C with tok := ⟨hout, .inr (.inr (.inl ⟨.inr rfl, hen, hf, hhT, hfin⟩))⟩ }, .inl ⟨hout, by rw [hpc]; rfl, rfl⟩⟩
    · obtain ⟨s1, s2⟩ := stp8 (b := b) (n := n) (L := L) hpc
      rw [eL, s1, eO, s2]
      have hdl := Nat.div_le_self h n
      have e2 : takeFreeL b n L o = L.set (b + 2 + 2 * (h % n)) ((2 * (h / n) + 2 : Nat) : Int) := by
        unfold takeFreeL
        rw [hen, tnB, wtN n h (by omega)]
        congr 1
        rw [show (((2 * (h / n) : Nat) : Int) + 2) = ((2 * (h / n) + 2 : Nat) : Int) by omega]; exact uwN _ (by omega)
      rw [e2, if_neg (by simp [RO.over, takeFreeO, hout])]
      have hg : ∀ j, (L.set (b + 2 + 2 * (h % n)) ((2 * (h / n) + 2 : Nat) : Int)).getD j 0 = if j = b + 2 + 2 * (h % n) then ((2 * (h / n) + 2 : Nat) : Int) else L.getD j 0 := fun j => getDL _ _ _ _ (by omega)
      refine ⟨f + 1, h, ?_, .inl ⟨hout, by rw [hpc]; rfl, rfl⟩⟩
      refine { C with len := by simp [hlen], T := by rw [hg, if_neg (by omega)]; exact C.T, H := by rw [hg, if_neg (by omega)]; exact C.H, hf := by omega, fT := by omega, Tf := by omega, old := fun t ht => ?_, turn := fun t h1 h2 => ?_, pok := fun p hp => (C.pok p hp).mono (fun x => x) (fun _ x => x) (Nat.le_refl _) (by omega), tok := ⟨hout, .inr (.inr (.inr ⟨rfl, hen, by omega, hhT⟩))⟩ }
      · rcases Nat.lt_or_ge t f with x | x
        · exact C.old t x
        · have : t = h := by omega
          subst this; exact hfin
      · rw [hg]
        by_cases e : t = f + n
        · subst e
          rw [hf, mod_add, if_pos rfl, div_add n h hn1, if_neg (by omega)]; omega
        · have hne : t % n ≠ h % n := fun x => by
            have := mod_inj (f := f) (by omega) (by omega) (by omega) (by omega) x
            omega
          rw [if_neg (by omega)]; exact C.turn t (by omega) (by omega)
  · obtain ⟨s1, s2⟩ := stp9 (b := b) (n := n) (L := L) hpc
    rw [eL, s1, eO, s2]
    have e2 : takeDoneL b L o = L.set (b + 1) ((h + 1 : Nat) : Int) := by
      unfold takeDoneL; rw [hen, show ((h : Int) + 1) = ((h + 1 : Nat) : Int) by omega]; congr 1; exact uwN _ (by omega)
    rw [e2, if_pos (by simp [RO.over, takeDoneO])]
    have hg : ∀ j, (L.set (b + 1) ((h + 1 : Nat) : Int)).getD j 0 = if j = b + 1 then ((h + 1 : Nat) : Int) else L.getD j 0 := fun j => getDL _ _ _ _ (by omega)
    refine ⟨f, h + 1, ?_, .inr (.inr ⟨rfl, hpc, rfl⟩)⟩
    exact { C with len := by simp [hlen], T := by rw [hg, if_neg (by omega)]; exact C.T, H := by rw [hg, if_pos rfl], hf := by omega, turn := fun t h1 h2 => by rw [hg, if_neg (by omega)]; exact C.turn t h1 h2, tok := hf }
theorem RQ.takeBegin (C : RQ b n B L hs f h ps none) : RQ b n B L hs f h ps (some ⟨5, 0, 0, 0, 0⟩) := { C with tok := ⟨rfl, .inl ⟨rfl, C.tok⟩⟩ }
/-- a look reads only -/
theorem look12 (C : RQ b n B L hs f h ps tk) (v tk' en : Int) : goL b n L ⟨12, 0, v, tk', en⟩ = L ∧ goO b n L ⟨12, 0, v, tk', en⟩ = ⟨13, 0, v, tk', (h : Int)⟩ := by
  refine ⟨rfl, ?_⟩
  show lookHeadO b L ⟨12, 0, v, tk', en⟩ = _
  unfold lookHeadO takeHeadO; rw [C.H]
theorem look13 (v tk' en : Int) : goL b n L ⟨13, 0, v, tk', en⟩ = L ∧ goO b n L ⟨13, 0, v, tk', en⟩ = ⟨7, if L.getD (tn b n en) 0 = uw (wt n en + 1) then 1 else 4, v, tk', en⟩ := by
  refine ⟨rfl, ?_⟩
  show lookTurnO b n L ⟨13, 0, v, tk', en⟩ = _
  unfold lookTurnO takeTurnO
  by_cases e : L.getD (tn b n en) 0 = uw (wt n en + 1)
  · simp only [if_pos e]; rfl
  · simp only [if_neg e]; rfl
theorem RQ.allFin (C : RQ b n B L hs f h ps tk) (hps : ∀ p, p < 3 → ps p = none) (t : Nat) (ht : t < hs.length) : (hs.getD t dQ).fin = true := by
  have h1 := C.own t ht
  have h2 := C.pok _ h1
  rw [hps _ h1] at h2
  exact h2 t ht rfl
theorem finQ_all (hs : List Tq) (h : ∀ t, t < hs.length → (hs.getD t dQ).fin = true) : finQ hs = hs.length := by
  refine List.countP_eq_length.2 fun a ha => ?_
  obtain ⟨i, hi, rfl⟩ := List.mem_iff_getElem.1 ha
  have := h i hi
  rwa [List.getD_eq_getElem?_getD, List.getElem?_eq_getElem hi] at this
end Go.L.Ring
