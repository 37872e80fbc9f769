/-
  A ring among other cells, with what its tickets hold: three who put, one who takes. Own work; no program.
-/
import Derived.Test.YtmohikdmdmplaaaGreatRingT
set_option linter.unusedSimpArgs false
set_option linter.unusedVariables false
set_option linter.unusedSectionVars false
namespace Go.L.Ring
open Go.L
theorem tnV (b n t : Nat) : tn b n (t : Int) = b + 2 + 2 * (t % n) := by
  unfold tn; rw [← Int.natCast_emod, Int.toNat_natCast]
def IdV (hs : List Tk) (p : Nat) : Prop := ∀ t, t < hs.length → (hs.getD t dT).own = p → (hs.getD t dT).fin = true
def BzV (hs : List Tk) (p t : Nat) (v : Int) : Prop := t < hs.length ∧ hs.getD t dT = ⟨p, v, false⟩ ∧ ∀ u, u < hs.length → (hs.getD u dT).own = p → u ≠ t → (hs.getD u dT).fin = true
def PV (b n : Nat) (L : List Int) (hs : List Tk) (f p : Nat) : Option RO → Prop
  | none => IdV hs p
  | some o => o.out = 0 ∧ ((o.pc = 0 ∧ IdV hs p) ∨ (o.pc = 1 ∧ IdV hs p ∧ ∃ t : Nat, o.tick = t ∧ t ≤ hs.length) ∨ (o.pc = 2 ∧ IdV hs p ∧ ∃ t : Nat, o.tick = t ∧ t ≤ hs.length ∧ t < f + n) ∨ (o.pc = 3 ∧ ∃ t : Nat, o.tick = t ∧ BzV hs p t o.val) ∨ (o.pc = 4 ∧ ∃ t : Nat, o.tick = t ∧ BzV hs p t o.val ∧ L.getD (b + 2 + 2 * (t % n) + 1) 0 = o.val))
def TV (hs : List Tk) (f h : Nat) : Option RO → Prop
  | none => f = h
  | some o => o.out = 0 ∧ ((o.pc = 5 ∧ f = h) ∨ (o.pc = 6 ∧ o.en = h ∧ f = h) ∨ (o.pc = 7 ∧ o.en = h ∧ f = h ∧ h < hs.length ∧ (hs.getD h dT).fin = true) ∨ (o.pc = 8 ∧ o.en = h ∧ f = h ∧ h < hs.length ∧ (hs.getD h dT).fin = true ∧ o.val = (hs.getD h dT).val) ∨ (o.pc = 9 ∧ o.en = h ∧ f = h + 1 ∧ h < hs.length ∧ o.val = (hs.getD h dT).val))
structure RV (b n B : Nat) (L : List Int) (hs : List Tk) (f h : Nat) (ps : Nat → Option RO) (tk : Option RO) : Prop where
  n1 : 1 ≤ n
  n8 : n ≤ 8
  len : b + 2 + 2 * n ≤ L.length
  T : L.getD b 0 = hs.length
  H : L.getD (b + 1) 0 = h
  TB : hs.length ≤ B
  hf : h ≤ f
  fT : f ≤ hs.length
  Tf : hs.length ≤ f + n
  own : ∀ t, t < hs.length → (hs.getD t dT).own < 3
  old : ∀ t, t < f → (hs.getD t dT).fin = true
  turn : ∀ t, f ≤ t → t < f + n → L.getD (b + 2 + 2 * (t % n)) 0 = ((2 * (t / n) : Nat) : Int) + (if t < hs.length ∧ (hs.getD t dT).fin = true then 1 else 0)
  value : ∀ t, f ≤ t → t < hs.length → (hs.getD t dT).fin = true → L.getD (b + 2 + 2 * (t % n) + 1) 0 = (hs.getD t dT).val
  pok : ∀ p, p < 3 → PV b n L hs f p (ps p)
  tok : TV hs f h tk
def fullV (hs : List Tk) (h : Nat) : Prop := h < hs.length ∧ (hs.getD h dT).fin = true
def upV {α : Type} (ps : Nat → α) (p : Nat) (x : α) : Nat → α := fun q => if q = p then x else ps q
theorem getDV (L : List Int) (i j : Nat) (x : Int) (h : i < L.length) : (L.set i x).getD j 0 = if j = i then x else L.getD j 0 := getD_set _ _ _ _ _ h
variable {b n B : Nat} {L : List Int} {hs : List Tk} {f h : Nat} {ps : Nat → Option RO} {tk : Option RO}
theorem PV.mono {L' : List Int} {hs hs' : List Tk} {f f' q : Nat} {po : Option RO} (P : PV b n L hs f q po) (hI : IdV hs q → IdV hs' q) (hBz : ∀ t v, BzV hs q t v → BzV hs' q t v) (hl : hs.length ≤ hs'.length) (hf : f ≤ f')
    (hL : ∀ t v, BzV hs q t v → L'.getD (b + 2 + 2 * (t % n) + 1) 0 = L.getD (b + 2 + 2 * (t % n) + 1) 0) : PV b n L' hs' f' q po := by
  cases po with
  | none => exact hI P
  | some o =>
    obtain ⟨h1, h | h | h | h | h⟩ := P
    · exact ⟨h1, .inl ⟨h.1, hI h.2⟩⟩
    · obtain ⟨a, b, t, d, e⟩ := h; exact ⟨h1, .inr (.inl ⟨a, hI b, t, d, by omega⟩)⟩
    · obtain ⟨a, b, t, d, e, g⟩ := h; exact ⟨h1, .inr (.inr (.inl ⟨a, hI b, t, d, by omega, by omega⟩))⟩
    · obtain ⟨a, t, d, e⟩ := h; exact ⟨h1, .inr (.inr (.inr (.inl ⟨a, t, d, hBz _ _ e⟩)))⟩
    · obtain ⟨a, t, d, e, g⟩ := h; exact ⟨h1, .inr (.inr (.inr (.inr ⟨a, t, d, hBz _ _ e, by rw [hL _ _ e]; exact g⟩)))⟩
theorem RV.frame (C : RV b n B L hs f h ps tk) {L' : List Int} (hl : L'.length = L.length) (hw : ∀ j, b ≤ j → j < b + 2 + 2 * n → L'.getD j 0 = L.getD j 0) {B' : Nat} (hB : B ≤ B') : RV b n B' L' hs f h ps tk :=
  { C with len := by rw [hl]; exact C.len, T := by rw [hw b (by omega) (by omega)]; exact C.T, H := by rw [hw (b + 1) (by omega) (by omega)]; exact C.H, TB := Nat.le_trans C.TB hB,
           turn := fun t h1 h2 => by have := Nat.mod_lt t C.n1; rw [hw _ (by omega) (by omega)]; exact C.turn t h1 h2,
           value := fun t h1 h2 h3 => by have := Nat.mod_lt t C.n1; rw [hw _ (by omega) (by omega)]; exact C.value t h1 h2 h3,
           pok := fun p hp => (C.pok p hp).mono (fun x => x) (fun _ _ x => x) (Nat.le_refl _) (Nat.le_refl _) (fun t _ _ => by have := Nat.mod_lt t C.n1; rw [hw _ (by omega) (by omega)]) }
theorem goV_frame (hn : 1 ≤ n) (o : RO) {j : Nat} (hj : j < b ∨ b + 2 + 2 * n ≤ j) : (goL b n L o).getD j 0 = L.getD j 0 := by
  have htn : ∀ t : Int, b + 2 ≤ tn b n t ∧ tn b n t + 2 ≤ b + 2 + 2 * n := fun t => by
    unfold tn
    have : (t % (n : Int)).toNat < n := by have := Int.emod_lt_of_pos t (show (0 : Int) < n by omega); omega
    omega
  have h1 := htn o.tick; have h2 := htn o.en
  have hg : ∀ i x, i ≠ j → (L.set i x).getD j 0 = L.getD j 0 := fun i x hi => by
    simp only [List.getD_eq_getElem?_getD, List.getElem?_set]; rw [if_neg hi]
  unfold goL; split
  · rfl
  · unfold stepL; split <;> (try rfl) <;> simp only [putSwapL, putValueL, putDoneL, takeFreeL, takeDoneL, closeSwapL] <;> (try split) <;> first | rfl | exact hg _ _ (by omega)
theorem RV.keep (C : RV b n B L hs f h ps tk) {p : Nat} {x : Option RO} (hx : PV b n L hs f p x) : RV b n (B + 1) L hs f h (upV ps p x) tk :=
  { C with TB := Nat.le_succ_of_le C.TB, pok := fun q hq => by unfold upV; split; (rename_i e; subst e; exact hx); exact C.pok q hq }
theorem RV.begun (C : RV b n B L hs f h ps tk) {p : Nat} (hp : p < 3) (h0 : ps p = none) (v : Int) : RV b n B L hs f h (upV ps p (some ⟨0, 0, v, 0, 0⟩)) tk :=
  have h1 : ∀ q, q < 3 → PV b n L hs f q (upV ps p (some ⟨0, 0, v, 0, 0⟩) q) := by
    intro q hq
    unfold upV
    split
    · rename_i e; subst e
      have h2 := C.pok q hq
      rw [h0] at h2
      exact ⟨rfl, .inl ⟨rfl, h2⟩⟩
    · exact C.pok q hq
  { C with pok := h1 }
theorem RV.turnOf (C : RV b n B L hs f h ps tk) (t : Nat) : ∃ u c, f ≤ u ∧ u < f + n ∧ u % n = t % n ∧ c ≤ 1 ∧ L.getD (b + 2 + 2 * (t % n)) 0 = ((2 * (u / n) + c : Nat) : Int) ∧ (hs.length ≤ u → c = 0) := by
  obtain ⟨u, h1, h2, h3⟩ := mod_ex C.n1 f t
  have := C.turn u h1 h2
  rw [h3] at this
  by_cases e : u < hs.length ∧ (hs.getD u dT).fin = true
  · rw [if_pos e] at this; exact ⟨u, 1, h1, h2, h3, by omega, by rw [this]; omega, fun x => by omega⟩
  · rw [if_neg e] at this; exact ⟨u, 0, h1, h2, h3, by omega, by rw [this]; omega, fun _ => rfl⟩
/-- what a step of one who puts comes to -/
def PutV (p : Nat) (hs hs' : List Tk) (o o' : RO) : Prop :=
  (o'.out = 0 ∧ o'.val = o.val ∧ rk hs'.length o' < rk hs.length o ∧ (hs' = hs ∨ hs' = hs ++ [⟨p, o.val, false⟩])) ∨
  (o'.out = 2 ∧ hs' = hs) ∨ (o'.out = 1 ∧ ∃ t, t < hs.length ∧ hs.getD t dT = ⟨p, o.val, false⟩ ∧ hs' = hs.set t ⟨p, o.val, true⟩)
theorem RV.put (C : RV b n B L hs f h ps tk) (hB : B < 100000) {p : Nat} (hp : p < 3) {o : RO} (hps : ps p = some o) :
    ∃ hs', RV b n (B + 1) (goL b n L o) hs' f h (upV ps p (if (goO b n L o).over then none else some (goO b n L o))) tk ∧ PutV p hs hs' o (goO b n L o) := by
  have P := C.pok p hp
  rw [hps] at P
  obtain ⟨hout, P⟩ := P
  obtain ⟨eL, eO⟩ := go_st (b := b) (n := n) (L := L) hout
  have htop : top = 9223372036854775808 := rfl
  have hTB := C.TB
  have hn1 := C.n1; have hn8 := C.n8; have hlen := C.len; have hTf := C.Tf; have hfT := C.fT
  have P : (o.pc = 0 ∧ IdV hs p) ∨ (o.pc = 1 ∧ IdV hs p ∧ ∃ t : Nat, o.tick = t ∧ t ≤ hs.length) ∨ (o.pc = 2 ∧ IdV hs p ∧ ∃ t : Nat, o.tick = t ∧ t ≤ hs.length ∧ t < f + n) ∨ ((o.pc = 3 ∨ o.pc = 4) ∧ ∃ t : Nat, o.tick = t ∧ BzV hs p t o.val ∧ (o.pc = 4 → L.getD (b + 2 + 2 * (t % n) + 1) 0 = o.val)) := by
    rcases P with P | P | P | ⟨a, t, d, e⟩ | ⟨a, t, d, e, g⟩
    · exact .inl P
    · exact .inr (.inl P)
    · exact .inr (.inr (.inl P))
    · exact .inr (.inr (.inr ⟨.inl a, t, d, e, fun h => by omega⟩))
    · exact .inr (.inr (.inr ⟨.inr a, t, d, e, fun _ => g⟩))
  rcases P with ⟨hpc, I⟩ | ⟨hpc, I, t, ht, htT⟩ | ⟨hpc, I, t, ht, htT, htf⟩ | ⟨hpc, t, ht, Bz, hval⟩
  · obtain ⟨s1, s2⟩ := stp0 (b := b) (n := n) (L := L) hpc
    have e2 : putTailO b L o = { o with pc := 1, tick := (hs.length : Int), out := 0 } := by
      unfold putTailO; rw [C.T, if_neg (by omega), hout]
    rw [eL, s1, eO, s2, e2]
    refine ⟨hs, C.keep (x := some _) ⟨rfl, .inr (.inl ⟨rfl, I, hs.length, rfl, Nat.le_refl _⟩)⟩, .inl ⟨rfl, rfl, ?_, .inl rfl⟩⟩
    simp [rk, hpc]
  · obtain ⟨s1, s2⟩ := stp1 (b := b) (n := n) (L := L) hpc
    obtain ⟨u, c, hu1, hu2, hu3, hb, hu, hu4⟩ := C.turnOf t
    have hw := wtN n t (by omega)
    have htn := tnV b n t
    have key : (putTurnO b n L o = { o with pc := 0 } ∧ (t : Int) ≠ hs.length) ∨ putTurnO b n L o = { o with out := 2 } ∨ (putTurnO b n L o = { o with pc := 2 } ∧ t = u) := by
      unfold putTurnO
      rw [ht, hw, htn, hu]
      by_cases e1 : 2 * (t / n) < 2 * (u / n) + c
      · left; rw [if_pos (by omega)]; refine ⟨rfl, fun e => ?_⟩
        have e : t = hs.length := by omega
        rcases Nat.lt_or_ge t (f + n) with x | x
        · have := mod_inj hu1 hu2 (by omega) x hu3
          have := hu4 (by omega); subst u; omega
        · have : t = f + n := by omega
          have h1 : f % n = u % n := by rw [hu3, this, mod_add]
          have := mod_inj (Nat.le_refl f) (by omega) hu1 hu2 h1
          have h2 := div_add n f hn1
          subst u; rw [‹t = f + n›, h2] at e1; omega
      · rw [if_neg (by omega)]
        by_cases e2 : 2 * (u / n) + c < 2 * (t / n)
        · right; left; rw [if_pos (by omega)]
        · right; right; rw [if_neg (by omega)]; exact ⟨rfl, div_mod_eq (by omega) hu3.symm⟩
    rw [eL, s1, eO, s2]
    rcases key with ⟨e, hne⟩ | e | ⟨e, htu⟩
    · rw [e, if_neg (by simp [RO.over, hout])]
      refine ⟨hs, C.keep (x := some _) ⟨hout, .inl ⟨rfl, I⟩⟩, .inl ⟨hout, rfl, ?_, .inl rfl⟩⟩
      simp [rk, hpc, ht]; rw [if_neg hne]; omega
    · rw [e, if_pos (by simp [RO.over])]
      exact ⟨hs, C.keep (x := none) I, .inr (.inl ⟨rfl, rfl⟩)⟩
    · rw [e, if_neg (by simp [RO.over, hout])]
      refine ⟨hs, C.keep (x := some _) ⟨hout, .inr (.inr (.inl ⟨rfl, I, t, ht, htT, by omega⟩))⟩, .inl ⟨hout, rfl, ?_, .inl rfl⟩⟩
      simp [rk, hpc, ht]; split <;> omega
  · obtain ⟨s1, s2⟩ := stp2 (b := b) (n := n) (L := L) hpc
    rw [eL, s1, eO, s2]
    unfold putSwapO putSwapL
    by_cases e : L.getD b 0 = o.tick
    · rw [if_pos e, if_pos e, if_neg (by simp [RO.over, hout])]
      have hT := C.T
      have htl : t = hs.length := by omega
      have hu : uw (o.tick + 1) = ((hs.length + 1 : Nat) : Int) := by rw [ht, show ((t : Int) + 1) = ((hs.length + 1 : Nat) : Int) by omega]; exact uwN _ (by omega)
      rw [hu]
      have hg : ∀ j, (L.set b ((hs.length + 1 : Nat) : Int)).getD j 0 = if j = b then ((hs.length + 1 : Nat) : Int) else L.getD j 0 := fun j => getDV _ _ _ _ (by omega)
      have hl : (hs ++ [(⟨p, o.val, false⟩ : Tk)]).length = hs.length + 1 := by simp
      have hfin : ∀ t, t < hs.length → (hs ++ [(⟨p, o.val, false⟩ : Tk)]).getD t dT = hs.getD t dT := fun t h => by rw [getD_app, if_neg (by omega)]
      have hnew : (hs ++ [(⟨p, o.val, false⟩ : Tk)]).getD hs.length dT = ⟨p, o.val, false⟩ := by rw [getD_app, if_pos rfl]
      refine ⟨hs ++ [(⟨p, o.val, false⟩ : Tk)], ?_, .inl ⟨hout, rfl, by simp [rk, hpc, ht, htl], .inr rfl⟩⟩
      · refine { C with len := by simp [hlen], T := by rw [hg, hl, if_pos rfl], H := by rw [hg, if_neg (by omega)]; exact C.H, TB := by rw [hl]; omega, fT := by rw [hl]; omega, Tf := by rw [hl]; omega, own := ?_, old := ?_, turn := ?_, value := ?_, pok := ?_, tok := ?_ }
        · intro q hq; rw [hl] at hq
          rcases Nat.lt_or_ge q hs.length with x | x
          · rw [hfin q x]; exact C.own q x
          · have : q = hs.length := by omega
            subst this; rw [hnew]; exact hp
        · intro q hq; rw [hfin q (by omega)]; exact C.old q hq
        · intro q h1 h2; rw [hg, if_neg (by omega), C.turn q h1 h2, hl]
          rcases Nat.lt_trichotomy q hs.length with x | x | x
          · rw [hfin q x]; congr 1; simp [x, Nat.lt_succ_of_lt x]
          · subst x; rw [hnew]; simp
          · rw [if_neg (by omega), if_neg (by omega)]
        · intro q h1 h2 h3
          rw [hl] at h2
          rcases Nat.lt_or_ge q hs.length with x | x
          · rw [hfin q x] at h3 ⊢; rw [hg, if_neg (by omega)]; exact C.value q h1 x h3
          · have : q = hs.length := by omega
            subst this; rw [hnew] at h3; cases h3
        · intro q hq
          unfold upV
          split
          · rename_i e; subst e
            refine ⟨hout, .inr (.inr (.inr (.inl ⟨rfl, t, ht, ?_⟩)))⟩
            rw [htl]
            refine ⟨by rw [hl]; omega, hnew, fun u h1 h2 h3 => ?_⟩
            rw [hl] at h1
            rw [hfin u (by omega)] at h2 ⊢; exact I u (by omega) h2
          · rename_i hqp
            refine (C.pok q hq).mono (fun I u h1 h2 => ?_) (fun u v Bz => ?_) (by rw [hl]; omega) (Nat.le_refl _) (fun u v _ => by rw [hg, if_neg (by omega)])
            · rw [hl] at h1
              rcases Nat.lt_or_ge u hs.length with x | x
              · rw [hfin u x] at h2 ⊢; exact I u x h2
              · have : u = hs.length := by omega
                subst this; rw [hnew] at h2; exact absurd h2.symm hqp
            · obtain ⟨b1, b2, b3⟩ := Bz
              refine ⟨by rw [hl]; omega, by rw [hfin u b1]; exact b2, fun w h1 h2 h3 => ?_⟩
              rw [hl] at h1
              rcases Nat.lt_or_ge w hs.length with x | x
              · rw [hfin w x] at h2 ⊢; exact b3 w x h2 h3
              · have : w = hs.length := by omega
                subst this; rw [hnew] at h2; exact absurd h2.symm hqp
        · have ht := C.tok
          cases tk with
          | none => exact ht
          | some o1 =>
            obtain ⟨k0, k⟩ := ht
            refine ⟨k0, ?_⟩
            rcases k with k | k | k | k | k
            · exact .inl k
            · exact .inr (.inl k)
            · obtain ⟨a1, a2, a3, a4, a5⟩ := k; exact .inr (.inr (.inl ⟨a1, a2, a3, by rw [hl]; omega, by rw [hfin _ a4]; exact a5⟩))
            · obtain ⟨a1, a2, a3, a4, a5, a6⟩ := k; exact .inr (.inr (.inr (.inl ⟨a1, a2, a3, by rw [hl]; omega, by rw [hfin _ a4]; exact a5, by rw [hfin _ a4]; exact a6⟩)))
            · obtain ⟨a1, a2, a3, a4, a6⟩ := k; exact .inr (.inr (.inr (.inr ⟨a1, a2, a3, by rw [hl]; omega, by rw [hfin _ a4]; exact a6⟩)))
    · rw [if_neg e, if_neg e, if_neg (by simp [RO.over, hout])]
      refine ⟨hs, C.keep (x := some _) ⟨hout, .inl ⟨rfl, I⟩⟩, .inl ⟨hout, rfl, ?_, .inl rfl⟩⟩
      have hT := C.T
      simp [rk, hpc, ht]; split <;> omega
  · have hft : f ≤ t := by
      rcases Nat.lt_or_ge t f with x | x
      · have := C.old t x; rw [Bz.2.1] at this; cases this
      · exact x
    have htT := Bz.1
    have hm := Nat.mod_lt t hn1
    have hne : ∀ u, f ≤ u → u < f + n → u ≠ t → u % n ≠ t % n := fun u h1 h2 h3 h4 => h3 (mod_inj h1 h2 hft (by omega) h4)
    rcases hpc with hpc | hpc
    · obtain ⟨s1, s2⟩ := stp3 (b := b) (n := n) (L := L) hpc
      rw [eL, s1, eO, s2]
      have e2 : putValueL b n L o = L.set (b + 2 + 2 * (t % n) + 1) o.val := by unfold putValueL; rw [ht, tnV]
      rw [e2, if_neg (by simp [RO.over, putValueO, hout])]
      have hg : ∀ j, (L.set (b + 2 + 2 * (t % n) + 1) o.val).getD j 0 = if j = b + 2 + 2 * (t % n) + 1 then o.val else L.getD j 0 := fun j => getDV _ _ _ _ (by omega)
      refine ⟨hs, ?_, .inl ⟨hout, rfl, by simp [rk, hpc, putValueO], .inl rfl⟩⟩
      refine { C with TB := Nat.le_succ_of_le C.TB, len := by simp [hlen], T := by rw [hg, if_neg (by omega)]; exact C.T, H := by rw [hg, if_neg (by omega)]; exact C.H, turn := fun u h1 h2 => by rw [hg, if_neg (by omega)]; exact C.turn u h1 h2, value := ?_, pok := ?_ }
      · intro u h1 h2 h3
        rw [hg, if_neg (by
          intro h4
          have : u ≠ t := fun e => by subst e; rw [Bz.2.1] at h3; cases h3
          exact hne u h1 (by omega) this (by omega))]
        exact C.value u h1 h2 h3
      · intro q hq
        unfold upV
        split
        · rename_i e; subst e
          exact ⟨hout, .inr (.inr (.inr (.inr ⟨rfl, t, ht, Bz, by rw [hg, if_pos rfl]; rfl⟩)))⟩
        · rename_i hqp
          refine (C.pok q hq).mono id (fun _ _ x => x) (Nat.le_refl _) (Nat.le_refl _) (fun u v Bu => ?_)
          have hfu : f ≤ u := by
            rcases Nat.lt_or_ge u f with x | x
            · have := C.old u x; rw [Bu.2.1] at this; cases this
            · exact x
          rw [hg, if_neg (by
            intro h4
            have : u ≠ t := fun e => by subst e; have := Bu.2.1; rw [Bz.2.1] at this; cases this; exact hqp rfl
            have hb := Bu.1
            exact hne u hfu (by omega) this (by omega))]
    · obtain ⟨s1, s2⟩ := stp4 (b := b) (n := n) (L := L) hpc
      rw [eL, s1, eO, s2]
      have e2 : putDoneL b n L o = L.set (b + 2 + 2 * (t % n)) ((2 * (t / n) + 1 : Nat) : Int) := by
        unfold putDoneL
        rw [ht, tnV, wtN n t (by omega)]
        congr 1
        have := Nat.div_le_self t n
        rw [show (((2 * (t / n) : Nat) : Int) + 1) = ((2 * (t / n) + 1 : Nat) : Int) by omega]; exact uwN _ (by omega)
      rw [e2, if_pos (by simp [RO.over, putDoneO])]
      have hg : ∀ j, (L.set (b + 2 + 2 * (t % n)) ((2 * (t / n) + 1 : Nat) : Int)).getD j 0 = if j = b + 2 + 2 * (t % n) then ((2 * (t / n) + 1 : Nat) : Int) else L.getD j 0 := fun j => getDV _ _ _ _ (by omega)
      have hl : (hs.set t (⟨p, o.val, true⟩ : Tk)).length = hs.length := by simp
      have hgs : ∀ u, (hs.set t (⟨p, o.val, true⟩ : Tk)).getD u dT = if u = t then ⟨p, o.val, true⟩ else hs.getD u dT := fun u => getD_set _ _ _ _ _ htT
      have hol : ∀ u, ((hs.set t (⟨p, o.val, true⟩ : Tk)).getD u dT).own = (hs.getD u dT).own := fun u => by
        rw [hgs]; split
        · rename_i e; rw [e, Bz.2.1]
        · rfl
      have hvl : ∀ u, ((hs.set t (⟨p, o.val, true⟩ : Tk)).getD u dT).val = (hs.getD u dT).val := fun u => by
        rw [hgs]; split
        · rename_i e; rw [e, Bz.2.1]
        · rfl
      have hfl : ∀ u, (hs.getD u dT).fin = true → ((hs.set t (⟨p, o.val, true⟩ : Tk)).getD u dT).fin = true := fun u h => by
        rw [hgs]; split
        · rfl
        · exact h
      refine ⟨hs.set t ⟨p, o.val, true⟩, ?_, .inr (.inr ⟨rfl, t, htT, Bz.2.1, rfl⟩)⟩
      refine { C with len := by simp [hlen], T := by rw [hg, hl, if_neg (by omega)]; exact C.T, H := by rw [hg, if_neg (by omega)]; exact C.H, TB := by rw [hl]; omega, fT := by rw [hl]; exact C.fT, Tf := by rw [hl]; exact C.Tf, own := fun u hu => by rw [hol]; exact C.own u (by rw [hl] at hu; exact hu), old := fun u hu => hfl u (C.old u hu), turn := ?_, value := ?_, pok := ?_, tok := ?_ }
      · intro u h1 h2
        rw [hg, hl, hgs]
        by_cases e : u = t
        · subst e; rw [if_pos rfl, if_pos rfl, if_pos ⟨htT, rfl⟩]; omega
        · rw [if_neg (by have := hne u h1 h2 e; omega), if_neg e]; exact C.turn u h1 h2
      · intro u h1 h2 h3
        rw [hl] at h2
        rw [hg, if_neg (by omega), hvl]
        by_cases e : u = t
        · subst e; rw [hval hpc, Bz.2.1]
        · rw [hgs, if_neg e] at h3; exact C.value u h1 h2 h3
      · intro q hq
        unfold upV
        by_cases e : q = p
        · rw [if_pos e]; subst e
          intro u h1 h2
          rw [hl] at h1; rw [hol] at h2
          by_cases e : u = t
          · subst e; rw [hgs, if_pos rfl]
          · exact hfl u (Bz.2.2 u h1 h2 e)
        · have hqp := e
          rw [if_neg e]
          refine (C.pok q hq).mono (fun I u h1 h2 => ?_) (fun u v Bu => ?_) (by rw [hl]; exact Nat.le_refl _) (Nat.le_refl _) (fun u v _ => by rw [hg, if_neg (by omega)])
          · rw [hl] at h1; rw [hol] at h2; exact hfl u (I u h1 h2)
          · obtain ⟨b1, b2, b3⟩ := Bu
            have hut : u ≠ t := fun e => by subst e; rw [Bz.2.1] at b2; cases b2; exact hqp rfl
            exact ⟨by rw [hl]; exact b1, by rw [hgs, if_neg hut]; exact b2, fun w h1 h2 h3 => by rw [hl] at h1; rw [hol] at h2; exact hfl w (b3 w h1 h2 h3)⟩
      · have ht := C.tok
        cases tk with
        | none => exact ht
        | some o1 =>
          obtain ⟨k0, k⟩ := ht
          refine ⟨k0, ?_⟩
          rcases k with k | k | k | k | k
          · exact .inl k
          · exact .inr (.inl k)
          · obtain ⟨a1, a2, a3, a4, a5⟩ := k; exact .inr (.inr (.inl ⟨a1, a2, a3, by rw [hl]; omega, hfl _ a5⟩))
          · obtain ⟨a1, a2, a3, a4, a5, a6⟩ := k; exact .inr (.inr (.inr (.inl ⟨a1, a2, a3, by rw [hl]; omega, hfl _ a5, by rw [hvl]; exact a6⟩)))
          · obtain ⟨a1, a2, a3, a4, a6⟩ := k; exact .inr (.inr (.inr (.inr ⟨a1, a2, a3, by rw [hl]; omega, by rw [hvl]; exact a6⟩)))
theorem turnV (C : RV b n B L hs f h ps tk) (hB : B < 100000) (hf : f = h) : (L.getD (tn b n h) 0 = uw (wt n h + 1)) ↔ fullV hs h := by
  have hTB := C.TB; have hfT := C.fT; have hn1 := C.n1
  have ht := C.turn h (by omega) (by omega)
  have hw := wtN n h (by omega)
  have hdl := Nat.div_le_self h n
  have hu : uw (wt n (h : Int) + 1) = ((2 * (h / n) + 1 : Nat) : Int) := by
    rw [hw, show (((2 * (h / n) : Nat) : Int) + 1) = ((2 * (h / n) + 1 : Nat) : Int) by omega]; exact uwN _ (by omega)
  rw [hu, tnV, ht]
  by_cases e : h < hs.length ∧ (hs.getD h dT).fin = true
  · rw [if_pos e]; exact ⟨fun _ => e, fun _ => by omega⟩
  · rw [if_neg e]; exact ⟨fun x => by omega, fun x => absurd x e⟩
def TakeV (hs : List Tk) (h h' : Nat) (o o' : RO) : Prop :=
  (o'.out = 0 ∧ o'.pc = o.pc + 1 ∧ h' = h) ∨ (o'.out = 4 ∧ o.pc = 6 ∧ h' = h ∧ ¬ fullV hs h) ∨ (o'.out = 1 ∧ o.pc = 9 ∧ h' = h + 1 ∧ h < hs.length ∧ o'.val = (hs.getD h dT).val)
theorem RV.take {o : RO} (C : RV b n B L hs f h ps (some o)) (hB : B < 100000) :
    ∃ f' h', RV b n B (goL b n L o) hs f' h' ps (if (goO b n L o).over then none else some (goO b n L o)) ∧ TakeV hs h h' o (goO b n L o) := by
  obtain ⟨hout, P⟩ := C.tok
  obtain ⟨eL, eO⟩ := go_st (b := b) (n := n) (L := L) hout
  have hTB := C.TB
  have hn1 := C.n1; have hn8 := C.n8; have hlen := C.len
  have hhf := C.hf; have hfT := C.fT; have hTf := C.Tf
  have hm := Nat.mod_lt h hn1
  rcases P with ⟨hpc, hf⟩ | ⟨hpc, hen, hf⟩ | ⟨hpc, hen, hf, hhT, hfin⟩ | ⟨hpc, hen, hf, hhT, hfin, hvv⟩ | ⟨hpc, hen, hf, hhT, hvv⟩
  · obtain ⟨s1, s2⟩ := stp5 (b := b) (n := n) (L := L) hpc
    have e2 : takeHeadO b L o = { o with pc := 6, en := (h : Int) } := by unfold takeHeadO; rw [C.H]
    rw [eL, s1, eO, s2, e2, if_neg (by simp [RO.over, hout])]
    exact ⟨f, h, { C with tok := ⟨hout, .inr (.inl ⟨rfl, rfl, hf⟩)⟩ }, .inl ⟨hout, by rw [hpc], rfl⟩⟩
  · obtain ⟨s1, s2⟩ := stp6 (b := b) (n := n) (L := L) hpc
    have ht := turnV C hB hf
    rw [eL, s1, eO, s2]
    by_cases e : fullV hs h
    · have e2 : takeTurnO b n L o = { o with pc := 7, out := 0 } := by
        unfold takeTurnO; congr 1; rw [hen, if_pos (ht.2 e), hout]
      rw [e2, if_neg (by simp [RO.over])]
      exact ⟨f, h, { C with tok := ⟨rfl, .inr (.inr (.inl ⟨rfl, hen, hf, e.1, e.2⟩))⟩ }, .inl ⟨rfl, by rw [hpc], rfl⟩⟩
    · have e2 : takeTurnO b n L o = { o with pc := 7, out := 4 } := by
        unfold takeTurnO; congr 1; rw [hen, if_neg (fun x => e (ht.1 x))]
      rw [e2, if_pos (by simp [RO.over])]
      exact ⟨f, h, { C with tok := hf }, .inr (.inl ⟨rfl, hpc, rfl, e⟩)⟩
  · obtain ⟨s1, s2⟩ := stp7 (b := b) (n := n) (L := L) hpc
    rw [eL, s1, eO, s2, if_neg (by simp [RO.over, takeValueO, hout])]
    have hv7 : (takeValueO b n L o).val = (hs.getD h dT).val := by
      show L.getD (tn b n o.en + 1) 0 = _
      rw [hen, tnV]; exact C.value h (by omega) hhT hfin
    exact ⟨f, h, { C with tok := ⟨hout, .inr (.inr (.inr (.inl ⟨rfl, hen, hf, hhT, hfin, hv7⟩)))⟩ }, .inl ⟨hout, by rw [hpc]; rfl, rfl⟩⟩
  · obtain ⟨s1, s2⟩ := stp8 (b := b) (n := n) (L := L) hpc
    rw [eL, s1, eO, s2]
    have hdl := Nat.div_le_self h n
    have e2 : takeFreeL b n L o = L.set (b + 2 + 2 * (h % n)) ((2 * (h / n) + 2 : Nat) : Int) := by
      unfold takeFreeL
      rw [hen, tnV, wtN n h (by omega)]
      congr 1
      rw [show (((2 * (h / n) : Nat) : Int) + 2) = ((2 * (h / n) + 2 : Nat) : Int) by omega]; exact uwN _ (by omega)
    rw [e2, if_neg (by simp [RO.over, takeFreeO, hout])]
    have hg : ∀ j, (L.set (b + 2 + 2 * (h % n)) ((2 * (h / n) + 2 : Nat) : Int)).getD j 0 = if j = b + 2 + 2 * (h % n) then ((2 * (h / n) + 2 : Nat) : Int) else L.getD j 0 := fun j => getDV _ _ _ _ (by omega)
    refine ⟨f + 1, h, ?_, .inl ⟨hout, by rw [hpc]; rfl, rfl⟩⟩
    refine { C with len := by simp [hlen], T := by rw [hg, if_neg (by omega)]; exact C.T, H := by rw [hg, if_neg (by omega)]; exact C.H, hf := by omega, fT := by omega, Tf := by omega, old := fun t ht => ?_, turn := fun t h1 h2 => ?_, value := fun t h1 h2 h3 => by rw [hg, if_neg (by omega)]; exact C.value t (by omega) h2 h3, pok := fun p hp => (C.pok p hp).mono (fun x => x) (fun _ _ x => x) (Nat.le_refl _) (by omega) (fun u v _ => by rw [hg, if_neg (by omega)]), tok := ⟨hout, .inr (.inr (.inr (.inr ⟨rfl, hen, by omega, hhT, hvv⟩)))⟩ }
    · rcases Nat.lt_or_ge t f with x | x
      · exact C.old t x
      · have : t = h := by omega
        subst this; exact hfin
    · rw [hg]
      by_cases e : t = f + n
      · subst e
        rw [hf, mod_add, if_pos rfl, div_add n h hn1, if_neg (by omega)]; omega
      · have hne : t % n ≠ h % n := fun x => by
          have := mod_inj (f := f) (by omega) (by omega) (by omega) (by omega) x
          omega
        rw [if_neg (by omega)]; exact C.turn t (by omega) (by omega)
  · obtain ⟨s1, s2⟩ := stp9 (b := b) (n := n) (L := L) hpc
    rw [eL, s1, eO, s2]
    have e2 : takeDoneL b L o = L.set (b + 1) ((h + 1 : Nat) : Int) := by
      unfold takeDoneL; rw [hen, show ((h : Int) + 1) = ((h + 1 : Nat) : Int) by omega]; congr 1; exact uwN _ (by omega)
    rw [e2, if_pos (by simp [RO.over, takeDoneO])]
    have hg : ∀ j, (L.set (b + 1) ((h + 1 : Nat) : Int)).getD j 0 = if j = b + 1 then ((h + 1 : Nat) : Int) else L.getD j 0 := fun j => getDV _ _ _ _ (by omega)
    refine ⟨f, h + 1, ?_, .inr (.inr ⟨rfl, hpc, rfl, hhT, hvv⟩)⟩
    exact { C with len := by simp [hlen], T := by rw [hg, if_neg (by omega)]; exact C.T, H := by rw [hg, if_pos rfl], hf := by omega, turn := fun t h1 h2 => by rw [hg, if_neg (by omega)]; exact C.turn t h1 h2, value := fun t h1 h2 h3 => by rw [hg, if_neg (by omega)]; exact C.value t h1 h2 h3, pok := fun p hp => (C.pok p hp).mono (fun x => x) (fun _ _ x => x) (Nat.le_refl _) (Nat.le_refl _) (fun u v _ => by rw [hg, if_neg (by omega)]), tok := hf }
theorem RV.takeBegin (C : RV b n B L hs f h ps none) : RV b n B L hs f h ps (some ⟨5, 0, 0, 0, 0⟩) := { C with tok := ⟨rfl, .inl ⟨rfl, C.tok⟩⟩ }
theorem RV.allFin (C : RV b n B L hs f h ps tk) (hps : ∀ p, p < 3 → ps p = none) (t : Nat) (ht : t < hs.length) : (hs.getD t dT).fin = true := by
  have h1 := C.own t ht
  have h2 := C.pok _ h1
  rw [hps _ h1] at h2
  exact h2 t ht rfl
end Go.L.Ring
