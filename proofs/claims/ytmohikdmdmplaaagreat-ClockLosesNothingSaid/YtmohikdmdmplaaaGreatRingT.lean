/-
  RingOrder and RingBound on paper: what holds at each step. Own work; no program.
-/
import Derived.Test.YtmohikdmdmplaaaGreatRingO
set_option linter.unusedSimpArgs false
set_option linter.unusedVariables false
set_option linter.unusedSectionVars false
namespace Go.L.Ring
open Go.L
variable {n B : Nat} {c : CW} {hs : List Tk} {f h : Nat}
theorem POK.mono {L L' : List Int} {hs hs' : List Tk} {f f' q : Nat} {x : Int} {po : Option RO} (P : POK n L hs f q x po) (hI : Idle hs q → Idle hs' q) (hBz : ∀ t v, Busy hs q t v → Busy hs' q t v) (hl : hs.length ≤ hs'.length) (hf : f ≤ f')
    (hL : ∀ t v, Busy hs q t v → L'.getD (3 + 2 * (t % n)) 0 = L.getD (3 + 2 * (t % n)) 0) : POK n L' hs' f' q x po := by
  cases po with
  | none => exact hI P
  | some o =>
    obtain ⟨h1, h2, h | h | h | h | h⟩ := P
    · exact ⟨h1, h2, .inl ⟨h.1, hI h.2⟩⟩
    · obtain ⟨a, b, t, d, e⟩ := h; exact ⟨h1, h2, .inr (.inl ⟨a, hI b, t, d, by omega⟩)⟩
    · obtain ⟨a, b, t, d, e, g⟩ := h; exact ⟨h1, h2, .inr (.inr (.inl ⟨a, hI b, t, d, by omega, by omega⟩))⟩
    · obtain ⟨a, t, d, e⟩ := h; exact ⟨h1, h2, .inr (.inr (.inr (.inl ⟨a, t, d, hBz _ _ e⟩)))⟩
    · obtain ⟨a, t, d, e, g⟩ := h; exact ⟨h1, h2, .inr (.inr (.inr (.inr ⟨a, t, d, hBz _ _ e, by rw [hL _ _ e]; exact g⟩)))⟩
def rk (T : Nat) (o : RO) : Nat := if o.pc = 0 then 5 else if o.pc = 1 then (if o.tick = T then 4 else 7) else if o.pc = 2 then (if o.tick = T then 3 else 6) else if o.pc = 3 then 2 else 1
theorem rk_le (T : Nat) (o : RO) : 1 ≤ rk T o ∧ rk T o ≤ 7 := by unfold rk; (repeat' split) <;> omega
/-- what a step of one who puts leaves -/
def PutOut (n B p : Nat) (c' : CW) (hs : List Tk) (f h : Nat) (o : RO) : Prop :=
  ∃ hs', CI n (B + 1) c' hs' f h ∧ (c'.ps.getD p none = none ∨ ∃ o', c'.ps.getD p none = some o' ∧ rk hs'.length o' < rk hs.length o)
theorem set_ps {c : CW} {p q : Nat} {x : Option RO} (lp : c.ps.length = 3) (hp : p < 3) : (c.ps.set p x).getD q none = if q = p then x else c.ps.getD q none := getD_set _ _ _ _ _ (by omega)
/-- an operation goes on; the cells and the tickets are as they were -/
theorem CI.keep (C : CI n B c hs f h) {p : Nat} (hp : p < 3) {po' : Option RO} (hP : POK n c.L hs f p (c.nx.getD p 0) po') (hO : ∀ o, po' = some o → OI o) : CI n (B + 1) { c with ps := c.ps.set p po' } hs f h := by
  refine { C with TB := Nat.le_succ_of_le C.TB, nx := fun q hq => ⟨(C.nx q hq).1, Int.le_trans (C.nx q hq).2 (by omega)⟩, lp := by simp [C.lp], pok := fun q hq => ?_, poi := fun q o hq e => ?_ }
  · show POK n c.L hs f q _ ((c.ps.set p po').getD q none)
    rw [set_ps C.lp hp]; split
    · rename_i e; subst e; exact hP
    · exact C.pok q hq
  · have e : (c.ps.set p po').getD q none = some o := e
    rw [set_ps C.lp hp] at e; split at e
    · exact hO o e
    · exact C.poi q o hq e
theorem CI.turnOf (C : CI n B c hs f h) (t : Nat) : ∃ u b, f ≤ u ∧ u < f + n ∧ u % n = t % n ∧ b ≤ 1 ∧ c.L.getD (2 + 2 * (t % n)) 0 = ((2 * (u / n) + b : Nat) : Int) ∧ (hs.length ≤ u → b = 0) := by
  obtain ⟨u, h1, h2, h3⟩ := mod_ex C.n1 f t
  have := C.turn u h1 h2
  rw [h3] at this
  by_cases e : u < hs.length ∧ (hs.getD u dT).fin = true
  · rw [if_pos e] at this; exact ⟨u, 1, h1, h2, h3, by omega, by rw [this]; omega, fun x => by omega⟩
  · rw [if_neg e] at this; exact ⟨u, 0, h1, h2, h3, by omega, by rw [this]; omega, fun _ => rfl⟩
theorem CI.putGo (C : CI n B c hs f h) (hB : B < 100000) {p : Nat} (hp : p < 3) {o : RO} (hps : c.ps.getD p none = some o) : PutOut n B p (putGo n p o c) hs f h o := by
  have P := C.pok p hp
  have hO := C.poi p o hp hps
  rw [hps] at P
  obtain ⟨hout, hval, P⟩ := P
  obtain ⟨eL, eO⟩ := go_st (b := 0) (n := n) (L := c.L) hout
  have hO' := goO_in (b := 0) (n := n) C.li hO
  have hL' := goL_in (b := 0) (n := n) C.li hO
  have htop : top = 9223372036854775808 := rfl
  have hTB := C.TB
  have hn1 := C.n1; have hn8 := C.n8; have hlen := C.len
  have hxb := C.nx p hp
  unfold Ring.putGo
  rcases P with ⟨hpc, I⟩ | ⟨hpc, I, t, ht, htT⟩ | ⟨hpc, I, t, ht, htT, htf⟩ | ⟨hpc, t, ht, Bz⟩ | ⟨hpc, t, ht, Bz, hv⟩
  · -- the tail is read
    obtain ⟨s1, s2⟩ := stp0 (b := 0) (n := n) (L := c.L) hpc
    have e2 : putTailO 0 c.L o = { o with pc := 1, tick := (hs.length : Int), out := 0 } := by
      unfold putTailO; rw [C.T, if_neg (by omega), hout]
    rw [eL, s1, eO, s2, e2]
    rw [eO, s2, e2] at hO'
    refine ⟨hs, CI.keep C hp (po' := some _) ⟨rfl, hval, .inr (.inl ⟨rfl, I, hs.length, rfl, Nat.le_refl _⟩)⟩ (fun o1 e => by cases e; exact hO'), .inr ⟨_, (set_ps C.lp hp).trans (if_pos rfl), ?_⟩⟩
    simp [rk, hpc]
  · -- the turn is read
    obtain ⟨s1, s2⟩ := stp1 (b := 0) (n := n) (L := c.L) hpc
    obtain ⟨u, b, hu1, hu2, hu3, hb, hu, hu4⟩ := C.turnOf t
    have hw := wtN n t (by omega)
    have htn := tnN n t
    have hTf := C.Tf
    have hfT := C.fT
    rw [eO, s2] at hO'
    have key : (putTurnO 0 n c.L o = { o with pc := 0 } ∧ (t : Int) ≠ hs.length) ∨ putTurnO 0 n c.L o = { o with out := 2 } ∨ (putTurnO 0 n c.L o = { o with pc := 2 } ∧ t = u) := by
      unfold putTurnO
      rw [ht, hw, htn, hu]
      by_cases e1 : 2 * (t / n) < 2 * (u / n) + b
      · left; rw [if_pos (by omega)]; refine ⟨rfl, fun e => ?_⟩
        have e : t = hs.length := by omega
        rcases Nat.lt_or_ge t (f + n) with x | x
        · have := mod_inj hu1 hu2 (by omega) x hu3
          have := hu4 (by omega); subst u; omega
        · have : t = f + n := by omega
          have h1 : f % n = u % n := by rw [hu3, this, mod_add]
          have := mod_inj (Nat.le_refl f) (by omega) hu1 hu2 h1
          have h2 := div_add n f hn1
          subst u; rw [‹t = f + n›, h2] at e1; omega
      · rw [if_neg (by omega)]
        by_cases e2 : 2 * (u / n) + b < 2 * (t / n)
        · right; left; rw [if_pos (by omega)]
        · right; right; rw [if_neg (by omega)]; exact ⟨rfl, div_mod_eq (by omega) hu3.symm⟩
    rw [eL, s1, eO, s2]
    rcases key with ⟨e, hne⟩ | e | ⟨e, htu⟩
    · rw [e] at hO' ⊢
      rw [if_neg (by simp [RO.over, hout])]
      refine ⟨hs, CI.keep C hp (po' := some _) ⟨hout, hval, .inl ⟨rfl, I⟩⟩ (fun o1 e => by cases e; exact hO'), .inr ⟨_, (set_ps C.lp hp).trans (if_pos rfl), ?_⟩⟩
      simp [rk, hpc, ht]; rw [if_neg hne]; omega
    · rw [e]
      rw [if_pos (by simp [RO.over]), if_neg (show ¬ (2 : Int) = 1 by decide)]
      exact ⟨hs, CI.keep C hp (po' := none) I (fun o1 e => by cases e), .inl ((set_ps C.lp hp).trans (if_pos rfl))⟩
    · rw [e] at hO' ⊢
      rw [if_neg (by simp [RO.over, hout])]
      refine ⟨hs, CI.keep C hp (po' := some _) ⟨hout, hval, .inr (.inr (.inl ⟨rfl, I, t, ht, htT, by omega⟩))⟩ (fun o1 e => by cases e; exact hO'), .inr ⟨_, (set_ps C.lp hp).trans (if_pos rfl), ?_⟩⟩
      simp [rk, hpc, ht]; split <;> omega
  · -- the tail is swapped
    obtain ⟨s1, s2⟩ := stp2 (b := 0) (n := n) (L := c.L) hpc
    rw [eO, s2] at hO'
    rw [eL, s1] at hL'
    rw [eL, s1, eO, s2]
    unfold putSwapO putSwapL at *
    by_cases e : c.L.getD 0 0 = o.tick
    · rw [if_pos e] at hL' hO' ⊢; rw [if_pos e]
      rw [if_neg (by simp [RO.over, hout])]
      have hT := C.T
      have htl : t = hs.length := by omega
      have hu : uw (o.tick + 1) = ((hs.length + 1 : Nat) : Int) := by rw [ht, show ((t : Int) + 1) = ((hs.length + 1 : Nat) : Int) by omega]; exact uwN _ (by omega)
      rw [hu] at hL' ⊢
      have hg : ∀ j, (c.L.set 0 ((hs.length + 1 : Nat) : Int)).getD j 0 = if j = 0 then ((hs.length + 1 : Nat) : Int) else c.L.getD j 0 := fun j => getD_set _ _ _ _ _ (by omega)
      have hl : (hs ++ [(⟨p, o.val, false⟩ : Tk)]).length = hs.length + 1 := by simp
      have hfin : ∀ t, t < hs.length → (hs ++ [(⟨p, o.val, false⟩ : Tk)]).getD t dT = hs.getD t dT := fun t h => by rw [getD_app, if_neg (by omega)]
      have hnew : (hs ++ [(⟨p, o.val, false⟩ : Tk)]).getD hs.length dT = ⟨p, o.val, false⟩ := by rw [getD_app, if_pos rfl]
      refine ⟨hs ++ [(⟨p, o.val, false⟩ : Tk)], ?_, .inr ⟨_, (set_ps C.lp hp).trans (if_pos rfl), ?_⟩⟩
      · refine { C with len := by simp [hlen], li := hL', lp := by simp [C.lp], nx := fun q hq => ⟨(C.nx q hq).1, Int.le_trans (C.nx q hq).2 (by omega)⟩, T := by rw [hg, hl, if_pos rfl], H := by rw [hg, if_neg (by decide)]; exact C.H, TB := by rw [hl]; omega, fT := by rw [hl]; have := C.fT; omega, Tf := by rw [hl]; omega, own := ?_, old := ?_, turn := ?_, value := ?_, pok := ?_, poi := ?_, tok := ?_, inn := ?_, took := ?_, cnt := ?_ }
        · intro q hq; rw [hl] at hq
          rcases Nat.lt_or_ge q hs.length with x | x
          · rw [hfin q x]; exact C.own q x
          · have : q = hs.length := by omega
            subst this; rw [hnew]; exact ⟨hp, _, hxb.1, by omega, hval⟩
        · intro q hq; rw [hfin q (by have := C.fT; omega)]; exact C.old q hq
        · intro q h1 h2; rw [hg, if_neg (by omega), C.turn q h1 h2, hl]
          rcases Nat.lt_trichotomy q hs.length with x | x | x
          · rw [hfin q x]; congr 1; simp [x, Nat.lt_succ_of_lt x]
          · subst x; rw [hnew]; simp
          · rw [if_neg (by omega), if_neg (by omega)]
        · intro q h1 h2 h3
          rw [hl] at h2
          rcases Nat.lt_or_ge q hs.length with x | x
          · rw [hfin q x] at h3 ⊢; rw [hg, if_neg (by omega)]; exact C.value q h1 x h3
          · have : q = hs.length := by omega
            subst this; rw [hnew] at h3; cases h3
        · intro q hq
          show POK n _ _ f q _ ((c.ps.set p _).getD q none)
          rw [set_ps C.lp hp]
          split
          · rename_i e; subst e
            refine ⟨hout, hval, .inr (.inr (.inr (.inl ⟨rfl, t, ht, ?_⟩)))⟩
            rw [htl]
            refine ⟨by rw [hl]; omega, hnew, fun u h1 h2 h3 => ?_, fun u h1 h2 => by rw [hl] at h2; omega⟩
            rw [hl] at h1
            rw [hfin u (by omega)] at h2 ⊢; exact I u (by omega) h2
          · rename_i hqp
            refine (C.pok q hq).mono (fun I u h1 h2 => ?_) (fun u v Bz => ?_) (by rw [hl]; omega) (Nat.le_refl _) (fun u v _ => by rw [hg, if_neg (by omega)])
            · rw [hl] at h1
              rcases Nat.lt_or_ge u hs.length with x | x
              · rw [hfin u x] at h2 ⊢; exact I u x h2
              · have : u = hs.length := by omega
                subst this; rw [hnew] at h2; exact absurd h2.symm hqp
            · obtain ⟨b1, b2, b3, b4⟩ := Bz
              refine ⟨by rw [hl]; omega, by rw [hfin u b1]; exact b2, fun w h1 h2 h3 => ?_, fun w h1 h2 => ?_⟩
              · rw [hl] at h1
                rcases Nat.lt_or_ge w hs.length with x | x
                · rw [hfin w x] at h2 ⊢; exact b3 w x h2 h3
                · have : w = hs.length := by omega
                  subst this; rw [hnew] at h2; exact absurd h2.symm hqp
              · rw [hl] at h2
                rcases Nat.lt_or_ge w hs.length with x | x
                · rw [hfin w x]; exact b4 w h1 x
                · have : w = hs.length := by omega
                  subst this; rw [hnew]; exact fun h => hqp h.symm
        · intro q o1 hq e1
          have e1 : (c.ps.set p _).getD q none = some o1 := e1
          rw [set_ps C.lp hp] at e1; split at e1
          · cases e1; exact hO'
          · exact C.poi q o1 hq e1
        · have ht := C.tok
          show TOK _ f h c.tk
          cases htk : c.tk with
          | none => rw [htk] at ht; exact ht
          | some o1 =>
            rw [htk] at ht; obtain ⟨k0, k⟩ := ht
            refine ⟨k0, ?_⟩
            rcases k with k | k | k | k | k
            · exact .inl k
            · exact .inr (.inl k)
            · obtain ⟨a1, a2, a3, a4, a5⟩ := k; exact .inr (.inr (.inl ⟨a1, a2, a3, by rw [hl]; omega, by rw [hfin _ a4]; exact a5⟩))
            · obtain ⟨a1, a2, a3, a4, a5, a6⟩ := k; exact .inr (.inr (.inr (.inl ⟨a1, a2, a3, by rw [hl]; omega, by rw [hfin _ a4]; exact a5, by rw [hfin _ a4]; exact a6⟩)))
            · obtain ⟨a1, a2, a3, a4, a6⟩ := k; exact .inr (.inr (.inr (.inr ⟨a1, a2, a3, by rw [hl]; omega, by rw [hfin _ a4]; exact a6⟩)))
        · intro q hq; rw [mineOf_app]; exact C.inn q hq
        · show c.taken = _; rw [C.took, List.take_append_of_le_length (by have := C.hf; have := C.fT; omega)]
        · show c.count = _; rw [C.cnt]; simp [finN]
      · simp [rk, hpc, ht, htl]
    · rw [if_neg e] at hL' hO' ⊢; rw [if_neg e]
      rw [if_neg (by simp [RO.over, hout])]
      refine ⟨hs, CI.keep C hp (po' := some _) ⟨hout, hval, .inl ⟨rfl, I⟩⟩ (fun o1 e => by cases e; exact hO'), .inr ⟨_, (set_ps C.lp hp).trans (if_pos rfl), ?_⟩⟩
      have hT := C.T
      simp [rk, hpc, ht]; split <;> omega
  · -- the value is stored
    obtain ⟨s1, s2⟩ := stp3 (b := 0) (n := n) (L := c.L) hpc
    rw [eO, s2] at hO'
    rw [eL, s1] at hL'
    rw [eL, s1, eO, s2]
    have e2 : putValueL 0 n c.L o = c.L.set (3 + 2 * (t % n)) o.val := by unfold putValueL; rw [ht, tnN]; congr 1; omega
    rw [e2] at hL' ⊢
    rw [if_neg (by simp [RO.over, putValueO, hout])]
    have hm := Nat.mod_lt t hn1
    have hg : ∀ j, (c.L.set (3 + 2 * (t % n)) o.val).getD j 0 = if j = 3 + 2 * (t % n) then o.val else c.L.getD j 0 := fun j => getD_set _ _ _ _ _ (by omega)
    have hft : f ≤ t := fin_lt C (by rw [Bz.2.1])
    have hne : ∀ u, f ≤ u → u < hs.length → u ≠ t → u % n ≠ t % n := fun u h1 h2 h3 h4 => h3 (mod_inj h1 (by have := C.Tf; omega) hft (by have := C.Tf; have := Bz.1; omega) h4)
    refine ⟨hs, ?_, .inr ⟨_, (set_ps C.lp hp).trans (if_pos rfl), by simp [rk, hpc, putValueO]⟩⟩
    refine { C with len := by simp [hlen], li := hL', lp := by simp [C.lp], nx := fun q hq => ⟨(C.nx q hq).1, Int.le_trans (C.nx q hq).2 (by omega)⟩, T := by rw [hg, if_neg (by omega)]; exact C.T, H := by rw [hg, if_neg (by omega)]; exact C.H, TB := by omega, turn := fun u h1 h2 => by rw [hg, if_neg (by omega)]; exact C.turn u h1 h2, value := ?_, pok := ?_, poi := ?_ }
    · intro u h1 h2 h3
      rw [hg, if_neg (by
        intro h4
        have : u ≠ t := fun e => by subst e; rw [Bz.2.1] at h3; cases h3
        exact hne u h1 h2 this (by omega))]
      exact C.value u h1 h2 h3
    · intro q hq
      show POK n _ _ f q _ ((c.ps.set p _).getD q none)
      rw [set_ps C.lp hp]
      split
      · rename_i e; subst e
        exact ⟨hout, hval, .inr (.inr (.inr (.inr ⟨rfl, t, ht, Bz, by rw [hg, if_pos rfl]; rfl⟩)))⟩
      · rename_i hqp
        refine (C.pok q hq).mono id (fun _ _ x => x) (Nat.le_refl _) (Nat.le_refl _) (fun u v Bu => ?_)
        rw [hg, if_neg (by
          intro h4
          have : u ≠ t := fun e => by subst e; have := Bu.2.1; rw [Bz.2.1] at this; cases this; exact hqp rfl
          exact hne u (fin_lt C (by rw [Bu.2.1])) Bu.1 this (by omega))]
    · intro q o1 hq e1
      have e1 : (c.ps.set p _).getD q none = some o1 := e1
      rw [set_ps C.lp hp] at e1; split at e1
      · cases e1; exact hO'
      · exact C.poi q o1 hq e1
  · -- the turn is stored: over
    obtain ⟨s1, s2⟩ := stp4 (b := 0) (n := n) (L := c.L) hpc
    rw [eL, s1] at hL'
    rw [eL, s1, eO, s2]
    have e2 : putDoneL 0 n c.L o = c.L.set (2 + 2 * (t % n)) ((2 * (t / n) + 1 : Nat) : Int) := by
      unfold putDoneL
      rw [ht, tnN, wtN n t (by have := Bz.1; omega)]
      congr 1
      have := Nat.div_le_self t n
      have := Bz.1
      rw [show (((2 * (t / n) : Nat) : Int) + 1) = ((2 * (t / n) + 1 : Nat) : Int) by omega]; exact uwN _ (by omega)
    rw [e2] at hL' ⊢
    rw [if_pos (by simp [RO.over, putDoneO]), if_pos (show (putDoneO o).out = 1 from rfl)]
    have hm := Nat.mod_lt t hn1
    have hg : ∀ j, (c.L.set (2 + 2 * (t % n)) ((2 * (t / n) + 1 : Nat) : Int)).getD j 0 = if j = 2 + 2 * (t % n) then ((2 * (t / n) + 1 : Nat) : Int) else c.L.getD j 0 := fun j => getD_set _ _ _ _ _ (by omega)
    have hft : f ≤ t := fin_lt C (by rw [Bz.2.1])
    have htT := Bz.1
    have hne : ∀ u, f ≤ u → u < f + n → u ≠ t → u % n ≠ t % n := fun u h1 h2 h3 h4 => h3 (mod_inj h1 h2 hft (by have := C.Tf; omega) h4)
    have hl : (hs.set t (⟨p, o.val, true⟩ : Tk)).length = hs.length := by simp
    have hgs : ∀ u, (hs.set t (⟨p, o.val, true⟩ : Tk)).getD u dT = if u = t then ⟨p, o.val, true⟩ else hs.getD u dT := fun u => getD_set _ _ _ _ _ htT
    have hvl : ∀ u, ((hs.set t (⟨p, o.val, true⟩ : Tk)).getD u dT).val = (hs.getD u dT).val := fun u => by
      rw [hgs]; split
      · rename_i e; rw [e, Bz.2.1]
      · rfl
    have hol : ∀ u, ((hs.set t (⟨p, o.val, true⟩ : Tk)).getD u dT).own = (hs.getD u dT).own := fun u => by
      rw [hgs]; split
      · rename_i e; rw [e, Bz.2.1]
      · rfl
    have hfl : ∀ u, (hs.getD u dT).fin = true → ((hs.set t (⟨p, o.val, true⟩ : Tk)).getD u dT).fin = true := fun u h => by
      rw [hgs]; split
      · rfl
      · exact h
    have hfn := finN_fin hs t p o.val htT Bz.2.1
    refine ⟨hs.set t ⟨p, o.val, true⟩, ?_, .inl ((set_ps C.lp hp).trans (if_pos rfl))⟩
    refine { C with len := by simp [hlen], li := hL', lp := by simp [C.lp], lin := by simp [C.lin], nx := fun q hq => ⟨(C.nx q hq).1, Int.le_trans (C.nx q hq).2 (by omega)⟩, T := by rw [hg, hl, if_neg (by omega)]; exact C.T, H := by rw [hg, if_neg (by omega)]; exact C.H, TB := by rw [hl]; omega, fT := by rw [hl]; exact C.fT, Tf := by rw [hl]; exact C.Tf, own := fun u hu => by rw [hol, hvl]; exact C.own u (by rw [hl] at hu; exact hu), old := fun u hu => hfl u (C.old u hu), turn := ?_, value := ?_, pok := ?_, poi := ?_, tok := ?_, inn := ?_, took := ?_, cnt := ?_, most := ?_ }
    · intro u h1 h2
      rw [hg, hl, hgs]
      by_cases e : u = t
      · subst e; rw [if_pos rfl, if_pos rfl, if_pos ⟨htT, rfl⟩]; omega
      · rw [if_neg (by have := hne u h1 h2 e; omega), if_neg e]; exact C.turn u h1 h2
    · intro u h1 h2 h3
      rw [hl] at h2
      rw [hg, if_neg (by omega), hvl]
      by_cases e : u = t
      · subst e; rw [hv, Bz.2.1]
      · rw [hgs, if_neg e] at h3; exact C.value u h1 h2 h3
    · intro q hq
      show POK n _ _ f q _ ((c.ps.set p _).getD q none)
      rw [set_ps C.lp hp]
      by_cases e : q = p
      · rw [if_pos e]; subst e
        intro u h1 h2
        rw [hl] at h1; rw [hol] at h2
        by_cases e : u = t
        · subst e; rw [hgs, if_pos rfl]
        · exact hfl u (Bz.2.2.1 u h1 h2 e)
      · have hqp := e
        rw [if_neg e]
        refine (C.pok q hq).mono (fun I u h1 h2 => ?_) (fun u v Bu => ?_) (by rw [hl]; exact Nat.le_refl _) (Nat.le_refl _) (fun u v _ => by rw [hg, if_neg (by omega)])
        · rw [hl] at h1; rw [hol] at h2; exact hfl u (I u h1 h2)
        · obtain ⟨b1, b2, b3, b4⟩ := Bu
          have hut : u ≠ t := fun e => by subst e; rw [Bz.2.1] at b2; cases b2; exact hqp rfl
          exact ⟨by rw [hl]; exact b1, by rw [hgs, if_neg hut]; exact b2, fun w h1 h2 h3 => by rw [hl] at h1; rw [hol] at h2; exact hfl w (b3 w h1 h2 h3), fun w h1 h2 => by rw [hl] at h2; rw [hol]; exact b4 w h1 h2⟩
    · intro q o1 hq e1
      have e1 : (c.ps.set p _).getD q none = some o1 := e1
      rw [set_ps C.lp hp] at e1; split at e1
      · cases e1
      · exact C.poi q o1 hq e1
    · have ht := C.tok
      show TOK _ f h c.tk
      cases htk : c.tk with
      | none => rw [htk] at ht; exact ht
      | some o1 =>
        rw [htk] at ht; obtain ⟨k0, k⟩ := ht
        refine ⟨k0, ?_⟩
        rcases k with k | k | k | k | k
        · exact .inl k
        · exact .inr (.inl k)
        · obtain ⟨a1, a2, a3, a4, a5⟩ := k; exact .inr (.inr (.inl ⟨a1, a2, a3, by rw [hl]; omega, hfl _ a5⟩))
        · obtain ⟨a1, a2, a3, a4, a5, a6⟩ := k; exact .inr (.inr (.inr (.inl ⟨a1, a2, a3, by rw [hl]; omega, hfl _ a5, by rw [hvl]; exact a6⟩)))
        · obtain ⟨a1, a2, a3, a4, a6⟩ := k; exact .inr (.inr (.inr (.inr ⟨a1, a2, a3, by rw [hl]; omega, by rw [hvl]; exact a6⟩)))
    · intro q hq
      show (c.inn.set p _).getD q [] = _
      rw [getD_set _ _ _ _ _ (by rw [C.lin]; exact hp)]
      split
      · rename_i e; subst e
        rw [C.inn q hq, mineOf_fin q hs t o.val htT Bz.2.1 Bz.2.2.2, hval]
      · rename_i e; rw [mineOf_other q p (fun x => e x.symm) hs t o.val false Bz.2.1]; exact C.inn q hq
    · show c.taken = _; rw [C.took, take_val hl hvl]
    · show c.count + 1 = _; rw [C.cnt, hfn]; omega
    · have h1 := C.most; have h2 := C.cnt; have h3 := finN_le (hs.set t (⟨p, o.val, true⟩ : Tk))
      rw [hl, hfn] at h3
      have h4 := C.Tf; have h5 := C.fT
      show (if c.most < c.count + 1 then c.count + 1 else c.most) ≤ (n : Int)
      split <;> omega
end Go.L.Ring
