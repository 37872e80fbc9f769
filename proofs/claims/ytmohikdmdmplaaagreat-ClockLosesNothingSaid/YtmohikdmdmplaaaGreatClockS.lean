/-
  The clock on paper: two who ask, one who beats; what went in is told once. Own work; no program.
-/
import Derived.Test.YtmohikdmdmplaaaGreatRingS
import Derived.Test.YtmohikdmdmplaaaGreatClockR
set_option linter.unusedSimpArgs false
set_option linter.unusedVariables false
set_option linter.unusedSectionVars false
namespace Go.L.Clk
open Go.L Go.L.Ring Go.L.Whl Go.L.Post
def tkP : CPh → Option RO
  | .take _ o => some o
  | _ => none
def tkOf : Option CO → Option RO
  | some c => tkP c.ph
  | none => none
def refB : Option CO → List Int
  | some c => c.ref
  | none => []
def idsT (hs : List Tk) : List Int := hs.map fun t => t.val / 4096
def Vok (N : Nat) (v : Int) : Prop := 1 ≤ v / 4096 ∧ v / 4096 ≤ N ∧ 1 ≤ v % 4096 ∧ v % 4096 ≤ 40
theorem Vok.up {N : Nat} {v : Int} (h : Vok N v) : Vok (N + 1) v := ⟨h.1, by have := h.2.1; omega, h.2.2⟩
/-- the beat under way -/
def BOk (w : Wh) (c : CO) : Prop := c.out = 0 ∧ c.val = 0 ∧ c.due = [] ∧ c.cut = [] ∧ ((∃ l o, c.ph = .take l o ∧ 1 ≤ l) ∨ c.ph = .tick ((w.now + 1 : Nat) : Int)) ∧ COI c
abbrev putC (o : RO) : CO := ⟨.put o, 0, 0, [], [], []⟩
structure SS (B : CB) (i N M : Nat) (L : List Int) (w : Wh) (hs : List Tk) (f h : Nat) (po : Nat → Option RO) (bt : Option CO) (inn told : List Int) (id : Nat → Int) : Prop where
  I : CI B L
  hL : LI L
  hw : WS (100000 - i) w
  R : RV (B.b + 1) B.n i L hs f h po (tkOf bt)
  p2 : ∀ p, 2 ≤ p → po p = none
  N60 : N ≤ 60
  vals : ∀ t, t ∈ hs → Vok N t.val
  nd : (idsT hs).Nodup
  run : ∀ p o, po p = some o → Vok N o.val ∧ o.val / 4096 = id p ∧ (o.pc ≤ 2 → id p ∉ idsT hs) ∧ COI (putC o)
  dis : po 0 ≠ none → po 1 ≠ none → id 0 ≠ id 1
  inn : inn.Perm (idsT (hs.filter (·.fin)))
  told : (told ++ refB bt ++ w.T.map (·.id)).Perm (idsT (hs.take h))
  due : ∀ t ∈ w.T, t.due ≤ M
  bok : ∀ c, bt = some c → BOk w c
variable {B : CB} {i N M : Nat} {L : List Int} {w : Wh} {hs : List Tk} {f h : Nat} {po : Nat → Option RO} {bt : Option CO} {inn told : List Int} {id : Nat → Int}
theorem SS.le (S : SS B i N M L w hs f h po bt inn told id) {j : Nat} (hj : i ≤ j) : SS B j N M L w hs f h po bt inn told id :=
  { S with hw := S.hw.le (by omega), R := S.R.frame rfl (fun _ _ _ => rfl) hj }
theorem SS.leM (S : SS B i N M L w hs f h po bt inn told id) {M' : Nat} (hM : M ≤ M') : SS B i N M' L w hs f h po bt inn told id :=
  { S with due := fun t ht => Nat.le_trans (S.due t ht) hM }
theorem SS.zero {n : Nat} (h1 : 1 ≤ n) (h2 : n ≤ 8) (id : Nat → Int) : SS ⟨0, n⟩ 0 0 40 (List.replicate (3 + 2 * n) 0) ⟨0, 0, []⟩ [] 0 0 (fun _ => none) none [] [] id := by
  have K := KQ.zero (n := n) h1 (by omega)
  have z : ∀ i, (List.replicate (3 + 2 * n) (0 : Int)).getD i 0 = 0 := fun i => by
    rw [List.getD_eq_getElem?_getD, List.getElem?_replicate]; split <;> rfl
  refine { I := K.I, hL := K.hL, hw := K.hw.le (by decide), R := ?_, p2 := fun _ _ => rfl, N60 := by decide, vals := fun t ht => (by cases ht), nd := by simp [idsT], run := fun p o h => (by cases h), dis := fun h => absurd rfl h, inn := .refl _, told := .refl _, due := fun t ht => (by cases ht), bok := fun c h => (by cases h) }
  refine { n1 := h1, n8 := h2, len := by (first | (simp; done) | (simp; omega)), T := z _, H := z _, TB := Nat.le_refl _, hf := Nat.le_refl _, fT := Nat.le_refl _, Tf := by simp, own := fun t ht => (by simp at ht), old := fun t ht => (by omega), turn := fun t _ ht => ?_, value := fun t _ ht => (by simp at ht), pok := fun p _ t ht => (by simp at ht), tok := rfl }
  have hd : t / n = 0 := Nat.div_eq_of_lt (by simpa using ht)
  have hc : ¬ (t < ([] : List Tk).length ∧ (([] : List Tk).getD t dT).fin = true) := fun h => by simpa using h.1
  rw [z, if_neg hc]
  show (0 : Int) = ((2 * (t / n) : Nat) : Int) + 0
  rw [hd]; rfl
theorem nodup_le {N : Nat} {l : List Int} (nd : l.Nodup) (h : ∀ x ∈ l, 1 ≤ x ∧ x ≤ (N : Int)) : l.length ≤ N := by
  induction N generalizing l with
  | zero =>
    cases l with
    | nil => exact Nat.le_refl _
    | cons x l => have := h x List.mem_cons_self; omega
  | succ N ih =>
    have h1 := ih (l := l.filter fun x => !decide (x = ((N + 1 : Nat) : Int))) (nd.filter _) (fun x hx => by
      obtain ⟨a, b⟩ := List.mem_filter.1 hx
      have := h x a
      have : ¬ x = ((N + 1 : Nat) : Int) := by simpa using b
      omega)
    have h2 : (l.filter fun x => decide (x = ((N + 1 : Nat) : Int))).length ≤ 1 := by
      have h3 : (l.filter fun x => decide (x = ((N + 1 : Nat) : Int))).Nodup := nd.filter _
      have h4 : ∀ x ∈ (l.filter fun x => decide (x = ((N + 1 : Nat) : Int))), x = ((N + 1 : Nat) : Int) := fun x hx => by simpa using (List.mem_filter.1 hx).2
      match hl : (l.filter fun x => decide (x = ((N + 1 : Nat) : Int))) with
      | [] => simp
      | [_] => simp
      | x :: y :: r =>
        rw [hl] at h3 h4
        have e1 := h4 x List.mem_cons_self
        have e2 := h4 y (List.mem_cons_of_mem _ List.mem_cons_self)
        rw [e1, e2] at h3
        simp at h3
    have h5 := (List.filter_append_perm (fun x => decide (x = ((N + 1 : Nat) : Int))) l).length_eq
    rw [List.length_append] at h5
    omega
theorem SS.ids (S : SS B i N M L w hs f h po bt inn told id) : ∀ x ∈ idsT hs, 1 ≤ x ∧ x ≤ (N : Int) := fun x hx => by
  obtain ⟨t, ht, rfl⟩ := List.mem_map.1 hx
  have := S.vals t ht
  exact ⟨this.1, this.2.1⟩
theorem SS.inn_len (S : SS B i N M L w hs f h po bt inn told id) : inn.length ≤ 60 := by
  rw [S.inn.length_eq, idsT, List.length_map]
  have h1 := nodup_le S.nd S.ids
  rw [idsT, List.length_map] at h1
  have := List.length_filter_le (fun t : Tk => t.fin) hs
  have := S.N60
  omega
theorem SS.told_len (S : SS B i N M L w hs f h po bt inn told id) : told.length + (refB bt).length + w.T.length ≤ 60 := by
  have h2 := S.told.length_eq
  simp only [List.length_append, List.length_map, idsT, List.length_take] at h2
  have h1 := nodup_le S.nd S.ids
  rw [idsT, List.length_map] at h1
  have := S.N60
  omega
/-- an ask is begun -/
theorem SS.ask (S : SS B i N M L w hs f h po bt inn told id) {p : Nat} (hp : p < 2) (h0 : po p = none) (hN : N < 60) {d : Int} (hd : 1 ≤ d ∧ d ≤ 40) :
    askC ((N + 1 : Nat) : Int) d = putC (ini 0 (((N + 1 : Nat) : Int) * 4096 + d)) ∧
    SS B i (N + 1) M L w hs f h (upV po p (some (ini 0 (((N + 1 : Nat) : Int) * 4096 + d)))) bt inn told (upV id p ((N + 1 : Nat) : Int)) := by
  have e : askC ((N + 1 : Nat) : Int) d = putC (ini 0 (((N + 1 : Nat) : Int) * 4096 + d)) := by unfold askC; rw [if_neg (by omega)]; rfl
  have hco : COI (putC (ini 0 (((N + 1 : Nat) : Int) * 4096 + d))) := by rw [← e]; exact askC_ok (by omega)
  have hv : (((N + 1 : Nat) : Int) * 4096 + d) / 4096 = ((N + 1 : Nat) : Int) := by omega
  have hnew : ((N + 1 : Nat) : Int) ∉ idsT hs := fun h => by have := (S.ids _ h).2; omega
  have hne : ∀ q, q ≠ p → po q ≠ none → id q ≠ ((N + 1 : Nat) : Int) := fun q hq hn => by
    cases hq2 : po q with
    | none => exact absurd hq2 hn
    | some o =>
      obtain ⟨a, b, _⟩ := S.run q o hq2
      have := a.2.1
      omega
  refine ⟨e, { S with R := S.R.begun (by omega) h0 _, p2 := fun q hq => by unfold upV; rw [if_neg (by omega)]; exact S.p2 q hq, N60 := hN, vals := fun t ht => (S.vals t ht).up, run := fun q o hq => ?_, dis := fun a b => ?_ }⟩
  · unfold upV at hq ⊢
    by_cases hqp : q = p
    · rw [if_pos hqp] at hq ⊢
      cases hq
      exact ⟨⟨by show 1 ≤ (((N + 1 : Nat) : Int) * 4096 + d) / 4096; omega, by show (((N + 1 : Nat) : Int) * 4096 + d) / 4096 ≤ _; omega, by show 1 ≤ (((N + 1 : Nat) : Int) * 4096 + d) % 4096; omega, by show (((N + 1 : Nat) : Int) * 4096 + d) % 4096 ≤ 40; omega⟩, hv, fun _ => hnew, hco⟩
    · rw [if_neg hqp] at hq ⊢
      obtain ⟨a, b, c⟩ := S.run q o hq
      exact ⟨a.up, b, c⟩
  · unfold upV at a b ⊢
    by_cases h1 : 0 = p
    · have h2 : ¬ 1 = p := by omega
      rw [if_neg h2] at b
      rw [if_pos h1, if_neg h2]; exact fun x => hne 1 h2 b x.symm
    · have h2 : 1 = p := by omega
      rw [if_neg h1] at a
      rw [if_neg h1, if_pos h2]; exact hne 0 h1 a
theorem idsT_set (hs : List Tk) {t : Nat} {x : Tk} (ht : t < hs.length) (hx : (hs.getD t dT).val = x.val) : idsT (hs.set t x) = idsT hs := by
  unfold idsT
  rw [List.map_set]
  apply List.ext_getElem (by simp)
  intro j h1 h2
  rw [List.getElem_set]
  split
  · rename_i e; subst e
    rw [List.getD_eq_getElem?_getD, List.getElem?_eq_getElem ht] at hx
    simp at hx ⊢; rw [hx]
  · rfl
theorem fin_set {hs : List Tk} {t : Nat} {x : Tk} (ht : t < hs.length) (h0 : (hs.getD t dT).fin = false) (h1 : x.fin = true) : (idsT ((hs.set t x).filter (·.fin))).Perm (idsT (hs.filter (·.fin)) ++ [x.val / 4096]) := by
  have e0 : hs[t].fin = false := by rw [List.getD_eq_getElem?_getD, List.getElem?_eq_getElem ht] at h0; simpa using h0
  have e1 : hs = hs.take t ++ hs[t] :: hs.drop (t + 1) := by rw [List.getElem_cons_drop, List.take_append_drop]
  have e2 : hs.set t x = hs.take t ++ x :: hs.drop (t + 1) := by rw [List.set_eq_take_append_cons_drop, if_pos ht]
  rw [e2]
  conv => rhs; rw [e1]
  unfold idsT
  simp only [List.filter_append, List.filter_cons, h1, if_true, e0, Bool.false_eq_true, if_false, List.map_append, List.map_cons, List.append_assoc]
  refine List.Perm.append_left _ ?_
  exact (List.perm_append_singleton _ _).symm
theorem mem_setT {hs : List Tk} {t : Nat} {x y : Tk} (hy : y ∈ hs.set t x) : y ∈ hs ∨ y = x := List.mem_or_eq_of_mem_set hy
/-- a step of one who asks -/
theorem SS.put (S : SS B i N M L w hs f h po bt inn told id) (hi : i < 90000) {p : Nat} (hp : p < 2) {o : RO} (hps : po p = some o) :
    goC B L w (putC o) = (goL (B.b + 1) B.n L o, w, ⟨.put (goO (B.b + 1) B.n L o), (goO (B.b + 1) B.n L o).out, 0, [], [], []⟩) ∧
    ∃ hs', SS B (i + 1) N M (goL (B.b + 1) B.n L o) w hs' f h (upV po p (if (goO (B.b + 1) B.n L o).over then none else some (goO (B.b + 1) B.n L o))) bt (if (goO (B.b + 1) B.n L o).out = 1 then inn ++ [id p] else inn) told id ∧
      ((goO (B.b + 1) B.n L o).over = false → rk hs'.length (goO (B.b + 1) B.n L o) < rk hs.length o) := by
  obtain ⟨hV, hid, hnot, hco⟩ := S.run p o hps
  have eg : goC B L w (putC o) = (goL (B.b + 1) B.n L o, w, ⟨.put (goO (B.b + 1) B.n L o), (goO (B.b + 1) B.n L o).out, 0, [], [], []⟩) := rfl
  refine ⟨eg, ?_⟩
  have hw := S.hw
  have hgo := goC_in (B := B) (L := L) (w := w) (c := putC o) (k := 100000 - (i + 1)) S.hL (by rw [show 100000 - (i + 1) + 1 = 100000 - i by omega]; exact hw) hco
  rw [eg] at hgo
  obtain ⟨g1, g2, g3⟩ := hgo
  have g4 := S.I.go w (putC o)
  rw [eg] at g4
  obtain ⟨hs', RV', PV'⟩ := S.R.put (by omega) (by omega : p < 3) hps
  generalize hoo : goO (B.b + 1) B.n L o = o' at *
  generalize hll : goL (B.b + 1) B.n L o = L' at *
  have hq : ∀ q, q ≠ p → upV po p (if o'.over then none else some o') q = po q := fun q e => by unfold upV; rw [if_neg e]
  have hpq : upV po p (if o'.over then none else some o') p = if o'.over then none else some o' := by unfold upV; rw [if_pos rfl]
  have dis' : upV po p (if o'.over then none else some o') 0 ≠ none → upV po p (if o'.over then none else some o') 1 ≠ none → id 0 ≠ id 1 := fun a b => by
    refine S.dis (fun e => ?_) (fun e => ?_)
    · by_cases h0 : 0 = p
      · rw [h0] at e; rw [e] at hps; cases hps
      · rw [hq 0 h0] at a; exact a e
    · by_cases h0 : 1 = p
      · rw [h0] at e; rw [e] at hps; cases hps
      · rw [hq 1 h0] at b; exact b e
  have p2' : ∀ q, 2 ≤ q → upV po p (if o'.over then none else some o') q = none := fun q h2 => by rw [hq q (by omega)]; exact S.p2 q h2
  have dne : ∀ q o2, q ≠ p → po q = some o2 → id q ≠ id p := fun q o2 hqp hq2 => by
    have hq2' : q < 2 := by
      rcases Nat.lt_or_ge q 2 with x | x
      · exact x
      · rw [S.p2 q x] at hq2; cases hq2
    have h0 : po 0 ≠ none ∧ po 1 ≠ none := by
      have hqq : (q = 0 ∧ p = 1) ∨ (q = 1 ∧ p = 0) := by omega
      rcases hqq with ⟨rfl, rfl⟩ | ⟨rfl, rfl⟩
      · rw [hq2, hps]; simp
      · rw [hq2, hps]; simp
    have := S.dis h0.1 h0.2
    have hqq : (q = 0 ∧ p = 1) ∨ (q = 1 ∧ p = 0) := by omega
    rcases hqq with ⟨rfl, rfl⟩ | ⟨rfl, rfl⟩
    · exact this
    · exact fun e => this e.symm
  rcases PV' with ⟨h0, hv, hrk, hhs⟩ | ⟨h2, hhs⟩ | ⟨h1, t, ht, htk, hhs⟩
  · have hov : o'.over = false := by simp [RO.over, h0]
    rw [hov] at RV' hpq p2' dis' hq ⊢
    simp only [Bool.false_eq_true, if_false] at RV' hpq p2' dis' hq ⊢
    rw [h0, if_neg (show ¬ ((0 : Int) = 1) by decide)]
    have hPp := RV'.pok p (by omega)
    rw [hpq] at hPp
    rcases hhs with rfl | rfl
    · refine ⟨hs', { S with I := g4, hL := g1, hw := g2, R := RV', p2 := p2', run := fun q o2 hq2 => ?_, dis := dis' }, fun _ => hrk⟩
      by_cases hqp : q = p
      · subst hqp
        rw [hpq] at hq2; cases hq2
        refine ⟨by rw [hv]; exact hV, by rw [hv]; exact hid, fun h3 => ?_, by rw [h0] at g3; exact g3⟩
        by_cases h4 : o.pc ≤ 2
        · exact hnot h4
        · exfalso
          -- it holds a ticket: the step cannot take it back
          obtain ⟨_, P0⟩ := by have := S.R.pok q (by omega); rw [hps] at this; exact this
          obtain ⟨_, P1⟩ := hPp
          have hB0 : ∃ t : Nat, BzV hs' q t o.val := by
            rcases P0 with ⟨a, _⟩ | ⟨a, _⟩ | ⟨a, _⟩ | ⟨a, t, _, b⟩ | ⟨a, t, _, b, _⟩
            · omega
            · omega
            · omega
            · exact ⟨t, b⟩
            · exact ⟨t, b⟩
          obtain ⟨t, b1, b2, _⟩ := hB0
          have hI : IdV hs' q := by
            rcases P1 with ⟨a, I⟩ | ⟨a, I, _⟩ | ⟨a, I, _⟩ | ⟨a, _⟩ | ⟨a, _⟩
            · exact I
            · exact I
            · exact I
            · omega
            · omega
          have := hI t b1 (by rw [b2])
          rw [b2] at this; cases this
      · rw [hq q hqp] at hq2; exact S.run q o2 hq2
    · have hidn : o.pc ≤ 2 := by
        obtain ⟨_, P0⟩ := by have := S.R.pok p (by omega); rw [hps] at this; exact this
        have hl : (hs ++ [(⟨p, o.val, false⟩ : Tk)]).length = hs.length + 1 := by simp
        rcases P0 with ⟨a, _⟩ | ⟨a, _⟩ | ⟨a, _⟩ | ⟨a, t, e, b⟩ | ⟨a, t, e, b, _⟩
        · omega
        · omega
        · omega
        · exfalso
          have := (b.2.2)
          -- two open tickets of one's own: the ring's law forbids it
          obtain ⟨_, P1⟩ := hPp
          have ho3 : (hs ++ [(⟨p, o.val, false⟩ : Tk)]).getD t dT = ⟨p, o.val, false⟩ := by rw [getD_app, if_neg (by have := b.1; omega)]; exact b.2.1
          have ho4 : (hs ++ [(⟨p, o.val, false⟩ : Tk)]).getD hs.length dT = ⟨p, o.val, false⟩ := by rw [getD_app, if_pos rfl]
          have hb1 := b.1
          have key : ∀ t', (IdV (hs ++ [(⟨p, o.val, false⟩ : Tk)]) p ∨ BzV (hs ++ [(⟨p, o.val, false⟩ : Tk)]) p t' o'.val) → False := fun t' hh => by
            rcases hh with hI | hB
            · have := hI hs.length (by rw [hl]; omega) (by rw [ho4]); rw [ho4] at this; cases this
            · by_cases e2 : hs.length = t'
              · have := hB.2.2 t (by rw [hl]; omega) (by rw [ho3]) (by omega); rw [ho3] at this; cases this
              · have := hB.2.2 hs.length (by rw [hl]; omega) (by rw [ho4]) e2; rw [ho4] at this; cases this
          rcases P1 with ⟨_, I⟩ | ⟨_, I, _⟩ | ⟨_, I, _⟩ | ⟨_, t', _, I⟩ | ⟨_, t', _, I, _⟩
          · exact key 0 (.inl I)
          · exact key 0 (.inl I)
          · exact key 0 (.inl I)
          · exact key t' (.inr I)
          · exact key t' (.inr I)
        · exfalso
          obtain ⟨_, P1⟩ := hPp
          have ho3 : (hs ++ [(⟨p, o.val, false⟩ : Tk)]).getD t dT = ⟨p, o.val, false⟩ := by rw [getD_app, if_neg (by have := b.1; omega)]; exact b.2.1
          have ho4 : (hs ++ [(⟨p, o.val, false⟩ : Tk)]).getD hs.length dT = ⟨p, o.val, false⟩ := by rw [getD_app, if_pos rfl]
          have hb1 := b.1
          have key : ∀ t', (IdV (hs ++ [(⟨p, o.val, false⟩ : Tk)]) p ∨ BzV (hs ++ [(⟨p, o.val, false⟩ : Tk)]) p t' o'.val) → False := fun t' hh => by
            rcases hh with hI | hB
            · have := hI hs.length (by rw [hl]; omega) (by rw [ho4]); rw [ho4] at this; cases this
            · by_cases e2 : hs.length = t'
              · have := hB.2.2 t (by rw [hl]; omega) (by rw [ho3]) (by omega); rw [ho3] at this; cases this
              · have := hB.2.2 hs.length (by rw [hl]; omega) (by rw [ho4]) e2; rw [ho4] at this; cases this
          rcases P1 with ⟨_, I⟩ | ⟨_, I, _⟩ | ⟨_, I, _⟩ | ⟨_, t', _, I⟩ | ⟨_, t', _, I, _⟩
          · exact key 0 (.inl I)
          · exact key 0 (.inl I)
          · exact key 0 (.inl I)
          · exact key t' (.inr I)
          · exact key t' (.inr I)
      have hnn := hnot hidn
      have eids : idsT (hs ++ [(⟨p, o.val, false⟩ : Tk)]) = idsT hs ++ [id p] := by simp [idsT, hid]
      have hl : (hs ++ [(⟨p, o.val, false⟩ : Tk)]).length = hs.length + 1 := by simp
      have hhT : h ≤ hs.length := Nat.le_trans S.R.hf S.R.fT
      refine ⟨_, { S with I := g4, hL := g1, hw := g2, R := RV', p2 := p2', vals := fun t ht => ?_, nd := ?_, run := fun q o2 hq2 => ?_, dis := dis', inn := ?_, told := ?_ }, fun _ => hrk⟩
      · rcases List.mem_append.1 ht with ht | ht
        · exact S.vals t ht
        · rw [List.mem_singleton.1 ht]; exact hV
      · rw [eids]
        refine List.nodup_append.2 ⟨S.nd, by simp, fun a ha b hb => ?_⟩
        rw [List.mem_singleton.1 hb]; exact fun e => hnn (e ▸ ha)
      · by_cases hqp : q = p
        · subst hqp
          rw [hpq] at hq2; cases hq2
          refine ⟨by rw [hv]; exact hV, by rw [hv]; exact hid, fun h3 => ?_, by rw [h0] at g3; exact g3⟩
          exfalso
          obtain ⟨_, P1⟩ := hPp
          have ho4 : (hs ++ [(⟨q, o.val, false⟩ : Tk)]).getD hs.length dT = ⟨q, o.val, false⟩ := by rw [getD_app, if_pos rfl]
          have key : IdV (hs ++ [(⟨q, o.val, false⟩ : Tk)]) q → False := fun hI => by
            have := hI hs.length (by rw [hl]; omega) (by rw [ho4]); rw [ho4] at this; cases this
          rcases P1 with ⟨a, I⟩ | ⟨a, I, _⟩ | ⟨a, I, _⟩ | ⟨a, _⟩ | ⟨a, _⟩
          · exact key I
          · exact key I
          · exact key I
          · omega
          · omega
        · rw [hq q hqp] at hq2
          obtain ⟨a, b, c, d⟩ := S.run q o2 hq2
          refine ⟨a, b, fun h3 => ?_, d⟩
          rw [eids]
          intro hm
          rcases List.mem_append.1 hm with hm | hm
          · exact c h3 hm
          · exact dne q o2 hqp hq2 (List.mem_singleton.1 hm)
      · rw [List.filter_append, show [(⟨p, o.val, false⟩ : Tk)].filter (·.fin) = [] from rfl, List.append_nil]; exact S.inn
      · rw [List.take_append_of_le_length hhT]; exact S.told
  · subst hhs
    have hov : o'.over = true := by simp [RO.over, h2]
    rw [hov] at RV' hpq p2' dis' hq ⊢
    simp only [if_true] at RV' hpq p2' dis' hq ⊢
    rw [h2, if_neg (show ¬ ((2 : Int) = 1) by decide)]
    refine ⟨hs', { S with I := g4, hL := g1, hw := g2, R := RV', p2 := p2', run := fun q o2 hq2 => ?_, dis := dis' }, fun h => by cases h⟩
    by_cases hqp : q = p
    · subst hqp; rw [hpq] at hq2; cases hq2
    · rw [hq q hqp] at hq2; exact S.run q o2 hq2
  · subst hhs
    have hov : o'.over = true := by simp [RO.over, h1]
    rw [hov] at RV' hpq p2' dis' hq ⊢
    simp only [if_true] at RV' hpq p2' dis' hq ⊢
    rw [h1, if_pos rfl]
    have hhT : h ≤ hs.length := Nat.le_trans S.R.hf S.R.fT
    have eids : idsT (hs.set t ⟨p, o.val, true⟩) = idsT hs := idsT_set hs ht (by rw [htk])
    refine ⟨_, { S with I := g4, hL := g1, hw := g2, R := RV', p2 := p2', vals := fun x hx => ?_, nd := by rw [eids]; exact S.nd, run := fun q o2 hq2 => ?_, dis := dis', inn := ?_, told := ?_ }, fun h => by cases h⟩
    · rcases mem_setT hx with hx | rfl
      · exact S.vals x hx
      · exact hV
    · by_cases hqp : q = p
      · subst hqp; rw [hpq] at hq2; cases hq2
      · rw [hq q hqp] at hq2; rw [eids]; exact S.run q o2 hq2
    · refine (S.inn.append_right _).trans ?_
      rw [← hid]
      exact (fin_set (x := ⟨p, o.val, true⟩) ht (by rw [htk]) rfl).symm
    · have : idsT ((hs.set t ⟨p, o.val, true⟩).take h) = idsT (hs.take h) := by
        unfold idsT at eids ⊢
        rw [List.map_take, List.map_take, eids]
      rw [this]; exact S.told

/-- how many steps a beat has yet, at most -/
def bm (c : CO) : Nat := match c.ph with
  | .take l o => 6 * l + (10 - o.pc) + 1
  | _ => 1
/-- it takes all that there is -/
def EmB (hs : List Tk) (h : Nat) (c : CO) : Prop := match c.ph with
  | .take l _ => hs.length ≤ h + l
  | _ => hs.length ≤ h
theorem ask_one {N : Nat} {v : Int} {w : Wh} (hV : Vok N v) : askCut v w = [] ∧ ((askW v w = w ∧ askRef v w = [v / 4096]) ∨ (askW v w = ⟨w.now, w.seq + 1, w.T ++ [⟨v / 4096, w.now + (v % 4096).toNat, w.seq + 1⟩]⟩ ∧ askRef v w = [])) := by
  obtain ⟨h1, h2, h3, h4⟩ := hV
  unfold askCut askW askRef
  rw [if_neg (show ¬ (v % 4096 = 0 ∧ _) from fun h => by omega), if_neg (show ¬ v % 4096 = 0 by omega)]
  refine ⟨rfl, ?_⟩
  by_cases e : addE w (v / 4096) (v % 4096) = 0
  · right; unfold addR; rw [if_pos e, if_neg (fun h => h.2 e)]; exact ⟨rfl, rfl⟩
  · left; unfold addR; rw [if_neg e, if_pos ⟨by omega, e⟩]; exact ⟨rfl, rfl⟩
theorem tick_perm (w : Wh) : ((dueL w).map (·.id) ++ (tickR w).T.map (·.id)).Perm (w.T.map (·.id)) := by
  rw [← List.map_append]
  refine List.Perm.map _ ?_
  have := List.filter_append_perm (fun t : Tm => decide (t.due = w.now + 1)) w.T
  unfold dueL tickR
  rw [show w.T.filter (fun t => decide (¬ t.due = w.now + 1)) = w.T.filter (fun t => !decide (t.due = w.now + 1)) from List.filter_congr fun t _ => by simp]
  exact this
theorem idsT_take {hs : List Tk} {h : Nat} (hh : h < hs.length) : idsT (hs.take (h + 1)) = idsT (hs.take h) ++ [(hs.getD h dT).val / 4096] := by
  rw [List.take_succ_eq_append_getElem hh]
  have : hs.getD h dT = hs[h] := by rw [List.getD_eq_getElem?_getD, List.getElem?_eq_getElem hh]; rfl
  rw [this]; unfold idsT; rw [List.map_append]; rfl
theorem SS.beatBegin (S : SS B i N M L w hs f h po none inn told id) : SS B i N M L w hs f h po (some (beatC B w)) inn told id ∧ bm (beatC B w) ≤ 6 * B.n + 6 ∧ (hs.length ≤ h + B.n → EmB hs h (beatC B w)) := by
  have hn := S.R.n1
  have e : nextT B.n w = .take B.n (ini 5 0) := by unfold nextT; rw [if_neg (by omega)]
  have hco : COI (beatC B w) := beatC_ok (by have := S.R.n8; omega) S.hw.wi.now
  have e2 : beatC B w = noC (.take B.n (ini 5 0)) := by unfold beatC; rw [e]
  rw [e2] at hco ⊢
  refine ⟨{ S with R := S.R.takeBegin, bok := fun c hc => ?_ }, by simp [bm, noC, ini], fun h => h⟩
  cases hc
  exact ⟨rfl, rfl, rfl, rfl, .inl ⟨_, _, rfl, hn⟩, hco⟩
theorem RV.leB {b n C C' : Nat} {L : List Int} {hs : List Tk} {f h : Nat} {ps : Nat → Option RO} {tk : Option RO} (R : RV b n C L hs f h ps tk) (hc : C ≤ C') : RV b n C' L hs f h ps tk := R.frame rfl (fun _ _ _ => rfl) hc
/-- what a step of a beat comes to -/
structure BS (B : CB) (i N M : Nat) (w : Wh) (hs : List Tk) (h : Nat) (po : Nat → Option RO) (c : CO) (inn told : List Int) (id : Nat → Int) (L' : List Int) (w' : Wh) (c' : CO) (f' h' : Nat) : Prop where
  S : SS B (i + 1) N M L' w' hs f' h' po (if c'.over then none else some c') inn (if c'.over then told ++ (c'.due ++ c'.ref) else told) id
  co : COI c'
  cut : c'.cut = []
  out : c'.over = true → c'.out = 1 ∧ w'.now = w.now + 1 ∧ ((∀ p, po p = none) → EmB hs h c → hs.length ≤ h')
  run : c'.over = false → bm c' < bm c ∧ w'.now = w.now ∧ ((∀ p, po p = none) → EmB hs h c → EmB hs h' c')
  hh : h ≤ h'
theorem SS.beat {c : CO} (S : SS B i N M L w hs f h po (some c) inn told id) (hi : i < 90000) (hM : hs.length ≤ h ∨ w.now + 40 ≤ M) :
    ∃ f' h', BS B i N M w hs h po c inn told id (goC B L w c).1 (goC B L w c).2.1 (goC B L w c).2.2 f' h' := by
  obtain ⟨hout, hval, hdue, hcut, hph, hco⟩ := S.bok c rfl
  have hw := S.hw
  have hgo := goC_in (B := B) (L := L) (w := w) (c := c) (k := 100000 - (i + 1)) S.hL (by rw [show 100000 - (i + 1) + 1 = 100000 - i by omega]; exact hw) hco
  have g4 := S.I.go w c
  obtain ⟨ph, out, val, due, cut, ref⟩ := c
  obtain rfl : out = 0 := hout
  obtain rfl : val = 0 := hval
  obtain rfl : due = [] := hdue
  obtain rfl : cut = [] := hcut
  have hT : (told ++ ref ++ w.T.map (·.id)).Perm (idsT (hs.take h)) := S.told
  rcases hph with ⟨l, o, hph, hl⟩ | hph
  · obtain rfl : ph = .take l o := hph
    have R0 : RV (B.b + 1) B.n i L hs f h po (some o) := S.R
    obtain ⟨f', h', R1, TV1⟩ := R0.take (by omega)
    have pc5 : 5 ≤ o.pc ∧ o.pc ≤ 9 := by
      obtain ⟨_, P⟩ := R0.tok
      rcases P with P | P | P | P | P <;> have := P.1 <;> omega
    rcases TV1 with ⟨t0, t1, t2⟩ | ⟨t0, t1, t2, t3⟩ | ⟨t0, t1, t2, t3, t4⟩
    · -- the take goes on
      have hov : (goO (B.b + 1) B.n L o).over = false := by simp [RO.over, t0]
      have e : goC B L w ⟨.take l o, 0, 0, [], [], ref⟩ = (goL (B.b + 1) B.n L o, w, ⟨.take l (goO (B.b + 1) B.n L o), 0, 0, [], [], ref⟩) := by
        have e0 : goC B L w ⟨.take l o, 0, 0, [], [], ref⟩ = stepC B L w ⟨.take l o, 0, 0, [], [], ref⟩ := rfl
        rw [e0]
        simp only [stepC, hov, Bool.false_eq_true, if_false]
      rw [e] at hgo g4 ⊢
      rw [hov, if_neg (by decide)] at R1
      subst t2
      refine ⟨f', h', ⟨?_, hgo.2.2, rfl, (fun h => by cases h), fun _ => ⟨?_, rfl, fun _ h => h⟩, Nat.le_refl _⟩⟩
      · exact { S with I := g4, hL := hgo.1, hw := hgo.2.1, R := RV.leB R1 (Nat.le_succ i), bok := fun c hc => by cases hc; exact ⟨rfl, rfl, rfl, rfl, .inl ⟨_, _, rfl, hl⟩, hgo.2.2⟩ }
      · simp only [bm, t1]; omega
    · -- nothing there
      have hov : (goO (B.b + 1) B.n L o).over = true := by simp [RO.over, t0]
      have e : goC B L w ⟨.take l o, 0, 0, [], [], ref⟩ = (goL (B.b + 1) B.n L o, w, ⟨.tick ((w.now + 1 : Nat) : Int), 0, 0, [], [], ref⟩) := by
        have e0 : goC B L w ⟨.take l o, 0, 0, [], [], ref⟩ = stepC B L w ⟨.take l o, 0, 0, [], [], ref⟩ := rfl
        rw [e0]
        simp only [stepC, hov, if_true, t0]
        rfl
      rw [e] at hgo g4 ⊢
      rw [hov, if_pos rfl] at R1
      subst t2
      refine ⟨f', h', ⟨?_, hgo.2.2, rfl, (fun h => by cases h), fun _ => ⟨by simp only [bm]; omega, rfl, fun hp _ => ?_⟩, Nat.le_refl _⟩⟩
      · exact { S with I := g4, hL := hgo.1, hw := hgo.2.1, R := RV.leB R1 (Nat.le_succ i), bok := fun c hc => by cases hc; exact ⟨rfl, rfl, rfl, rfl, .inr rfl, hgo.2.2⟩ }
      · show hs.length ≤ h'
        rcases Nat.lt_or_ge h' hs.length with x | x
        · exact absurd ⟨x, R1.allFin (fun p _ => hp p) h' x⟩ t3
        · exact x
    · -- it is taken
      have hov : (goO (B.b + 1) B.n L o).over = true := by simp [RO.over, t0]
      have hvl : (goO (B.b + 1) B.n L o).value = (hs.getD h dT).val := by unfold RO.value; rw [if_pos t0]; exact t4
      generalize hv : (goO (B.b + 1) B.n L o).value = v at hvl
      have hmem : hs.getD h dT ∈ hs := by rw [List.getD_eq_getElem?_getD, List.getElem?_eq_getElem t3]; exact List.getElem_mem t3
      have hV : Vok N v := by rw [hvl]; exact S.vals _ hmem
      obtain ⟨hc0, hcase⟩ := ask_one (w := w) hV
      have e : goC B L w ⟨.take l o, 0, 0, [], [], ref⟩ = (goL (B.b + 1) B.n L o, askW v w, ⟨nextT (l - 1) (askW v w), 0, 0, [], [], ref ++ askRef v w⟩) := by
        have e0 : goC B L w ⟨.take l o, 0, 0, [], [], ref⟩ = stepC B L w ⟨.take l o, 0, 0, [], [], ref⟩ := rfl
        rw [e0]
        simp only [stepC, hov, if_true, t0, hv, hc0, List.append_nil]
      rw [e] at hgo g4 ⊢
      rw [hov, if_pos rfl] at R1
      subst t2
      have hnow : (askW v w).now = w.now := askW_now v w
      have hb : BOk (askW v w) ⟨nextT (l - 1) (askW v w), 0, 0, [], [], ref ++ askRef v w⟩ := by
        refine ⟨rfl, rfl, rfl, rfl, ?_, hgo.2.2⟩
        show (∃ l' o', nextT (l - 1) (askW v w) = .take l' o' ∧ 1 ≤ l') ∨ nextT (l - 1) (askW v w) = _
        unfold nextT; split
        · right; rfl
        · left; exact ⟨_, _, rfl, by omega⟩
      have hR2 : RV (B.b + 1) B.n (i + 1) (goL (B.b + 1) B.n L o) hs f' (h + 1) po (tkP (nextT (l - 1) (askW v w))) := by
        unfold nextT; split
        · exact RV.leB R1 (Nat.le_succ i)
        · exact (RV.leB R1 (Nat.le_succ i)).takeBegin
      have hTT : (told ++ (ref ++ askRef v w) ++ (askW v w).T.map (·.id)).Perm (idsT (hs.take (h + 1))) := by
        rw [idsT_take t3, ← hvl]
        refine List.Perm.trans ?_ (hT.append_right [v / 4096])
        rcases hcase with ⟨e1, e2⟩ | ⟨e1, e2⟩
        · rw [e1, e2]
          simp only [List.append_assoc]
          refine List.Perm.append_left _ (List.Perm.append_left _ ?_)
          exact List.perm_append_comm
        · rw [e1, e2]
          simp [List.append_assoc]
      refine ⟨f', h + 1, ⟨?_, hgo.2.2, rfl, (fun h => by cases h), fun _ => ⟨?_, hnow, fun _ hE => ?_⟩, Nat.le_succ h⟩⟩
      · refine { S with I := g4, hL := hgo.1, hw := hgo.2.1, R := hR2, told := hTT, due := fun t ht => ?_, bok := fun c hc => by cases hc; exact hb }
        rcases hcase with ⟨e1, _⟩ | ⟨e1, _⟩
        · rw [e1] at ht; exact S.due t ht
        · rw [e1] at ht
          rcases List.mem_append.1 ht with ht | ht
          · exact S.due t ht
          · rw [List.mem_singleton.1 ht]
            have := hV.2.2.2
            show w.now + (v % 4096).toNat ≤ M
            rcases hM with hM | hM <;> omega
      · show bm ⟨nextT (l - 1) (askW v w), 0, 0, [], [], ref ++ askRef v w⟩ < bm ⟨.take l o, 0, 0, [], [], ref⟩
        unfold nextT
        by_cases hl1 : l - 1 = 0
        · rw [if_pos hl1]; show 1 < 6 * l + (10 - o.pc) + 1; omega
        · rw [if_neg hl1]; show 6 * (l - 1) + (10 - 5) + 1 < 6 * l + (10 - o.pc) + 1; omega
      · show EmB hs (h + 1) ⟨nextT (l - 1) (askW v w), 0, 0, [], [], ref ++ askRef v w⟩
        have hE : hs.length ≤ h + l := hE
        unfold nextT
        by_cases hl1 : l - 1 = 0
        · rw [if_pos hl1]; show hs.length ≤ h + 1; omega
        · rw [if_neg hl1]; show hs.length ≤ h + 1 + (l - 1); omega
  · obtain rfl : ph = .tick ((w.now + 1 : Nat) : Int) := hph
    have R0 : RV (B.b + 1) B.n i L hs f h po none := S.R
    have e : goC B L w ⟨.tick ((w.now + 1 : Nat) : Int), 0, 0, [], [], ref⟩ = (L.set B.b ((w.now + 1 : Nat) : Int), tickR w, ⟨.tick ((w.now + 1 : Nat) : Int), 1, 0, (dueL w).map (·.id), [], ref⟩) := rfl
    rw [e] at hgo g4 ⊢
    have hlen := S.R.len
    have R1 : RV (B.b + 1) B.n (i + 1) (L.set B.b ((w.now + 1 : Nat) : Int)) hs f h po none := R0.frame (by simp) (fun j h1 h2 => by rw [getD_set _ _ _ _ _ (by omega), if_neg (by omega)]) (Nat.le_succ i)
    refine ⟨f, h, ⟨?_, hgo.2.2, rfl, fun _ => ⟨rfl, rfl, fun _ hE => hE⟩, (fun h => by cases h), Nat.le_refl _⟩⟩
    refine { S with I := g4, hL := hgo.1, hw := hgo.2.1, R := R1, told := ?_, due := fun t ht => S.due t (List.mem_filter.1 ht).1, bok := fun c hc => by cases hc }
    show (told ++ ((dueL w).map (fun t : Tm => t.id) ++ ref) ++ [] ++ (tickR w).T.map (fun t : Tm => t.id)).Perm (idsT (hs.take h))
    refine List.Perm.trans ?_ hT
    rw [List.append_nil, List.append_assoc, List.append_assoc, List.append_assoc]
    refine List.Perm.append_left _ ?_
    refine List.Perm.trans ?_ (List.Perm.append_left ref (tick_perm w))
    rw [← List.append_assoc, ← List.append_assoc]
    exact List.Perm.append_right _ List.perm_append_comm
/-! ### done at once -/
theorem SS.putDone {p : Nat} (hp : p < 2) : ∀ (k : Nat) {i : Nat} {L : List Int} {hs : List Tk} {po : Nat → Option RO} {o : RO} {K : Nat}, SS B i N M L w hs f h po bt inn told id → po p = some o → rk hs.length o ≤ k → i + k ≤ 90000 → k ≤ K →
    ∃ c L' o' hs', doC B K L w (putC o) = (c, L', w, ⟨.put o', o'.out, 0, [], [], []⟩) ∧ o'.out ≠ 0 ∧ SS B (i + k) N M L' w hs' f h (upV po p none) bt (if o'.out = 1 then inn ++ [id p] else inn) told id
  | 0, i, L, hs, po, o, K, S, hps, hk, hi, hK => by have := (rk_le hs.length o).1; omega
  | k + 1, i, L, hs, po, o, K, S, hps, hk, hi, hK => by
    obtain ⟨K, rfl⟩ : ∃ j, K = j + 1 := ⟨K - 1, by omega⟩
    obtain ⟨eg, hs', S', hrk⟩ := S.put (by omega) hp hps
    rw [doC_go B K L w _ rfl, eg]
    generalize goO (B.b + 1) B.n L o = o1 at S' hrk ⊢
    generalize goL (B.b + 1) B.n L o = L1 at S' ⊢
    dsimp only
    by_cases e : o1.out = 0
    · have hov : o1.over = false := by simp [RO.over, e]
      rw [hov, if_neg (by decide), e, if_neg (by decide)] at S'
      have h1 := hrk hov
      obtain ⟨c, L', o', hs2, d1, d2, d3⟩ := SS.putDone hp k (K := K) S' (by unfold upV; rw [if_pos rfl]) (by omega) (by omega) (by omega)
      have e2 : (⟨.put o1, o1.out, 0, [], [], []⟩ : CO) = putC o1 := by rw [e]
      rw [e2, d1]
      refine ⟨c + 1, L', o', hs2, rfl, d2, ?_⟩
      have e3 : upV (upV po p (some o1)) p none = upV po p none := by funext q; unfold upV; split <;> rfl
      rw [e3, show i + 1 + k = i + (k + 1) by omega] at d3
      exact d3
    · have hov : o1.over = true := by simp [RO.over, e]
      rw [hov, if_pos rfl] at S'
      rw [doC_over B K L1 w _ (by simp [CO.over, e])]
      exact ⟨_, L1, o1, hs', rfl, e, S'.le (by omega)⟩
theorem SS.beatDone : ∀ (k : Nat) {i : Nat} {L : List Int} {w : Wh} {f h : Nat} {c : CO} {K : Nat}, SS B i N M L w hs f h po (some c) inn told id → bm c ≤ k → i + k ≤ 90000 → k ≤ K → (hs.length ≤ h ∨ w.now + 40 ≤ M) →
    ∃ n L' w' c' f' h', doC B K L w c = (n, L', w', c') ∧ c'.out = 1 ∧ c'.cut = [] ∧ COI c' ∧ SS B (i + k) N M L' w' hs f' h' po none inn (told ++ (c'.due ++ c'.ref)) id ∧ w'.now = w.now + 1 ∧ ((∀ p, po p = none) → EmB hs h c → hs.length ≤ h')
  | 0, i, L, w, f, h, c, K, S, hk, hi, hK, hM => by unfold bm at hk; split at hk <;> omega
  | k + 1, i, L, w, f, h, c, K, S, hk, hi, hK, hM => by
    obtain ⟨K, rfl⟩ : ∃ j, K = j + 1 := ⟨K - 1, by omega⟩
    obtain ⟨f', h', X⟩ := S.beat (by omega) hM
    have hco := (S.bok c rfl).1
    rw [doC_go B K L w _ (by simp [CO.over, hco])]
    generalize (goC B L w c).1 = L1 at X ⊢
    generalize (goC B L w c).2.1 = w1 at X ⊢
    generalize (goC B L w c).2.2 = c1 at X ⊢
    have S' := X.S
    cases hov : c1.over with
    | false =>
      rw [hov, if_neg (by decide), if_neg (by decide)] at S'
      obtain ⟨r1, r2, r3⟩ := X.run hov
      have hM' : hs.length ≤ h' ∨ w1.now + 40 ≤ M := by
        have := X.hh
        rcases hM with hM | hM
        · left; omega
        · right; rw [r2]; exact hM
      obtain ⟨n, L', w', c', f2, h2, d1, d2, d3, d4, d5, d6, d7⟩ := SS.beatDone k (K := K) S' (by omega) (by omega) (by omega) hM'
      rw [d1]
      refine ⟨n + 1, L', w', c', f2, h2, rfl, d2, d3, d4, ?_, by rw [d6, r2], fun a b => d7 a (r3 a b)⟩
      rw [show i + 1 + k = i + (k + 1) by omega] at d5
      exact d5
    | true =>
      rw [hov, if_pos rfl, if_pos rfl] at S'
      obtain ⟨r1, r2, r3⟩ := X.out hov
      rw [doC_over B K L1 w1 c1 hov]
      exact ⟨_, L1, w1, c1, f', h', rfl, r1, X.cut, X.co, S'.le (by omega), r2, r3⟩
/-! ### the end -/
structure FB (B : CB) (N M j : Nat) (L : List Int) (w : Wh) (inn told : List Int) : Prop where
  ex : ∃ hs f h id, SS B (10000 + 100 * j) N M L w hs f h (fun _ => none) none inn told id ∧ (1 ≤ j → hs.length ≤ h)
  now : w.now + 40 = M + j
theorem SS.fb (S : SS B i N M L w hs f h po none inn told id) (hp : ∀ p, po p = none) (hi : i ≤ 10000) (hM : w.now + 40 = M) : FB B N M 0 L w inn told := by
  obtain rfl : po = fun _ => none := funext hp
  exact ⟨⟨hs, f, h, id, S.le hi, fun h => by omega⟩, by omega⟩
theorem FB.step {j : Nat} (F : FB B N M j L w inn told) (hj : j < 50) : WS 1000 w ∧ CI B L ∧ LI L ∧ told.length ≤ 60 ∧ COI (beatC B w) ∧ ∃ n L' w' c', doC B 1000 L w (beatC B w) = (n, L', w', c') ∧ c'.out = 1 ∧ COI c' ∧ FB B N M (j + 1) L' w' inn (told ++ (c'.due ++ c'.ref)) := by
  obtain ⟨hs, f, h, id, S, he⟩ := F.ex
  have hn := F.now
  obtain ⟨S1, hb, hE⟩ := S.beatBegin
  have h8 := S.R.n8
  have hTf := S.R.Tf
  have htok : f = h := S.R.tok
  obtain ⟨n, L', w', c', f', h', d1, d2, d3, d4, d5, d6, d7⟩ := S1.beatDone 60 (K := 1000) (by omega) (by omega) (by omega) (by
    by_cases hj0 : j = 0
    · right; omega
    · left; exact he (by omega))
  have htl := S.told_len
  exact ⟨S.hw.le (by omega), S.I, S.hL, by omega, (S1.bok _ rfl).2.2.2.2.2, n, L', w', c', d1, d2, d4, ⟨⟨hs, f', h', id, d5.le (by omega), fun _ => d7 (fun _ => rfl) (hE (by omega))⟩, by omega⟩⟩
theorem FB.wi {j : Nat} (F : FB B N M j L w inn told) : WI w := by
  obtain ⟨hs, f, h, id, S, he⟩ := F.ex
  exact S.hw.wi
theorem FB.len {j : Nat} (F : FB B N M j L w inn told) : told.length ≤ 60 := by
  obtain ⟨hs, f, h, id, S, he⟩ := F.ex
  have := S.told_len
  omega
theorem FB.done (F : FB B N M 50 L w inn told) : w.T = [] ∧ told.length = inn.length ∧ inn.length ≤ 60 ∧ ∀ x ∈ inn, told.count x = 1 := by
  obtain ⟨hs, f, h, id, S, he⟩ := F.ex
  have hn := F.now
  have hT : w.T = [] := by
    cases hw : w.T with
    | nil => rfl
    | cons t T =>
      have ht : t ∈ w.T := by rw [hw]; exact List.mem_cons_self
      have h1 := S.due t ht
      have h2 := (S.hw.ok.due t ht).1
      omega
  have hh := he (by decide)
  have htold := S.told
  rw [hT, List.take_of_length_le hh] at htold
  simp only [refB, List.append_nil, List.map_nil] at htold
  have hinn := S.inn
  rw [List.filter_eq_self.2 (fun t ht => by
    obtain ⟨k, hk, rfl⟩ := List.getElem_of_mem ht
    have := S.R.allFin (fun _ _ => rfl) k hk
    rw [List.getD_eq_getElem?_getD, List.getElem?_eq_getElem hk] at this
    simpa using this)] at hinn
  refine ⟨hT, by rw [htold.length_eq, hinn.length_eq], S.inn_len, fun x hx => ?_⟩
  rw [htold.count_eq]
  have : x ∈ idsT hs := hinn.mem_iff.1 hx
  have h1 : (idsT hs).count x ≤ 1 := List.nodup_iff_count.1 S.nd x
  have h2 : 0 < (idsT hs).count x := List.count_pos_iff.2 this
  omega
/-! ### with the operations' places -/
abbrev XO := Option (Nat × CO)
def ilf (il : List Int) : Nat → Int := fun p => il.getD p 0
theorem ilf_set {il : List Int} {p : Nat} (h : p < il.length) (v : Int) : ilf (il.set p v) = upV (ilf il) p v := by
  funext q; unfold ilf upV; rw [getD_set _ _ _ _ _ h]
structure LN (B : CB) (i N : Nat) (L : List Int) (w : Wh) (xs : List XO) (inn told il : List Int) : Prop where
  lx : xs.length = 3
  li : il.length = 2
  ex : ∃ hs f h po bt, SS B i N (w.now + 40) L w hs f h po bt inn told (ilf il) ∧ (∀ p, p < 2 → (xs.getD p none).map (·.2) = (po p).map putC) ∧ (xs.getD 2 none).map (·.2) = bt
variable {xs : List XO} {il : List Int}
theorem LN.zero {n : Nat} (h1 : 1 ≤ n) (h2 : n ≤ 8) : LN ⟨0, n⟩ 0 0 (List.replicate (3 + 2 * n) 0) ⟨0, 0, []⟩ (List.replicate 3 none) [] [] (List.replicate 2 0) :=
  ⟨rfl, rfl, [], 0, 0, fun _ => none, none, SS.zero h1 h2 _, fun p hp => by rcases (show p = 0 ∨ p = 1 by omega) with rfl | rfl <;> rfl, rfl⟩
theorem LN.env (X : LN B i N L w xs inn told il) (hi : i < 90000) : CI B L ∧ LI L ∧ WI w ∧ N ≤ 60 ∧ B.n ≤ 64 ∧ inn.length ≤ 60 ∧ told.length ≤ 60 := by
  obtain ⟨hs, f, h, po, bt, S, _⟩ := X.ex
  have h8 := S.R.n8
  have := S.told_len
  exact ⟨S.I, S.hL, S.hw.wi, S.N60, by omega, S.inn_len, by omega⟩
theorem LN.up (X : LN B i N L w xs inn told il) {j : Nat} (hj : i ≤ j) : LN B j N L w xs inn told il := by
  obtain ⟨hs, f, h, po, bt, S, h1, h2⟩ := X.ex
  exact ⟨X.lx, X.li, hs, f, h, po, bt, S.le hj, h1, h2⟩
theorem getD_at {α : Type} {l : List α} {k : Nat} {x d : α} (h : l[k]? = some x) : l.getD k d = x := by rw [List.getD_eq_getElem?_getD, h]; rfl
theorem map_none {x : XO} {y : Option RO} (h : x.map (·.2) = y.map putC) (hx : x = none) : y = none := by
  subst hx; cases y with
  | none => rfl
  | some _ => cases h
theorem LN.ask (X : LN B i N L w xs inn told il) {p : Nat} (hp : p < 2) (h0 : xs[p]? = some none) (hN : N < 60) {d : Int} (hd : 1 ≤ d ∧ d ≤ 40) (q : Nat) :
    LN B i (N + 1) L w (xs.set p (some (q, askC ((N + 1 : Nat) : Int) d))) inn told (il.set p ((N + 1 : Nat) : Int)) := by
  obtain ⟨hs, f, h, po, bt, S, h1, h2⟩ := X.ex
  have hlx := X.lx; have hli := X.li
  obtain ⟨e, S'⟩ := S.ask hp (map_none (h1 p hp) (getD_at h0)) hN hd
  rw [e]
  refine ⟨by rw [List.length_set]; exact hlx, by rw [List.length_set]; exact hli, hs, f, h, _, bt, by rw [ilf_set (by omega)]; exact S', fun k hk => ?_, ?_⟩
  · rw [getD_set _ _ _ _ _ (by omega)]
    unfold upV
    split
    · rfl
    · exact h1 k hk
  · rw [getD_set _ _ _ _ _ (by omega), if_neg (by omega)]; exact h2
theorem LN.beat (X : LN B i N L w xs inn told il) (h0 : xs[2]? = some none) (q : Nat) : LN B i N L w (xs.set 2 (some (q, beatC B w))) inn told il := by
  obtain ⟨hs, f, h, po, bt, S, h1, h2⟩ := X.ex
  have hlx := X.lx
  rw [getD_at h0] at h2
  obtain rfl : none = bt := h2
  refine ⟨by rw [List.length_set]; exact hlx, X.li, hs, f, h, po, _, S.beatBegin.1, fun k hk => ?_, ?_⟩
  · rw [getD_set _ _ _ _ _ (by omega), if_neg (by omega)]; exact h1 k hk
  · rw [getD_set _ _ _ _ _ (by omega), if_pos rfl]; rfl
theorem some_put {x : XO} {y : Option RO} {q : Nat} {co : CO} (h : x.map (·.2) = y.map putC) (hx : x = some (q, co)) : ∃ o, y = some o ∧ co = putC o := by
  subst hx; cases y with
  | none => cases h
  | some o => exact ⟨o, rfl, by simpa using h⟩
/-- a step -/
structure LS (B : CB) (i N : Nat) (L : List Int) (w : Wh) (xs : List XO) (inn told il : List Int) (p q : Nat) (co : CO) (L' : List Int) (w' : Wh) (co' : CO) : Prop where
  co : COI co'
  run : co'.over = false → LN B (i + 1) N L' w' (xs.set p (some (q, co'))) inn told il
  bt : co'.over = true → p = 2 → LN B (i + 1) N L' w' (xs.set p none) inn (told ++ co'.due ++ co'.cut ++ co'.ref) il
  pt : co'.over = true → p ≠ 2 → LN B (i + 1) N L' w' (xs.set p none) (if co'.out = 1 then inn ++ [il.getD p 0] else inn) told il
theorem LN.step (X : LN B i N L w xs inn told il) (hi : i < 90000) {p q : Nat} {co : CO} (hp : p < 3) (hx : xs[p]? = some (some (q, co))) :
    COI co ∧ LS B i N L w xs inn told il p q co (goC B L w co).1 (goC B L w co).2.1 (goC B L w co).2.2 := by
  obtain ⟨hs, f, h, po, bt, S, h1, h2⟩ := X.ex
  have hlx := X.lx
  by_cases hp2 : p = 2
  · subst hp2
    rw [getD_at hx] at h2
    obtain rfl : some co = bt := h2
    obtain ⟨f', h', Y⟩ := S.beat hi (.inr (Nat.le_refl _))
    refine ⟨(S.bok co rfl).2.2.2.2.2, ?_⟩
    generalize (goC B L w co).1 = L1 at Y ⊢
    generalize (goC B L w co).2.1 = w1 at Y ⊢
    generalize (goC B L w co).2.2 = c1 at Y ⊢
    have S' := Y.S
    have ho : ∀ (z : XO) k, k < 2 → ((xs.set 2 z).getD k none).map (·.2) = (po k).map putC := fun z k hk => by
      rw [getD_set _ _ _ _ _ (by omega), if_neg (by omega)]; exact h1 k hk
    refine ⟨Y.co, fun hov => ?_, fun hov _ => ?_, fun _ h => absurd rfl h⟩
    · rw [hov, if_neg (by decide), if_neg (by decide)] at S'
      have hn := (Y.run hov).2.1
      exact ⟨by rw [List.length_set]; exact hlx, X.li, hs, f', h', po, _, S'.leM (by omega), ho _, by rw [getD_set _ _ _ _ _ (by omega), if_pos rfl]; rfl⟩
    · rw [hov, if_pos rfl, if_pos rfl] at S'
      have hn := (Y.out hov).2.1
      rw [Y.cut, List.append_nil, List.append_assoc]
      exact ⟨by rw [List.length_set]; exact hlx, X.li, hs, f', h', po, _, S'.leM (by omega), ho _, by rw [getD_set _ _ _ _ _ (by omega), if_pos rfl]; rfl⟩
  · have hp' : p < 2 := by omega
    obtain ⟨o, ho, rfl⟩ := some_put (h1 p hp') (getD_at hx)
    obtain ⟨eg, hs', S', _⟩ := S.put hi hp' ho
    refine ⟨(S.run p o ho).2.2.2, ?_⟩
    have hgo := goC_in (B := B) (L := L) (w := w) (c := putC o) (k := 100000 - (i + 1)) S.hL (by rw [show 100000 - (i + 1) + 1 = 100000 - i by omega]; exact S.hw) (S.run p o ho).2.2.2
    rw [eg] at hgo ⊢
    generalize goL (B.b + 1) B.n L o = L1 at S' hgo ⊢
    generalize goO (B.b + 1) B.n L o = o1 at S' hgo ⊢
    dsimp only at hgo ⊢
    have h2' : ∀ z : XO, ((xs.set p z).getD 2 none).map (·.2) = bt := fun z => by rw [getD_set _ _ _ _ _ (by omega), if_neg (by omega)]; exact h2
    refine ⟨hgo.2.2, fun hov => ?_, fun _ h => absurd h hp2, fun hov _ => ?_⟩
    · have h0 : o1.out = 0 := by simpa [CO.over] using hov
      have hov1 : o1.over = false := by simp [RO.over, h0]
      rw [hov1, if_neg (by decide), h0, if_neg (by decide)] at S'
      rw [h0]
      refine ⟨by rw [List.length_set]; exact hlx, X.li, hs', f, h, _, bt, S', fun k hk => ?_, h2' _⟩
      rw [getD_set _ _ _ _ _ (by omega)]
      unfold upV
      split
      · rfl
      · exact h1 k hk
    · have h0 : o1.out ≠ 0 := by simpa [CO.over] using hov
      have hov1 : o1.over = true := by simp [RO.over, h0]
      rw [hov1, if_pos rfl] at S'
      refine ⟨by rw [List.length_set]; exact hlx, X.li, hs', f, h, _, bt, S', fun k hk => ?_, h2' _⟩
      rw [getD_set _ _ _ _ _ (by omega)]
      unfold upV
      split
      · rfl
      · exact h1 k hk
/-- each is done at once -/
structure LD (B : CB) (p N : Nat) (L : List Int) (w : Wh) (xs : List XO) (inn told il : List Int) : Prop where
  lx : xs.length = 3
  li : il.length = 2
  ex : ∃ i hs f h po bt, i ≤ 600 + 100 * p + 800 * (p / 3) ∧ SS B i N (w.now + 40) L w hs f h po bt inn told (ilf il) ∧ (∀ k, k < p → k < 2 → po k = none) ∧ (∀ k, p ≤ k → k < 2 → (xs.getD k none).map (·.2) = (po k).map putC) ∧ (p ≤ 2 → (xs.getD 2 none).map (·.2) = bt) ∧ (3 ≤ p → bt = none)
theorem LN.done (X : LN B i N L w xs inn told il) (hi : i ≤ 600) : LD B 0 N L w xs inn told il := by
  obtain ⟨hs, f, h, po, bt, S, h1, h2⟩ := X.ex
  exact ⟨X.lx, X.li, i, hs, f, h, po, bt, by omega, S, fun k hk => by omega, fun k _ hk => h1 k hk, fun _ => h2, fun h => by omega⟩
theorem LD.len {p : Nat} (X : LD B p N L w xs inn told il) : inn.length ≤ 60 ∧ told.length ≤ 60 := by
  obtain ⟨i, hs, f, h, po, bt, hi, S, h1, h2, h3, h4⟩ := X.ex
  have := S.told_len
  exact ⟨S.inn_len, by omega⟩
theorem LD.skip {p : Nat} (X : LD B p N L w xs inn told il) (hp : p < 3) (hx : xs[p]? = some none) : LD B (p + 1) N L w xs inn told il := by
  obtain ⟨i, hs, f, h, po, bt, hi, S, h1, h2, h3, h4⟩ := X.ex
  refine ⟨X.lx, X.li, i, hs, f, h, po, bt, by omega, S, fun k hk hk2 => ?_, fun k hk hk2 => h2 k (by omega) hk2, fun hk => h3 (by omega), fun hk => ?_⟩
  · by_cases e : k = p
    · subst e; exact map_none (h2 k (Nat.le_refl _) hk2) (getD_at hx)
    · exact h1 k (by omega) hk2
  · have e : p = 2 := by omega
    subst e
    have := h3 (Nat.le_refl _)
    rw [getD_at hx] at this
    exact this.symm
structure LR (B : CB) (p N : Nat) (L : List Int) (w : Wh) (xs : List XO) (inn told il : List Int) (q : Nat) (co : CO) (L' : List Int) (w' : Wh) (co' : CO) : Prop where
  out : co'.out ≠ 0
  co : COI co'
  bt : p = 2 → LD B (p + 1) N L' w' (xs.set p (some (q, co'))) inn (told ++ co'.due ++ co'.ref) il
  pt : p ≠ 2 → LD B (p + 1) N L' w' (xs.set p (some (q, co'))) (if co'.out = 1 then inn ++ [il.getD p 0] else inn) told il
theorem LD.run {p q : Nat} {co : CO} (X : LD B p N L w xs inn told il) (hp : p < 3) (hx : xs[p]? = some (some (q, co))) :
    (CI B L ∧ LI L ∧ WS 1000 w ∧ COI co) ∧ ∃ k L' w' co', doC B 1000 L w co = (k, L', w', co') ∧ LR B p N L w xs inn told il q co L' w' co' := by
  obtain ⟨i, hs, f, h, po, bt, hi, S, h1, h2, h3, h4⟩ := X.ex
  have hlx := X.lx
  have hws : WS 1000 w := S.hw.le (by omega)
  by_cases hp2 : p = 2
  · subst hp2
    have hb := h3 (Nat.le_refl _)
    rw [getD_at hx] at hb
    obtain rfl : some co = bt := hb
    have hco := (S.bok co rfl).2.2.2.2.2
    have hbm : bm co ≤ 900 := by
      have := hco.tot
      unfold bm; split
      · rename_i l o e; rw [e] at this; simp only [leftOf] at this; omega
      · omega
    obtain ⟨n, L', w', c', f', h', d1, d2, d3, d4, d5, d6, d7⟩ := S.beatDone 900 (K := 1000) hbm (by omega) (by omega) (.inr (Nat.le_refl _))
    refine ⟨⟨S.I, S.hL, hws, hco⟩, n, L', w', c', d1, ⟨by rw [d2]; decide, d4, fun _ => ?_, fun h => absurd rfl h⟩⟩
    have hcut : c'.cut = [] := d3
    refine ⟨by rw [List.length_set]; exact hlx, X.li, i + 900, hs, f', h', po, none, ?_, ?_, fun k _ hk2 => h1 k (by omega) hk2, fun k hk hk2 => by omega, fun hk => by omega, fun _ => rfl⟩
    · omega
    · have := d5.leM (M' := w'.now + 40) (by omega)
      rw [List.append_assoc]; exact this
  · have hp' : p < 2 := by omega
    obtain ⟨o, ho, rfl⟩ := some_put (h2 p (Nat.le_refl _) hp') (getD_at hx)
    have hco := (S.run p o ho).2.2.2
    obtain ⟨c, L', o', hs', d1, d2, d3⟩ := SS.putDone hp' 8 (K := 1000) S ho (by have := (rk_le hs.length o).2; omega) (by omega) (by omega)
    have hin := doC_in (B := B) 1000 (m := 0) S.I S.hL (by rw [Nat.add_zero]; exact hws) hco
    rw [d1] at hin
    refine ⟨⟨S.I, S.hL, hws, hco⟩, c, L', w, _, d1, ⟨d2, hin.2.2.2, fun h => absurd h hp2, fun _ => ?_⟩⟩
    refine ⟨by rw [List.length_set]; exact hlx, X.li, i + 8, hs', f, h, _, bt, by omega, d3, fun k hk hk2 => ?_, fun k hk hk2 => ?_, fun hk => ?_, fun hk => by omega⟩
    · unfold upV; split
      · rfl
      · exact h1 k (by omega) hk2
    · unfold upV; rw [if_neg (by omega), getD_set _ _ _ _ _ (by omega), if_neg (by omega)]; exact h2 k (by omega) hk2
    · rw [getD_set _ _ _ _ _ (by omega), if_neg (by omega)]; exact h3 (by omega)
theorem LD.fb (X : LD B 3 N L w xs inn told il) : FB B N (w.now + 40) 0 L w inn told := by
  obtain ⟨i, hs, f, h, po, bt, hi, S, h1, h2, h3, h4⟩ := X.ex
  obtain rfl := h4 (Nat.le_refl _)
  refine S.fb (fun p => ?_) (by omega) rfl
  rcases Nat.lt_or_ge p 2 with x | x
  · exact h1 p (by omega) x
  · exact S.p2 p x
end Go.L.Clk
