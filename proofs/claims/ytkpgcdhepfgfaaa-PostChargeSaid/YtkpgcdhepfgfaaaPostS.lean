/-
  PostCharge on paper: what a step comes to, written out; what the walk asks. Own work; no program.
-/
import Derived.Test.YtkpgcdhepfgfaaaPostU
namespace Go.L.Post
open Go.L Go.L.Ring
/-- what the walk asks -/
structure OkW (B : PB) (w : OW) : Prop where
  pi : PI B w.L
  li : LI w.L
  lt : w.ts.length = 3
  ln : w.nx.length = 3
  nx : ∀ p, p < 3 → 0 ≤ w.nx.getD p 0 ∧ w.nx.getD p 0 ≤ 100000
  pok : ∀ p, p < 3 → ∀ po, w.ts.getD p none = some po → POI po
  wok : ∀ po, w.wk = some po → POI po
  sok : ∀ s, s ∈ w.se → POI s
  inn : -10 ≤ w.inn ∧ w.inn ≤ 1000000
  chg : 0 ≤ w.chg ∧ w.chg ≤ 1
  most : 0 ≤ w.most ∧ w.most ≤ 1
  ph : 0 ≤ w.ph ∧ w.ph ≤ 3
  got : 0 ≤ w.got ∧ w.got ≤ 1000000
  few : w.se.length ≤ 1000
theorem countP_3 {α : Type} (g : α → Bool) (l : List α) : l.countP g ≤ l.length := List.countP_le_length
theorem finQ_le (hs : List Tq) : finQ hs ≤ hs.length := List.countP_le_length
theorem OIn.ok {B : PB} {K M : Nat} {w : OW} {hs : Bool → List Tq} {f k : Bool → Nat} (C : OIn B K M w hs f k) (hK : K < 90000) (hM : M ≤ 4000) : OkW B w where
  pi := C.pi
  li := C.li
  lt := C.lt
  ln := C.ln
  nx := fun p hp => ⟨(C.nx p hp).1, by have := (C.nx p hp).2; omega⟩
  pok := fun p hp po e => by
    have h := C.tell p hp
    rw [e] at h
    obtain ⟨h1, h2, h3⟩ := h
    intro _
    refine ⟨?_, h2⟩
    rcases h3 with ⟨nt, o, e2, ho⟩ | ⟨nt, e2⟩ | ⟨nt, e2⟩
    · rw [e2]
      refine ⟨ho, ?_⟩
      have hp2 := (C.ring nt).pok p hp
      rw [putsOf_eq, e] at hp2
      obtain ⟨ph, out, val⟩ := po
      have e2 : ph = .put nt o := e2
      subst e2
      simp only [putOf, if_true] at hp2
      exact hp2.1
    · rw [e2]; trivial
    · rw [e2]; exact ⟨by decide, by decide⟩
  wok := fun po e => by
    have key : ∀ r o, po = ⟨.of r o, 0, 0⟩ → OI o → POI po := fun r o e2 ho => by
      subst e2
      intro _
      refine ⟨⟨ho, ?_⟩, rfl⟩
      have h := (C.ring r).tok
      rw [e] at h
      simp only [takeOf, if_true] at h
      exact h.1
    rcases C.state with h | h | ⟨_, _, ⟨_, h | ⟨o, h, ho⟩⟩ | ⟨_, h | ⟨o, h, ho⟩⟩ | h⟩
    · rw [h.2.2.2] at e; cases e
    · rw [h.2.2.2] at e; cases e
    · rw [h] at e; cases e
    · rw [h] at e; exact key _ _ (Option.some.inj e).symm ho
    · rw [h] at e; cases e
    · rw [h] at e; exact key _ _ (Option.some.inj e).symm ho
    · rw [h.2] at e; cases e
  sok := fun s hs => by
    obtain ⟨h1, h2, h3⟩ := C.set s hs
    intro _
    refine ⟨?_, h2⟩
    rcases h3 with ⟨r, a, b, c, e, ho⟩ | ⟨r, a, b, c, e, ho⟩ | e
    · rw [e]; exact ⟨ho, rfl, fun h => by cases h⟩
    · rw [e]; exact ⟨ho, rfl, fun h => by cases h⟩
    · rw [e]; trivial
  inn := by
    have h := C.inn
    have h1 := countP_3 seeing w.ts
    have h2 := finQ_le (hs false); have h3 := finQ_le (hs true); have h4 := (C.ring false).TB; have h5 := (C.ring true).TB
    have h6 := C.lt
    omega
  chg := by rcases C.state with h | h | h <;> omega
  most := C.most
  ph := by rcases C.state with h | h | ⟨_, _, h | h | h⟩ <;> omega
  got := by have h := C.got; have h1 := (C.itm false).2.1; have h2 := (C.itm true).2.1; have h4 := (C.ring false).TB; have h5 := (C.ring true).TB; omega
  few := by have h := C.few; have : 0 ≤ w.ph := by rcases C.state with h | h | ⟨_, _, h | h | h⟩ <;> omega
            omega

abbrev mxi (a b : Int) : Int := if a < b then b else a
section
variable {B : PB} {q : Nat} {po s : PO} {L : List Int} {ts : List (Option PO)} {nx : List Int} {inn chg most ph got : Int} {wk : Option PO} {se r : List PO}
theorem tg_go (h : (goPO B L po).over = false) : Post.tellGo B q po ⟨L, ts, nx, inn, chg, most, wk, ph, got, se⟩ = ⟨goPL B L po, ts.set q (some (goPO B L po)), nx, inn, chg, most, wk, ph, got, se⟩ := by
  unfold Post.tellGo; simp only [h, Bool.false_eq_true, if_false]
theorem tg_7 (h : (goPO B L po).over = true) (h7 : (goPO B L po).out = 7) : Post.tellGo B q po ⟨L, ts, nx, inn, chg, most, wk, ph, got, se⟩ = ⟨goPL B L po, ts.set q none, nx, inn + 1, chg + 1, mxi most (chg + 1), wk, ph, got, se⟩ := by
  unfold Post.tellGo OW.charge; simp only [h, if_true, h7, or_true]
theorem tg_1 (h : (goPO B L po).over = true) (h1 : (goPO B L po).out = 1) : Post.tellGo B q po ⟨L, ts, nx, inn, chg, most, wk, ph, got, se⟩ = ⟨goPL B L po, ts.set q none, nx, inn + 1, chg, most, wk, ph, got, se⟩ := by
  have h17 : ¬ (1 : Int) = 7 := by decide
  unfold Post.tellGo; simp only [h, if_true, h1, true_or, h17, if_false]
theorem tg_x (h : (goPO B L po).over = true) (h1 : (goPO B L po).out ≠ 1) (h7 : (goPO B L po).out ≠ 7) : Post.tellGo B q po ⟨L, ts, nx, inn, chg, most, wk, ph, got, se⟩ = ⟨goPL B L po, ts.set q none, nx, inn, chg, most, wk, ph, got, se⟩ := by
  unfold Post.tellGo; simp only [h, if_true, h1, h7, or_self, if_false]
theorem tg_n {i1 : Int} (h : (goPO B L po).over = true) (h7 : (goPO B L po).out ≠ 7) (hi : i1 = if (goPO B L po).out = 1 ∨ (goPO B L po).out = 7 then inn + 1 else inn) : Post.tellGo B q po ⟨L, ts, nx, inn, chg, most, wk, ph, got, se⟩ = ⟨goPL B L po, ts.set q none, nx, i1, chg, most, wk, ph, got, se⟩ := by
  subst hi
  by_cases h1 : (goPO B L po).out = 1
  · rw [tg_1 h h1, if_pos (.inl h1)]
  · rw [tg_x h h1 h7, if_neg (by simp [h1, h7])]
theorem tg_y {i1 : Int} (h : (goPO B L po).over = true) (h7 : (goPO B L po).out = 7) (hi : i1 = if (goPO B L po).out = 1 ∨ (goPO B L po).out = 7 then inn + 1 else inn) : Post.tellGo B q po ⟨L, ts, nx, inn, chg, most, wk, ph, got, se⟩ = ⟨goPL B L po, ts.set q none, nx, i1, chg + 1, mxi most (chg + 1), wk, ph, got, se⟩ := by
  subst hi; rw [tg_7 h h7, if_pos (.inr h7)]
theorem tg_set {x : Option PO} : Post.tellGo B q po ⟨L, ts.set q x, nx, inn, chg, most, wk, ph, got, se⟩ = Post.tellGo B q po ⟨L, ts, nx, inn, chg, most, wk, ph, got, se⟩ := by
  cases hov : (goPO B L po).over with
  | false => rw [tg_go hov, tg_go hov, List.set_set]
  | true =>
    by_cases h7 : (goPO B L po).out = 7
    · rw [tg_7 hov h7, tg_7 hov h7, List.set_set]
    · by_cases h1 : (goPO B L po).out = 1
      · rw [tg_1 hov h1, tg_1 hov h1, List.set_set]
      · rw [tg_x hov h1 h7, tg_x hov h1 h7, List.set_set]
theorem ts_old {nt more : Bool} (h : ts.getD q none = some po) : Post.tellStep B q nt more ⟨L, ts, nx, inn, chg, most, wk, ph, got, se⟩ = Post.tellGo B q po ⟨L, ts, nx, inn, chg, most, wk, ph, got, se⟩ := by
  unfold Post.tellStep; dsimp only; rw [h]
theorem ts_new {nt : Bool} (h : ts.getD q none = none) (x : Option PO) : Post.tellStep B q nt true ⟨L, ts, nx, inn, chg, most, wk, ph, got, se⟩ = Post.tellGo B q ⟨.put nt (ini 0 (nx.getD q 0 + 1)), 0, 0⟩ ⟨L, ts.set q x, nx.set q (nx.getD q 0 + 1), inn, chg, most, wk, ph, got, se⟩ := by
  rw [tg_set]; unfold Post.tellStep; dsimp only; rw [h]; rfl
theorem ts_no {nt : Bool} (h : ts.getD q none = none) : Post.tellStep B q nt false ⟨L, ts, nx, inn, chg, most, wk, ph, got, se⟩ = ⟨L, ts, nx, inn, chg, most, wk, ph, got, se⟩ := by
  unfold Post.tellStep; dsimp only; rw [h]; rfl
theorem rs_0 (h : chg = 0) : Post.runStep B ⟨L, ts, nx, inn, chg, most, wk, ph, got, se⟩ = (⟨L, ts, nx, inn, chg, most, wk, ph, got, se⟩, false) := by unfold Post.runStep; rw [if_pos h]
theorem rs_3 (h : chg ≠ 0) (h3 : ph = 3) : Post.runStep B ⟨L, ts, nx, inn, chg, most, wk, ph, got, se⟩ = (⟨goPL B L ⟨.sto false, 0, 0⟩, ts, nx, inn, chg - 1, most, wk, 0, got, se ++ [goPO B L ⟨.sto false, 0, 0⟩]⟩, true) := by unfold Post.runStep; rw [if_neg h, if_pos h3]
theorem rs_go (h : chg ≠ 0) (h3 : ph ≠ 3) (hp : wk.getD (workOf ph) = po) (ho : (goPO B L po).over = false) : Post.runStep B ⟨L, ts, nx, inn, chg, most, wk, ph, got, se⟩ = (⟨goPL B L po, ts, nx, inn, chg, most, some (goPO B L po), ph, got, se⟩, true) := by
  unfold Post.runStep; rw [if_neg h, if_neg h3]; cases wk <;> (obtain rfl := hp; dsimp only [Option.getD_none, Option.getD_some] at *; unfold Post.runGo; simp only [ho, Bool.false_eq_true, if_false])
theorem rs_got (h : chg ≠ 0) (h3 : ph ≠ 3) (hp : wk.getD (workOf ph) = po) (ho : (goPO B L po).over = true) (h0 : 0 < ph) (h1 : (goPO B L po).out = 1) : Post.runStep B ⟨L, ts, nx, inn, chg, most, wk, ph, got, se⟩ = (⟨goPL B L po, ts, nx, inn, chg, most, none, ph, got + 1, se⟩, true) := by
  unfold Post.runStep; rw [if_neg h, if_neg h3]; cases wk <;> (obtain rfl := hp; dsimp only [Option.getD_none, Option.getD_some] at *; unfold Post.runGo; simp only [ho, if_true, h0, h1, and_self])
theorem rs_ph (h : chg ≠ 0) (h3 : ph ≠ 3) (hp : wk.getD (workOf ph) = po) (ho : (goPO B L po).over = true) (h0 : ¬ (0 < ph ∧ (goPO B L po).out = 1)) : Post.runStep B ⟨L, ts, nx, inn, chg, most, wk, ph, got, se⟩ = (⟨goPL B L po, ts, nx, inn, chg, most, none, ph + 1, got, se⟩, true) := by
  unfold Post.runStep; rw [if_neg h, if_neg h3]; cases wk <;> (obtain rfl := hp; dsimp only [Option.getD_none, Option.getD_some] at *; unfold Post.runGo; simp only [ho, if_true]; rw [if_neg h0])
theorem ls_0 : Post.layStep B ⟨L, ts, nx, inn, chg, most, wk, ph, got, []⟩ = (⟨L, ts, nx, inn, chg, most, wk, ph, got, []⟩, false) := rfl
theorem ls_go (ho : (goPO B L s).over = false) : Post.layStep B ⟨L, ts, nx, inn, chg, most, wk, ph, got, s :: r⟩ = (⟨goPL B L s, ts, nx, inn, chg, most, wk, ph, got, goPO B L s :: r⟩, true) := by
  unfold Post.layStep; simp only [ho, Bool.false_eq_true, if_false]
theorem ls_8 (ho : (goPO B L s).over = true) (h8 : (goPO B L s).out = 8) : Post.layStep B ⟨L, ts, nx, inn, chg, most, wk, ph, got, s :: r⟩ = (⟨goPL B L s, ts, nx, inn, chg + 1, mxi most (chg + 1), wk, ph, got, r⟩, true) := by
  unfold Post.layStep OW.charge; simp only [ho, if_true, h8]
theorem ls_x (ho : (goPO B L s).over = true) (h8 : (goPO B L s).out ≠ 8) : Post.layStep B ⟨L, ts, nx, inn, chg, most, wk, ph, got, s :: r⟩ = (⟨goPL B L s, ts, nx, inn, chg, most, wk, ph, got, r⟩, true) := by
  unfold Post.layStep; simp only [ho, if_true, h8, if_false]
end
theorem POI_begin (nt : Bool) {v : Int} (h : 0 ≤ v ∧ v ≤ 18446744073709551615) : POI ⟨.put nt (ini 0 v), 0, 0⟩ := fun _ => ⟨⟨OI_ini (by decide) h, rfl⟩, rfl⟩
theorem POI_work {ph : Int} : POI (workOf ph) := by
  unfold workOf; (repeat' split) <;> intro _
  · exact ⟨⟨by decide, by decide⟩, rfl⟩
  · exact ⟨⟨OI_ini (by decide) (by decide), rfl⟩, rfl⟩
  · exact ⟨⟨OI_ini (by decide) (by decide), rfl⟩, rfl⟩
/-! ### the loops -/
def BM (nm nn : Nat) : PB := ⟨0, nm, nn⟩
def w0 (nm nn : Nat) : OW := ⟨List.replicate (2 + (2 + 2 * nm) + (2 + 2 * nn)) 0, [none, none, none], [0, 0, 0], 0, 0, 0, none, 0, 0, []⟩
def Inv (B : PB) (i : Nat) (w : OW) : Prop := ∃ hs f k, OIn B (2 * i) i w hs f k
theorem getD_rep (n j : Nat) : (List.replicate n (0 : Int)).getD j 0 = 0 := by
  rw [List.getD_eq_getElem?_getD, List.getElem?_replicate]; split <;> rfl
theorem Inv.start {nm nn : Nat} (h1 : 1 ≤ nm ∧ nm ≤ 4) (h2 : 1 ≤ nn ∧ nn ≤ 4) : Inv (BM nm nn) 0 (w0 nm nn) := by
  have hg : ∀ p : Nat, ([none, none, none] : List (Option PO)).getD p none = none := fun p => by
    match p with
    | 0 => rfl
    | 1 => rfl
    | 2 => rfl
    | p + 3 => rfl
  have hnx : ∀ p : Nat, ([0, 0, 0] : List Int).getD p 0 = 0 := fun p => by
    match p with
    | 0 => rfl
    | 1 => rfl
    | 2 => rfl
    | p + 3 => rfl
  refine ⟨fun _ => [], fun _ => 0, fun _ => 0, ?_⟩
  exact {
    pi := ⟨h1.1, by show nm ≤ 64; omega, h2.1, by show nn ≤ 64; omega, by show 0 + 6 + 2 * nm + 2 * nn ≤ (List.replicate _ _).length; rw [List.length_replicate]; omega, by show (List.replicate _ _).length ≤ 65536; rw [List.length_replicate]; omega⟩
    b0 := rfl
    li := LI_rep _
    lt := rfl
    ln := rfl
    nx := fun p _ => by show 0 ≤ ([0, 0, 0] : List Int).getD p 0 ∧ ([0, 0, 0] : List Int).getD p 0 ≤ _; rw [hnx]; omega
    most := ⟨Int.le_refl 0, (by decide : (0 : Int) ≤ 1)⟩
    state := .inl ⟨getD_rep _ _, rfl, rfl, rfl⟩
    ring := fun r => {
      n1 := by cases r; exact h1.1; exact h2.1
      n8 := by cases r <;> simp [PB.rn, BM] <;> omega
      len := by show _ ≤ (List.replicate _ _).length; rw [List.length_replicate]; cases r <;> simp [PB.rb, PB.rn, BM] <;> omega
      T := getD_rep _ _
      H := getD_rep _ _
      TB := Nat.le_refl _
      hf := Nat.le_refl _
      fT := Nat.le_refl _
      Tf := Nat.zero_le _
      own := fun t h => absurd h (Nat.not_lt_zero _)
      old := fun t h => absurd h (Nat.not_lt_zero _)
      turn := fun t _ h => by
        show (List.replicate _ (0 : Int)).getD _ 0 = _
        rw [getD_rep, if_neg (by rintro ⟨h, _⟩; exact absurd h (Nat.not_lt_zero _)), Nat.div_eq_of_lt (by omega)]; rfl
      pok := fun p hp => by
        rw [putsOf_eq]; show PQ _ _ _ _ (putOf r (([none, none, none] : List (Option PO)).getD p none)); rw [hg]
        exact fun t h => absurd h (Nat.not_lt_zero _)
      tok := rfl }
    tell := fun p hp => by show TellOK (([none, none, none] : List (Option PO)).getD p none); rw [hg]; trivial
    set := fun s hs => by cases hs
    cover := fun _ r h => absurd h.1 (Nat.not_lt_zero _)
    inn := rfl
    got := rfl
    few := Int.le_refl 0 }
section
variable {B : PB} {i : Nat} {w : OW}
theorem Inv.more (h : Inv B i w) : Inv B (i + 1) w := let ⟨hs, f, k, C⟩ := h; ⟨hs, f, k, C.more (by omega) (by omega)⟩
theorem Inv.ok (h : Inv B i w) (hi : i ≤ 600) : OkW B w := let ⟨_, _, _, C⟩ := h; C.ok (by omega) (by omega)
theorem Inv.tell (h : Inv B i w) (hi : i ≤ 600) {p : Nat} (hp : p < 3) (nt more : Bool) : Inv B (i + 1) (Post.tellStep B p nt more w) := by
  obtain ⟨hs, f, k, C⟩ := h
  obtain ⟨hs', C'⟩ := C.tellStep (by omega) hp nt more
  exact ⟨hs', f, k, C'.more (by omega) (by omega)⟩
theorem Inv.run (h : Inv B i w) (hi : i ≤ 600) : Inv B (i + 1) (Post.runStep B w).1 := by
  obtain ⟨hs, f, k, C⟩ := h
  obtain ⟨f', k', C'⟩ := C.runStep (by omega)
  exact ⟨hs, f', k', C'.more (by omega) (Nat.le_refl _)⟩
theorem Inv.lay (h : Inv B i w) (hi : i ≤ 600) : Inv B i (Post.layStep B w).1 := by
  obtain ⟨hs, f, k, C⟩ := h
  exact ⟨hs, f, k, C.layStep (by omega)⟩
theorem run_false (h : (Post.runStep B w).2 = false) : (Post.runStep B w).1 = w ∧ w.chg = 0 := by
  unfold Post.runStep at *
  by_cases h0 : w.chg = 0
  · rw [if_pos h0]; exact ⟨rfl, h0⟩
  · rw [if_neg h0] at h; by_cases h3 : w.ph = 3
    · rw [if_pos h3] at h; cases h
    · rw [if_neg h3] at h; cases h
theorem run_true (h : (Post.runStep B w).2 = true) : w.chg ≠ 0 := fun h0 => by unfold Post.runStep at h; rw [if_pos h0] at h; cases h
theorem lay_false (h : (Post.layStep B w).2 = false) : (Post.layStep B w).1 = w ∧ w.se = [] := by
  unfold Post.layStep at *
  cases hse : w.se with
  | nil => exact ⟨rfl, rfl⟩
  | cons s r =>
    rw [hse] at h
    dsimp only at h
    split at h <;> cases h
theorem lay_true (h : (Post.layStep B w).2 = true) : w.se ≠ [] := fun h0 => by unfold Post.layStep at h; rw [h0] at h; cases h
theorem run_ts : (Post.runStep B w).1.ts = w.ts := by
  obtain ⟨L, ts, nx, inn, chg, most, wk, ph, got, se⟩ := w
  by_cases h0 : chg = 0
  · rw [rs_0 h0]
  · by_cases h3 : ph = 3
    · rw [rs_3 h0 h3]
    · cases ho : (goPO B L (wk.getD (workOf ph))).over with
      | false => rw [rs_go h0 h3 rfl ho]
      | true =>
        by_cases h1 : 0 < ph ∧ (goPO B L (wk.getD (workOf ph))).out = 1
        · rw [rs_got h0 h3 rfl ho h1.1 h1.2]
        · rw [rs_ph h0 h3 rfl ho h1]
theorem lay_ts : (Post.layStep B w).1.ts = w.ts := by
  obtain ⟨L, ts, nx, inn, chg, most, wk, ph, got, se⟩ := w
  cases se with
  | nil => rfl
  | cons s r =>
    cases ho : (goPO B L s).over with
    | false => rw [ls_go ho]
    | true =>
      by_cases h8 : (goPO B L s).out = 8
      · rw [ls_8 ho h8]
      · rw [ls_x ho h8]
/-- behind all tells -/
def PInv (B : PB) (i n : Nat) (w : OW) : Prop := ∃ hs f k, OIn B (2 * i + 100) (i + n) w hs f k ∧ Calm w ∧ pot B w + n ≤ 2620
theorem PInv.ok {n : Nat} (h : PInv B i n w) (hi : i ≤ 600) : OkW B w := by
  obtain ⟨_, _, _, C, _, h3⟩ := h; exact C.ok (by omega) (by omega)
theorem Inv.quiet (h : Inv B i w) (hi : i ≤ 600) {j : Nat} (hj : j ≤ 100) : OkW B (quietN B j w) := by
  obtain ⟨hs, f, k, C⟩ := h
  obtain ⟨hs', C', _⟩ := C.quiet j (by omega)
  exact C'.ok (by omega) (by omega)
theorem Inv.calm (h : Inv B i w) (hi : i ≤ 600) (h4 : B.nm ≤ 4) (h5 : B.nn ≤ 4) : PInv B i 0 (quietN B 100 w) := by
  obtain ⟨hs, f, k, C⟩ := h
  obtain ⟨hs', C', hc⟩ := C.quiet_end (by omega)
  exact ⟨hs', f, k, C', hc, by have := C'.pot_le (by omega) h4 h5; omega⟩
theorem PInv.run {n : Nat} (h : PInv B i n w) (hi : i ≤ 600) (hr : (Post.runStep B w).2 = true) : PInv B i (n + 1) (Post.runStep B w).1 := by
  obtain ⟨hs, f, k, C, hc, hp⟩ := h
  have h1 := C.runPot hc (by omega) (run_true hr)
  obtain ⟨f', k', C'⟩ := C.runStep (by omega)
  exact ⟨hs, f', k', by rw [← Nat.add_assoc]; exact C', fun p hp => by rw [run_ts]; exact hc p hp, by omega⟩
theorem PInv.lay {n : Nat} (h : PInv B i n w) (hi : i ≤ 600) (h0 : w.chg = 0) (hr : (Post.layStep B w).2 = true) : PInv B i (n + 1) (Post.layStep B w).1 := by
  obtain ⟨hs, f, k, C, hc, hp⟩ := h
  have h1 := C.layPot (by omega) h0 (lay_true hr)
  exact ⟨hs, f, k, (C.layStep (by omega)).more (Nat.le_refl _) (by omega), fun p hp => by rw [lay_ts]; exact hc p hp, by omega⟩
theorem PInv.fin {n : Nat} (h : PInv B i n w) (h0 : w.chg = 0) (hs : w.se = []) : w.most ≤ 1 ∧ w.got = w.inn ∧ w.L.getD 0 0 = 0 := by
  obtain ⟨_, _, _, C, hc, _⟩ := h; exact C.fin hc h0 hs
end
end Go.L.Post
