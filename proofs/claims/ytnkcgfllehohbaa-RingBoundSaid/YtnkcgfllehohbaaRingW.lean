/-
  RingOrder and RingBound on paper: what holds behind each step of who puts and who takes, and at the end. Own work; no program.
-/
import Derived.Test.YtnkcgfllehohbaaRingT
namespace Go.L.Ring
open Go.L
variable {n B : Nat} {c : CW} {hs : List Tk} {f h : Nat}
theorem CI.more (C : CI n B c hs f h) {B' : Nat} (hB : B ≤ B') : CI n B' c hs f h := { C with TB := Nat.le_trans C.TB hB, nx := fun q hq => ⟨(C.nx q hq).1, Int.le_trans (C.nx q hq).2 (by omega)⟩ }
def fresh (p : Nat) (x : Int) : RO := ⟨0, 0, (p : Int) * 4294967296 + x, 0, 0⟩
theorem CI.begin (C : CI n B c hs f h) (hB : B < 100000) {p : Nat} (hp : p < 3) (hps : c.ps.getD p none = none) :
    CI n (B + 1) { c with nx := c.nx.set p (c.nx.getD p 0 + 1), ps := c.ps.set p (some (fresh p (c.nx.getD p 0 + 1))) } hs f h := by
  have P := C.pok p hp
  rw [hps] at P
  have hx := C.nx p hp
  have hn : ∀ q, (c.nx.set p (c.nx.getD p 0 + 1)).getD q 0 = if q = p then c.nx.getD p 0 + 1 else c.nx.getD q 0 := fun q => getD_set _ _ _ _ _ (by rw [C.ln]; exact hp)
  refine { C with TB := Nat.le_succ_of_le C.TB, ln := by simp [C.ln], nx := fun q hq => ?_, lp := by simp [C.lp], pok := fun q hq => ?_, poi := fun q o hq e => ?_ }
  · show 0 ≤ (c.nx.set p _).getD q 0 ∧ (c.nx.set p _).getD q 0 ≤ ((B + 1 : Nat) : Int)
    rw [hn]; have := C.nx q hq; split <;> omega
  · show POK n c.L hs f q ((c.nx.set p _).getD q 0) ((c.ps.set p _).getD q none)
    rw [set_ps C.lp hp, hn]
    by_cases e : q = p
    · rw [if_pos e, if_pos e]; subst e; exact ⟨rfl, rfl, .inl ⟨rfl, P⟩⟩
    · rw [if_neg e, if_neg e]; exact C.pok q hq
  · have e : (c.ps.set p _).getD q none = some o := e
    rw [set_ps C.lp hp] at e; split at e
    · cases e; exact ⟨Nat.zero_le _, by show 0 ≤ (p : Int) * 4294967296 + _; omega, by show (p : Int) * 4294967296 + _ ≤ 18446744073709551615; omega, Int.le_refl 0, (show (0 : Int) ≤ 18446744073709551615 by decide), Int.le_refl 0, (show (0 : Int) ≤ 18446744073709551615 by decide)⟩
    · exact C.poi q o hq e
theorem putGo_ps (n p : Nat) (o : RO) (c : CW) (N : List Int) (y : Option RO) : putGo n p o { c with nx := N, ps := c.ps.set p y } = putGo n p o { c with nx := N } := by
  unfold putGo; simp only [List.set_set]
theorem putGo_other {n p q : Nat} {o : RO} {c : CW} (lp : c.ps.length = 3) (hp : p < 3) (hq : q ≠ p) : (putGo n p o c).ps.getD q none = c.ps.getD q none := by
  unfold putGo
  dsimp only
  split
  · split <;> exact (set_ps lp hp).trans (if_neg hq)
  · exact (set_ps lp hp).trans (if_neg hq)
/-- what a call of put leaves -/
theorem CI.putStep (C : CI n B c hs f h) (hB : B < 99999) {p : Nat} (hp : p < 3) (more : Bool) : ∃ hs', CI n (B + 2) (putStep n p more c) hs' f h ∧ (∀ q, q ≠ p → (putStep n p more c).ps.getD q none = c.ps.getD q none) ∧
    (∀ o, c.ps.getD p none = some o → (putStep n p more c).ps.getD p none = none ∨ ∃ o', (putStep n p more c).ps.getD p none = some o' ∧ rk hs'.length o' < rk hs.length o) := by
  unfold Ring.putStep
  cases hps : c.ps.getD p none with
  | some o =>
    dsimp only
    obtain ⟨hs', C', r⟩ := C.putGo (by omega) hp hps
    exact ⟨hs', C'.more (by omega), fun q hq => putGo_other C.lp hp hq, fun o' e => by cases e; exact r⟩
  | none =>
    dsimp only
    cases more with
    | false => exact ⟨hs, C.more (by omega), fun _ _ => rfl, fun o e => by cases e⟩
    | true =>
      rw [if_pos rfl]
      obtain ⟨hs', C', r⟩ := (C.begin (by omega) hp hps).putGo (by omega) hp (o := fresh p (c.nx.getD p 0 + 1)) ((set_ps C.lp hp).trans (if_pos rfl))
      rw [putGo_ps] at C' r
      refine ⟨hs', C', fun q hq => ?_, fun o e => by cases e⟩
      have := putGo_other (n := n) (o := fresh p (c.nx.getD p 0 + 1)) (c := { c with nx := c.nx.set p (c.nx.getD p 0 + 1) }) C.lp hp hq
      exact this
def nu (T h : Nat) : Option RO → Nat
  | none => 5 * (T - h) + 2
  | some o => 5 * (T - h) + 2 - (o.pc - 5)
def OutOut (n B : Nat) (r : CW × Bool) (hs : List Tk) (h : Nat) (tk : Option RO) : Prop :=
  ∃ f' h', CI n B r.1 hs f' h' ∧ (r.2 = true → r.1.tk = none ∧ f' = h' ∧ (h' = hs.length ∨ (hs.getD h' dT).fin = false)) ∧ (r.2 = false → nu hs.length h' r.1.tk < nu hs.length h tk)
theorem CI.outGo (C : CI n B c hs f h) (hB : B < 100000) {o : RO} (htk : c.tk = some o) : OutOut n B (outGo n o (c.steps + 1) c) hs h c.tk ∧ (outGo n o (c.steps + 1) c).1.ps = c.ps := by
  have P := C.tok
  have hO := C.toi o htk
  have hst := C.tst o htk
  rw [htk] at P ⊢
  obtain ⟨hout, P⟩ := P
  obtain ⟨eL, eO⟩ := go_st (b := 0) (n := n) (L := c.L) hout
  have hO' := goO_in (b := 0) (n := n) C.li hO
  have hL' := goL_in (b := 0) (n := n) C.li hO
  have hTB := C.TB
  have hn1 := C.n1; have hn8 := C.n8; have hlen := C.len
  have hhf := C.hf; have hfT := C.fT
  unfold Ring.outGo
  rcases P with ⟨hpc, hf⟩ | ⟨hpc, hen, hf⟩ | ⟨hpc, hen, hf, hhT, hfin⟩ | ⟨hpc, hen, hf, hhT, hfin, hv⟩ | ⟨hpc, hen, hf, hhT, hv⟩
  · obtain ⟨s1, s2⟩ := stp5 (b := 0) (n := n) (L := c.L) hpc
    rw [eO, s2] at hO'
    rw [eL, s1, eO, s2]
    have e2 : takeHeadO 0 c.L o = { o with pc := 6, en := (h : Int) } := by unfold takeHeadO; rw [C.H]
    rw [e2] at hO' ⊢
    rw [if_neg (by simp [RO.over, hout])]
    refine ⟨⟨f, h, { C with tok := ⟨hout, .inr (.inl ⟨rfl, rfl, hf⟩)⟩, toi := fun o1 e => by cases e; exact hO', tst := fun o1 e => by cases e; show c.steps + 1 = (6 : Int) - 5; omega, cnt := by show (if c.steps + 1 = 4 then _ else _) = _; rw [if_neg (by omega)]; exact C.cnt }, fun e => Bool.noConfusion e, fun _ => ?_⟩, rfl⟩
    simp only [nu, hpc]; omega
  · obtain ⟨s1, s2⟩ := stp6 (b := 0) (n := n) (L := c.L) hpc
    rw [eO, s2] at hO'
    rw [eL, s1, eO, s2]
    have ht := C.turn h (by omega) (by omega)
    have hw := wtN n h (by omega)
    have hdl := Nat.div_le_self h n
    have hu : uw (wt n o.en + 1) = ((2 * (h / n) + 1 : Nat) : Int) := by
      rw [hen, hw, show (((2 * (h / n) : Nat) : Int) + 1) = ((2 * (h / n) + 1 : Nat) : Int) by omega]; exact uwN _ (by omega)
    by_cases e : h < hs.length ∧ (hs.getD h dT).fin = true
    · have e2 : takeTurnO 0 n c.L o = { o with pc := 7, out := 0 } := by
        unfold takeTurnO; congr 1; rw [hu, hen, tnN, ht, if_pos e, if_pos (by omega), hout]
      rw [e2] at hO' ⊢
      rw [if_neg (by simp [RO.over])]
      refine ⟨⟨f, h, { C with tok := ⟨rfl, .inr (.inr (.inl ⟨rfl, hen, hf, e.1, e.2⟩))⟩, toi := fun o1 e => by cases e; exact hO', tst := fun o1 e => by cases e; show c.steps + 1 = (7 : Int) - 5; omega, cnt := by show (if c.steps + 1 = 4 then _ else _) = _; rw [if_neg (by omega)]; exact C.cnt }, fun e => Bool.noConfusion e, fun _ => ?_⟩, rfl⟩
      simp only [nu, hpc]; omega
    · have e2 : takeTurnO 0 n c.L o = { o with pc := 7, out := 4 } := by
        unfold takeTurnO; congr 1; rw [hu, hen, tnN, ht, if_neg e, if_neg (by omega)]
      rw [e2]
      rw [if_pos (by simp [RO.over]), if_neg (show ¬ (4 : Int) = 1 by decide)]
      refine ⟨⟨f, h, { C with tok := hf, toi := fun o1 e => (by cases e), tst := fun o1 e => (by cases e) }, fun _ => ⟨rfl, hf, ?_⟩, fun e => Bool.noConfusion e⟩, rfl⟩
      by_cases e1 : h = hs.length
      · exact .inl e1
      · right
        cases e2 : (hs.getD h dT).fin with
        | false => rfl
        | true => exact absurd ⟨by omega, e2⟩ e
  · obtain ⟨s1, s2⟩ := stp7 (b := 0) (n := n) (L := c.L) hpc
    rw [eO, s2] at hO'
    rw [eL, s1, eO, s2]
    have hv := C.value h (by omega) hhT hfin
    have e2 : takeValueO 0 n c.L o = { o with pc := 8, val := (hs.getD h dT).val } := by unfold takeValueO; rw [hen, tnN, show 2 + 2 * (h % n) + 1 = 3 + 2 * (h % n) by omega, hv]
    rw [e2] at hO' ⊢
    rw [if_neg (by simp [RO.over, hout])]
    refine ⟨⟨f, h, { C with tok := ⟨hout, .inr (.inr (.inr (.inl ⟨rfl, hen, hf, hhT, hfin, rfl⟩)))⟩, toi := fun o1 e => by cases e; exact hO', tst := fun o1 e => by cases e; show c.steps + 1 = (8 : Int) - 5; omega, cnt := by show (if c.steps + 1 = 4 then _ else _) = _; rw [if_neg (by omega)]; exact C.cnt }, fun e => Bool.noConfusion e, fun _ => ?_⟩, rfl⟩
    simp only [nu, hpc]; omega
  · obtain ⟨s1, s2⟩ := stp8 (b := 0) (n := n) (L := c.L) hpc
    rw [eO, s2] at hO'
    rw [eL, s1] at hL'
    rw [eL, s1, eO, s2]
    have hdl := Nat.div_le_self h n
    have hm := Nat.mod_lt h hn1
    have e2 : takeFreeL 0 n c.L o = c.L.set (2 + 2 * (h % n)) ((2 * (h / n) + 2 : Nat) : Int) := by
      unfold takeFreeL
      rw [hen, tnN, wtN n h (by omega)]
      congr 1
      rw [show (((2 * (h / n) : Nat) : Int) + 2) = ((2 * (h / n) + 2 : Nat) : Int) by omega]; exact uwN _ (by omega)
    rw [e2] at hL' ⊢
    have hg : ∀ j, (c.L.set (2 + 2 * (h % n)) ((2 * (h / n) + 2 : Nat) : Int)).getD j 0 = if j = 2 + 2 * (h % n) then ((2 * (h / n) + 2 : Nat) : Int) else c.L.getD j 0 := fun j => getD_set _ _ _ _ _ (by omega)
    rw [if_neg (by simp [RO.over, takeFreeO, hout])]
    have hc4 : c.steps + 1 = 4 := by omega
    refine ⟨⟨f + 1, h, { C with len := by simp [hlen], li := hL', T := by rw [hg, if_neg (by omega)]; exact C.T, H := by rw [hg, if_neg (by omega)]; exact C.H, hf := by omega, fT := by omega, Tf := by have := C.Tf; omega, old := ?_, turn := ?_, value := ?_, pok := ?_, tok := ⟨hout, .inr (.inr (.inr (.inr ⟨rfl, hen, by omega, hhT, hv⟩)))⟩, toi := fun o1 e => by cases e; exact hO', tst := fun o1 e => by cases e; show c.steps + 1 = (9 : Int) - 5; omega, cnt := ?_ }, fun e => Bool.noConfusion e, fun _ => ?_⟩, rfl⟩
    · intro t ht
      by_cases e : t < f
      · exact C.old t e
      · have : t = h := by omega
        rw [this]; exact hfin
    · intro t h1 h2
      rw [hg]
      by_cases e : t = h + n
      · subst e
        rw [mod_add, if_pos rfl, div_add n h hn1, if_neg (by have := C.Tf; omega)]; omega
      · rw [if_neg (by
          intro h4
          have := mod_inj (n := n) (f := f) (t := t) (u := h) (by omega) (by omega) (by omega) (by omega) (by omega)
          omega)]
        exact C.turn t (by omega) (by omega)
    · intro t h1 h2 h3
      rw [hg, if_neg (by omega)]; exact C.value t (by omega) h2 h3
    · intro q hq
      exact (C.pok q hq).mono id (fun _ _ x => x) (Nat.le_refl _) (by omega) (fun u v _ => by rw [hg, if_neg (by omega)])
    · show (if c.steps + 1 = 4 then c.count - 1 else c.count) = _; rw [if_pos hc4, C.cnt]; omega
    · simp only [nu, hpc, takeFreeO]; omega
  · obtain ⟨s1, s2⟩ := stp9 (b := 0) (n := n) (L := c.L) hpc
    rw [eL, s1] at hL'
    rw [eL, s1, eO, s2]
    have e2 : takeDoneL 0 c.L o = c.L.set 1 ((h + 1 : Nat) : Int) := by
      unfold takeDoneL; rw [hen, show ((h : Int) + 1) = ((h + 1 : Nat) : Int) by omega, uwN _ (by omega)]
    rw [e2] at hL' ⊢
    have hg : ∀ j, (c.L.set 1 ((h + 1 : Nat) : Int)).getD j 0 = if j = 1 then ((h + 1 : Nat) : Int) else c.L.getD j 0 := fun j => getD_set _ _ _ _ _ (by omega)
    rw [if_pos (by simp [RO.over, takeDoneO]), if_pos (show (takeDoneO o).out = 1 from rfl)]
    refine ⟨⟨f, h + 1, { C with len := by simp [hlen], li := hL', T := by rw [hg, if_neg (by omega)]; exact C.T, H := by rw [hg, if_pos rfl], hf := by omega, turn := fun t h1 h2 => by rw [hg, if_neg (by omega)]; exact C.turn t h1 h2, value := fun t h1 h2 h3 => by rw [hg, if_neg (by omega)]; exact C.value t h1 h2 h3, pok := fun q hq => (C.pok q hq).mono id (fun _ _ x => x) (Nat.le_refl _) (Nat.le_refl _) (fun u v _ => by rw [hg, if_neg (by omega)]), tok := by show f = h + 1; omega, toi := fun o1 e => (by cases e), tst := fun o1 e => (by cases e), took := ?_ }, fun e => Bool.noConfusion e, fun _ => ?_⟩, rfl⟩
    · show c.taken ++ [(takeDoneO o).val] = _
      rw [C.took, List.take_succ_eq_append_getElem hhT, List.map_append]
      congr 1
      show [o.val] = _
      rw [hv, List.getD_eq_getElem?_getD, List.getElem?_eq_getElem hhT]; rfl
    · simp only [nu, hpc]; omega
theorem CI.outStep (C : CI n B c hs f h) (hB : B < 100000) : OutOut n B (outStep n c) hs h c.tk ∧ (outStep n c).1.ps = c.ps := by
  unfold Ring.outStep
  cases htk : c.tk with
  | some o => dsimp only; rw [← htk]; exact C.outGo hB htk
  | none =>
    dsimp only
    have ht := C.tok
    rw [htk] at ht
    have C1 : CI n B { c with tk := some ⟨5, 0, 0, 0, 0⟩, steps := 0 } hs f h := { C with tok := ⟨rfl, .inl ⟨rfl, ht⟩⟩, toi := fun o e => by cases e; exact ⟨by decide, by decide, by decide, by decide, by decide, by decide, by decide⟩, tst := fun o e => by cases e; rfl }
    have := C1.outGo hB rfl
    exact this
/-- when nobody puts any more all tickets are over -/
theorem CI.allFin (C : CI n B c hs f h) (hps : ∀ p, p < 3 → c.ps.getD p none = none) (t : Nat) (ht : t < hs.length) : (hs.getD t dT).fin = true := by
  have h1 := (C.own t ht).1
  have h2 := C.pok _ h1
  rw [hps _ h1] at h2
  exact h2 t ht rfl
theorem CI.nu_le (C : CI n B c hs f h) : nu hs.length h c.tk ≤ 47 := by
  have h1 := C.Tf; have h2 := C.tok; have := C.n8
  have : f ≤ h + 1 := by
    cases htk : c.tk with
    | none => rw [htk] at h2; have : f = h := h2; omega
    | some o => rw [htk] at h2; obtain ⟨_, h2⟩ := h2; omega
  cases c.tk <;> simp only [nu] <;> omega
/-- at the end: all are over, all are taken -/
structure CE (n : Nat) (c : CW) (hs : List Tk) : Prop where
  ex : ∃ B, B < 99999 ∧ CI n B c hs hs.length hs.length
  ps : ∀ p, p < 3 → c.ps.getD p none = none
  tk : c.tk = none
theorem CI.ended (C : CI n B c hs f h) (hB : B < 99999) (hps : ∀ p, p < 3 → c.ps.getD p none = none) (hb : (Ring.outStep n c).2 = true) : CE n (Ring.outStep n c).1 hs := by
  obtain ⟨⟨f', h', C', ht, _⟩, hp⟩ := C.outStep (by omega)
  obtain ⟨h1, h2, h3⟩ := ht hb
  have hps' : ∀ p, p < 3 → (Ring.outStep n c).1.ps.getD p none = none := fun p h => by rw [hp]; exact hps p h
  have e : h' = hs.length := by
    rcases h3 with h3 | h3
    · exact h3
    · rcases Nat.lt_or_ge h' hs.length with x | x
      · have := C'.allFin hps' h' x; rw [h3] at this; cases this
      · have := C'.hf; have := C'.fT; omega
  subst h2; subst e
  exact ⟨⟨B, hB, C'⟩, hps', h1⟩
def c0 (n : Nat) : CW := ⟨List.replicate (2 + 2 * n) 0, [none, none, none], [0, 0, 0], [[], [], []], none, 0, [], 0, 0⟩
theorem CI.start (h1 : 1 ≤ n) (h8 : n ≤ 8) : CI n 0 (c0 n) [] 0 0 := by
  have hz : ∀ k i, (List.replicate k (0 : Int)).getD i 0 = 0 := fun k i => by simp only [List.getD_eq_getElem?_getD, List.getElem?_replicate]; split <;> rfl
  have hp : ∀ p, (c0 n).ps.getD p none = none := fun p => by
    match p with
    | 0 | 1 | 2 => rfl
    | p + 3 => rfl
  refine ⟨h1, h8, by simp [c0], LI_rep _, rfl, rfl, rfl, fun p hp => ?_, hz _ _, hz _ _, Nat.le_refl _, Nat.le_refl _, Nat.le_refl _, Nat.zero_le _, fun t ht => absurd ht (Nat.not_lt_zero _), fun t ht => absurd ht (Nat.not_lt_zero _), fun t _ ht => ?_, fun t _ ht => absurd ht (Nat.not_lt_zero _), fun p _ => ?_, fun p o _ e => ?_, rfl, fun o e => (by cases e), fun o e => (by cases e), fun p hp => ?_, rfl, rfl, ?_⟩
  · match p, hp with
    | 0, _ | 1, _ | 2, _ => exact ⟨Int.le_refl 0, Int.le_refl 0⟩
  · show (List.replicate _ _).getD _ _ = _
    rw [hz, if_neg (fun x => absurd x.1 (Nat.not_lt_zero _)), Nat.div_eq_of_lt (by omega)]; rfl
  · rw [hp]; intro t ht; exact absurd ht (Nat.not_lt_zero _)
  · rw [hp] at e; cases e
  · match p, hp with
    | 0, _ | 1, _ | 2, _ => rfl
  · show (0 : Int) ≤ n; omega
theorem CE.fin (E : CE n c hs) (t : Nat) (ht : t < hs.length) : (hs.getD t dT).fin = true := by
  obtain ⟨B, _, C⟩ := E.ex; exact C.allFin E.ps t ht
theorem CE.count (E : CE n c hs) : c.count = 0 := by
  obtain ⟨B, _, C⟩ := E.ex
  have h1 : finN hs = hs.length := by
    unfold finN; rw [List.countP_eq_length]; intro x hx
    obtain ⟨t, ht, rfl⟩ := List.mem_iff_getElem.1 hx
    have := E.fin t ht
    rw [List.getD_eq_getElem?_getD, List.getElem?_eq_getElem ht] at this; exact this
  rw [C.cnt, h1]; omega
def ofs (p : Nat) (hs : List Tk) : List Tk := hs.filter (fun x => x.own == p)
theorem CE.inn (E : CE n c hs) {p : Nat} (hp : p < 3) : c.inn.getD p [] = (ofs p hs).map (·.val) := by
  obtain ⟨B, _, C⟩ := E.ex
  rw [C.inn p hp, mineOf, ofs]; congr 1
  apply List.filter_congr; intro x hx
  obtain ⟨t, ht, rfl⟩ := List.mem_iff_getElem.1 hx
  have := E.fin t ht
  rw [List.getD_eq_getElem?_getD, List.getElem?_eq_getElem ht] at this
  have this : hs[t].fin = true := this
  simp [this]
theorem CE.taken (E : CE n c hs) : c.taken = hs.map (·.val) := by
  obtain ⟨B, _, C⟩ := E.ex; rw [C.took, List.take_length]
theorem ofs_get {hs : List Tk} {i p : Nat} (hi : i < hs.length) (hp : (hs.getD i dT).own = p) : (ofs p hs)[(ofs p (hs.take i)).length]? = some (hs.getD i dT) ∧ (ofs p (hs.take (i + 1))).length = (ofs p (hs.take i)).length + 1 := by
  have e : hs.getD i dT = hs[i] := by rw [List.getD_eq_getElem?_getD, List.getElem?_eq_getElem hi]; rfl
  rw [e] at hp ⊢
  have h1 : hs = hs.take i ++ hs[i] :: hs.drop (i + 1) := by rw [List.getElem_cons_drop, List.take_append_drop]
  constructor
  · conv => lhs; rw [h1]
    simp only [ofs, List.filter_append, List.filter_cons, hp, beq_self_eq_true, if_true]
    rw [List.getElem?_append_right (by rw [← h1]; exact Nat.le_refl _)]
    rw [← h1]; simp
  · have h2 : List.filter (fun x => x.own == p) [hs[i]] = [hs[i]] := by simp [hp]
    rw [List.take_succ_eq_append_getElem hi]; unfold ofs; rw [List.filter_append, List.length_append, h2]; rfl
theorem ofs_skip {hs : List Tk} {i p : Nat} (hi : i < hs.length) (hp : (hs.getD i dT).own ≠ p) : (ofs p (hs.take (i + 1))).length = (ofs p (hs.take i)).length := by
  have e : hs.getD i dT = hs[i] := by rw [List.getD_eq_getElem?_getD, List.getElem?_eq_getElem hi]; rfl
  rw [e] at hp
  have h2 : List.filter (fun x => x.own == p) [hs[i]] = [] := by simp [hp]
  rw [List.take_succ_eq_append_getElem hi]; unfold ofs; rw [List.filter_append, List.length_append, h2]; rfl
end Go.L.Ring
