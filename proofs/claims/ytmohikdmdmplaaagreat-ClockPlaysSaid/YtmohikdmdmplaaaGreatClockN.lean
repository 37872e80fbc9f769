/-
  ClockPlays on paper: an operation of a clock and the document's; threads with one Beat at most. Own work; no program.
-/
import Derived.Test.YtmohikdmdmplaaaGreatClockP
import Derived.Test.YtmohikdmdmplaaaGreatRingN
set_option linter.unusedSimpArgs false
set_option linter.unusedVariables false
set_option linter.unusedSectionVars false
namespace Go.L.Clk
open Go.L Go.L.Ring Go.L.Whl Go.L.Post
/-- the document's operation -/
structure RK where
  kind : Int
  pk : Int
  v : Int
  a : Option Addr
  c : Nat
  l : List Int
  taken : Nat
  last : Bool
  over : Bool
  out : Int
  val : Int
  a0 : Option Addr
  k0 : Nat
  due : List Int
  a1 : Option Addr
  k1 : Nat
  cut : List Int
  a2 : Option Addr
  k2 : Nat
  ref : List Int
def RelPh (B : CB) (w : Wh) (y : RK) : CPh → Prop
  | .put o => (y.kind = 1 ∨ y.kind = 2) ∧ y.last = false ∧ y.pk = 1 ∧ RelN (B.b + 1) B.n o 1 y.v y.l
  | .now => y.kind = 4 ∧ y.cut = [] ∧ y.ref = []
  | .take left o => y.kind = 3 ∧ y.last = false ∧ y.pk = 2 ∧ RelN (B.b + 1) B.n o 2 y.v y.l ∧ y.taken + left = B.n ∧ 1 ≤ left
  | .tick v => y.kind = 3 ∧ y.last = true ∧ v = ((w.now + 1 : Nat) : Int)
structure RelK (B : CB) (w : Wh) (co : CO) (y : RK) : Prop where
  over : y.over = co.over
  out : y.out = co.out
  val : y.val = co.val
  due : y.due = co.due
  cut : y.cut = co.cut
  ref : y.ref = co.ref
  ph : co.out = 0 → RelPh B w y co.ph
  vb : 0 ≤ y.v ∧ y.v ≤ 18446744073709551615
  li : LI y.l
  tk : y.taken ≤ 64
def kRun (x : Option (Nat × CO)) (y : RK) : Bool := match x with
  | none => false
  | some q => !q.2.over && decide (y.kind = 3)
/-- one thread -/
def KP (B : CB) (w : Wh) (i : Nat) : Option (Nat × CO) → RK → Prop
  | none, _ => True
  | some q, y => COI q.2 ∧ RelK B w q.2 y ∧ y.l.length ≤ i ∧ q.2.due.length ≤ 64
theorem RelPh.other {B : CB} {w w' : Wh} {y : RK} {ph : CPh} (h : RelPh B w y ph) (hw : w'.now = w.now ∨ y.kind ≠ 3) : RelPh B w' y ph := by
  cases ph with
  | put o => exact h
  | now => exact h
  | take left o => exact h
  | tick v =>
    obtain ⟨h1, h2, h3⟩ := h
    exact ⟨h1, h2, by rcases hw with e | e; rw [e]; exact h3; exact absurd h1 e⟩
theorem KP.other {B : CB} {w w' : Wh} {i : Nat} {x : Option (Nat × CO)} {y : RK} (h : KP B w i x y) (hw : w'.now = w.now ∨ kRun x y = false) : KP B w' (i + 1) x y := by
  cases x with
  | none => trivial
  | some q =>
    obtain ⟨h1, h2, h3, h4⟩ := h
    refine ⟨h1, ⟨h2.over, h2.out, h2.val, h2.due, h2.cut, h2.ref, fun ho => (h2.ph ho).other ?_, h2.vb, h2.li, h2.tk⟩, Nat.le_succ_of_le h3, h4⟩
    rcases hw with e | e
    · exact .inl e
    · refine .inr fun hk => ?_
      have : q.2.over = false := by simp [CO.over, ho]
      simp [kRun, this, hk] at e
theorem goC_now {B : CB} {L : List Int} {w : Wh} {c : CO} : (goC B L w c).2.1.now = w.now ∨ (c.over = false ∧ ∃ v, c.ph = .tick v) := by
  unfold goC
  cases hov : c.over with
  | true => exact .inl rfl
  | false =>
    simp only [Bool.false_eq_true, if_false]
    obtain ⟨ph, out, val, due, cut, ref⟩ := c
    cases ph with
    | put o => exact .inl rfl
    | now => exact .inl rfl
    | tick v => exact .inr ⟨trivial, v, rfl⟩
    | take left o =>
      left
      unfold stepC
      simp only []
      (repeat' split) <;> first | rfl | exact askW_now _ _
theorem goC_due {B : CB} {L : List Int} {w : Wh} {c : CO} (hw : WOk w) (h : c.due.length ≤ 64) : (goC B L w c).2.2.due.length ≤ 64 := by
  unfold goC
  split
  · exact h
  · obtain ⟨ph, out, val, due, cut, ref⟩ := c
    cases ph with
    | put o => exact h
    | now => exact h
    | tick v =>
      show ((dueL w).map (·.id)).length ≤ 64
      rw [List.length_map]
      have : (dueL w).length ≤ w.T.length := List.length_filter_le _ _
      have := hw.len; omega
    | take left o =>
      unfold stepC
      simp only []
      (repeat' split) <;> exact h
theorem goC_over {B : CB} {L : List Int} {w : Wh} {c : CO} (h : c.over = true) : goC B L w c = (L, w, c) := by unfold goC; rw [if_pos h]
def y0 : RK := ⟨0, 0, 0, none, 0, [], 0, false, false, 0, 0, none, 0, [], none, 0, [], none, 0, []⟩
/-- all threads -/
structure RKS (B : CB) (i : Nat) (L : List Int) (w : Wh) (xs : List (Option (Nat × CO))) (ys : List RK) : Prop where
  n1 : 1 ≤ B.n
  n5 : B.n ≤ 5
  b3 : B.b ≤ 3
  len : L.length = B.b + 3 + 2 * B.n + 1
  li : LI L
  ws : WS (1000 - i) w
  lx : xs.length = 5
  ly : ys.length = 5
  all : ∀ j, j < 5 → ∃ x y, xs[j]? = some x ∧ ys[j]? = some y ∧ KP B w i x y
  one : ∀ (j k : Nat) x y x' y', xs[j]? = some x → ys[j]? = some y → xs[k]? = some x' → ys[k]? = some y' → kRun x y = true → kRun x' y' = true → j = k
variable {B : CB} {i : Nat} {L L' : List Int} {w w' : Wh} {xs : List (Option (Nat × CO))} {ys : List RK}
theorem RKS.ci (h : RKS B i L w xs ys) : CI B L := ⟨h.n1, by have := h.n5; omega, by have := h.len; omega, by have := h.len; have := h.n5; have := h.b3; omega⟩
theorem RKS.start {b n : Nat} (h1 : 1 ≤ n) (h5 : n ≤ 5) (hb : b ≤ 3) : RKS ⟨b, n⟩ 0 (List.replicate (b + 3 + 2 * n + 1) 0) ⟨0, 0, []⟩ (List.replicate 5 none) (List.replicate 5 y0) :=
  ⟨h1, h5, hb, by simp, LI_rep _, ⟨⟨by simp, by simp, by simp, by simp, by simp⟩, by show 0 + (1000 - 0) < _; omega, by show 0 + (1000 - 0) < _; omega⟩, rfl, rfl, fun j hj => ⟨none, y0, by rw [List.getElem?_replicate, if_pos hj], by rw [List.getElem?_replicate, if_pos hj], trivial⟩, fun j k x y x' y' h1 _ _ _ h5 _ => by
    rw [List.getElem?_replicate] at h1; split at h1
    · obtain rfl := Option.some.inj h1; cases h5
    · cases h1⟩
theorem RKS.mono (h : RKS B i L w xs ys) (hi : i < 400) : RKS B (i + 1) L w xs ys :=
  ⟨h.n1, h.n5, h.b3, h.len, h.li, h.ws.le (by omega), h.lx, h.ly, fun j hj => let ⟨x, y, a, b, c⟩ := h.all j hj; ⟨x, y, a, b, c.other (.inl rfl)⟩, h.one⟩
/-- thread 'j' becomes another -/
theorem RKS.set (h : RKS B i L w xs ys) {j : Nat} (hj : j < 5) (hl : L'.length = L.length) (hli : LI L') (hws : WS (1000 - (i + 1)) w') (x : Option (Nat × CO)) (y : RK) (hxy : KP B w' (i + 1) x y)
    (hk : ∀ k, k < 5 → k ≠ j → ∀ x' y', xs[k]? = some x' → ys[k]? = some y' → (w'.now = w.now ∨ kRun x' y' = false) ∧ (kRun x y = true → kRun x' y' = false)) : RKS B (i + 1) L' w' (xs.set j x) (ys.set j y) := by
  have lx := h.lx; have ly := h.ly
  refine ⟨h.n1, h.n5, h.b3, by rw [hl, h.len], hli, hws, by simp [lx], by simp [ly], fun k hk5 => ?_, fun a b x1 y1 x2 y2 e1 e2 e3 e4 r1 r2 => ?_⟩
  · obtain ⟨x', y', h1, h2, h3⟩ := h.all k hk5
    by_cases e : j = k
    · subst e; exact ⟨x, y, by rw [List.getElem?_set_self (by omega)], by rw [List.getElem?_set_self (by omega)], hxy⟩
    · exact ⟨x', y', by rw [List.getElem?_set_ne e]; exact h1, by rw [List.getElem?_set_ne e]; exact h2, h3.other (hk k hk5 (Ne.symm e) x' y' h1 h2).1⟩
  · have la : a < 5 := by have := (List.getElem?_eq_some_iff.1 e1).1; simpa [lx] using this
    have lb : b < 5 := by have := (List.getElem?_eq_some_iff.1 e3).1; simpa [lx] using this
    by_cases ea : j = a
    · by_cases eb : j = b
      · omega
      · rw [List.getElem?_set_ne eb] at e3 e4
        subst ea
        rw [List.getElem?_set_self (by omega)] at e1 e2
        obtain rfl := Option.some.inj e1; obtain rfl := Option.some.inj e2
        have := (hk b lb (Ne.symm eb) x2 y2 e3 e4).2 r1
        rw [this] at r2; cases r2
    · rw [List.getElem?_set_ne ea] at e1 e2
      by_cases eb : j = b
      · subst eb
        rw [List.getElem?_set_self (by omega)] at e3 e4
        obtain rfl := Option.some.inj e3; obtain rfl := Option.some.inj e4
        have := (hk a la (Ne.symm ea) x1 y1 e1 e2).2 r2
        rw [this] at r1; cases r1
      · rw [List.getElem?_set_ne eb] at e3 e4
        exact h.one a b x1 y1 x2 y2 e1 e2 e3 e4 r1 r2
/-- a thread's step -/
theorem RKS.step (h : RKS B i L w xs ys) (hi : i < 400) {j p : Nat} (hj : j < 5) {co : CO} {y y' : RK} (hx : xs[j]? = some (some (p, co))) (hy : ys[j]? = some y) (hr : RelK B w co y) (hc : COI co) (hd : co.due.length ≤ 64) (hkind : y'.kind = y.kind) (hln : y'.l.length ≤ i + 1)
    (hr' : RelK B (goC B L w co).2.1 (goC B L w co).2.2 y') : RKS B (i + 1) (goC B L w co).1 (goC B L w co).2.1 (xs.set j (some (p, (goC B L w co).2.2))) (ys.set j y') := by
  have hws : WS ((1000 - (i + 1)) + 1) w := h.ws.le (by omega)
  obtain ⟨g1, g2, g3⟩ := goC_in (B := B) (L := L) (c := co) h.li hws hc
  have run : kRun (some (p, (goC B L w co).2.2)) y' = true → kRun (some (p, co)) y = true := by
    intro r
    cases hov : co.over with
    | true => rw [goC_over hov] at r; simp [kRun, hov] at r
    | false => simp [kRun, hov]; simp [kRun, hkind] at r; exact r.2
  refine h.set hj (goC_len ..) g1 g2 _ _ ⟨g3, hr', hln, goC_due h.ws.ok hd⟩ fun k hk5 hne x' y'' e1 e2 => ⟨?_, fun r => ?_⟩
  · rcases goC_now (B := B) (L := L) (w := w) (c := co) with e | ⟨hov, v, hv⟩
    · exact .inl e
    · refine .inr ?_
      have h0 : co.out = 0 := by simpa [CO.over] using hov
      have hp := hr.ph h0
      rw [hv] at hp
      cases hz : kRun x' y'' with
      | false => rfl
      | true => exact absurd (h.one k j x' y'' _ _ e1 e2 hx hy hz (by simp [kRun, hov, hp.1])) hne
  · cases hz : kRun x' y'' with
    | false => rfl
    | true => exact absurd (h.one k j x' y'' _ _ e1 e2 hx hy hz (run r)) hne
/-- is one of the first 'k' a Beat under way? -/
def kAt (xs : List (Option (Nat × CO))) (ys : List RK) (k : Nat) : Bool := kRun (xs.getD k none) (ys.getD k y0)
def kBeats (xs : List (Option (Nat × CO))) (ys : List RK) : Nat → Bool
  | 0 => false
  | k + 1 => kBeats xs ys k || kAt xs ys k
theorem kAt_of {k : Nat} {x : Option (Nat × CO)} {y : RK} (h1 : xs[k]? = some x) (h2 : ys[k]? = some y) : kAt xs ys k = kRun x y := by
  unfold kAt; rw [List.getD_eq_getElem?_getD, List.getD_eq_getElem?_getD, h1, h2]; rfl
theorem kBeats_no : ∀ {n : Nat}, kBeats xs ys n = false → ∀ k, k < n → kAt xs ys k = false
  | 0, _, k, hk => absurd hk (Nat.not_lt_zero _)
  | n + 1, h, k, hk => by
    simp only [kBeats, Bool.or_eq_false_iff] at h
    rcases Nat.lt_succ_iff_lt_or_eq.1 hk with h1 | rfl
    · exact kBeats_no h.1 k h1
    · exact h.2
/-- operations that begin -/
def beginC (B : CB) (w : Wh) (kind id d : Int) : CO := if kind = 1 then askC id d else if kind = 2 then cutC id else if kind = 3 then beatC B w else nowC
theorem beginC_ok {kind id d : Int} (h : RKS B i L w xs ys) (hid : 0 ≤ id) : COI (beginC B w kind id d) := by
  unfold beginC; (repeat' split)
  · exact askC_ok hid
  · exact cutC_ok hid
  · exact beatC_ok (by have := h.n5; omega) h.ws.wi.now
  · exact nowC_ok
theorem beginC_due {kind id d : Int} : (beginC B w kind id d).due.length ≤ 64 := by
  unfold beginC askC cutC beatC nowC noC; (repeat' split) <;> exact Nat.zero_le _
/-- a thread begins -/
theorem RKS.begin (h : RKS B i L w xs ys) (hi : i < 400) {j p : Nat} (hj : j < 5) {kind id d : Int} (hid : 0 ≤ id) (hb : kind = 3 → kBeats xs ys 5 = false) {y' : RK} (hkind : y'.kind = kind) (hln : y'.l = [])
    (hr' : RelK B w (beginC B w kind id d) y') : RKS B (i + 1) L w (xs.set j (some (p, beginC B w kind id d))) (ys.set j y') :=
  h.set hj rfl h.li (h.ws.le (by omega)) _ _ ⟨beginC_ok h hid, hr', by rw [hln]; exact Nat.zero_le _, beginC_due⟩ fun k hk5 hne x' y'' e1 e2 => ⟨.inl rfl, fun r => by
    have h3 : kind = 3 := by rw [← hkind]; simp [kRun] at r; exact r.2
    rw [← kAt_of e1 e2]; exact kBeats_no (hb h3) k hk5⟩
end Go.L.Clk
