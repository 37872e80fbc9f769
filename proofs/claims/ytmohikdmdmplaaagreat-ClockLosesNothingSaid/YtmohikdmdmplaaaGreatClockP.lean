/-
  The clock on paper: its operations, step by step. Own work; no program.
-/
import Derived.Test.YtmohikdmdmplaaaGreatPostP
import Derived.Test.YtmohikdmdmplaaaGreatWheelP
set_option linter.unusedSimpArgs false
set_option linter.unusedVariables false
set_option linter.unusedSectionVars false
namespace Go.L.Clk
open Go.L Go.L.Ring Go.L.Whl Go.L.Post
/-- where a clock lies -/
structure CB where
  b : Nat
  n : Nat
/-- what an operation is at -/
inductive CPh
  | put (o : RO)
  | now
  | take (left : Nat) (o : RO)
  | tick (v : Int)
structure CO where
  ph : CPh
  out : Int
  val : Int
  due : List Int
  cut : List Int
  ref : List Int
def CO.over (c : CO) : Bool := !decide (c.out = 0)
/-- the ask 'v', done at the wheel; what of it is told as cut, and as refused -/
def askW (v : Int) (w : Wh) : Wh := if v % 4096 = 0 then cutR w (v / 4096) else addR w (v / 4096) (v % 4096)
def askCut (v : Int) (w : Wh) : List Int := if v % 4096 = 0 ∧ (w.get (v / 4096)).isSome = true then [v / 4096] else []
def askRef (v : Int) (w : Wh) : List Int := if v % 4096 ≠ 0 ∧ addE w (v / 4096) (v % 4096) ≠ 0 then [v / 4096] else []
/-- what comes behind so many asks that are left -/
def nextT (left : Nat) (w : Wh) : CPh := if left = 0 then .tick ((w.now + 1 : Nat) : Int) else .take left (ini 5 0)
def stepC (B : CB) (L : List Int) (w : Wh) (c : CO) : List Int × Wh × CO :=
  match c.ph with
  | .put o =>
    let o' := goO (B.b + 1) B.n L o
    (goL (B.b + 1) B.n L o, w, { c with ph := .put o', out := o'.out })
  | .now => (L, w, { c with out := 1, val := L.getD B.b 0 })
  | .take left o =>
    let o' := goO (B.b + 1) B.n L o
    let L' := goL (B.b + 1) B.n L o
    if o'.over then
      if o'.out = 1 then (L', askW o'.value w, { c with ph := nextT (left - 1) (askW o'.value w), cut := c.cut ++ askCut o'.value w, ref := c.ref ++ askRef o'.value w })
      else (L', w, { c with ph := .tick ((w.now + 1 : Nat) : Int) })
    else (L', w, { c with ph := .take left o' })
  | .tick v => (L.set B.b v, tickR w, { c with out := 1, due := (dueL w).map (·.id) })
def goC (B : CB) (L : List Int) (w : Wh) (c : CO) : List Int × Wh × CO := if c.over then (L, w, c) else stepC B L w c
/-- so many steps, or fewer if it is over -/
def doC (B : CB) : Nat → List Int → Wh → CO → Nat × List Int × Wh × CO
  | 0, L, w, c => (0, L, w, c)
  | k + 1, L, w, c => if c.over then (0, L, w, c) else ((doC B k (goC B L w c).1 (goC B L w c).2.1 (goC B L w c).2.2).1 + 1, (doC B k (goC B L w c).1 (goC B L w c).2.1 (goC B L w c).2.2).2)
/-- operations that begin -/
def noC (ph : CPh) : CO := ⟨ph, 0, 0, [], [], []⟩
def askC (id d : Int) : CO := if d < 1 ∨ 4095 < d ∨ 1125899906842624 < id then { noC .now with out := 4 } else noC (.put (ini 0 (id * 4096 + d)))
def cutC (id : Int) : CO := if 1125899906842624 < id then { noC .now with out := 4 } else noC (.put (ini 0 (id * 4096)))
def nowC : CO := noC .now
def beatC (B : CB) (w : Wh) : CO := noC (nextT B.n w)
/-- the cells are all there -/
structure CI (B : CB) (L : List Int) : Prop where
  m1 : 1 ≤ B.n
  m64 : B.n ≤ 64
  len : B.b + 3 + 2 * B.n ≤ L.length
  top : L.length ≤ 65536
structure WI (w : Wh) : Prop where
  ok : WOk w
  now : w.now < 3000000000000000000
  seq : w.seq < 4611686018427387903
def PhC : CPh → Prop
  | .put o => OI o ∧ o.out = 0 ∧ o.pc ≤ 9
  | .now => True
  | .take left o => OI o ∧ o.out = 0 ∧ o.pc ≤ 9 ∧ 1 ≤ left ∧ left ≤ 64
  | .tick v => 0 ≤ v ∧ v ≤ 18446744073709551615
def leftOf : CPh → Nat
  | .take left _ => left
  | _ => 0
/-- what is under way is in order -/
structure COI (c : CO) : Prop where
  run : c.out = 0 → PhC c.ph ∧ c.val = 0 ∧ c.due = []
  tot : c.cut.length + c.ref.length + leftOf c.ph ≤ 64
  val : 0 ≤ c.val ∧ c.val ≤ 18446744073709551615
/-- so many steps of the wheel are free still -/
structure WS (k : Nat) (w : Wh) : Prop where
  ok : WOk w
  now : w.now + k < 3000000000000000000
  seq : w.seq + k < 4611686018427387903
theorem WS.wi {k : Nat} {w : Wh} (h : WS k w) : WI w := ⟨h.ok, by have := h.now; omega, by have := h.seq; omega⟩
theorem WS.le {k j : Nat} {w : Wh} (h : WS k w) (hj : j ≤ k) : WS j w := ⟨h.ok, by have := h.now; omega, by have := h.seq; omega⟩
theorem askW_now (v : Int) (w : Wh) : (askW v w).now = w.now := by
  unfold askW cutR addR; split
  · rfl
  · split <;> rfl
theorem askW_seq (v : Int) (w : Wh) : (askW v w).seq ≤ w.seq + 1 := by
  unfold askW cutR addR; split
  · exact Nat.le_succ _
  · split
    · exact Nat.le_refl _
    · exact Nat.le_succ _
theorem askW_ok (v : Int) {w : Wh} (h : WOk w) : WOk (askW v w) := by
  unfold askW; split
  · exact h.cut _
  · exact h.add _ _
theorem askL (v : Int) (w : Wh) : (askCut v w).length + (askRef v w).length ≤ 1 := by
  unfold askCut askRef
  by_cases h : v % 4096 = 0
  · rw [if_neg (show ¬ (v % 4096 ≠ 0 ∧ _) from fun g => g.1 h)]; split <;> simp
  · rw [if_neg (show ¬ (v % 4096 = 0 ∧ _) from fun g => h g.1)]; split <;> simp
theorem goC_len (B : CB) (L : List Int) (w : Wh) (c : CO) : (goC B L w c).1.length = L.length := by
  unfold goC stepC; split
  · rfl
  · split
    · simp only [goL_len]
    · rfl
    · simp only []; (repeat' split) <;> simp only [goL_len]
    · simp
theorem CI.go {B : CB} {L : List Int} (h : CI B L) (w : Wh) (c : CO) : CI B (goC B L w c).1 := ⟨h.m1, h.m64, by rw [goC_len]; exact h.len, by rw [goC_len]; exact h.top⟩
/-- a ring's operation of a put or a take stays one -/
theorem pc9 {b n : Nat} {L : List Int} {o : RO} (h : o.pc ≤ 9) : (goO b n L o).pc ≤ 9 := by
  unfold goO; split
  · exact h
  · unfold stepO; split <;> (try exact h) <;> simp only [putTailO, putTurnO, putSwapO, putValueO, putDoneO, takeHeadO, takeTurnO, takeValueO, takeFreeO, takeDoneO, drainTailO, drainHeadO, lookHeadO, lookTurnO, closeTailO, closeSwapO] <;> (repeat' split) <;> first | exact h | ((try dsimp only); omega)
theorem ini_ok {pc : Nat} (h : pc ≤ 9) {v : Int} (hv : 0 ≤ v ∧ v ≤ 18446744073709551615) : OI (ini pc v) ∧ (ini pc v).out = 0 ∧ (ini pc v).pc ≤ 9 := ⟨OI_ini (by omega) hv, rfl, h⟩
theorem nextT_ok {left : Nat} (h : left ≤ 64) {w : Wh} (hn : w.now < 3000000000000000000) : PhC (nextT left w) ∧ leftOf (nextT left w) = left := by
  unfold nextT
  split
  · rename_i e; subst e; exact ⟨⟨by omega, by omega⟩, rfl⟩
  · rename_i e
    obtain ⟨a, b, c⟩ := ini_ok (pc := 5) (by decide) (v := 0) (by decide)
    exact ⟨⟨a, b, c, by omega, h⟩, rfl⟩
theorem goC_in {B : CB} {L : List Int} {k : Nat} {w : Wh} {c : CO} (hL : LI L) (hw : WS (k + 1) w) (hc : COI c) : LI (goC B L w c).1 ∧ WS k (goC B L w c).2.1 ∧ COI (goC B L w c).2.2 := by
  unfold goC
  cases hov : c.over with
  | true => exact ⟨hL, hw.le (Nat.le_succ k), hc⟩
  | false =>
    simp only [Bool.false_eq_true, if_false]
    obtain ⟨ph, out, val, due, cut, ref⟩ := c
    have ho : out = 0 := by simpa [CO.over] using hov
    subst ho
    obtain ⟨hph, hv, hd⟩ := hc.run rfl
    have ht := hc.tot
    have i0 : (0 : Int) ≤ 0 ∧ (0 : Int) ≤ 18446744073709551615 := by decide
    obtain rfl : val = 0 := hv
    obtain rfl : due = [] := hd
    cases ph with
    | put o =>
      obtain ⟨h1, h2, h3⟩ := hph
      exact ⟨goL_in hL h1, hw.le (Nat.le_succ k), ⟨fun h => ⟨⟨goO_in hL h1, h, pc9 h3⟩, rfl, rfl⟩, ht, i0⟩⟩
    | now => exact ⟨hL, hw.le (Nat.le_succ k), ⟨(fun h => by cases h), ht, hL.get _⟩⟩
    | take left o =>
      obtain ⟨h1, h2, h3, h4, h5⟩ := hph
      have g := goO_in (b := B.b + 1) (n := B.n) hL h1
      simp only [leftOf] at ht
      cases hov' : (goO (B.b + 1) B.n L o).over with
      | false =>
        have e : stepC B L w ⟨.take left o, 0, 0, [], cut, ref⟩ = (goL (B.b + 1) B.n L o, w, ⟨.take left (goO (B.b + 1) B.n L o), 0, 0, [], cut, ref⟩) := by simp only [stepC, hov', Bool.false_eq_true, if_false]
        rw [e]
        have hz : (goO (B.b + 1) B.n L o).out = 0 := by simpa [RO.over] using hov'
        exact ⟨goL_in hL h1, hw.le (Nat.le_succ k), ⟨fun _ => ⟨⟨g, hz, pc9 h3, h4, h5⟩, rfl, rfl⟩, ht, i0⟩⟩
      | true =>
        by_cases h6 : (goO (B.b + 1) B.n L o).out = 1
        · have e : stepC B L w ⟨.take left o, 0, 0, [], cut, ref⟩ = (goL (B.b + 1) B.n L o, askW (goO (B.b + 1) B.n L o).value w, ⟨nextT (left - 1) (askW (goO (B.b + 1) B.n L o).value w), 0, 0, [], cut ++ askCut (goO (B.b + 1) B.n L o).value w, ref ++ askRef (goO (B.b + 1) B.n L o).value w⟩) := by simp only [stepC, hov', if_true, h6]
          rw [e]
          have hn := askW_now (goO (B.b + 1) B.n L o).value w
          have hs := askW_seq (goO (B.b + 1) B.n L o).value w
          have hl := askL (goO (B.b + 1) B.n L o).value w
          have hwn := hw.now; have hws := hw.seq
          obtain ⟨a, b⟩ := nextT_ok (left := left - 1) (by omega) (w := askW (goO (B.b + 1) B.n L o).value w) (by rw [hn]; omega)
          refine ⟨goL_in hL h1, ⟨askW_ok _ hw.ok, by rw [hn]; omega, by show (askW (goO (B.b + 1) B.n L o).value w).seq + k < _; omega⟩, ⟨fun _ => ⟨a, rfl, rfl⟩, ?_, i0⟩⟩
          simp only [List.length_append]; rw [b]; omega
        · have e : stepC B L w ⟨.take left o, 0, 0, [], cut, ref⟩ = (goL (B.b + 1) B.n L o, w, ⟨.tick ((w.now + 1 : Nat) : Int), 0, 0, [], cut, ref⟩) := by simp only [stepC, hov', if_true, h6, if_false]
          rw [e]
          refine ⟨goL_in hL h1, hw.le (Nat.le_succ k), ⟨fun _ => ⟨⟨by omega, by have := hw.now; omega⟩, rfl, rfl⟩, ?_, i0⟩⟩
          simp only [leftOf]; omega
    | tick v =>
      exact ⟨hL.set _ _ hph, ⟨hw.ok.tick, by have := hw.now; show w.now + 1 + k < _; omega, by have := hw.seq; show w.seq + k < _; omega⟩, ⟨(fun h => by cases h), ht, i0⟩⟩
theorem doC_over (B : CB) (k : Nat) (L : List Int) (w : Wh) (c : CO) (h : c.over = true) : doC B k L w c = (0, L, w, c) := by
  cases k with
  | zero => rfl
  | succ k => rw [doC, if_pos h]
theorem doC_go (B : CB) (k : Nat) (L : List Int) (w : Wh) (c : CO) (h : c.over = false) : doC B (k + 1) L w c = ((doC B k (goC B L w c).1 (goC B L w c).2.1 (goC B L w c).2.2).1 + 1, (doC B k (goC B L w c).1 (goC B L w c).2.1 (goC B L w c).2.2).2) := by
  rw [doC, if_neg (by simp [h])]
theorem doC_in {B : CB} : ∀ (j : Nat) {m : Nat} {L : List Int} {w : Wh} {c : CO}, CI B L → LI L → WS (j + m) w → COI c → CI B (doC B j L w c).2.1 ∧ LI (doC B j L w c).2.1 ∧ WS m (doC B j L w c).2.2.1 ∧ COI (doC B j L w c).2.2.2
  | 0, m, L, w, c, hB, hL, hw, hc => ⟨hB, hL, by rw [Nat.zero_add] at hw; exact hw, hc⟩
  | j + 1, m, L, w, c, hB, hL, hw, hc => by
    cases h : c.over with
    | true => rw [doC_over B _ L w c h]; exact ⟨hB, hL, hw.le (by omega), hc⟩
    | false =>
      rw [doC_go B j L w c h]
      rw [show j + 1 + m = (j + m) + 1 by omega] at hw
      obtain ⟨a, b, d⟩ := goC_in hL hw hc
      exact doC_in j (hB.go w c) a b d
theorem askC_ok {id d : Int} (hid : 0 ≤ id) : COI (askC id d) := by
  have i0 : (0 : Int) ≤ 0 ∧ (0 : Int) ≤ 18446744073709551615 := by decide
  unfold askC; split
  · exact ⟨(fun h => by cases h), by decide, i0⟩
  · rename_i h
    exact ⟨fun _ => ⟨ini_ok (by decide) (by omega), rfl, rfl⟩, (show 0 + 0 + 0 ≤ 64 by decide), i0⟩
theorem cutC_ok {id : Int} (hid : 0 ≤ id) : COI (cutC id) := by
  have i0 : (0 : Int) ≤ 0 ∧ (0 : Int) ≤ 18446744073709551615 := by decide
  unfold cutC; split
  · exact ⟨(fun h => by cases h), by decide, i0⟩
  · exact ⟨fun _ => ⟨ini_ok (by decide) (by omega), rfl, rfl⟩, (show 0 + 0 + 0 ≤ 64 by decide), i0⟩
theorem nowC_ok : COI nowC := ⟨fun _ => ⟨trivial, rfl, rfl⟩, by decide, by decide⟩
theorem beatC_ok {B : CB} (h : B.n ≤ 64) {w : Wh} (hn : w.now < 3000000000000000000) : COI (beatC B w) := by
  obtain ⟨a, b⟩ := nextT_ok h hn
  exact ⟨fun _ => ⟨a, rfl, rfl⟩, by show 0 + 0 + leftOf (nextT B.n w) ≤ 64; omega, (show (0 : Int) ≤ 0 ∧ (0 : Int) ≤ 18446744073709551615 by decide)⟩
end Go.L.Clk
