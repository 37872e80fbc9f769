/-
  The clock on paper: a clock that nobody is at; an ask and its cancel; asks that are due. Own work; no program.
-/
import Derived.Test.YtmohikdmdmplaaaGreatClockQ
set_option linter.unusedSimpArgs false
set_option linter.unusedVariables false
set_option linter.unusedSectionVars false
namespace Go.L.Clk
open Go.L Go.L.Ring Go.L.Whl Go.L.Post
/-- a clock that nobody is at -/
structure KQ (B : CB) (m : Nat) (L : List Int) (w : Wh) (h : Nat) (q : List Int) : Prop where
  I : CI B L
  hL : LI L
  hw : WS m w
  Q : RQ (B.b + 1) B.n L h q
  now : L.getD B.b 0 = ((w.now : Nat) : Int)
theorem KQ.zero {n : Nat} (h1 : 1 ≤ n) (h2 : n ≤ 64) : KQ ⟨0, n⟩ 3000000 (List.replicate (3 + 2 * n) 0) ⟨0, 0, []⟩ 0 [] :=
  ⟨⟨h1, h2, by simp, by simp; omega⟩, fun x hx => by rw [(List.mem_replicate.1 hx).2]; decide, ⟨WOk.nil, by decide, by decide⟩, RQ.zero h1 h2 (by first | (simp; done) | (simp; omega)), by
    rw [List.getD_eq_getElem?_getD, List.getElem?_replicate]; split <;> rfl⟩
theorem KQ.n (B : CB) {m : Nat} {L : List Int} {w : Wh} {h : Nat} {q : List Int} (K : KQ B m L w h q) : w.now < 3000000000000000000 := by have := K.hw.now; omega
theorem KQ.le {B : CB} {m j : Nat} {L : List Int} {w : Wh} {h : Nat} {q : List Int} (K : KQ B m L w h q) (hj : j ≤ m) : KQ B j L w h q := { K with hw := K.hw.le hj }
theorem KQ.ask {B : CB} {m : Nat} {L : List Int} {w : Wh} {h : Nat} {q : List Int} (K : KQ B (1000 + m) L w h q) (hr : q.length < B.n) (hh : h + q.length < 800000) {id d : Int} (h0 : 0 ≤ id) (hid : id ≤ 1125899906842624) (hd : 1 ≤ d ∧ d ≤ 4095) :
    ∃ L' ph, doC B 1000 L w (askC id d) = (5, L', w, ⟨ph, 1, 0, [], [], []⟩) ∧ KQ B m L' w h (q ++ [id * 4096 + d]) := by
  obtain ⟨L', ph, e, Q, hl, hb⟩ := ask_done (w := w) K.Q hr hh hid hd
  have := doC_in (B := B) 1000 (m := m) K.I K.hL K.hw (askC_ok (d := d) h0)
  rw [e] at this
  exact ⟨L', ph, e, this.1, this.2.1, this.2.2.1, Q, hb.trans K.now⟩
theorem KQ.cancel {B : CB} {m : Nat} {L : List Int} {w : Wh} {h : Nat} {q : List Int} (K : KQ B (1000 + m) L w h q) (hr : q.length < B.n) (hh : h + q.length < 800000) {id : Int} (h0 : 0 ≤ id) (hid : id ≤ 1125899906842624) :
    ∃ L' ph, doC B 1000 L w (cutC id) = (5, L', w, ⟨ph, 1, 0, [], [], []⟩) ∧ KQ B m L' w h (q ++ [id * 4096]) := by
  obtain ⟨L', ph, e, Q, hl, hb⟩ := cancel_done (w := w) K.Q hr hh hid
  have := doC_in (B := B) 1000 (m := m) K.I K.hL K.hw (cutC_ok h0)
  rw [e] at this
  exact ⟨L', ph, e, this.1, this.2.1, this.2.2.1, Q, hb.trans K.now⟩
theorem KQ.beat {B : CB} {m : Nat} {L : List Int} {w : Wh} {h : Nat} {q : List Int} (K : KQ B (1000 + m) L w h q) :
    ∃ c L' ph, doC B 1000 L w (beatC B w) = (c, L', tickR (foldW q w), ⟨ph, 1, 0, (dueL (foldW q w)).map (·.id), foldCut q w, foldRef q w⟩) ∧ KQ B m L' (tickR (foldW q w)) (h + q.length) [] := by
  obtain ⟨c, L', ph, e, Q, hl, hb⟩ := beat_done (w := w) K.Q
  have := doC_in (B := B) 1000 (m := m) K.I K.hL K.hw (beatC_ok K.Q.n64 (K.n B))
  rw [e] at this
  exact ⟨c, L', ph, e, this.1, this.2.1, this.2.2.1, Q, by rw [hb]; show _ = (((foldW q w).now + 1 : Nat) : Int); rw [foldW_now]⟩
/-! ### an ask and its cancel -/
def cW (D i : Nat) (id : Int) : Wh := if i = 0 then ⟨0, 0, []⟩ else ⟨i, 1, if i < D then [⟨id, D, 1⟩] else []⟩
def cQ (v : Int) (i : Nat) : List Int := if i = 0 then [v] else []
def cDue (D i : Nat) : Nat := if i < D then 0 else 1
theorem ask_add {w : Wh} {id : Int} {D : Nat} (h0 : 0 ≤ id) (hD : 1 ≤ D) (hD2 : D ≤ 4095) (hg : w.get id = none) (hl : w.T.length < 64) :
    askW (id * 4096 + D) w = ⟨w.now, w.seq + 1, w.T ++ [⟨id, w.now + D, w.seq + 1⟩]⟩ ∧ askCut (id * 4096 + D) w = [] ∧ askRef (id * 4096 + D) w = [] := by
  have e1 : (id * 4096 + (D : Int)) % 4096 = D := by omega
  have e2 : (id * 4096 + (D : Int)) / 4096 = id := by omega
  have e3 : addE w id D = 0 := addE_z (by omega) hg (by omega)
  unfold askW askCut askRef
  rw [e1, e2, if_neg (show ¬ ((D : Int) = 0) by omega), if_neg (show ¬ ((D : Int) = 0 ∧ _) by omega), if_neg (by rw [e3]; simp)]
  refine ⟨?_, rfl, rfl⟩
  unfold addR; rw [if_pos e3]; simp
theorem cut_found {w : Wh} {id : Int} (h : (w.get id).isSome = true) : askW (id * 4096) w = cutR w id ∧ askCut (id * 4096) w = [id] := by
  have e1 : (id * 4096) % 4096 = 0 := by omega
  have e2 : (id * 4096) / 4096 = id := by omega
  unfold askW askCut
  rw [e1, e2, if_pos rfl, if_pos ⟨rfl, h⟩]; exact ⟨rfl, rfl⟩
theorem cut_none {w : Wh} {id : Int} (h : w.get id = none) : askW (id * 4096) w = w ∧ askCut (id * 4096) w = [] := by
  have e1 : (id * 4096) % 4096 = 0 := by omega
  have e2 : (id * 4096) / 4096 = id := by omega
  unfold askW askCut
  rw [e1, e2, if_pos rfl, h, if_neg (by simp)]; exact ⟨cutR_none h, rfl⟩
theorem c_first {D : Nat} {id : Int} (h0 : 0 ≤ id) (hD : 1 ≤ D) (hD2 : D ≤ 4095) : askW (id * 4096 + D) ⟨0, 0, []⟩ = ⟨0, 1, [⟨id, D, 1⟩]⟩ := by
  rw [(ask_add (w := ⟨0, 0, []⟩) h0 hD hD2 rfl (by decide)).1]; simp
theorem c_beat {D i : Nat} {id : Int} (h0 : 0 ≤ id) (hD : 1 ≤ D) (hD2 : D ≤ 4095) : tickR (foldW (cQ (id * 4096 + D) i) (cW D i id)) = cW D (i + 1) id ∧
    cDue D i + ((dueL (foldW (cQ (id * 4096 + D) i) (cW D i id))).map (·.id)).count id = cDue D (i + 1) ∧ (dueL (foldW (cQ (id * 4096 + D) i) (cW D i id))).length ≤ 1 := by
  by_cases hi : i = 0
  · subst hi
    unfold cQ cW
    simp only [if_true, foldW, c_first h0 hD hD2]
    unfold tickR dueL cDue
    by_cases h1 : D = 1
    · subst h1; simp
    · have h2 : 1 < D := by omega
      simp [h1, h2]; omega
  · unfold cQ cW
    simp only [if_neg hi, foldW, if_neg (show ¬ (i + 1 = 0) by omega)]
    unfold tickR dueL cDue
    by_cases h1 : i < D
    · by_cases h2 : D = i + 1
      · subst h2; simp
      · have h3 : i + 1 < D := by omega
        simp [h1, h2, h3]
    · have h3 : ¬ i + 1 < D := by omega
      simp [h1, h3]
theorem c_cut {D k : Nat} {id : Int} (h0 : 0 ≤ id) (hD : 1 ≤ D) (hD2 : D ≤ 4095) : tickR (foldW (cQ (id * 4096 + D) k ++ [id * 4096]) (cW D k id)) = ⟨k + 1, 1, []⟩ ∧
    foldCut (cQ (id * 4096 + D) k ++ [id * 4096]) (cW D k id) = (if k < D then [id] else []) ∧ dueL (foldW (cQ (id * 4096 + D) k ++ [id * 4096]) (cW D k id)) = [] := by
  by_cases hi : k = 0
  · subst hi
    unfold cQ cW
    simp only [if_true, List.cons_append, List.nil_append, foldW, foldCut, c_first h0 hD hD2, (ask_add (w := ⟨0, 0, []⟩) h0 hD hD2 rfl (by decide)).2.1]
    obtain ⟨a, b⟩ := cut_found (w := ⟨0, 1, [⟨id, D, 1⟩]⟩) (id := id) (by simp [Wh.get])
    rw [a, b, if_pos (show 0 < D by omega)]
    unfold tickR dueL cutR
    simp
  · unfold cQ cW
    simp only [if_neg hi, List.nil_append, foldW, foldCut]
    by_cases h1 : k < D
    · rw [if_pos h1, if_pos h1]
      obtain ⟨a, b⟩ := cut_found (w := ⟨k, 1, [⟨id, D, 1⟩]⟩) (id := id) (by simp [Wh.get])
      rw [a, b]
      unfold tickR dueL cutR
      simp
    · rw [if_neg h1, if_neg h1]
      obtain ⟨a, b⟩ := cut_none (w := ⟨k, 1, []⟩) (id := id) rfl
      rw [a, b]
      unfold tickR dueL
      simp
end Go.L.Clk
