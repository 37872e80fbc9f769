/-
  A region that draws its order, and may panic, in a frame that may have deferred calls. Own work; it speaks of no program.
-/
import Derived.Test.YtgmdlhlmffdbhaaGreatDoorPan
set_option linter.unusedSimpArgs false
set_option linter.unusedVariables false
set_option linter.unusedSectionVars false
namespace Go.L
/-- slots, in a frame with deferred calls -/
structure HasSlD (ds : List Deferred) (n : Nat) (sl : Slots) (a : Act) : Prop where
  has : HasSl n sl { a with defers := [] }
  dfr : a.defers = ds
namespace HasSlD
variable {ds : List Deferred} {n : Nat} {sl : Slots} {a : Act}
theorem put {d : Nat} (v : Value) (h : HasSlD ds n sl a) (hd : Nat.blt d n = true) : HasSlD ds n ((d, v) :: sl) (a.put (some d) v) := ⟨h.has.put v hd, h.dfr⟩
theorem keep {r : Slots} (h : HasSlD ds n sl a) (k : Keep r sl) : HasSlD ds n r a := ⟨h.has.keep k, h.dfr⟩
theorem val (h : HasSlD ds n sl a) : ∀ t v, slk sl t = some v → a.tmps[t]? = some v := h.has.val
theorem eval {x : Operand} {v : Value} (h : HasSlD ds n sl a) (e : opv sl x = some v) : a.eval x = v := h.has.eval e
theorem of (h : HasSl n sl a) : HasSlD [] n sl a := ⟨by have := h.defers; cases a; simp at this; subst this; exact h, h.defers⟩
theorem to (h : HasSlD [] n sl a) : HasSl n sl a := by have h1 := h.dfr; have h2 := h.has; cases a; simp at h1; subst h1; exact h2
end HasSlD
namespace DX
section
variable {PA : Act → Prop} {PW : List PanicEntry → World → Prop} {P : Program} {ops : Array Oper} {E Gd : List Nat} {F : Act → World → Prop} {C : World → Prop}
/-- where an operation may end but by its value -/
def QX (PA : Act → Prop) (PW : List PanicEntry → World → Prop) : Exit → Act → World → Prop
  | .panic ch, a, w => PA a ∧ PW ch w
  | _, _, _ => False
theorem defers_put (a : Act) (d : Option Nat) (v : Value) : (a.put d v).defers = a.defers := by cases d <;> rfl
def opE (PA : Act → Prop) (PW : List PanicEntry → World → Prop) (P : Program) (ops : Array Oper) (E Gd : List Nat) (C : World → Prop) (i : Nat) (K : Act → World → Prop) (a : Act) (w : World) : Prop :=
  match ops[i]? with
  | none => K a w
  | some o => if Region.wanted o (yielded ops a.tmps) then
      (if i ∈ E then o.wp P a w (fun a' w' => (i ∈ Gd → C w') ∧ K a' w') (QX PA PW) else ∃ v, (execOp a.eval o).run P w = .ok (.value v) w ∧ K (a.put o.dst v) w)
    else K (a.put o.dst undef) w
def anyE (PA : Act → Prop) (PW : List PanicEntry → World → Prop) (P : Program) (ops : Array Oper) (E Gd : List Nat) (F : Act → World → Prop) (C : World → Prop) : Nat → Array Bool → Act → World → Prop
  | 0, listed, a, w => Region.ready .any ops listed = [] ∧ F a w
  | f + 1, listed, a, w => (Region.ready .any ops listed = [] → F a w) ∧ ∀ i ∈ Region.ready .any ops listed, opE PA PW P ops E Gd C i (anyE PA PW P ops E Gd F C f (listed.setIfInBounds i true)) a w

theorem wp_QF {o : Oper} {a : Act} {w : World} {K K' : Act → World → Prop} {Q : Exit → Act → World → Prop} (h : o.wp P a w K (QX PA PW)) (hk : ∀ a w, K a w → K' a w) (hq : ∀ ch a w, PA a → PW ch w → Q (.panic ch) a w) : o.wp P a w K' Q := by
  unfold Oper.wp at *
  generalize (execOp a.eval o).run P w = r at *
  cases r with
  | ok n w' =>
    cases n <;> simp only [Oper.upon] at h ⊢ <;>
      first
        | exact hk _ _ h
        | exact Calls.mono h (fun e w'' he => by cases e <;> first | exact hk _ _ he | exact hq _ _ _ he.1 he.2 | (obtain ⟨_, _, x⟩ := he; exact x.elim))
        | exact Rows.mono h (fun _ _ he => hk _ _ he)
  | halt x w' => cases x <;> simp only [Oper.upon] at h ⊢ <;> first | exact hq _ _ _ h.1 h.2 | exact h | exact h.elim
theorem wpOp_of_opE {i : Nat} {a : Act} {w : World} {K K' : Act → World → Prop} {Q : Exit → Act → World → Prop} (h : opE PA PW P ops E Gd C i K a w) (hk : ∀ a w, K a w → K' a w) (hq : ∀ ch a w, PA a → PW ch w → Q (.panic ch) a w) : wpOp P ops Q i K' a w := by
  unfold opE at h; unfold wpOp
  split at h
  · rename_i ho; simp only [ho]; exact hk _ _ h
  · rename_i o ho
    simp only [ho]
    by_cases hw : Region.wanted o (yielded ops a.tmps) = true
    · simp only [hw, if_true] at h ⊢
      left
      by_cases hE : i ∈ E
      · rw [if_pos hE] at h; exact wp_QF h (fun a w hh => hk _ _ hh.2) hq
      · rw [if_neg hE] at h
        obtain ⟨v, hr, hK⟩ := h
        unfold Oper.wp; rw [hr]; exact hk _ _ hK
    · simp only [hw] at h ⊢; exact hk _ _ h
theorem wpAny_of_anyE {Q : Exit → Act → World → Prop} (hF : ∀ a w, F a w → Q .normal a w) (hq : ∀ ch a w, PA a → PW ch w → Q (.panic ch) a w) : ∀ (f : Nat) (listed : Array Bool) (a : Act) (w : World), anyE PA PW P ops E Gd F C f listed a w → wpAny P .any ops Q f listed a w
  | 0, _, _, _, h => ⟨h.1, hF _ _ h.2⟩
  | f + 1, _, _, _, h => ⟨fun h0 => hF _ _ (h.1 h0), fun i hi => wpOp_of_opE (h.2 i hi) (fun a w => wpAny_of_anyE hF hq f _ a w) hq⟩
theorem opE_mono {i : Nat} {a : Act} {w : World} {K K' : Act → World → Prop} (h : opE PA PW P ops E Gd C i K a w) (hk : ∀ a w, K a w → K' a w) : opE PA PW P ops E Gd C i K' a w := by
  unfold opE at *
  split at h
  · exact hk _ _ h
  · rename_i o ho
    by_cases hw : Region.wanted o (yielded ops a.tmps) = true
    · rw [if_pos hw] at h ⊢
      by_cases hE : i ∈ E
      · rw [if_pos hE] at h ⊢; exact Oper.wp_mono (fun a w hh => ⟨hh.1, hk _ _ hh.2⟩) h
      · rw [if_neg hE] at h ⊢; obtain ⟨v, hr, hK⟩ := h; exact ⟨v, hr, hk _ _ hK⟩
    · rw [if_neg hw] at h ⊢; exact hk _ _ h

variable {D : World → Prop}
theorem YDopE {i : Nat} {o : Oper} {v : Value} {a : Act} {w : World} (hi : ops[i]? = some o) (hE : i ∉ E) (hD : D w) (hy : YD P ops D o v a) {K : Act → World → Prop} (h : K (a.put o.dst v) w) : opE PA PW P ops E Gd C i K a w := by
  unfold opE
  simp only [hi]
  rcases hy with ⟨hw, hv⟩ | ⟨hw, rfl⟩
  · rw [if_pos hw, if_neg hE]; exact ⟨v, hv w hD, h⟩
  · simp only [hw, Bool.false_eq_true, if_false]; exact h
theorem opE_put {j : Nat} {oi oj : Oper} {v : Value} (hj : ops[j]? = some oj) (hap : oi.apart ops oj = true)
    (hPA : ∀ a : Act, PA (a.put oi.dst v) → PA a) (hsi : ∀ cs b, oi.op ≠ .select cs b) (hsj : ∀ cs b, oj.op ≠ .select cs b) {K : Act → World → Prop} {a : Act} {w : World} (hD : D w) (hCD : ∀ w, j ∈ E → (j ∈ Gd → C w) → D w)
    (hy : YD P ops D oi v a) (h : opE PA PW P ops E Gd C j K (a.put oi.dst v) w) :
    opE PA PW P ops E Gd C j (fun a' w' => D w' ∧ YD P ops D oi v a' ∧ K (a'.put oi.dst v) w') a w := by
  obtain ⟨h1, h2, h3⟩ := Oper.apart_spec hap
  have keep : ∀ (a : Act), YD P ops D oi v a → ∀ u, YD P ops D oi v (a.put oj.dst u) := fun a hy u =>
    hy.same (execOp_put oi hsi a oj.dst u h3) (wanted_put oi a oj.dst u h3)
  have keepD : ∀ (a : Act) (d : Deferred), YD P ops D oi v a → YD P ops D oi v { a with defers := d :: a.defers } := fun a d hy => hy.same rfl rfl
  unfold opE at *
  simp only [hj] at *
  rw [wanted_put oj a oi.dst v h1] at h
  by_cases hw : Region.wanted oj (yielded ops a.tmps) = true
  · rw [if_pos hw] at h ⊢
    by_cases hE : j ∈ E
    · rw [if_pos hE] at h ⊢
      unfold Oper.wp at *
      rw [execOp_put oj hsj a oi.dst v h1] at h
      generalize (execOp a.eval oj).run P w = r at *
      cases r with
      | ok n w' =>
        cases n <;> simp only [Oper.upon] at h ⊢
        case value u => exact ⟨h.1, hCD _ hE h.1, keep a hy u, by rw [← Act.put_comm a v u h2]; exact h.2⟩
        case skip => exact ⟨h.1, hCD _ hE h.1, keep a hy _, by rw [← Act.put_comm a v undef h2]; exact h.2⟩
        case enter f args =>
          refine Calls.mono h fun e w'' he => ?_
          cases e with
          | returned u => exact ⟨he.1, hCD _ hE he.1, keep a hy u, by rw [← Act.put_comm a v u h2]; exact he.2⟩
          | panicked ch => exact ⟨hPA _ he.1, he.2⟩
          | outgrown => exact he
        case row row args => exact Rows.mono h fun u w'' he => ⟨he.1, hCD _ hE he.1, keep a hy u, by rw [← Act.put_comm a v u h2]; exact he.2⟩
        case defer d =>
          refine ⟨h.1, hCD _ hE h.1, keep _ (keepD a d hy) _, ?_⟩
          have h4 : ({ a.put oi.dst v with defers := d :: (a.put oi.dst v).defers } : Act).put oj.dst undef = (({ a with defers := d :: a.defers } : Act).put oj.dst undef).put oi.dst v := by
            rw [← Act.put_comm _ v undef h2]; congr 1; cases oi.dst <;> rfl
          rw [← h4]; exact h.2
      | halt x w' => cases x <;> simp only [Oper.upon] at h ⊢ <;> first | exact ⟨hPA _ h.1, h.2⟩ | exact h.elim
    · rw [if_neg hE] at h ⊢
      rw [execOp_put oj hsj a oi.dst v h1] at h
      obtain ⟨u, hr, hK⟩ := h
      exact ⟨u, hr, hD, keep a hy u, by rw [← Act.put_comm a v u h2]; exact hK⟩
  · rw [if_neg hw] at h ⊢
    exact ⟨hD, keep a hy _, by rw [← Act.put_comm a v undef h2]; exact h⟩

/-- the general step: 'i' is taken first -/
theorem anyE_first {i : Nat} {oi : Oper} {v : Value} (hPA : ∀ a : Act, PA (a.put oi.dst v) → PA a) (hi : ops[i]? = some oi) (hE : i ∉ E) (hsel : ∀ (j : Nat) (o : Oper) cs b, ops[j]? = some o → o.op ≠ .select cs b)
    (I : Array Bool → Prop) (hI : ∀ listed j, I listed → j ≠ i → j ∈ Region.ready .any ops listed → I (listed.setIfInBounds j true))
    (hCD : ∀ listed j, I listed → listed.getD i true = false → j ∈ Region.ready .any ops listed → j ∈ E → ∀ w, (j ∈ Gd → C w) → D w) :
    ∀ (f : Nat) (listed : Array Bool) (a : Act) (w : World), I listed → D w →
      (∀ j oj, ops[j]? = some oj → j ≠ i → listed.getD j true = false → (∀ e ∈ oj.after, Region.binds .any e = true → e.on ≠ i) → oi.apart ops oj = true) →
      i ∈ Region.ready .any ops listed → YD P ops D oi v a →
      anyE PA PW P ops E Gd F C f (listed.setIfInBounds i true) (a.put oi.dst v) w → anyE PA PW P ops E Gd F C (f + 1) listed a w := by
  intro f
  induction f with
  | zero =>
    intro listed a w hIl hD _ hr hy H
    refine ⟨fun h => (by rw [h] at hr; cases hr), fun j hj => ?_⟩
    by_cases hji : j = i
    · subst hji; exact YDopE hi hE hD hy H
    · have := ready_mono hj hji
      rw [H.1] at this
      cases this
  | succ f ih =>
    intro listed a w hIl hD hfree hr hy H
    have hun := (mem_ready.1 hr).1
    refine ⟨fun h => (by rw [h] at hr; cases hr), fun j hj => ?_⟩
    by_cases hji : j = i
    · subst hji; exact YDopE hi hE hD hy H
    · have h1 := H.2 j (ready_mono hj hji)
      obtain ⟨hjun, oj, hoj, hall⟩ := mem_ready.1 hj
      have hnot : ∀ e ∈ oj.after, Region.binds .any e = true → e.on ≠ i := fun e he hb heq => by
        have h1 := hall e he hb
        rw [heq, getD_both' hun] at h1
        cases h1
      have h2 := opE_put hoj (hfree j oj hoj hji hjun hnot) hPA (fun cs b => hsel i oi cs b hi) (fun cs b => hsel j oj cs b hoj) hD (fun w he hc => hCD listed j hIl hun hj he w hc) hy h1
      have hfree' : ∀ k ok, ops[k]? = some ok → k ≠ i → (listed.setIfInBounds j true).getD k true = false →
          (∀ e ∈ ok.after, Region.binds .any e = true → e.on ≠ i) → oi.apart ops ok = true := fun k ok hk hki hun hno => by
        refine hfree k ok hk hki ?_ hno
        by_cases hjk : j = k
        · subst hjk; exact hjun
        · rw [getD_set_ne true hjk] at hun; exact hun
      refine opE_mono h2 fun a' w' h3 => ih (listed.setIfInBounds j true) a' w' (hI _ _ hIl hji hj) h3.1 hfree' (ready_mono hr (Ne.symm hji)) h3.2.1 ?_
      rw [Array.setIfInBounds_comm _ _ hji]
      exact h3.2.2

def wpOrd (PA : Act → Prop) (PW : List PanicEntry → World → Prop) (P : Program) (ops : Array Oper) (F : Act → World → Prop) (Gd : List Nat) (C : World → Prop) : List (Nat × Kd) → Act → World → Prop
  | [], a, w => F a w
  | (i, k) :: r, a, w => match ops[i]? with
    | none => False
    | some o => if Region.wanted o (yielded ops a.tmps) then
        match k with
        | .loc => ∃ v, (execOp a.eval o).run P w = .ok (.value v) w ∧ wpOrd PA PW P ops F Gd C r (a.put o.dst v) w
        | .stab => C w ∧ ∃ v, (∀ w, C w → (execOp a.eval o).run P w = .ok (.value v) w) ∧ wpOrd PA PW P ops F Gd C r (a.put o.dst v) w
        | .eff => o.wp P a w (fun a' w' => (i ∈ Gd → C w') ∧ wpOrd PA PW P ops F Gd C r a' w') (QX PA PW)
      else wpOrd PA PW P ops F Gd C r (a.put o.dst undef) w
theorem anyE_of_ord {l : List Oper} (hPA : ∀ o ∈ l, ∀ (a : Act) v, PA (a.put o.dst v) → PA a) (hs : Region.noSelect l.toArray = true) : ∀ (ord : List (Nat × Kd)) (listed : Array Bool) (a : Act) (w : World), Closed l.toArray listed → okOrd l.toArray (masks l []) E Gd ord listed = true →
    wpOrd PA PW P l.toArray F Gd C ord a w → anyE PA PW P l.toArray E Gd F C ord.length listed a w
  | [], listed, a, w, _, hB, h => ⟨by simpa [okOrd] using hB, h⟩
  | (i, k) :: r, listed, a, w, hc, hB, h => by
    simp only [wpOrd] at h
    cases ho : l.toArray[i]? with
    | none => rw [ho] at h; exact h.elim
    | some o =>
      simp only [ho] at h
      cases k with
      | loc =>
        simp only [okOrd, Bool.and_eq_true] at hB
        obtain ⟨⟨⟨⟨hr, hf⟩, hE⟩, hall⟩, hB'⟩ := hB
        have hr' : i ∈ Region.ready .any l.toArray listed := by simpa using hr
        have hE' : i ∉ E := by simpa using hE
        have hun := (mem_ready.1 hr').1
        have hall' : ∀ e ∈ E, listed.getD e false = true ∨ ((masks l []).getD e 0).testBit i = true := by simpa [List.all_eq_true] using hall
        have fin : ∀ v, YD P l.toArray (fun w' => w' = w) o v a → wpOrd PA PW P l.toArray F Gd C r (a.put o.dst v) w → anyE PA PW P l.toArray E Gd F C (r.length + 1) listed a w := fun v hy hK =>
          anyE_first (hPA o (by have := Array.mem_of_getElem? ho; simpa using this) · _) (D := fun w' => w' = w) ho hE' (Region.noSelect_spec hs) (fun ls => Closed l.toArray ls ∧ ∀ e ∈ E, ls.getD e false = true ∨ ((masks l []).getD e 0).testBit i = true)
            (fun ls j hI _ hj => ⟨hI.1.set hj, fun e he => (hI.2 e he).imp (fun h => getD_set_true h) id⟩)
            (fun ls j hI hu hj he w' _ => by
              exfalso
              rcases hI.2 j he with h1 | h1
              · have h2 := (mem_ready.1 hj).1; rw [getD_both' h2] at h1; cases h1
              · exact (waits_mask hI.1 (getD_both' hu) j h1).2 hj)
            r.length listed a w ⟨hc, hall'⟩ rfl (Region.free_spec ho hf) hr' hy (anyE_of_ord hPA hs r _ _ _ (hc.set hr') hB' hK)
        by_cases hw : Region.wanted o (yielded l.toArray a.tmps) = true
        · rw [if_pos hw] at h
          obtain ⟨v, hv, hK⟩ := h
          exact fin v (.inl ⟨hw, fun w' e => by subst e; exact hv⟩) hK
        · rw [if_neg hw] at h
          exact fin undef (.inr ⟨by simpa using hw, rfl⟩) h
      | stab =>
        simp only [okOrd, Bool.and_eq_true] at hB
        obtain ⟨⟨⟨⟨hr, hf⟩, hE⟩, hall⟩, hB'⟩ := hB
        have hr' : i ∈ Region.ready .any l.toArray listed := by simpa using hr
        have hE' : i ∉ E := by simpa using hE
        have hall' : ∀ e ∈ E, e ∈ Gd ∨ listed.getD e false = true ∨ ((masks l []).getD e 0).testBit i = true := by simpa [List.all_eq_true] using hall
        by_cases hw : Region.wanted o (yielded l.toArray a.tmps) = true
        · rw [if_pos hw] at h
          obtain ⟨hC, v, hv, hK⟩ := h
          exact anyE_first (hPA o (by have := Array.mem_of_getElem? ho; simpa using this) · _) (D := C) ho hE' (Region.noSelect_spec hs) (fun ls => Closed l.toArray ls ∧ ∀ e ∈ E, e ∈ Gd ∨ ls.getD e false = true ∨ ((masks l []).getD e 0).testBit i = true)
            (fun ls j hI _ hj => ⟨hI.1.set hj, fun e he => (hI.2 e he).imp id (fun h => h.imp (fun h => getD_set_true h) id)⟩)
            (fun ls j hI hu hj he w' hCw => by
              rcases hI.2 j he with h1 | h1 | h1
              · exact hCw h1
              · exfalso; have h2 := (mem_ready.1 hj).1; rw [getD_both' h2] at h1; cases h1
              · exfalso; exact (waits_mask hI.1 (getD_both' hu) j h1).2 hj)
            r.length listed a w ⟨hc, hall'⟩ hC (Region.free_spec ho hf) hr' (.inl ⟨hw, hv⟩) (anyE_of_ord hPA hs r _ _ _ (hc.set hr') hB' hK)
        · rw [if_neg hw] at h
          exact anyE_first (hPA o (by have := Array.mem_of_getElem? ho; simpa using this) · _) (D := fun _ => True) ho hE' (Region.noSelect_spec hs) (fun _ => True) (fun _ _ _ _ _ => trivial) (fun _ _ _ _ _ _ _ _ => trivial)
            r.length listed a w trivial trivial (Region.free_spec ho hf) hr' (.inr ⟨by simpa using hw, rfl⟩) (anyE_of_ord hPA hs r _ _ _ (hc.set hr') hB' h)
      | eff =>
        simp only [okOrd, Bool.and_eq_true, decide_eq_true_eq] at hB
        obtain ⟨⟨hr, hE⟩, hB'⟩ := hB
        have hE' : i ∈ E := by simpa using hE
        have hr' : i ∈ Region.ready .any l.toArray listed := by rw [hr]; simp
        refine ⟨fun h0 => (by rw [h0] at hr; cases hr), fun j hj => ?_⟩
        rw [hr] at hj
        have hji : j = i := by simpa using hj
        subst hji
        unfold opE
        simp only [ho]
        by_cases hw : Region.wanted o (yielded l.toArray a.tmps) = true
        · rw [if_pos hw] at h ⊢
          rw [if_pos hE']
          exact Oper.wp_mono (fun a' w' hh => ⟨hh.1, anyE_of_ord hPA hs r _ _ _ (hc.set hr') hB' hh.2⟩) h
        · rw [if_neg hw] at h ⊢
          exact anyE_of_ord hPA hs r _ _ _ (hc.set hr') hB' h
theorem wp_region_ord {id : Nat} {Q : Exit → Act → World → Prop} {a : Act} {w : World} {l : List Oper} (E Gd : List Nat) (ord : List (Nat × Kd)) (C : World → Prop) (hm : P.follows .mixedOrders = true) (hB : okDraw l E Gd ord = true) (hPA : ∀ o ∈ l, ∀ (a : Act) v, PA (a.put o.dst v) → PA a) (hq : ∀ ch a w, PA a → PW ch w → Q (.panic ch) a w)
    (h : wpOrd PA PW P l.toArray (Q .normal) Gd C ord a { w with drawn := w.drawn + 1 }) : (Code.region id l.toArray true).wp P Q a w := by
  simp only [okDraw, Bool.and_eq_true] at hB
  obtain ⟨⟨hs, hl⟩, hB'⟩ := hB
  have hl' : ord.length = l.length := Nat.eq_of_beq_eq_true hl
  refine wp_region_any hm ?_
  have := wpAny_of_anyE (Q := Q) (F := Q .normal) (fun _ _ h => h) hq _ _ _ _ (anyE_of_ord hPA hs ord _ a _ (fun j oj _ hl => by rw [getD_replicate_false] at hl; cases hl) hB' h)
  rw [hl'] at this
  simpa using this

variable {ds : List Deferred} {W0 : World} {n : Nat} {sl : Slots} {As Bs Cs : List Assn} {Q : Exit → Act → World → Prop} {op : Op} {ty : TypeId} {pos : String} {aft : Array Edge} {g : Option (Nat × Bool)} {i : Nat} {ord : List (Nat × Kd)}
def GO (ds : List Deferred) (PA : Act → Prop) (PW : List PanicEntry → World → Prop) (P : Program) (W0 : World) (n : Nat) (ops : Array Oper) (Gd : List Nat) (ord : List (Nat × Kd)) (sl : Slots) (As Cs : List Assn) (F : Act → World → Prop) : Prop :=
  ∀ a w, HasSlD ds n sl a → St W0 As w → wpOrd PA PW P ops F Gd (St W0 Cs) ord a w
theorem wanted {o : Oper} {a : Act} {b : Bool} (h : Wn ops sl o.guard b) (hs : HasSlD ds n sl a) : Region.wanted o (yielded ops a.tmps) = b := by
  unfold Region.wanted
  generalize o.guard = g at h
  cases h with
  | none => rfl
  | yes h1 h2 h3 => simp only [yielded, h1, Option.bind_some, hs.val _ _ h2, h3]; simp
  | @no j dj want c h1 h2 h3 => subst h3; simp only [yielded, h1, Option.bind_some, hs.val _ _ h2]; cases want <;> rfl
  | un h1 h2 => simp only [yielded, h1, Option.bind_some, hs.val _ _ h2]; rfl
theorem go_split {j dj : Nat} {c : Bool} (_hj : (ops[j]?).bind (·.dst) = some dj) (_hv : slk sl dj = some (.bool c)) (h1 : c = true → GO ds PA PW P W0 n ops Gd ord sl As Cs F) (h2 : c = false → GO ds PA PW P W0 n ops Gd ord sl As Cs F) : GO ds PA PW P W0 n ops Gd ord sl As Cs F := by
  cases c; exact h2 rfl; exact h1 rfl
theorem go_nil (h : ∀ a w, HasSlD ds n sl a → St W0 As w → F a w) : GO ds PA PW P W0 n ops Gd [] sl As Cs F := h
theorem go_nil0 (h : GE W0 n sl As F) : GO [] PA PW P W0 n ops Gd [] sl As Cs F := fun a w hs s => h a w hs.to s
theorem go_imp (f : ∀ h, Sat As h → Sat Bs h) (h : GO ds PA PW P W0 n ops Gd ord sl Bs Cs F) : GO ds PA PW P W0 n ops Gd ord sl As Cs F := fun a w hs s => h a w hs (s.imp f)
theorem go_v {v : Value} {d : Nat} (ho : ops[i]? = some ⟨some d, op, ty, pos, aft, g⟩) (hw : Wn ops sl g true) (hd : Nat.blt d n = true) (hv : OV P W0 n op ty sl As v) (h : GO ds PA PW P W0 n ops Gd ord ((d, v) :: sl) As Cs F) : GO ds PA PW P W0 n ops Gd ((i, .loc) :: ord) sl As Cs F :=
  fun a w hs s => by
    simp only [wpOrd, ho, wanted (o := ⟨some d, op, ty, pos, aft, g⟩) hw hs, if_true]
    exact ⟨v, (show (execOp a.eval _).run P w = _ from hv { a with defers := [] } w _ _ _ _ hs.has s), h _ _ (hs.put v hd) s⟩
theorem go_vs {v : Value} {d : Nat} (ho : ops[i]? = some ⟨some d, op, ty, pos, aft, g⟩) (hw : Wn ops sl g true) (hd : Nat.blt d n = true) (hv : OV P W0 n op ty sl Cs v) (hc : ∀ h, Sat As h → Sat Cs h) (h : GO ds PA PW P W0 n ops Gd ord ((d, v) :: sl) As Cs F) : GO ds PA PW P W0 n ops Gd ((i, .stab) :: ord) sl As Cs F :=
  fun a w hs s => by
    simp only [wpOrd, ho, wanted (o := ⟨some d, op, ty, pos, aft, g⟩) hw hs, if_true]
    exact ⟨s.imp hc, v, fun w' s' => hv { a with defers := [] } w' _ _ _ _ hs.has s', h _ _ (hs.put v hd) s⟩
theorem go_skip {k : Kd} {d : Nat} (ho : ops[i]? = some ⟨some d, op, ty, pos, aft, g⟩) (hw : Wn ops sl g false) (hd : Nat.blt d n = true) (h : GO ds PA PW P W0 n ops Gd ord ((d, undef) :: sl) As Cs F) : GO ds PA PW P W0 n ops Gd ((i, k) :: ord) sl As Cs F :=
  fun a w hs s => by
    simp only [wpOrd, ho, wanted (o := ⟨some d, op, ty, pos, aft, g⟩) hw hs, Bool.false_eq_true, if_false]
    exact h _ _ (hs.put undef hd) s
theorem go_skip0 {k : Kd} (ho : ops[i]? = some ⟨none, op, ty, pos, aft, g⟩) (hw : Wn ops sl g false) (h : GO ds PA PW P W0 n ops Gd ord sl As Cs F) : GO ds PA PW P W0 n ops Gd ((i, k) :: ord) sl As Cs F :=
  fun a w hs s => by
    simp only [wpOrd, ho, wanted (o := ⟨none, op, ty, pos, aft, g⟩) hw hs, Bool.false_eq_true, if_false]
    exact h _ _ hs s
theorem go_v0 {v : Value} (ho : ops[i]? = some ⟨none, op, ty, pos, aft, g⟩) (hw : Wn ops sl g true) (hv : OV P W0 n op ty sl As v) (h : GO ds PA PW P W0 n ops Gd ord sl As Cs F) : GO ds PA PW P W0 n ops Gd ((i, .loc) :: ord) sl As Cs F :=
  fun a w hs s => by
    simp only [wpOrd, ho, wanted (o := ⟨none, op, ty, pos, aft, g⟩) hw hs, if_true]
    exact ⟨v, (show (execOp a.eval _).run P w = _ from hv { a with defers := [] } w _ _ _ _ hs.has s), h _ _ hs s⟩
/-- a value that is wanted in the chain of effects (a call of what only reads) -/
theorem go_ve {v : Value} {d : Nat} (ho : ops[i]? = some ⟨some d, op, ty, pos, aft, g⟩) (hw : Wn ops sl g true) (hd : Nat.blt d n = true) (hv : OV P W0 n op ty sl As v) (hc : i ∈ Gd → ∀ h, Sat As h → Sat Cs h) (h : GO ds PA PW P W0 n ops Gd ord ((d, v) :: sl) As Cs F) : GO ds PA PW P W0 n ops Gd ((i, .eff) :: ord) sl As Cs F :=
  fun a w hs s => by
    simp only [wpOrd, ho, wanted (o := ⟨some d, op, ty, pos, aft, g⟩) hw hs, if_true, Oper.wp, (show (execOp a.eval _).run P w = _ from hv { a with defers := [] } w _ _ _ _ hs.has s), Oper.upon]
    exact ⟨fun hG => s.imp (hc hG), h _ _ (hs.put v hd) s⟩
theorem go_u (ho : ops[i]? = some ⟨none, op, ty, pos, aft, g⟩) (hw : Wn ops sl g true) (hv : OU P W0 n op ty sl As Bs) (hc : i ∈ Gd → ∀ h, Sat Bs h → Sat Cs h) (h : GO ds PA PW P W0 n ops Gd ord sl Bs Cs F) : GO ds PA PW P W0 n ops Gd ((i, .eff) :: ord) sl As Cs F :=
  fun a w hs s => by
    obtain ⟨w', hr, s'⟩ := hv { a with defers := [] } w none pos aft g hs.has s
    simp only [wpOrd, ho, wanted (o := ⟨none, op, ty, pos, aft, g⟩) hw hs, if_true, Oper.wp, (show (execOp a.eval _).run P w = _ from hr), Oper.upon]
    exact ⟨fun hG => s'.imp (hc hG), h _ _ hs s'⟩
theorem go_n {d : Nat} {p : Value → List Assn → Prop} (ho : ops[i]? = some ⟨some d, op, ty, pos, aft, g⟩) (hw : Wn ops sl g true) (hd : Nat.blt d n = true) (hv : ON P W0 n op ty sl As p) (h : ∀ v Bs, p v Bs → (i ∈ Gd → ∀ h, Sat Bs h → Sat Cs h) ∧ GO ds PA PW P W0 n ops Gd ord ((d, v) :: sl) Bs Cs F) : GO ds PA PW P W0 n ops Gd ((i, .eff) :: ord) sl As Cs F :=
  fun a w hs s => by
    obtain ⟨v, Bs, w', hr, hp, s'⟩ := hv { a with defers := [] } w (some d) pos aft g hs.has s
    simp only [wpOrd, ho, wanted (o := ⟨some d, op, ty, pos, aft, g⟩) hw hs, if_true, Oper.wp, (show (execOp a.eval _).run P w = _ from hr), Oper.upon]
    exact ⟨fun hG => s'.imp ((h v Bs hp).1 hG), (h v Bs hp).2 _ _ (hs.put v hd) s'⟩
theorem go_c {d : Nat} {p : Value → List Assn → Prop} (ho : ops[i]? = some ⟨some d, op, ty, pos, aft, g⟩) (hw : Wn ops sl g true) (hd : Nat.blt d n = true) (hv : OC P W0 n op ty sl As p) (h : ∀ v Bs, p v Bs → (i ∈ Gd → ∀ h, Sat Bs h → Sat Cs h) ∧ GO ds PA PW P W0 n ops Gd ord ((d, v) :: sl) Bs Cs F) : GO ds PA PW P W0 n ops Gd ((i, .eff) :: ord) sl As Cs F :=
  fun a w hs s => by
    obtain ⟨f, args, hr, hcl⟩ := hv { a with defers := [] } w (some d) pos aft g hs.has s
    simp only [wpOrd, ho, wanted (o := ⟨some d, op, ty, pos, aft, g⟩) hw hs, if_true, Oper.wp, (show (execOp a.eval _).run P w = _ from hr), Oper.upon]
    exact hcl.mono fun e w' ⟨v, Bs, he, hp, s'⟩ => by subst he; exact ⟨fun hG => s'.imp ((h v Bs hp).1 hG), (h v Bs hp).2 _ _ (hs.put v hd) s'⟩
theorem go_cx {d : Nat} {p : Value → List Assn → Prop} {px : PX} (ho : ops[i]? = some ⟨some d, op, ty, pos, aft, g⟩) (hw : Wn ops sl g true) (hd : Nat.blt d n = true) (hv : OCX P W0 n op ty sl As p px) (hpa : ∀ a, HasSlD ds n sl a → PA a) (hx : ∀ ch Bs w, px ch Bs → St W0 Bs w → PW ch w) (h : ∀ v Bs, p v Bs → (i ∈ Gd → ∀ h, Sat Bs h → Sat Cs h) ∧ GO ds PA PW P W0 n ops Gd ord ((d, v) :: sl) Bs Cs F) : GO ds PA PW P W0 n ops Gd ((i, .eff) :: ord) sl As Cs F :=
  fun a w hs s => by
    obtain ⟨f, args, hr, hcl⟩ := hv { a with defers := [] } w (some d) pos aft g hs.has s
    simp only [wpOrd, ho, wanted (o := ⟨some d, op, ty, pos, aft, g⟩) hw hs, if_true, Oper.wp, (show (execOp a.eval _).run P w = _ from hr), Oper.upon]
    exact hcl.mono fun e w' he => by
      rcases he with ⟨v, Bs, he, hp, s'⟩ | ⟨ch, Bs, he, hp, s'⟩
      · subst he; exact ⟨fun hG => s'.imp ((h v Bs hp).1 hG), (h v Bs hp).2 _ _ (hs.put v hd) s'⟩
      · subst he; exact ⟨hpa a hs, hx ch Bs w' hp s'⟩
theorem g_drawD {id : Nat} {l : List Oper} (PA : Act → Prop) (PW : List PanicEntry → World → Prop) (E Gd : List Nat) (ord : List (Nat × Kd)) (Cs : List Assn) (hm : P.follows .mixedOrders = true) (hB : okDraw l E Gd ord = true) (hPA : ∀ o ∈ l, ∀ (a : Act) v, PA (a.put o.dst v) → PA a) (hx : ∀ ch a w, PA a → PW ch w → Q (.panic ch) a w)
    (h : GO ds PA PW P W0 n l.toArray Gd ord sl As Cs (Q .normal)) {a : Act} {w : World} (hs : HasSlD ds n sl a) (s : St W0 As w) : (Code.region id l.toArray true).wp P Q a w :=
  wp_region_ord (PA := PA) (PW := PW) E Gd ord _ hm hB hPA hx (h a _ hs s.drew)
theorem g_draw {id : Nat} {l : List Oper} (px : PX) (E Gd : List Nat) (ord : List (Nat × Kd)) (Cs : List Assn) (hm : P.follows .mixedOrders = true) (hB : okDraw l E Gd ord = true) (hx : ∀ ch Bs a w, px ch Bs → a.defers = [] → St W0 Bs w → Q (.panic ch) a w)
    (h : GO [] (fun a => a.defers = []) (fun ch w => ∃ Bs, px ch Bs ∧ St W0 Bs w) P W0 n l.toArray Gd ord sl As Cs (Q .normal)) : G P W0 n (.region id l.toArray true) sl As Q :=
  fun a w hs s => g_drawD _ _ E Gd ord _ hm hB (fun o _ a v h => by rw [← defers_put a o.dst v]; exact h) (fun ch a' w' hd ⟨Bs, hp, s'⟩ => hx ch Bs a' w' hp hd s') h (.of hs) s
end
end DX
section
variable {P : Program} {W0 : World} {As R : List Assn}
theorem px_fq {fn : Func} {post : Value → List Assn → Prop} {px : PX} {ch : List PanicEntry} {a : Act} {w : World} (Bs : List Assn) (hp : px ch Bs) (hA : ∀ h, Sat As h → Sat (Bs ++ R) h) (hd : a.defers = []) (s : St W0 As w) : FQX P W0 fn post px R (.panic ch) a w :=
  ⟨hd, .inr ⟨ch, Bs, rfl, hp, s.imp hA⟩⟩
end
end Go.L
