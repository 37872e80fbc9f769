/-
  A region that draws its order: one walk in an order of one's own serves all orders: reads are taken as early as one likes, what changes memory stands in a chain. Own work; it speaks of no program.
-/
import Derived.Test.YtcglaiacohkaeaaDoorOps
set_option linter.unusedSimpArgs false
set_option linter.unusedVariables false
set_option linter.unusedSectionVars false
namespace Go.L
inductive Kd | loc | stab | eff
section
variable {P : Program} {ops : Array Oper} {E Gd : List Nat} {F : Act → World → Prop} {C : World → Prop}

def QF : Exit → Act → World → Prop := fun _ _ _ => False
def opE (P : Program) (ops : Array Oper) (E Gd : List Nat) (C : World → Prop) (i : Nat) (K : Act → World → Prop) (a : Act) (w : World) : Prop :=
  match ops[i]? with
  | none => K a w
  | some o => if Region.wanted o (yielded ops a.tmps) then
      (if i ∈ E then o.wp P a w (fun a' w' => (i ∈ Gd → C w') ∧ K a' w') QF else ∃ v, (execOp a.eval o).run P w = .ok (.value v) w ∧ K (a.put o.dst v) w)
    else K (a.put o.dst undef) w
def anyE (P : Program) (ops : Array Oper) (E Gd : List Nat) (F : Act → World → Prop) (C : World → Prop) : Nat → Array Bool → Act → World → Prop
  | 0, listed, a, w => Region.ready .any ops listed = [] ∧ F a w
  | f + 1, listed, a, w => (Region.ready .any ops listed = [] → F a w) ∧ ∀ i ∈ Region.ready .any ops listed, opE P ops E Gd C i (anyE P ops E Gd F C f (listed.setIfInBounds i true)) a w

theorem wp_QF {o : Oper} {a : Act} {w : World} {K K' : Act → World → Prop} {Q : Exit → Act → World → Prop} (h : o.wp P a w K QF) (hk : ∀ a w, K a w → K' a w) : o.wp P a w K' Q := by
  unfold Oper.wp at *
  generalize (execOp a.eval o).run P w = r at *
  cases r with
  | ok n w' =>
    cases n <;> simp only [Oper.upon] at h ⊢ <;>
      first
        | exact hk _ _ h
        | exact Calls.mono h (fun e w'' he => by cases e <;> first | exact hk _ _ he | exact he.elim | (obtain ⟨_, _, x⟩ := he; exact x.elim))
        | exact Rows.mono h (fun _ _ he => hk _ _ he)
  | halt x w' => cases x <;> simp only [Oper.upon] at h ⊢ <;> first | exact h | exact h.elim
theorem wpOp_of_opE {i : Nat} {a : Act} {w : World} {K K' : Act → World → Prop} {Q : Exit → Act → World → Prop} (h : opE P ops E Gd C i K a w) (hk : ∀ a w, K a w → K' a w) : wpOp P ops Q i K' a w := by
  unfold opE at h; unfold wpOp
  split at h
  · rename_i ho; simp only [ho]; exact hk _ _ h
  · rename_i o ho
    simp only [ho]
    by_cases hw : Region.wanted o (yielded ops a.tmps) = true
    · simp only [hw, if_true] at h ⊢
      left
      by_cases hE : i ∈ E
      · rw [if_pos hE] at h; exact wp_QF h fun a w hh => hk _ _ hh.2
      · rw [if_neg hE] at h
        obtain ⟨v, hr, hK⟩ := h
        unfold Oper.wp; rw [hr]; exact hk _ _ hK
    · simp only [hw] at h ⊢; exact hk _ _ h
theorem wpAny_of_anyE {Q : Exit → Act → World → Prop} (hF : ∀ a w, F a w → Q .normal a w) : ∀ (f : Nat) (listed : Array Bool) (a : Act) (w : World), anyE P ops E Gd F C f listed a w → wpAny P .any ops Q f listed a w
  | 0, _, _, _, h => ⟨h.1, hF _ _ h.2⟩
  | f + 1, _, _, _, h => ⟨fun h0 => hF _ _ (h.1 h0), fun i hi => wpOp_of_opE (h.2 i hi) fun a w => wpAny_of_anyE hF f _ a w⟩
theorem opE_mono {i : Nat} {a : Act} {w : World} {K K' : Act → World → Prop} (h : opE P ops E Gd C i K a w) (hk : ∀ a w, K a w → K' a w) : opE P ops E Gd C i K' a w := by
  unfold opE at *
  split at h
  · exact hk _ _ h
  · rename_i o ho
    by_cases hw : Region.wanted o (yielded ops a.tmps) = true
    · rw [if_pos hw] at h ⊢
      by_cases hE : i ∈ E
      · rw [if_pos hE] at h ⊢; exact Oper.wp_mono (fun a w hh => ⟨hh.1, hk _ _ hh.2⟩) h
      · rw [if_neg hE] at h ⊢; obtain ⟨v, hr, hK⟩ := h; exact ⟨v, hr, hk _ _ hK⟩
    · rw [if_neg hw] at h ⊢; exact hk _ _ h

/-- in state 'a', in every world of 'D', operation 'o' gives 'v' -/
def YD (P : Program) (ops : Array Oper) (D : World → Prop) (o : Oper) (v : Value) (a : Act) : Prop :=
  (Region.wanted o (yielded ops a.tmps) = true ∧ ∀ w, D w → (execOp a.eval o).run P w = .ok (.value v) w) ∨ (Region.wanted o (yielded ops a.tmps) = false ∧ v = undef)
variable {D : World → Prop}
theorem YD.same {o : Oper} {v : Value} {a a' : Act} (hy : YD P ops D o v a) (he : execOp a'.eval o = execOp a.eval o) (hw : Region.wanted o (yielded ops a'.tmps) = Region.wanted o (yielded ops a.tmps)) : YD P ops D o v a' := by
  unfold YD at *; rw [he, hw]; exact hy
theorem YD.opE {i : Nat} {o : Oper} {v : Value} {a : Act} {w : World} (hi : ops[i]? = some o) (hE : i ∉ E) (hD : D w) (hy : YD P ops D o v a) {K : Act → World → Prop} (h : K (a.put o.dst v) w) : opE P ops E Gd C i K a w := by
  unfold Go.L.opE
  simp only [hi]
  rcases hy with ⟨hw, hv⟩ | ⟨hw, rfl⟩
  · rw [if_pos hw, if_neg hE]; exact ⟨v, hv w hD, h⟩
  · simp only [hw, Bool.false_eq_true, if_false]; exact h
theorem opE_put {j : Nat} {oi oj : Oper} {v : Value} (hj : ops[j]? = some oj) (hap : oi.apart ops oj = true)
    (hsi : ∀ cs b, oi.op ≠ .select cs b) (hsj : ∀ cs b, oj.op ≠ .select cs b) {K : Act → World → Prop} {a : Act} {w : World} (hD : D w) (hCD : ∀ w, j ∈ E → (j ∈ Gd → C w) → D w)
    (hy : YD P ops D oi v a) (h : opE P ops E Gd C j K (a.put oi.dst v) w) :
    opE P ops E Gd C j (fun a' w' => D w' ∧ YD P ops D oi v a' ∧ K (a'.put oi.dst v) w') a w := by
  obtain ⟨h1, h2, h3⟩ := Oper.apart_spec hap
  have keep : ∀ (a : Act), YD P ops D oi v a → ∀ u, YD P ops D oi v (a.put oj.dst u) := fun a hy u =>
    hy.same (execOp_put oi hsi a oj.dst u h3) (wanted_put oi a oj.dst u h3)
  have keepD : ∀ (a : Act) (d : Deferred), YD P ops D oi v a → YD P ops D oi v { a with defers := d :: a.defers } := fun a d hy => hy.same rfl rfl
  unfold opE at *
  simp only [hj] at *
  rw [wanted_put oj a oi.dst v h1] at h
  by_cases hw : Region.wanted oj (yielded ops a.tmps) = true
  · rw [if_pos hw] at h ⊢
    by_cases hE : j ∈ E
    · rw [if_pos hE] at h ⊢
      unfold Oper.wp at *
      rw [execOp_put oj hsj a oi.dst v h1] at h
      generalize (execOp a.eval oj).run P w = r at *
      cases r with
      | ok n w' =>
        cases n <;> simp only [Oper.upon] at h ⊢
        case value u => exact ⟨h.1, hCD _ hE h.1, keep a hy u, by rw [← Act.put_comm a v u h2]; exact h.2⟩
        case skip => exact ⟨h.1, hCD _ hE h.1, keep a hy _, by rw [← Act.put_comm a v undef h2]; exact h.2⟩
        case enter f args =>
          refine Calls.mono h fun e w'' he => ?_
          cases e with
          | returned u => exact ⟨he.1, hCD _ hE he.1, keep a hy u, by rw [← Act.put_comm a v u h2]; exact he.2⟩
          | panicked ch => exact he
          | outgrown => exact he
        case row row args => exact Rows.mono h fun u w'' he => ⟨he.1, hCD _ hE he.1, keep a hy u, by rw [← Act.put_comm a v u h2]; exact he.2⟩
        case defer d =>
          refine ⟨h.1, hCD _ hE h.1, keep _ (keepD a d hy) _, ?_⟩
          have h4 : ({ a.put oi.dst v with defers := d :: (a.put oi.dst v).defers } : Act).put oj.dst undef = (({ a with defers := d :: a.defers } : Act).put oj.dst undef).put oi.dst v := by
            rw [← Act.put_comm _ v undef h2]; congr 1; cases oi.dst <;> rfl
          rw [← h4]; exact h.2
      | halt x w' => cases x <;> simp only [Oper.upon] at h <;> exact h.elim
    · rw [if_neg hE] at h ⊢
      rw [execOp_put oj hsj a oi.dst v h1] at h
      obtain ⟨u, hr, hK⟩ := h
      exact ⟨u, hr, hD, keep a hy u, by rw [← Act.put_comm a v u h2]; exact hK⟩
  · rw [if_neg hw] at h ⊢
    exact ⟨hD, keep a hy _, by rw [← Act.put_comm a v undef h2]; exact h⟩

/-- what is listed has what it waits for listed -/
def Closed (ops : Array Oper) (listed : Array Bool) : Prop :=
  ∀ (j : Nat) (oj : Oper), ops[j]? = some oj → listed.getD j false = true → ∀ e ∈ oj.after, Region.binds .any e = true → listed.getD e.on false = true
theorem getD_both' {listed : Array Bool} {i : Nat} (h : listed.getD i true = false) : listed.getD i false = false := getD_both h
theorem Closed.set {listed : Array Bool} {i : Nat} (c : Closed ops listed) (hi : i ∈ Region.ready .any ops listed) : Closed ops (listed.setIfInBounds i true) := by
  obtain ⟨_, oi, hoi, hall⟩ := mem_ready.1 hi
  intro j oj hj hl e he hb
  by_cases hij : i = j
  · subst hij
    have : oj = oi := Option.some.inj (hj.symm.trans hoi)
    subst this
    exact getD_set_true (hall e he hb)
  · rw [getD_set_ne false hij] at hl
    exact getD_set_true (c j oj hj hl e he hb)

/-- the general step: 'i' is taken first -/
theorem anyE_first {i : Nat} {oi : Oper} {v : Value} (hi : ops[i]? = some oi) (hE : i ∉ E) (hsel : ∀ (j : Nat) (o : Oper) cs b, ops[j]? = some o → o.op ≠ .select cs b)
    (I : Array Bool → Prop) (hI : ∀ listed j, I listed → j ≠ i → j ∈ Region.ready .any ops listed → I (listed.setIfInBounds j true))
    (hCD : ∀ listed j, I listed → listed.getD i true = false → j ∈ Region.ready .any ops listed → j ∈ E → ∀ w, (j ∈ Gd → C w) → D w) :
    ∀ (f : Nat) (listed : Array Bool) (a : Act) (w : World), I listed → D w →
      (∀ j oj, ops[j]? = some oj → j ≠ i → listed.getD j true = false → (∀ e ∈ oj.after, Region.binds .any e = true → e.on ≠ i) → oi.apart ops oj = true) →
      i ∈ Region.ready .any ops listed → YD P ops D oi v a →
      anyE P ops E Gd F C f (listed.setIfInBounds i true) (a.put oi.dst v) w → anyE P ops E Gd F C (f + 1) listed a w := by
  intro f
  induction f with
  | zero =>
    intro listed a w hIl hD _ hr hy H
    refine ⟨fun h => (by rw [h] at hr; cases hr), fun j hj => ?_⟩
    by_cases hji : j = i
    · subst hji; exact hy.opE hi hE hD H
    · have := ready_mono hj hji
      rw [H.1] at this
      cases this
  | succ f ih =>
    intro listed a w hIl hD hfree hr hy H
    have hun := (mem_ready.1 hr).1
    refine ⟨fun h => (by rw [h] at hr; cases hr), fun j hj => ?_⟩
    by_cases hji : j = i
    · subst hji; exact hy.opE hi hE hD H
    · have h1 := H.2 j (ready_mono hj hji)
      obtain ⟨hjun, oj, hoj, hall⟩ := mem_ready.1 hj
      have hnot : ∀ e ∈ oj.after, Region.binds .any e = true → e.on ≠ i := fun e he hb heq => by
        have h1 := hall e he hb
        rw [heq, getD_both' hun] at h1
        cases h1
      have h2 := opE_put hoj (hfree j oj hoj hji hjun hnot) (fun cs b => hsel i oi cs b hi) (fun cs b => hsel j oj cs b hoj) hD (fun w he hc => hCD listed j hIl hun hj he w hc) hy h1
      have hfree' : ∀ k ok, ops[k]? = some ok → k ≠ i → (listed.setIfInBounds j true).getD k true = false →
          (∀ e ∈ ok.after, Region.binds .any e = true → e.on ≠ i) → oi.apart ops ok = true := fun k ok hk hki hun hno => by
        refine hfree k ok hk hki ?_ hno
        by_cases hjk : j = k
        · subst hjk; exact hjun
        · rw [getD_set_ne true hjk] at hun; exact hun
      refine opE_mono h2 fun a' w' h3 => ih (listed.setIfInBounds j true) a' w' (hI _ _ hIl hji hj) h3.1 hfree' (ready_mono hr (Ne.symm hji)) h3.2.1 ?_
      rw [Array.setIfInBounds_comm _ _ hji]
      exact h3.2.2

/-! the masks of what an operation waits for -/
def maskOf (acc : List Nat) (o : Oper) : Nat := o.after.foldl (fun s e => if Region.binds .any e then s ||| 2 ^ e.on ||| acc.getD e.on 0 else s) 0
def masks : List Oper → List Nat → List Nat
  | [], acc => acc
  | o :: r, acc => masks r (acc ++ [maskOf acc o])
theorem maskOf_bit {acc : List Nat} {o : Oper} {i : Nat} (h : (maskOf acc o).testBit i = true) : ∃ e ∈ o.after, Region.binds .any e = true ∧ (e.on = i ∨ (acc.getD e.on 0).testBit i = true) := by
  unfold maskOf at h
  rw [← Array.foldl_toList] at h
  have key : ∀ (l : List Edge) (s : Nat), (l.foldl (fun s e => if Region.binds .any e then s ||| 2 ^ e.on ||| acc.getD e.on 0 else s) s).testBit i = true →
      s.testBit i = true ∨ ∃ e ∈ l, Region.binds .any e = true ∧ (e.on = i ∨ (acc.getD e.on 0).testBit i = true) := by
    intro l
    induction l with
    | nil => intro s h; exact .inl h
    | cons e l ih =>
      intro s h
      simp only [List.foldl_cons] at h
      rcases ih _ h with h | ⟨e', h1, h2⟩
      · by_cases hb : Region.binds .any e = true
        · rw [if_pos hb, Nat.testBit_or, Nat.testBit_or] at h
          simp only [Bool.or_eq_true] at h
          rcases h with (h | h) | h
          · exact .inl h
          · rw [Nat.testBit_two_pow] at h
            exact .inr ⟨e, .head _, hb, .inl (by simpa using h)⟩
          · exact .inr ⟨e, .head _, hb, .inr h⟩
        · rw [if_neg hb] at h; exact .inl h
      · exact .inr ⟨e', .tail _ h1, h2⟩
  rcases key _ _ h with h | ⟨e, h1, h2⟩
  · simp at h
  · exact ⟨e, by simpa using h1, h2⟩
theorem masks_bit : ∀ (l : List Oper) (acc : List Nat) (pre : List Oper), pre.length = acc.length →
    (∀ e i, (acc.getD e 0).testBit i = true → ∃ o ed, (pre ++ l)[e]? = some o ∧ ed ∈ o.after ∧ Region.binds .any ed = true ∧ (ed.on = i ∨ (ed.on < e ∧ (acc.getD ed.on 0).testBit i = true))) →
    ∀ e i, ((masks l acc).getD e 0).testBit i = true → ∃ o ed, (pre ++ l)[e]? = some o ∧ ed ∈ o.after ∧ Region.binds .any ed = true ∧ (ed.on = i ∨ (ed.on < e ∧ ((masks l acc).getD ed.on 0).testBit i = true))
  | [], acc, pre, _, h => h
  | o :: r, acc, pre, hl, h => by
    have := masks_bit r (acc ++ [maskOf acc o]) (pre ++ [o]) (by simp [hl]) (fun e i hb => by
      have e1 : pre ++ [o] ++ r = pre ++ o :: r := by simp
      rw [e1]
      have ext : ∀ k, k < acc.length → (acc ++ [maskOf acc o]).getD k 0 = acc.getD k 0 := fun k hk => by
        simp [List.getD_eq_getElem?_getD, List.getElem?_append_left hk]
      rcases Nat.lt_trichotomy e acc.length with he | he | he
      · rw [ext e he] at hb
        obtain ⟨o', ed, h1, h2, h3, h4⟩ := h e i hb
        refine ⟨o', ed, h1, h2, h3, ?_⟩
        rcases h4 with h4 | ⟨h4, h5⟩
        · exact .inl h4
        · exact .inr ⟨h4, by rw [ext _ (by omega)]; exact h5⟩
      · subst he
        have e2 : (acc ++ [maskOf acc o]).getD acc.length 0 = maskOf acc o := by simp [List.getD_eq_getElem?_getD]
        rw [e2] at hb
        obtain ⟨ed, h1, h2, h3⟩ := maskOf_bit hb
        refine ⟨o, ed, by simp [← hl], h1, h2, ?_⟩
        rcases h3 with h3 | h3
        · exact .inl h3
        · have hlt : ed.on < acc.length := by
            rcases Nat.lt_or_ge ed.on acc.length with x | x
            · exact x
            · rw [List.getD_eq_getElem?_getD, List.getElem?_eq_none x] at h3; simp at h3
          exact .inr ⟨hlt, by rw [ext _ hlt]; exact h3⟩
      · rw [List.getD_eq_getElem?_getD, List.getElem?_eq_none (by simp; omega)] at hb; simp at hb)
    intro e i hb
    have e1 : pre ++ [o] ++ r = pre ++ o :: r := by simp
    rw [e1] at this
    exact this e i hb
theorem masks_spec (l : List Oper) (e i : Nat) (h : ((masks l []).getD e 0).testBit i = true) : ∃ o ed, l[e]? = some o ∧ ed ∈ o.after ∧ Region.binds .any ed = true ∧ (ed.on = i ∨ (ed.on < e ∧ ((masks l []).getD ed.on 0).testBit i = true)) := by
  have := masks_bit l [] [] rfl (fun e i h => by simp at h) e i h
  simpa using this
theorem waits_mask {l : List Oper} {listed : Array Bool} {i : Nat} (c : Closed l.toArray listed) (hu : listed.getD i false = false) :
    ∀ e, ((masks l []).getD e 0).testBit i = true → listed.getD e false = false ∧ e ∉ Region.ready .any l.toArray listed := by
  intro e
  induction e using Nat.strongRecOn with
  | _ e ih =>
    intro h
    obtain ⟨o, ed, h1, h2, h3, h4⟩ := masks_spec l e i h
    have hun : listed.getD ed.on false = false := by
      rcases h4 with h4 | ⟨h4, h5⟩
      · rw [h4]; exact hu
      · exact (ih _ h4 h5).1
    have h1' : l.toArray[e]? = some o := by simpa using h1
    constructor
    · cases hl : listed.getD e false with
      | false => rfl
      | true => have := c e o h1' hl ed h2 h3; rw [hun] at this; cases this
    · intro hr
      obtain ⟨_, o', ho', hall⟩ := mem_ready.1 hr
      have : o' = o := Option.some.inj (ho'.symm.trans h1')
      subst this
      have := hall ed h2 h3; rw [hun] at this; cases this

/-! the walk in an order of one's own -/
def okOrd (ops : Array Oper) (ms : List Nat) (E Gd : List Nat) : List (Nat × Kd) → Array Bool → Bool
  | [], listed => (Region.ready .any ops listed).isEmpty
  | (i, .loc) :: r, listed => (Region.ready .any ops listed).contains i && Region.free .any ops listed i && !E.contains i && E.all (fun e => listed.getD e false || (ms.getD e 0).testBit i) && okOrd ops ms E Gd r (listed.setIfInBounds i true)
  | (i, .stab) :: r, listed => (Region.ready .any ops listed).contains i && Region.free .any ops listed i && !E.contains i && E.all (fun e => Gd.contains e || (listed.getD e false || (ms.getD e 0).testBit i)) && okOrd ops ms E Gd r (listed.setIfInBounds i true)
  | (i, .eff) :: r, listed => decide (Region.ready .any ops listed = [i]) && E.contains i && okOrd ops ms E Gd r (listed.setIfInBounds i true)
def okDraw (l : List Oper) (E Gd : List Nat) (ord : List (Nat × Kd)) : Bool :=
  Region.noSelect l.toArray && Nat.beq ord.length l.length && okOrd l.toArray (masks l []) E Gd ord (Array.replicate l.length false)
def wpOrd (P : Program) (ops : Array Oper) (F : Act → World → Prop) (Gd : List Nat) (C : World → Prop) : List (Nat × Kd) → Act → World → Prop
  | [], a, w => F a w
  | (i, k) :: r, a, w => match ops[i]? with
    | none => False
    | some o => if Region.wanted o (yielded ops a.tmps) then
        match k with
        | .loc => ∃ v, (execOp a.eval o).run P w = .ok (.value v) w ∧ wpOrd P ops F Gd C r (a.put o.dst v) w
        | .stab => C w ∧ ∃ v, (∀ w, C w → (execOp a.eval o).run P w = .ok (.value v) w) ∧ wpOrd P ops F Gd C r (a.put o.dst v) w
        | .eff => o.wp P a w (fun a' w' => (i ∈ Gd → C w') ∧ wpOrd P ops F Gd C r a' w') QF
      else wpOrd P ops F Gd C r (a.put o.dst undef) w
theorem anyE_of_ord {l : List Oper} (hs : Region.noSelect l.toArray = true) : ∀ (ord : List (Nat × Kd)) (listed : Array Bool) (a : Act) (w : World), Closed l.toArray listed → okOrd l.toArray (masks l []) E Gd ord listed = true →
    wpOrd P l.toArray F Gd C ord a w → anyE P l.toArray E Gd F C ord.length listed a w
  | [], listed, a, w, _, hB, h => ⟨by simpa [okOrd] using hB, h⟩
  | (i, k) :: r, listed, a, w, hc, hB, h => by
    simp only [wpOrd] at h
    cases ho : l.toArray[i]? with
    | none => rw [ho] at h; exact h.elim
    | some o =>
      simp only [ho] at h
      cases k with
      | loc =>
        simp only [okOrd, Bool.and_eq_true] at hB
        obtain ⟨⟨⟨⟨hr, hf⟩, hE⟩, hall⟩, hB'⟩ := hB
        have hr' : i ∈ Region.ready .any l.toArray listed := by simpa using hr
        have hE' : i ∉ E := by simpa using hE
        have hun := (mem_ready.1 hr').1
        have hall' : ∀ e ∈ E, listed.getD e false = true ∨ ((masks l []).getD e 0).testBit i = true := by simpa [List.all_eq_true] using hall
        have fin : ∀ v, YD P l.toArray (fun w' => w' = w) o v a → wpOrd P l.toArray F Gd C r (a.put o.dst v) w → anyE P l.toArray E Gd F C (r.length + 1) listed a w := fun v hy hK =>
          anyE_first (D := fun w' => w' = w) ho hE' (Region.noSelect_spec hs) (fun ls => Closed l.toArray ls ∧ ∀ e ∈ E, ls.getD e false = true ∨ ((masks l []).getD e 0).testBit i = true)
            (fun ls j hI _ hj => ⟨hI.1.set hj, fun e he => (hI.2 e he).imp (fun h => getD_set_true h) id⟩)
            (fun ls j hI hu hj he w' _ => by
              exfalso
              rcases hI.2 j he with h1 | h1
              · have h2 := (mem_ready.1 hj).1; rw [getD_both' h2] at h1; cases h1
              · exact (waits_mask hI.1 (getD_both' hu) j h1).2 hj)
            r.length listed a w ⟨hc, hall'⟩ rfl (Region.free_spec ho hf) hr' hy (anyE_of_ord hs r _ _ _ (hc.set hr') hB' hK)
        by_cases hw : Region.wanted o (yielded l.toArray a.tmps) = true
        · rw [if_pos hw] at h
          obtain ⟨v, hv, hK⟩ := h
          exact fin v (.inl ⟨hw, fun w' e => by subst e; exact hv⟩) hK
        · rw [if_neg hw] at h
          exact fin undef (.inr ⟨by simpa using hw, rfl⟩) h
      | stab =>
        simp only [okOrd, Bool.and_eq_true] at hB
        obtain ⟨⟨⟨⟨hr, hf⟩, hE⟩, hall⟩, hB'⟩ := hB
        have hr' : i ∈ Region.ready .any l.toArray listed := by simpa using hr
        have hE' : i ∉ E := by simpa using hE
        have hall' : ∀ e ∈ E, e ∈ Gd ∨ listed.getD e false = true ∨ ((masks l []).getD e 0).testBit i = true := by simpa [List.all_eq_true] using hall
        by_cases hw : Region.wanted o (yielded l.toArray a.tmps) = true
        · rw [if_pos hw] at h
          obtain ⟨hC, v, hv, hK⟩ := h
          exact anyE_first (D := C) ho hE' (Region.noSelect_spec hs) (fun ls => Closed l.toArray ls ∧ ∀ e ∈ E, e ∈ Gd ∨ ls.getD e false = true ∨ ((masks l []).getD e 0).testBit i = true)
            (fun ls j hI _ hj => ⟨hI.1.set hj, fun e he => (hI.2 e he).imp id (fun h => h.imp (fun h => getD_set_true h) id)⟩)
            (fun ls j hI hu hj he w' hCw => by
              rcases hI.2 j he with h1 | h1 | h1
              · exact hCw h1
              · exfalso; have h2 := (mem_ready.1 hj).1; rw [getD_both' h2] at h1; cases h1
              · exfalso; exact (waits_mask hI.1 (getD_both' hu) j h1).2 hj)
            r.length listed a w ⟨hc, hall'⟩ hC (Region.free_spec ho hf) hr' (.inl ⟨hw, hv⟩) (anyE_of_ord hs r _ _ _ (hc.set hr') hB' hK)
        · rw [if_neg hw] at h
          exact anyE_first (D := fun _ => True) ho hE' (Region.noSelect_spec hs) (fun _ => True) (fun _ _ _ _ _ => trivial) (fun _ _ _ _ _ _ _ _ => trivial)
            r.length listed a w trivial trivial (Region.free_spec ho hf) hr' (.inr ⟨by simpa using hw, rfl⟩) (anyE_of_ord hs r _ _ _ (hc.set hr') hB' h)
      | eff =>
        simp only [okOrd, Bool.and_eq_true, decide_eq_true_eq] at hB
        obtain ⟨⟨hr, hE⟩, hB'⟩ := hB
        have hE' : i ∈ E := by simpa using hE
        have hr' : i ∈ Region.ready .any l.toArray listed := by rw [hr]; simp
        refine ⟨fun h0 => (by rw [h0] at hr; cases hr), fun j hj => ?_⟩
        rw [hr] at hj
        have hji : j = i := by simpa using hj
        subst hji
        unfold opE
        simp only [ho]
        by_cases hw : Region.wanted o (yielded l.toArray a.tmps) = true
        · rw [if_pos hw] at h ⊢
          rw [if_pos hE']
          exact Oper.wp_mono (fun a' w' hh => ⟨hh.1, anyE_of_ord hs r _ _ _ (hc.set hr') hB' hh.2⟩) h
        · rw [if_neg hw] at h ⊢
          exact anyE_of_ord hs r _ _ _ (hc.set hr') hB' h
theorem wp_region_ord {id : Nat} {Q : Exit → Act → World → Prop} {a : Act} {w : World} {l : List Oper} (E Gd : List Nat) (ord : List (Nat × Kd)) (C : World → Prop) (hm : P.follows .mixedOrders = true) (hB : okDraw l E Gd ord = true)
    (h : wpOrd P l.toArray (Q .normal) Gd C ord a { w with drawn := w.drawn + 1 }) : (Code.region id l.toArray true).wp P Q a w := by
  simp only [okDraw, Bool.and_eq_true] at hB
  obtain ⟨⟨hs, hl⟩, hB'⟩ := hB
  have hl' : ord.length = l.length := Nat.eq_of_beq_eq_true hl
  refine wp_region_any hm ?_
  have := wpAny_of_anyE (Q := Q) (F := Q .normal) (fun _ _ h => h) _ _ _ _ (anyE_of_ord hs ord _ a _ (fun j oj _ hl => by rw [getD_replicate_false] at hl; cases hl) hB' h)
  rw [hl'] at this
  simpa using this

/-! the same over slots and memory -/
variable {W0 : World} {n : Nat} {sl : Slots} {As Bs Cs : List Assn} {Q : Exit → Act → World → Prop} {op : Op} {ty : TypeId} {pos : String} {aft : Array Edge} {g : Option (Nat × Bool)} {i : Nat} {ord : List (Nat × Kd)}
def GO (P : Program) (W0 : World) (n : Nat) (ops : Array Oper) (Gd : List Nat) (ord : List (Nat × Kd)) (sl : Slots) (As Cs : List Assn) (F : Act → World → Prop) : Prop :=
  ∀ a w, HasSl n sl a → St W0 As w → wpOrd P ops F Gd (St W0 Cs) ord a w
inductive Wn (ops : Array Oper) (sl : Slots) : Option (Nat × Bool) → Bool → Prop
  | none : Wn ops sl none true
  | yes {j dj : Nat} {want c : Bool} : (ops[j]?).bind (·.dst) = some dj → slk sl dj = some (.bool c) → c = want → Wn ops sl (some (j, want)) true
  | no {j dj : Nat} {want c : Bool} : (ops[j]?).bind (·.dst) = some dj → slk sl dj = some (.bool c) → c = (!want) → Wn ops sl (some (j, want)) false
  | un {j dj : Nat} {want : Bool} : (ops[j]?).bind (·.dst) = some dj → slk sl dj = some undef → Wn ops sl (some (j, want)) false
theorem Wn.wanted {o : Oper} {a : Act} {b : Bool} (h : Wn ops sl o.guard b) (hs : HasSl n sl a) : Region.wanted o (yielded ops a.tmps) = b := by
  unfold Region.wanted
  generalize o.guard = g at h
  cases h with
  | none => rfl
  | yes h1 h2 h3 => simp only [yielded, h1, Option.bind_some, hs.val _ _ h2, h3]; simp
  | @no j dj want c h1 h2 h3 => subst h3; simp only [yielded, h1, Option.bind_some, hs.val _ _ h2]; cases want <;> rfl
  | un h1 h2 => simp only [yielded, h1, Option.bind_some, hs.val _ _ h2]; rfl
theorem by_bool (c : Bool) {G : Prop} (h1 : c = true → G) (h2 : c = false → G) : G := by cases c; exact h2 rfl; exact h1 rfl
theorem go_split {j dj : Nat} {c : Bool} (_hj : (ops[j]?).bind (·.dst) = some dj) (_hv : slk sl dj = some (.bool c)) (h1 : c = true → GO P W0 n ops Gd ord sl As Cs F) (h2 : c = false → GO P W0 n ops Gd ord sl As Cs F) : GO P W0 n ops Gd ord sl As Cs F := by
  cases c; exact h2 rfl; exact h1 rfl
theorem go_nil (h : GE W0 n sl As F) : GO P W0 n ops Gd [] sl As Cs F := h
theorem go_imp (f : ∀ h, Sat As h → Sat Bs h) (h : GO P W0 n ops Gd ord sl Bs Cs F) : GO P W0 n ops Gd ord sl As Cs F := fun a w hs s => h a w hs (s.imp f)
theorem go_v {v : Value} {d : Nat} (ho : ops[i]? = some ⟨some d, op, ty, pos, aft, g⟩) (hw : Wn ops sl g true) (hd : Nat.blt d n = true) (hv : OV P W0 n op ty sl As v) (h : GO P W0 n ops Gd ord ((d, v) :: sl) As Cs F) : GO P W0 n ops Gd ((i, .loc) :: ord) sl As Cs F :=
  fun a w hs s => by
    simp only [wpOrd, ho, Wn.wanted (o := ⟨some d, op, ty, pos, aft, g⟩) hw hs, if_true]
    exact ⟨v, hv _ _ _ _ _ _ hs s, h _ _ (hs.put v hd) s⟩
theorem go_vs {v : Value} {d : Nat} (ho : ops[i]? = some ⟨some d, op, ty, pos, aft, g⟩) (hw : Wn ops sl g true) (hd : Nat.blt d n = true) (hv : OV P W0 n op ty sl Cs v) (hc : ∀ h, Sat As h → Sat Cs h) (h : GO P W0 n ops Gd ord ((d, v) :: sl) As Cs F) : GO P W0 n ops Gd ((i, .stab) :: ord) sl As Cs F :=
  fun a w hs s => by
    simp only [wpOrd, ho, Wn.wanted (o := ⟨some d, op, ty, pos, aft, g⟩) hw hs, if_true]
    exact ⟨s.imp hc, v, fun w' s' => hv _ _ _ _ _ _ hs s', h _ _ (hs.put v hd) s⟩
theorem go_skip {k : Kd} {d : Nat} (ho : ops[i]? = some ⟨some d, op, ty, pos, aft, g⟩) (hw : Wn ops sl g false) (hd : Nat.blt d n = true) (h : GO P W0 n ops Gd ord ((d, undef) :: sl) As Cs F) : GO P W0 n ops Gd ((i, k) :: ord) sl As Cs F :=
  fun a w hs s => by
    simp only [wpOrd, ho, Wn.wanted (o := ⟨some d, op, ty, pos, aft, g⟩) hw hs, Bool.false_eq_true, if_false]
    exact h _ _ (hs.put undef hd) s
theorem go_skip0 {k : Kd} (ho : ops[i]? = some ⟨none, op, ty, pos, aft, g⟩) (hw : Wn ops sl g false) (h : GO P W0 n ops Gd ord sl As Cs F) : GO P W0 n ops Gd ((i, k) :: ord) sl As Cs F :=
  fun a w hs s => by
    simp only [wpOrd, ho, Wn.wanted (o := ⟨none, op, ty, pos, aft, g⟩) hw hs, Bool.false_eq_true, if_false]
    exact h _ _ hs s
theorem go_v0 {v : Value} (ho : ops[i]? = some ⟨none, op, ty, pos, aft, g⟩) (hw : Wn ops sl g true) (hv : OV P W0 n op ty sl As v) (h : GO P W0 n ops Gd ord sl As Cs F) : GO P W0 n ops Gd ((i, .loc) :: ord) sl As Cs F :=
  fun a w hs s => by
    simp only [wpOrd, ho, Wn.wanted (o := ⟨none, op, ty, pos, aft, g⟩) hw hs, if_true]
    exact ⟨v, hv _ _ _ _ _ _ hs s, h _ _ hs s⟩
/-- a value that is wanted in the chain of effects (a call of what only reads) -/
theorem go_ve {v : Value} {d : Nat} (ho : ops[i]? = some ⟨some d, op, ty, pos, aft, g⟩) (hw : Wn ops sl g true) (hd : Nat.blt d n = true) (hv : OV P W0 n op ty sl As v) (hc : i ∈ Gd → ∀ h, Sat As h → Sat Cs h) (h : GO P W0 n ops Gd ord ((d, v) :: sl) As Cs F) : GO P W0 n ops Gd ((i, .eff) :: ord) sl As Cs F :=
  fun a w hs s => by
    simp only [wpOrd, ho, Wn.wanted (o := ⟨some d, op, ty, pos, aft, g⟩) hw hs, if_true, Oper.wp, hv _ _ _ _ _ _ hs s, Oper.upon]
    exact ⟨fun hG => s.imp (hc hG), h _ _ (hs.put v hd) s⟩
theorem go_u (ho : ops[i]? = some ⟨none, op, ty, pos, aft, g⟩) (hw : Wn ops sl g true) (hv : OU P W0 n op ty sl As Bs) (hc : i ∈ Gd → ∀ h, Sat Bs h → Sat Cs h) (h : GO P W0 n ops Gd ord sl Bs Cs F) : GO P W0 n ops Gd ((i, .eff) :: ord) sl As Cs F :=
  fun a w hs s => by
    obtain ⟨w', hr, s'⟩ := hv a w none pos aft g hs s
    simp only [wpOrd, ho, Wn.wanted (o := ⟨none, op, ty, pos, aft, g⟩) hw hs, if_true, Oper.wp, hr, Oper.upon]
    exact ⟨fun hG => s'.imp (hc hG), h _ _ hs s'⟩
theorem go_n {d : Nat} {p : Value → List Assn → Prop} (ho : ops[i]? = some ⟨some d, op, ty, pos, aft, g⟩) (hw : Wn ops sl g true) (hd : Nat.blt d n = true) (hv : ON P W0 n op ty sl As p) (h : ∀ v Bs, p v Bs → (i ∈ Gd → ∀ h, Sat Bs h → Sat Cs h) ∧ GO P W0 n ops Gd ord ((d, v) :: sl) Bs Cs F) : GO P W0 n ops Gd ((i, .eff) :: ord) sl As Cs F :=
  fun a w hs s => by
    obtain ⟨v, Bs, w', hr, hp, s'⟩ := hv a w (some d) pos aft g hs s
    simp only [wpOrd, ho, Wn.wanted (o := ⟨some d, op, ty, pos, aft, g⟩) hw hs, if_true, Oper.wp, hr, Oper.upon]
    exact ⟨fun hG => s'.imp ((h v Bs hp).1 hG), (h v Bs hp).2 _ _ (hs.put v hd) s'⟩
theorem go_c {d : Nat} {p : Value → List Assn → Prop} (ho : ops[i]? = some ⟨some d, op, ty, pos, aft, g⟩) (hw : Wn ops sl g true) (hd : Nat.blt d n = true) (hv : OC P W0 n op ty sl As p) (h : ∀ v Bs, p v Bs → (i ∈ Gd → ∀ h, Sat Bs h → Sat Cs h) ∧ GO P W0 n ops Gd ord ((d, v) :: sl) Bs Cs F) : GO P W0 n ops Gd ((i, .eff) :: ord) sl As Cs F :=
  fun a w hs s => by
    obtain ⟨f, args, hr, hcl⟩ := hv a w (some d) pos aft g hs s
    simp only [wpOrd, ho, Wn.wanted (o := ⟨some d, op, ty, pos, aft, g⟩) hw hs, if_true, Oper.wp, hr, Oper.upon]
    exact hcl.mono fun e w' ⟨v, Bs, he, hp, s'⟩ => by subst he; exact ⟨fun hG => s'.imp ((h v Bs hp).1 hG), (h v Bs hp).2 _ _ (hs.put v hd) s'⟩
theorem g_draw {id : Nat} {l : List Oper} (E Gd : List Nat) (ord : List (Nat × Kd)) (Cs : List Assn) (hm : P.follows .mixedOrders = true) (hB : okDraw l E Gd ord = true)
    (h : GO P W0 n l.toArray Gd ord sl As Cs (Q .normal)) : G P W0 n (.region id l.toArray true) sl As Q :=
  fun a w hs s => wp_region_ord E Gd ord _ hm hB (h a _ hs s.drew)
end
end Go.L
