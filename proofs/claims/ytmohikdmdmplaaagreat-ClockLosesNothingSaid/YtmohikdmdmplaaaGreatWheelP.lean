/-
  The wheel on paper: timers in the order in which they were added, and in which slot each lies. Own work; no program.
-/
import Derived.Test.YtmohikdmdmplaaaGreatFam
set_option linter.unusedSimpArgs false
set_option linter.unusedVariables false
set_option linter.unusedSectionVars false
namespace Go.L.Whl
open Go.L
structure Tm where
  id : Int
  due : Nat
  seq : Nat
deriving DecidableEq, Inhabited
structure Wh where
  now : Nat
  seq : Nat
  T : List Tm
abbrev te (t : Tm) : List Value := [U64 t.id, I64 t.due, I64 t.seq]
/-- where a timer lies: eight times its level and its slot -/
def posn (now due : Nat) : Nat :=
  if due / 512 ≠ now / 512 then 24 + due / 512 % 8 else if due / 64 ≠ now / 64 then 16 + due / 64 % 8 else if due / 8 ≠ now / 8 then 8 + due / 8 % 8 else due % 8
theorem posn_lt (now due : Nat) : posn now due < 32 := by unfold posn; (repeat' split) <;> omega
/-- a level's slot comes down -/
def pass (now' l u : Nat) (f : Tm → Nat) : Tm → Nat := fun t => if now' % u = 0 then (if f t = 8 * l + now' / u % 8 then posn now' t.due else f t) else f t
theorem pass_ne3 {now' : Nat} {t : Tm} {f : Tm → Nat} (h : now' % 512 = 0) (hf : f t = 24 + now' / 512 % 8) (hd : f t = posn (now' - 1) t.due) (h1 : now' - 1 < t.due) (h2 : t.due ≤ now' - 1 + 4095) (h0 : 0 < now') : posn now' t.due ≠ 24 + now' / 512 % 8 := by
  rw [hd] at hf; unfold posn at *; (repeat' split at hf) <;> (repeat' split) <;> omega
theorem pass3 {now' : Nat} {t : Tm} (h0 : 0 < now') (h1 : now' - 1 < t.due) (h2 : t.due ≤ now' - 1 + 4095) :
    pass now' 3 512 (fun t => posn (now' - 1) t.due) t = if t.due / 512 = now' / 512 then (if now' % 512 = 0 then posn now' t.due else posn (now' - 1) t.due) else posn now' t.due := by
  unfold pass; dsimp only; unfold posn; (repeat' split) <;> omega
theorem pass32 {now' : Nat} {t : Tm} (h0 : 0 < now') (h1 : now' - 1 < t.due) (h2 : t.due ≤ now' - 1 + 4095) :
    pass now' 2 64 (pass now' 3 512 (fun t => posn (now' - 1) t.due)) t = if t.due / 64 = now' / 64 then (if now' % 64 = 0 then posn now' t.due else posn (now' - 1) t.due) else posn now' t.due := by
  have e := pass3 h0 h1 h2
  unfold pass at e ⊢
  rw [e]; unfold posn; (repeat' split) <;> omega
theorem pass321 {now' : Nat} {t : Tm} (h0 : 0 < now') (h1 : now' - 1 < t.due) (h2 : t.due ≤ now' - 1 + 4095) :
    pass now' 1 8 (pass now' 2 64 (pass now' 3 512 (fun t => posn (now' - 1) t.due))) t = posn now' t.due := by
  have e := pass32 h0 h1 h2
  rw [show pass now' 1 8 (pass now' 2 64 (pass now' 3 512 (fun t => posn (now' - 1) t.due))) t = (if now' % 8 = 0 then (if pass now' 2 64 (pass now' 3 512 (fun t => posn (now' - 1) t.due)) t = 8 * 1 + now' / 8 % 8 then posn now' t.due else pass now' 2 64 (pass now' 3 512 (fun t => posn (now' - 1) t.due)) t) else pass now' 2 64 (pass now' 3 512 (fun t => posn (now' - 1) t.due)) t) from rfl]
  rw [e]; unfold posn; (repeat' split) <;> omega
/-- what comes down from a level does not come to lie in the slot that it left -/
theorem fresh3 {now' : Nat} {t : Tm} (h0 : 0 < now') (h1 : now' - 1 < t.due) (h2 : t.due ≤ now' - 1 + 4095) (h : now' % 512 = 0) (hf : posn (now' - 1) t.due = 8 * 3 + now' / 512 % 8) : posn now' t.due ≠ 8 * 3 + now' / 512 % 8 := by
  unfold posn at *; (repeat' split at hf) <;> (repeat' split) <;> omega
theorem fresh2 {now' : Nat} {t : Tm} (h0 : 0 < now') (h1 : now' - 1 < t.due) (h2 : t.due ≤ now' - 1 + 4095) (h : now' % 64 = 0) (hf : pass now' 3 512 (fun t => posn (now' - 1) t.due) t = 8 * 2 + now' / 64 % 8) : posn now' t.due ≠ 8 * 2 + now' / 64 % 8 := by
  rw [pass3 h0 h1 h2] at hf
  unfold posn at *; (repeat' split at hf) <;> (repeat' split) <;> omega
theorem fresh1 {now' : Nat} {t : Tm} (h0 : 0 < now') (h1 : now' - 1 < t.due) (h2 : t.due ≤ now' - 1 + 4095) (h : now' % 8 = 0) (hf : pass now' 2 64 (pass now' 3 512 (fun t => posn (now' - 1) t.due)) t = 8 * 1 + now' / 8 % 8) : posn now' t.due ≠ 8 * 1 + now' / 8 % 8 := by
  rw [pass32 h0 h1 h2] at hf
  unfold posn at *; (repeat' split at hf) <;> (repeat' split) <;> omega
/-- the slot of now holds what is due -/
theorem posn_due {now' due : Nat} (h1 : now' ≤ due) (h2 : due ≤ now' + 4094) : posn now' due = now' % 8 ↔ due = now' := by
  unfold posn; (repeat' split) <;> omega

/-- the slots hold the timers, each where 'f' says -/
def Lies (f : Tm → Nat) (T : List Tm) (sl : List (List Tm)) : Prop := sl.length = 32 ∧ ∀ j, j < 32 → (sl.getD j []).Perm (T.filter fun t => f t = j)
theorem Lies.congr {f g : Tm → Nat} {T : List Tm} {sl : List (List Tm)} (h : Lies f T sl) (e : ∀ t ∈ T, f t = g t) : Lies g T sl :=
  ⟨h.1, fun j hj => by rw [show T.filter (fun t => g t = j) = T.filter (fun t => f t = j) from List.filter_congr fun t ht => by rw [e t ht]]; exact h.2 j hj⟩
/-- laying one more down -/
theorem Lies.lay {f : Tm → Nat} {T : List Tm} {sl : List (List Tm)} (h : Lies f T sl) (t : Tm) (ht : f t < 32) : Lies f (T ++ [t]) (sl.set (f t) (sl.getD (f t) [] ++ [t])) := by
  refine ⟨by simp [h.1], fun j hj => ?_⟩
  rw [getD_set _ _ _ _ _ (by rw [h.1]; exact ht), List.filter_append]
  by_cases e : j = f t
  · subst e
    rw [if_pos rfl, show [t].filter (fun u => f u = f t) = [t] by simp]
    exact (h.2 _ ht).append_right _
  · rw [if_neg e, show [t].filter (fun u => f u = j) = [] by simp [Ne.symm e], List.append_nil]
    exact h.2 j hj
/-- one moved from its slot to another one, the rest of a slot that is being taken down -/
theorem filter_split {f : Tm → Nat} {j : Nat} (T : List Tm) : T.Perm (T.filter (fun t => ¬ f t = j) ++ T.filter (fun t => f t = j)) := by
  have := List.filter_append_perm (fun t => decide (f t = j)) T
  refine (this.symm.trans List.perm_append_comm).trans ?_
  rw [show T.filter (fun x => !decide (f x = j)) = T.filter (fun t => ¬ f t = j) from List.filter_congr fun t _ => by simp]
theorem Lies.perm {f : Tm → Nat} {T T' : List Tm} {sl : List (List Tm)} (h : Lies f T sl) (p : T.Perm T') : Lies f T' sl := ⟨h.1, fun j hj => (h.2 j hj).trans (p.filter _)⟩
/-- the state in which a slot is empty, and the first k of what was in it are laid down anew -/
def Moved (f : Tm → Nat) (g : Nat → Nat) (T : List Tm) (j0 : Nat) (down : List Tm) (k : Nat) (sl : List (List Tm)) : Prop :=
  sl.length = 32 ∧ ∀ j, j < 32 → (sl.getD j []).Perm (T.filter (fun t => ¬ f t = j0 ∧ f t = j) ++ (down.take k).filter (fun t => g t.due = j))
theorem Moved.start {f : Tm → Nat} {g : Nat → Nat} {T : List Tm} {sl : List (List Tm)} (h : Lies f T sl) {j0 : Nat} (h0 : j0 < 32) : Moved f g T j0 (sl.getD j0 []) 0 (sl.set j0 []) := by
  refine ⟨by simp [h.1], fun j hj => ?_⟩
  rw [getD_set _ _ _ _ _ (by rw [h.1]; exact h0), List.take_zero, List.filter_nil, List.append_nil]
  by_cases e : j = j0
  · subst e; rw [if_pos rfl, List.filter_eq_nil_iff.2 (fun t _ => by simp)]
  · rw [if_neg e, show T.filter (fun t => ¬ f t = j0 ∧ f t = j) = T.filter (fun t => f t = j) from List.filter_congr fun t _ => by
      by_cases e2 : f t = j
      · simp [e2, e]
      · simp [e2]]
    exact h.2 j hj
theorem Moved.step {f : Tm → Nat} {g : Nat → Nat} {T : List Tm} {j0 : Nat} {down : List Tm} {k : Nat} {sl : List (List Tm)} (h : Moved f g T j0 down k sl) {t : Tm} (hk : down[k]? = some t) (hg : g t.due < 32) :
    Moved f g T j0 down (k + 1) (sl.set (g t.due) (sl.getD (g t.due) [] ++ [t])) := by
  obtain ⟨hk1, hk2⟩ := List.getElem?_eq_some_iff.1 hk
  refine ⟨by simp [h.1], fun j hj => ?_⟩
  rw [getD_set _ _ _ _ _ (by rw [h.1]; exact hg), List.take_succ_eq_append_getElem hk1, hk2, List.filter_append, ← List.append_assoc]
  by_cases e : j = g t.due
  · subst e
    rw [if_pos rfl, show [t].filter (fun u => g u.due = g t.due) = [t] by simp]
    exact (h.2 _ hg).append_right _
  · rw [if_neg e, show [t].filter (fun u => g u.due = j) = [] by simp [Ne.symm e], List.append_nil]
    exact h.2 j hj
theorem Moved.done {f : Tm → Nat} {g : Nat → Nat} {T : List Tm} {j0 : Nat} {down : List Tm} {sl : List (List Tm)} (h : Moved f g T j0 down down.length sl) (hd : down.Perm (T.filter fun t => f t = j0)) :
    Lies (fun t => if f t = j0 then g t.due else f t) T sl := by
  refine ⟨h.1, fun j hj => ?_⟩
  have h1 := h.2 j hj
  rw [List.take_length] at h1
  refine h1.trans ((List.Perm.append_left _ (hd.filter _)).trans ?_)
  have h2 := (filter_split (f := f) (j := j0) T).filter (fun t => decide ((if f t = j0 then g t.due else f t) = j))
  refine List.Perm.trans (List.Perm.of_eq ?_) h2.symm
  rw [List.filter_append, List.filter_filter, List.filter_filter, List.filter_filter]
  congr 1
  · apply List.filter_congr; intro t _
    by_cases e : f t = j0
    · simp [e]
    · simp [e]
  · apply List.filter_congr; intro t _
    by_cases e : f t = j0
    · simp [e]
    · simp [e]
/-- a slot is emptied -/
theorem Lies.empty {f : Tm → Nat} {T : List Tm} {sl : List (List Tm)} (h : Lies f T sl) {j0 : Nat} (h0 : j0 < 32) : Lies f (T.filter fun t => ¬ f t = j0) (sl.set j0 []) := by
  have h1 := Moved.start (g := fun _ => 0) h h0
  refine ⟨h1.1, fun j hj => ?_⟩
  have h2 := h1.2 j hj
  rw [List.take_zero, List.filter_nil, List.append_nil] at h2
  rw [List.filter_filter]
  rw [show T.filter (fun a => decide (f a = j) && decide (¬ f a = j0)) = T.filter (fun t => ¬ f t = j0 ∧ f t = j) from List.filter_congr fun t _ => by by_cases e : f t = j <;> by_cases e2 : f t = j0 <;> simp [e, e2]]
  exact h2
/-- what lies in the slots, one slot behind the other -/
theorem Lies.all {f : Tm → Nat} {T : List Tm} {sl : List (List Tm)} (h : Lies f T sl) (hf : ∀ t ∈ T, f t < 32) : sl.flatten.Perm T := by
  have key : ∀ n, n ≤ 32 → (sl.take n).flatten.Perm (T.filter fun t => f t < n) := by
    intro n
    induction n with
    | zero => intro _; simp
    | succ n ih =>
      intro hn
      have hl : n < sl.length := by rw [h.1]; omega
      rw [List.take_succ_eq_append_getElem hl, List.flatten_append, List.flatten_singleton]
      have e1 := h.2 n (by omega)
      rw [List.getD_eq_getElem?_getD, List.getElem?_eq_getElem hl] at e1
      have e2 : (T.filter fun t => f t < n + 1).Perm ((T.filter fun t => f t < n) ++ T.filter fun t => f t = n) := by
        refine ((filter_split (f := f) (j := n) T).filter _).trans (List.Perm.of_eq ?_)
        rw [List.filter_append, List.filter_filter, List.filter_filter]
        congr 1
        · apply List.filter_congr; intro t _; rw [Bool.eq_iff_iff]; simp; omega
        · apply List.filter_congr; intro t _; rw [Bool.eq_iff_iff]; simp; omega
      exact ((ih (by omega)).append e1).trans e2.symm
  have := key 32 (Nat.le_refl _)
  rwa [List.take_of_length_le (by rw [h.1]; exact Nat.le_refl _), List.filter_eq_self.2 (fun t ht => by simpa using hf t ht)] at this

/-! ### the operations -/
structure WOk (w : Wh) : Prop where
  nd : (w.T.map (·.id)).Nodup
  due : ∀ t ∈ w.T, w.now < t.due ∧ t.due ≤ w.now + 4095
  sq : w.T.Pairwise (fun a b => a.seq < b.seq)
  sb : ∀ t ∈ w.T, t.seq ≤ w.seq
  len : w.T.length ≤ 64
def Wh.get (w : Wh) (id : Int) : Option Tm := w.T.find? (fun t => decide (t.id = id))
def addE (w : Wh) (id d : Int) : Int := if d < 1 ∨ 4095 < d then 1 else if (w.get id).isSome then 3 else if 64 ≤ w.T.length then 4 else 0
def addR (w : Wh) (id d : Int) : Wh := if addE w id d = 0 then ⟨w.now, w.seq + 1, w.T ++ [⟨id, w.now + d.toNat, w.seq + 1⟩]⟩ else w
def cutR (w : Wh) (id : Int) : Wh := { w with T := w.T.filter (fun t => ¬ t.id = id) }
def tickR (w : Wh) : Wh := ⟨w.now + 1, w.seq, w.T.filter (fun t => ¬ t.due = w.now + 1)⟩
def dueL (w : Wh) : List Tm := w.T.filter (fun t => t.due = w.now + 1)
theorem get_some {w : Wh} (h : WOk w) {id : Int} {t : Tm} (ht : t ∈ w.T) (e : t.id = id) : w.get id = some t := by
  have nd := h.nd
  unfold Wh.get
  clear h
  generalize w.T = T at *
  induction T with
  | nil => simp at ht
  | cons u T ih =>
    simp only [List.map_cons, List.nodup_cons] at nd
    rw [List.find?_cons]
    rcases List.mem_cons.1 ht with h1 | h1
    · subst h1; simp [e]
    · have : u.id ≠ id := fun h2 => nd.1 (by rw [h2, ← e]; exact List.mem_map_of_mem h1)
      simp only [this, decide_false]
      exact ih h1 nd.2
theorem get_none {w : Wh} {id : Int} : w.get id = none ↔ ∀ t ∈ w.T, t.id ≠ id := by
  unfold Wh.get; rw [List.find?_eq_none]; simp
theorem get_mem {w : Wh} {id : Int} {t : Tm} (h : w.get id = some t) : t ∈ w.T ∧ t.id = id := by
  unfold Wh.get at h
  exact ⟨List.mem_of_find?_eq_some h, by simpa using List.find?_some h⟩
theorem WOk.cut {w : Wh} (h : WOk w) (id : Int) : WOk (cutR w id) where
  nd := h.nd.sublist ((List.filter_sublist).map _)
  due := fun t ht => h.due t (List.mem_filter.1 ht).1
  sq := h.sq.sublist List.filter_sublist
  sb := fun t ht => h.sb t (List.mem_filter.1 ht).1
  len := Nat.le_trans (List.length_filter_le _ _) h.len
theorem WOk.tick {w : Wh} (h : WOk w) : WOk (tickR w) where
  nd := h.nd.sublist ((List.filter_sublist).map _)
  due := fun t ht => by
    have h1 := List.mem_filter.1 ht
    have h2 := h.due t h1.1
    have h3 : ¬ t.due = w.now + 1 := by simpa using h1.2
    show w.now + 1 < t.due ∧ t.due ≤ w.now + 1 + 4095
    omega
  sq := h.sq.sublist List.filter_sublist
  sb := fun t ht => h.sb t (List.mem_filter.1 ht).1
  len := Nat.le_trans (List.length_filter_le _ _) h.len
theorem addE_0 {w : Wh} {id d : Int} (h : addE w id d = 0) : 1 ≤ d ∧ d ≤ 4095 ∧ w.get id = none ∧ w.T.length < 64 := by
  unfold addE at h; (repeat' split at h) <;> first | omega | (rename_i h1 h2 h3; refine ⟨by omega, by omega, ?_, by omega⟩; simpa using h2)
theorem WOk.add {w : Wh} (h : WOk w) (id d : Int) : WOk (addR w id d) := by
  unfold addR; split
  · rename_i e
    obtain ⟨h1, h2, h3, h4⟩ := addE_0 e
    have h5 := get_none.1 h3
    exact {
      nd := by
        show ((w.T ++ [(⟨id, w.now + d.toNat, w.seq + 1⟩ : Tm)]).map (·.id)).Nodup
        rw [List.map_append, List.nodup_append]
        refine ⟨h.nd, by simp, fun a ha b hb => ?_⟩
        obtain ⟨t, ht, rfl⟩ := List.mem_map.1 ha
        have : b = id := by simpa using hb
        subst this; exact h5 t ht
      due := fun t ht => by
        rcases List.mem_append.1 ht with ht | ht
        · exact h.due t ht
        · have : t = _ := List.mem_singleton.1 ht
          subst this; show w.now < w.now + d.toNat ∧ w.now + d.toNat ≤ w.now + 4095; omega
      sq := by
        show (w.T ++ [_]).Pairwise _
        rw [List.pairwise_append]
        refine ⟨h.sq, by simp, fun a ha b hb => ?_⟩
        have : b = _ := List.mem_singleton.1 hb
        subst this; have := h.sb a ha; show a.seq < w.seq + 1; omega
      sb := fun t ht => by
        rcases List.mem_append.1 ht with ht | ht
        · have := h.sb t ht; show t.seq ≤ w.seq + 1; omega
        · have : t = _ := List.mem_singleton.1 ht
          subst this; exact Nat.le_refl _
      len := by show (w.T ++ [_]).length ≤ 64; simp; omega }
  · exact h
theorem WOk.nil : WOk ⟨0, 0, []⟩ := ⟨by simp, by simp, by simp, by simp, by simp⟩
theorem addE_1 {w : Wh} {id d : Int} (h : d < 1 ∨ 4095 < d) : addE w id d = 1 := by unfold addE; rw [if_pos h]
theorem addE_3 {w : Wh} {id d : Int} (h : ¬ (d < 1 ∨ 4095 < d)) {t : Tm} (h2 : w.get id = some t) : addE w id d = 3 := by unfold addE; rw [if_neg h, h2]; rfl
theorem addE_4 {w : Wh} {id d : Int} (h : ¬ (d < 1 ∨ 4095 < d)) (h2 : w.get id = none) (h3 : 64 ≤ w.T.length) : addE w id d = 4 := by unfold addE; rw [if_neg h, h2, if_pos h3]; rfl
theorem addE_z {w : Wh} {id d : Int} (h : ¬ (d < 1 ∨ 4095 < d)) (h2 : w.get id = none) (h3 : ¬ 64 ≤ w.T.length) : addE w id d = 0 := by unfold addE; rw [if_neg h, h2, if_neg h3]; rfl
theorem addR_ne {w : Wh} {id d : Int} (h : addE w id d ≠ 0) : addR w id d = w := by unfold addR; rw [if_neg h]
theorem cutR_none {w : Wh} {id : Int} (h : w.get id = none) : cutR w id = w := by
  unfold cutR; rw [List.filter_eq_self.2 (fun t ht => by simpa using get_none.1 h t ht)]
theorem dueL_eq {w : Wh} (h : WOk w) : w.T.filter (fun t => posn (w.now + 1) t.due = (w.now + 1) % 8) = dueL w := by
  unfold dueL; apply List.filter_congr; intro t ht
  have := h.due t ht
  rw [Bool.eq_iff_iff, decide_eq_true_eq, decide_eq_true_eq]; exact posn_due (by omega) (by omega)
theorem tickR_eq {w : Wh} (h : WOk w) : w.T.filter (fun t => ¬ posn (w.now + 1) t.due = (w.now + 1) % 8) = (tickR w).T := by
  unfold tickR; apply List.filter_congr; intro t ht
  have := h.due t ht
  rw [Bool.eq_iff_iff, decide_eq_true_eq, decide_eq_true_eq, posn_due (by omega) (by omega)]
theorem shl_r {l : Nat} (h : l ≤ 3) : IntKind.i64.wrap (1 * 2 ^ ((3 * l : Nat) : Int).toNat) = ((2 ^ (3 * l) : Nat) : Int) := by
  rcases (show l = 0 ∨ l = 1 ∨ l = 2 ∨ l = 3 by omega) with rfl | rfl | rfl | rfl <;> decide
/-- how a timer's place changes as levels come down at a tick -/
def FL (now' : Nat) : Nat → Tm → Nat
  | 0 => pass now' 1 8 (pass now' 2 64 (pass now' 3 512 (fun t => posn (now' - 1) t.due)))
  | 1 => pass now' 2 64 (pass now' 3 512 (fun t => posn (now' - 1) t.due))
  | 2 => pass now' 3 512 (fun t => posn (now' - 1) t.due)
  | _ => fun t => posn (now' - 1) t.due
theorem FL_pass {now' l : Nat} (h1 : 1 ≤ l) (h2 : l ≤ 3) : FL now' (l - 1) = pass now' l (2 ^ (3 * l)) (FL now' l) := by
  rcases (show l = 1 ∨ l = 2 ∨ l = 3 by omega) with rfl | rfl | rfl <;> rfl
theorem FL_fresh {now' l : Nat} {t : Tm} (h1 : 1 ≤ l) (h2 : l ≤ 3) (h0 : 0 < now') (hd : now' - 1 < t.due) (hd2 : t.due ≤ now' - 1 + 4095) (h : now' % 2 ^ (3 * l) = 0) (hf : FL now' l t = 8 * l + now' / 2 ^ (3 * l) % 8) : posn now' t.due ≠ 8 * l + now' / 2 ^ (3 * l) % 8 := by
  rcases (show l = 1 ∨ l = 2 ∨ l = 3 by omega) with rfl | rfl | rfl
  · exact fresh1 h0 hd hd2 h hf
  · exact fresh2 h0 hd hd2 h hf
  · exact fresh3 h0 hd hd2 h hf
theorem FL_end {now' : Nat} {t : Tm} (h0 : 0 < now') (hd : now' - 1 < t.due) (hd2 : t.due ≤ now' - 1 + 4095) : FL now' 0 t = posn now' t.due := pass321 h0 hd hd2
/-- a slot's list is short -/
theorem Lies.short {f : Tm → Nat} {T : List Tm} {sl : List (List Tm)} (h : Lies f T sl) {l : List Tm} (hl : l ∈ sl) : l.length ≤ T.length := by
  obtain ⟨j, hj, e⟩ := List.getElem_of_mem hl
  have h1 := h.2 j (by rw [← h.1]; exact hj)
  rw [List.getD_eq_getElem?_getD, List.getElem?_eq_getElem hj, e] at h1
  have h1 : l.Perm _ := h1
  rw [h1.length_eq]; exact List.length_filter_le _ _
theorem Moved.short {f : Tm → Nat} {g : Nat → Nat} {T : List Tm} {j0 : Nat} {down : List Tm} {k : Nat} {sl : List (List Tm)} (h : Moved f g T j0 down k sl) {l : List Tm} (hl : l ∈ sl) : l.length ≤ T.length + down.length := by
  obtain ⟨j, hj, e⟩ := List.getElem_of_mem hl
  have h1 := h.2 j (by rw [← h.1]; exact hj)
  rw [List.getD_eq_getElem?_getD, List.getElem?_eq_getElem hj, e] at h1
  have h1 : l.Perm _ := h1
  rw [h1.length_eq, List.length_append]
  have h2 := List.length_filter_le (fun t => decide (g t.due = j)) (down.take k)
  have h3 := List.length_filter_le (fun t => decide (¬ f t = j0 ∧ f t = j)) T
  have h4 : (down.take k).length ≤ down.length := by rw [List.length_take]; omega
  omega
theorem Lies.at' {f : Tm → Nat} {T : List Tm} {sl : List (List Tm)} (h : Lies f T sl) {j : Nat} {l : List Tm} (hl : sl[j]? = some l) : j < 32 ∧ l.Perm (T.filter fun t => f t = j) := by
  have hj : j < sl.length := (List.getElem?_eq_some_iff.1 hl).1
  have h1 := h.2 j (by rw [← h.1]; exact hj)
  rw [List.getD_eq_getElem?_getD, hl] at h1
  exact ⟨by rw [← h.1]; exact hj, h1⟩
theorem id_inj {T : List Tm} (nd : (T.map (·.id)).Nodup) {u t : Tm} (hu : u ∈ T) (ht : t ∈ T) (e3 : u.id = t.id) : u = t := by
  obtain ⟨a, ha, e4⟩ := List.getElem_of_mem hu
  obtain ⟨b, hb, e5⟩ := List.getElem_of_mem ht
  have hab : a = b := by
    have h6 : (T.map (·.id))[a]? = (T.map (·.id))[b]? := by simp [List.getElem?_map, List.getElem?_eq_getElem ha, List.getElem?_eq_getElem hb, e4, e5, e3]
    exact (List.getElem?_inj (by simpa using ha) nd).1 h6
  subst hab; rw [← e4, ← e5]
/-- one taken out of its slot -/
theorem Lies.cut {f : Tm → Nat} {T : List Tm} {sl : List (List Tm)} (h : Lies f T sl) (nd : (T.map (·.id)).Nodup) {j i : Nat} {l : List Tm} {t : Tm} (hl : sl[j]? = some l) (ht : l[i]? = some t) : Lies f (T.filter fun u => ¬ u.id = t.id) (sl.set j (l.eraseIdx i)) := by
  obtain ⟨hj, hp⟩ := h.at' hl
  have hmem : t ∈ T.filter fun t => f t = j := hp.subset (List.mem_of_getElem? ht)
  have htT := (List.mem_filter.1 hmem).1
  have hfj : f t = j := by simpa using (List.mem_filter.1 hmem).2
  have ndl : (l.map (·.id)).Nodup := (hp.map _).nodup_iff.2 (nd.sublist ((List.filter_sublist).map _))
  refine ⟨by simp [h.1], fun k hk => ?_⟩
  rw [getD_set _ _ _ _ _ (by rw [h.1]; exact hj)]
  by_cases e : k = j
  · subst e
    rw [if_pos rfl, List.filter_filter]
    have e1 : l.eraseIdx i = l.filter fun u => ¬ u.id = t.id := by
      clear hp hl hmem
      induction l generalizing i with
      | nil => simp at ht
      | cons u l ih =>
        simp only [List.map_cons, List.nodup_cons] at ndl
        cases i with
        | zero =>
          simp only [List.getElem?_cons_zero, Option.some.injEq] at ht
          subst ht
          rw [List.eraseIdx_cons_zero, List.filter_cons, if_neg (by simp)]
          exact (List.filter_eq_self.2 fun v hv => by simp; intro e; exact ndl.1 (by rw [← e]; exact List.mem_map_of_mem hv)).symm
        | succ i =>
          simp only [List.getElem?_cons_succ] at ht
          have hne : u.id ≠ t.id := fun e => ndl.1 (by rw [e]; exact List.mem_map_of_mem (List.mem_of_getElem? ht))
          rw [List.eraseIdx_cons_succ, List.filter_cons, if_pos (by simpa using hne), ih ht ndl.2]
    rw [e1]
    refine (hp.filter _).trans (List.Perm.of_eq ?_)
    rw [List.filter_filter]
    apply List.filter_congr; intro u _; simp [Bool.and_comm]
  · rw [if_neg e]
    have h1 := h.2 k hk
    refine h1.trans (List.Perm.of_eq ?_)
    rw [List.filter_filter]
    apply List.filter_congr; intro u hu
    by_cases e2 : f u = k
    · have : u.id ≠ t.id := fun e3 => by
        have : u = t := id_inj nd hu htT e3
        subst this; exact e (e2.symm.trans hfj)
      simp [e2, this]
    · simp [e2]
theorem sorted_one {l m : List Tm} (hp : l.Perm m) (h1 : l.Pairwise (fun a b => a.seq ≤ b.seq)) (h2 : m.Pairwise (fun a b => a.seq < b.seq)) : l = m := by
  refine hp.eq_of_pairwise (le := fun a b => a.seq ≤ b.seq) (fun a b ha hb h3 h4 => ?_) h1 (h2.imp fun h => Nat.le_of_lt h)
  have hb' : b ∈ m := hb
  have ha' : a ∈ m := hp.subset ha
  obtain ⟨i, hi, e1⟩ := List.getElem_of_mem ha'
  obtain ⟨j, hj, e2⟩ := List.getElem_of_mem hb'
  rcases Nat.lt_trichotomy i j with h | h | h
  · have := List.pairwise_iff_getElem.1 h2 i j hi hj h
    rw [e1, e2] at this; omega
  · subst h; rw [← e1, ← e2]
  · have := List.pairwise_iff_getElem.1 h2 j i hj hi h
    rw [e1, e2] at this; omega
end Go.L.Whl
