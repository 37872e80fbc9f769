/-
  How great a program is, on paper. Own work; no program.
-/
import Derived.Test.YtgmdlhlmffdbhaaGreatDoorParW
set_option linter.unusedSimpArgs false
set_option linter.unusedVariables false
set_option linter.unusedSectionVars false
namespace Go.L.Pa
open Go.L Go.L.Lx Go.L.Pg
def sm {α : Type} (f : α → Nat) : List α → Nat
  | [] => 0
  | x :: l => f x + sm f l
theorem sm_app {α : Type} (f : α → Nat) : ∀ a b : List α, sm f (a ++ b) = sm f a + sm f b
  | [], b => by show sm f b = 0 + _; omega
  | x :: a, b => by show f x + sm f (a ++ b) = f x + sm f a + _; rw [sm_app f a b]; omega
theorem sm_succ {α : Type} {f : α → Nat} {l : List α} {k : Nat} {x : α} (h : l[k]? = some x) : sm f (l.take (k + 1)) = sm f (l.take k) + f x := by
  obtain ⟨hi, e⟩ := List.getElem?_eq_some_iff.1 h
  rw [List.take_succ_eq_append_getElem hi, e, sm_app]; show _ = _ + _; unfold sm; unfold sm; omega
def nl (s : By) : Nat := min s.length 20000
def effZ (e : Eff) : Nat := 1 + nl e.ref + nl e.slot + nl e.name
def rowZ (r : Row) : Nat := 1 + nl r.tag + sm effZ r.effs
def staZ (s : Sta) : Nat := 1 + nl s.name + sm rowZ s.rows
def casZ (c : Cas) : Nat := 1 + nl c.reason
def kndZ (k : Knd) : Nat := 1 + nl k.name + sm casZ k.cases + sm staZ k.states
theorem dec_len (n : Nat) : ∀ k, n < 10 ^ (k + 1) → (dec n).length ≤ k + 1 := by
  induction n using Nat.strongRecOn with
  | _ n ih =>
    intro k h
    rw [dec]
    split
    · simp
    · rename_i h10
      rw [List.length_append, List.length_singleton]
      cases k with
      | zero => simp at h; omega
      | succ k =>
        have := ih (n / 10) (by omega) k (by rw [Nat.pow_succ] at h; omega)
        omega
theorem itoa_len {n : Int} (h : rg n) : (itoaB n).length ≤ 20 := by
  obtain ⟨h1, h2⟩ := h
  unfold itoaB; split
  · have := dec_len n.natAbs 18 (by omega); rw [List.length_cons]; omega
  · have := dec_len n.toNat 18 (by omega); omega
theorem wl_sm {α : Type} (f : α → List By) : ∀ l : List α, wl (l.flatMap f) = sm (fun x => wl (f x)) l
  | [] => rfl
  | x :: l => by rw [List.flatMap_cons, wl_app, wl_sm f l]; rfl
theorem sm_le {α : Type} {f g : α → Nat} {c N : Nat} : ∀ {l : List α}, (∀ x ∈ l, g x ≤ N → f x ≤ c * g x) → sm g l ≤ N → sm f l ≤ c * sm g l
  | [], _, _ => Nat.le_refl _
  | x :: l, h, hn => by
    have e : sm g (x :: l) = g x + sm g l := rfl
    have e2 : sm f (x :: l) = f x + sm f l := rfl
    rw [e] at hn
    have h1 := h x List.mem_cons_self (by omega)
    have h2 := sm_le (l := l) (fun y hy => h y (List.mem_cons_of_mem _ hy)) (by omega)
    rw [e, e2, Nat.mul_add]; omega
theorem nl_le {s : By} (h : nl s < 20000) : nl s = s.length := by unfold nl at *; omega
theorem verb_len (d : Int) : (verb d).1.length ≤ 10 ∧ (verb d).2.length ≤ 3 := by
  by_cases h : 1 ≤ d ∧ d ≤ 12
  · obtain ⟨i, hi, rfl⟩ : ∃ i : Nat, i < 12 ∧ d = ((i + 1 : Nat) : Int) := ⟨(d - 1).toNat, by omega, by omega⟩
    have : ∀ i < 12, (verb ((i + 1 : Nat) : Int)).1.length ≤ 10 ∧ (verb ((i + 1 : Nat) : Int)).2.length ≤ 3 := by decide
    exact this i hi
  · have : verb d = ([], []) := by
      unfold verb
      rw [if_neg (by omega), if_neg (by omega), if_neg (by omega), if_neg (by omega), if_neg (by omega), if_neg (by omega), if_neg (by omega), if_neg (by omega), if_neg (by omega), if_neg (by omega), if_neg (by omega), if_neg (by omega)]
    rw [this]; decide
/-- a program that isn't great has few words -/
theorem wl_eff {e : Eff} (h : EffR e) (hn : effZ e ≤ 20000) : wl (effWs e) ≤ 200 * effZ e := by
  have h1 := itoa_len h.n; have h2 := itoa_len h.delay
  unfold effZ at *
  have l1 := nl_le (s := e.ref) (by omega); have l2 := nl_le (s := e.slot) (by omega); have l3 := nl_le (s := e.name) (by omega)
  rw [l1, l2, l3] at hn ⊢
  unfold effWs; split
  · exact Nat.zero_le _
  · have hv := verb_len e.do'
    have hval : (valWs e).length ≤ 20 := by unfold valWs; repeat' split
                                            · decide
                                            · decide
                                            · exact h1
    have hp : ∀ c, wl (partWs e c) ≤ 21 + e.ref.length + e.slot.length + e.name.length := fun c => by
      unfold partWs; repeat' split
      all_goals (simp only [wl]; omega)
    have hb : ∀ ps : By, wl (ps.flatMap (partWs e)) ≤ ps.length * (21 + e.ref.length + e.slot.length + e.name.length) := fun ps => by
      induction ps with
      | nil => exact Nat.zero_le _
      | cons c ps ih => rw [List.flatMap_cons, wl_app, List.length_cons, Nat.add_mul]; have := hp c; omega
    have hb2 := hb (verb e.do').2
    have hb3 : (verb e.do').2.length * (21 + e.ref.length + e.slot.length + e.name.length) ≤ 3 * (21 + e.ref.length + e.slot.length + e.name.length) := Nat.mul_le_mul_right _ hv.2
    show (verb e.do').1.length + 1 + wl _ ≤ _
    omega
theorem wl_row {r : Row} (h : RowR r) (hn : rowZ r ≤ 20000) : wl (rowWs r) ≤ 300 * rowZ r := by
  have h1 := itoa_len h.n
  unfold rowZ at *
  have l1 := nl_le (s := r.tag) (by omega)
  have he : wl (effsWs r.effs) ≤ 202 * sm effZ r.effs := by
    unfold effsWs; rw [wl_sm]
    refine sm_le (N := 20000) (fun e he hz => ?_) (by omega)
    have := wl_eff (h.effs e he) hz
    have h1 : 1 ≤ effZ e := by unfold effZ; omega
    rw [wl_app]; show _ + (1 + 1 + 0) ≤ _; omega
  have ht : wl (tagWs r) ≤ 10 + r.tag.length := by unfold tagWs; split <;> simp only [wl, List.length_cons, List.length_nil] <;> omega
  have hm : wl (numWs r) ≤ 21 := by unfold numWs; split <;> simp only [wl] <;> omega
  unfold rowWs; rw [wl_app, wl_app, wl_app, wl_app]
  simp only [wl, List.length_cons, List.length_nil]; omega
theorem wl_sta {s : Sta} (h : ∀ r ∈ s.rows, RowR r) (hn : staZ s ≤ 20000) : wl (staWs s) ≤ 400 * staZ s := by
  unfold staZ at *
  have l1 := nl_le (s := s.name) (by omega)
  have he : wl (s.rows.flatMap rowWs) ≤ 300 * sm rowZ s.rows := by
    rw [wl_sm]; exact sm_le (N := 20000) (fun r hr hz => wl_row (h r hr) hz) (by omega)
  unfold staWs; rw [wl_app, wl_app]
  simp only [wl, List.length_cons, List.length_nil]; omega
theorem wl_cas {c : Cas} (hn : casZ c ≤ 20000) : wl (casWs c) ≤ 400 * casZ c := by
  unfold casZ at *
  have l1 := nl_le (s := c.reason) (by omega)
  have h1 : wl (hdWs c) ≤ 10 + c.reason.length := by unfold hdWs; split <;> simp only [wl, List.length_cons, List.length_nil] <;> omega
  have h2 : wl (dirWs c.do') ≤ 20 := by
    unfold dirWs; split
    · have : ∀ i < 4, (dirs.getD i []).length ≤ 10 := by decide
      have := this (c.do' - 1).toNat (by omega)
      simp only [wl]; omega
    · simp [wl]
  unfold casWs; rw [wl_app, wl_app]
  simp only [wl, List.length_cons, List.length_nil]; omega
theorem wl_knd {k : Knd} (h : KndR k) (hn : kndZ k ≤ 20000) : wl (kndWs k) ≤ 500 * kndZ k := by
  unfold kndZ at *
  have l1 := nl_le (s := k.name) (by omega)
  have hc : wl (k.cases.flatMap casWs) ≤ 400 * sm casZ k.cases := by
    rw [wl_sm]; exact sm_le (N := 20000) (fun r hr hz => wl_cas hz) (by omega)
  have hs : wl (k.states.flatMap staWs) ≤ 400 * sm staZ k.states := by
    rw [wl_sm]; exact sm_le (N := 20000) (fun r hr hz => wl_sta (h.rows r hr) hz) (by omega)
  have i1 := itoa_len h.limit; have i2 := itoa_len h.within
  unfold kndWs topWs; rw [wl_app, wl_app, wl_app]
  simp only [wl, List.length_cons, List.length_nil]; omega
theorem wl_prg {K : List Knd} (h : ∀ k ∈ K, KndR k) (hn : sm kndZ K ≤ 20000) : wl (prgWs K) ≤ 10000000 := by
  unfold prgWs; rw [wl_sm]
  have := sm_le (f := fun x => wl (kndWs x)) (g := kndZ) (c := 500) (N := 20000) (l := K) (fun k hk hz => wl_knd (h k hk) hz) hn
  omega
/-! ### the same, and same again -/
theorem sameL_refl {α : Type} {q : α → α → Bool} (h : ∀ x, q x x = true) : ∀ l, sameL q l l = true
  | [] => rfl
  | x :: l => by unfold sameL; rw [h, sameL_refl h l]; rfl
theorem rowEq_refl (x : Row) : rowEq x x = true := by unfold rowEq; rw [sameL_refl (fun x => by simp)]; simp
theorem staEq_refl (x : Sta) : staEq x x = true := by unfold staEq; rw [sameL_refl rowEq_refl]; simp
theorem kndEq_refl (x : Knd) : kndEq x x = true := by unfold kndEq; rw [sameL_refl staEq_refl, sameL_refl (fun x => by simp)]; simp
theorem same_refl (K : List Knd) : sameL kndEq K K = true := sameL_refl kndEq_refl K
theorem sameL_eq {α β : Type} {q : α → α → Bool} {f : α → β} (h : ∀ x y, q x y = true → f x = f y) : ∀ {l m : List α}, sameL q l m = true → l.map f = m.map f
  | [], [], _ => rfl
  | x :: l, y :: m, e => by
    unfold sameL at e
    rw [Bool.and_eq_true] at e
    rw [List.map_cons, List.map_cons, h x y e.1, sameL_eq h e.2]
  | [], _ :: _, e => by cases e
  | _ :: _, [], e => by cases e
theorem rowEq_eq {x y : Row} (h : rowEq x y = true) : Row.strip x = Row.strip y := by
  unfold rowEq at h
  simp only [Bool.and_eq_true, decide_eq_true_eq, beq_iff_eq] at h
  have := sameL_eq (f := id) (fun a b e => by simpa using e) h.2
  simp only [List.map_id] at this
  unfold Row.strip; rw [h.1.1.1, h.1.1.2, h.1.2, this]
theorem staEq_eq {x y : Sta} (h : staEq x y = true) : Sta.strip x = Sta.strip y := by
  unfold staEq at h
  simp only [Bool.and_eq_true, decide_eq_true_eq] at h
  unfold Sta.strip; rw [h.1, sameL_eq (f := Row.strip) (fun a b e => rowEq_eq e) h.2]
theorem kndEq_eq {x y : Knd} (h : kndEq x y = true) : Knd.strip x = Knd.strip y := by
  unfold kndEq at h
  simp only [Bool.and_eq_true, decide_eq_true_eq] at h
  have h2 := sameL_eq (f := id) (fun a b e => by simpa using e) h.1.2
  simp only [List.map_id] at h2
  unfold Knd.strip; rw [h.1.1.1.1, h.1.1.1.2, h.1.1.2, h2, sameL_eq (f := Sta.strip) (fun a b e => staEq_eq e) h.2]
theorem same_eq {K L : List Knd} (h : sameL kndEq K L = true) : strip K = strip L := sameL_eq (f := Knd.strip) (fun _ _ e => kndEq_eq e) h
theorem eq_same {K L : List Knd} (h : strip K = strip L) : sameL kndEq K L = true := by
  rw [← same_strip, ← h, same_strip]; exact same_refl K
theorem same_iff {K L : List Knd} : sameL kndEq K L = true ↔ strip K = strip L := ⟨same_eq, eq_same⟩
theorem allP_strip (k : Knd) : allP (Knd.strip k) = allP k := by
  unfold allP Knd.strip
  simp only [List.flatMap_map]
  have : ∀ s : Sta, partsS (Sta.strip s) = partsS s := fun s => by unfold partsS Sta.strip; simp only [List.flatMap_map]; rfl
  simp only [this]; rfl
theorem printP_strip (K : List Knd) : printP (strip K) = printP K := by
  unfold printP; rw [prgWs_strip]
  have e : (strip K).all printableP = K.all printableP := by
    unfold strip; rw [List.all_map]; congr 1; funext x; show (!(allP (Knd.strip x)).any badP) = _; rw [allP_strip]; rfl
  rw [e]
  cases progP (joinS (prgWs K)) with
  | error _ => rfl
  | ok K' => show (if sameL kndEq (strip K) K' then _ else _) = _; rw [same_stripL]
theorem KndR.strip {x : Knd} (h : KndR x) : KndR (Knd.strip x) := ⟨h.limit, h.within, fun s hs r hr => by
  obtain ⟨s', hs', rfl⟩ := List.mem_map.1 hs
  obtain ⟨r', hr', rfl⟩ := List.mem_map.1 hr
  have := h.rows s' hs' r' hr'
  exact ⟨this.n, this.effs⟩⟩
theorem all_R {K L : List Knd} (e : strip K = strip L) (h : ∀ k ∈ K, KndR k) : ∀ k ∈ L, KndR k := fun k hk => by
  have : Knd.strip k ∈ strip K := by rw [e]; exact List.mem_map_of_mem hk
  obtain ⟨k', hk', e'⟩ := List.mem_map.1 this
  exact KndR.of_strip (e' ▸ (h k' hk').strip)
end Go.L.Pa
