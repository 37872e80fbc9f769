/-
  The wheel's laws on paper: many ticks, many additions. Own work; no program.
-/
import Derived.Test.YtdfodcofppgajaaWheelP
namespace Go.L.Whl
open Go.L
def tkN : Nat → Wh → Wh
  | 0, w => w
  | n + 1, w => tickR (tkN n w)
def tcnt : Nat → Wh → Nat
  | 0, _ => 0
  | n + 1, w => tcnt n w + (dueL (tkN n w)).length
theorem tkN_ok {w : Wh} (h : WOk w) : ∀ n, WOk (tkN n w)
  | 0 => h
  | n + 1 => (tkN_ok h n).tick
theorem tkN_now (w : Wh) : ∀ n, (tkN n w).now = w.now + n
  | 0 => rfl
  | n + 1 => by show (tkN n w).now + 1 = _; rw [tkN_now w n]; omega
theorem tkN_seq (w : Wh) : ∀ n, (tkN n w).seq = w.seq
  | 0 => rfl
  | n + 1 => by show (tkN n w).seq = _; rw [tkN_seq w n]
theorem filter_two (T : List Tm) (p : Tm → Prop) [DecidablePred p] : (T.filter fun t => p t).length + (T.filter fun t => ¬ p t).length = T.length := by
  induction T with
  | nil => rfl
  | cons t T ih =>
    simp only [List.filter_cons]
    by_cases h : p t
    · simp only [h, decide_true, if_true, not_true, decide_false, Bool.false_eq_true, if_false, List.length_cons]; omega
    · simp only [h, decide_false, Bool.false_eq_true, if_false, not_false_iff, decide_true, if_true, List.length_cons]; omega
theorem tick_len (w : Wh) : (dueL w).length + (tickR w).T.length = w.T.length := filter_two w.T fun t => t.due = w.now + 1
theorem tcnt_len (w : Wh) : ∀ n, tcnt n w + (tkN n w).T.length = w.T.length
  | 0 => Nat.zero_add _
  | n + 1 => by have := tcnt_len w n; have := tick_len (tkN n w); show tcnt n w + (dueL (tkN n w)).length + (tickR (tkN n w)).T.length = _; omega
theorem tkN_T {w : Wh} (h : WOk w) : ∀ n, (tkN n w).T = w.T.filter fun t => w.now + n < t.due
  | 0 => (List.filter_eq_self.2 fun t ht => by have := h.due t ht; simpa using this.1).symm
  | n + 1 => by
    show (tkN n w).T.filter (fun t => ¬ t.due = (tkN n w).now + 1) = _
    rw [tkN_T h n, tkN_now, List.filter_filter]
    apply List.filter_congr; intro t _
    rw [Bool.eq_iff_iff]; simp; omega
theorem dueN {w : Wh} (h : WOk w) (n : Nat) : dueL (tkN n w) = w.T.filter fun t => t.due = w.now + n + 1 := by
  unfold dueL; rw [tkN_T h n, tkN_now, List.filter_filter]
  apply List.filter_congr; intro t _
  rw [Bool.eq_iff_iff]; simp; omega
theorem tkN_nil (n : Nat) (k q : Nat) : tkN n ⟨k, q, []⟩ = ⟨k + n, q, []⟩ := by
  induction n with
  | zero => rfl
  | succ n ih => show tickR (tkN n _) = _; rw [ih]; rfl
theorem get_tick {w : Wh} (h : WOk w) {id : Int} {t : Tm} (hg : w.get id = some t) (hd : t.due ≠ w.now + 1) : (tickR w).get id = some t := by
  obtain ⟨h1, h2⟩ := get_mem hg
  exact get_some h.tick (List.mem_filter.2 ⟨h1, by simpa using hd⟩) h2
theorem get_tkN {w : Wh} (h : WOk w) {id : Int} {t : Tm} (hg : w.get id = some t) : ∀ n, w.now + n < t.due → (tkN n w).get id = some t
  | 0, _ => hg
  | n + 1, hn => get_tick (tkN_ok h n) (get_tkN h hg n (by omega)) (by rw [tkN_now]; omega)
/-- a level never rises; when it falls the digits below are 0 -/
theorem posn_down {now due : Nat} (h1 : now + 1 < due) (h2 : due ≤ now + 4095) : posn (now + 1) due / 8 ≤ posn now due / 8 ∧ (posn (now + 1) due / 8 < posn now due / 8 → (now + 1) % 8 ^ (posn now due / 8) = 0) ∧ posn now due / 8 ≤ 3 := by
  have e0 : posn now due / 8 = 0 ∨ posn now due / 8 = 1 ∨ posn now due / 8 = 2 ∨ posn now due / 8 = 3 := by have := posn_lt now due; omega
  have e1 : posn now due / 8 = if due / 512 ≠ now / 512 then 3 else if due / 64 ≠ now / 64 then 2 else if due / 8 ≠ now / 8 then 1 else 0 := by unfold posn; (repeat' split) <;> omega
  have e2 : posn (now + 1) due / 8 = if due / 512 ≠ (now + 1) / 512 then 3 else if due / 64 ≠ (now + 1) / 64 then 2 else if due / 8 ≠ (now + 1) / 8 then 1 else 0 := by unfold posn; (repeat' split) <;> omega
  rw [e2]
  rcases e0 with e | e | e | e <;> rw [e] at e1 ⊢ <;> simp only [Nat.reducePow] <;> (repeat' split at e1) <;> (repeat' split) <;> omega
/-- timers added one behind the other, none of them there -/
def adds (now : Nat) (d : Nat → Nat) : Nat → List Tm
  | 0 => []
  | n + 1 => adds now d n ++ [⟨(n : Int), now + d n, n + 1⟩]
theorem adds_len (now : Nat) (d : Nat → Nat) : ∀ n, (adds now d n).length = n
  | 0 => rfl
  | n + 1 => by simp [adds, adds_len now d n]
theorem adds_mem {now : Nat} {d : Nat → Nat} {t : Tm} : ∀ {n : Nat}, t ∈ adds now d n ↔ ∃ k : Nat, k < n ∧ t = ⟨(k : Int), now + d k, k + 1⟩
  | 0 => by simp [adds]
  | n + 1 => by
    simp only [adds, List.mem_append, List.mem_singleton, adds_mem (n := n)]
    constructor
    · rintro (⟨k, h1, h2⟩ | h)
      · exact ⟨k, by omega, h2⟩
      · exact ⟨n, by omega, h⟩
    · rintro ⟨k, h1, h2⟩
      rcases Nat.lt_or_ge k n with x | x
      · exact .inl ⟨k, x, h2⟩
      · obtain rfl : k = n := by omega
        exact .inr h2
theorem adds_get {now : Nat} {d : Nat → Nat} {n : Nat} : (Wh.get ⟨now, n, adds now d n⟩ (n : Int)) = none := get_none.2 fun t ht => by
  obtain ⟨k, h1, rfl⟩ := adds_mem.1 ht
  show ((k : Int)) ≠ n; omega
theorem adds_step {now : Nat} {d : Nat → Nat} {n : Nat} (hn : n < 64) (hd : 1 ≤ d n ∧ d n ≤ 4095) : addE ⟨now, n, adds now d n⟩ (n : Int) (d n : Int) = 0 ∧ addR ⟨now, n, adds now d n⟩ (n : Int) (d n : Int) = ⟨now, n + 1, adds now d (n + 1)⟩ := by
  have h : addE ⟨now, n, adds now d n⟩ (n : Int) (d n : Int) = 0 := addE_z (by omega) adds_get (by show ¬ 64 ≤ (adds now d n).length; rw [adds_len]; omega)
  refine ⟨h, ?_⟩
  unfold addR; rw [if_pos h]; simp [adds]
theorem adds_ok {now : Nat} {d : Nat → Nat} (hd : ∀ k, 1 ≤ d k ∧ d k ≤ 4095) : ∀ n, n ≤ 64 → WOk ⟨now, n, adds now d n⟩
  | 0, _ => ⟨by simp [adds], by simp [adds], by simp [adds], by simp [adds], by simp [adds]⟩
  | n + 1, h => by
    have := (adds_ok (now := now) hd n (by omega)).add (n : Int) (d n : Int)
    rw [(adds_step (by omega) (hd n)).2] at this; exact this
/-- how often a number is in a list -/
def occ (l : List Int) (k : Int) : Nat := (l.filter fun x => x = k).length
theorem occ_take {l : List Int} {i : Nat} {x k : Int} (h : l[i]? = some x) : occ (l.take (i + 1)) k = occ (l.take i) k + if x = k then 1 else 0 := by
  obtain ⟨hi, e⟩ := List.getElem?_eq_some_iff.1 h
  unfold occ; rw [List.take_succ_eq_append_getElem hi, e, List.filter_append, List.length_append]
  by_cases hx : x = k <;> simp [hx]
theorem occ_le (l : List Int) (k : Int) : occ l k ≤ l.length := List.length_filter_le _ _
theorem occ_nodup {l : List Int} (nd : l.Nodup) (k : Int) : occ l k = if k ∈ l then 1 else 0 := by
  unfold occ
  induction l with
  | nil => simp
  | cons a l ih =>
    obtain ⟨h1, h2⟩ := List.nodup_cons.1 nd
    rw [List.filter_cons]
    by_cases e : a = k
    · subst e
      have := ih h2
      rw [if_neg h1] at this
      simp [this]
    · simp only [e, decide_false, Bool.false_eq_true, if_false, ih h2, List.mem_cons, Ne.symm e, false_or]
/-- one timer alone -/
def oneW (n d : Nat) (id : Int) : Wh := ⟨n, 1, [⟨id, n + d, 1⟩]⟩
theorem one_add {n d : Nat} {id : Int} (hd : 1 ≤ d ∧ d ≤ 4095) : addE ⟨n, 0, []⟩ id (d : Int) = 0 ∧ addR ⟨n, 0, []⟩ id (d : Int) = oneW n d id := by
  have h : addE ⟨n, 0, []⟩ id (d : Int) = 0 := addE_z (by omega) rfl (show ¬ 64 ≤ 0 by decide)
  refine ⟨h, ?_⟩
  unfold addR; rw [if_pos h]; simp [oneW]
theorem nil_ok (n : Nat) : WOk ⟨n, 0, []⟩ := ⟨by simp, by simp, by simp, by simp, by simp⟩
theorem one_ok {n d : Nat} {id : Int} (hd : 1 ≤ d ∧ d ≤ 4095) : WOk (oneW n d id) := by
  have := (nil_ok n).add id (d : Int)
  rw [(one_add hd).2] at this; exact this
theorem one_get {n d : Nat} {id : Int} (hd : 1 ≤ d ∧ d ≤ 4095) {m : Nat} (h : m < d) : (tkN m (oneW n d id)).get id = some ⟨id, n + d, 1⟩ :=
  get_tkN (one_ok hd) (get_some (one_ok hd) (List.mem_singleton.2 rfl) rfl) m (by show n + m < n + d; omega)
theorem one_due {n d : Nat} {id : Int} (hd : 1 ≤ d ∧ d ≤ 4095) {m : Nat} : dueL (tkN m (oneW n d id)) = if m + 1 = d then [⟨id, n + d, 1⟩] else [] := by
  rw [dueN (one_ok hd)]
  show [(⟨id, n + d, 1⟩ : Tm)].filter (fun t => decide (t.due = n + m + 1)) = _
  by_cases h : m + 1 = d
  · rw [if_pos h, List.filter_cons_of_pos (by simp; omega)]; rfl
  · rw [if_neg h, List.filter_cons_of_neg (by simp; omega)]; rfl
def mx (d : Nat → Nat) : Nat → Nat
  | 0 => 0
  | n + 1 => max (mx d n) (d n)
theorem mx_le {d : Nat → Nat} : ∀ {n k : Nat}, k < n → d k ≤ mx d n
  | n + 1, k, h => by
    simp only [mx]
    rcases Nat.lt_or_ge k n with x | x
    · have := mx_le (d := d) x; omega
    · obtain rfl : k = n := by omega
      omega
theorem mx_b {d : Nat → Nat} (hd : ∀ k, 1 ≤ d k ∧ d k ≤ 4095) : ∀ n, mx d n ≤ 4095
  | 0 => Nat.zero_le _
  | n + 1 => by have := mx_b hd n; have := (hd n).2; simp only [mx]; omega
theorem adds_due {now : Nat} {d : Nat → Nat} {n k : Nat} (hd : ∀ k, 1 ≤ d k ∧ d k ≤ 4095) (hn : n ≤ 64) (hk : k < n) (m : Nat) : occ ((dueL (tkN m ⟨now, n, adds now d n⟩)).map (·.id)) (k : Int) = if d k = m + 1 then 1 else 0 := by
  have ok := adds_ok (now := now) hd n hn
  have nd : ((dueL (tkN m ⟨now, n, adds now d n⟩)).map (·.id)).Nodup := (tkN_ok ok m).nd.sublist ((List.filter_sublist).map _)
  rw [occ_nodup nd]
  have : (k : Int) ∈ (dueL (tkN m ⟨now, n, adds now d n⟩)).map (·.id) ↔ d k = m + 1 := by
    rw [dueN ok, List.mem_map]
    constructor
    · rintro ⟨t, ht, e⟩
      have h1 := List.mem_filter.1 ht
      obtain ⟨j, hj, rfl⟩ := adds_mem.1 h1.1
      have e : ((j : Nat) : Int) = k := e
      obtain rfl : j = k := by omega
      have h2 : now + d j = now + m + 1 := by simpa using h1.2
      omega
    · intro h
      exact ⟨⟨(k : Int), now + d k, k + 1⟩, List.mem_filter.2 ⟨adds_mem.2 ⟨k, hk, rfl⟩, by simp; show now + d k = now + m + 1; omega⟩, rfl⟩
  by_cases h : d k = m + 1
  · rw [if_pos h, if_pos (this.2 h)]
  · rw [if_neg h, if_neg (fun x => h (this.1 x))]
theorem adds_end {now : Nat} {d : Nat → Nat} {n m : Nat} (hd : ∀ k, 1 ≤ d k ∧ d k ≤ 4095) (hn : n ≤ 64) (h : ∀ k, k < n → d k ≤ m) : (tkN m ⟨now, n, adds now d n⟩).T = [] := by
  rw [tkN_T (adds_ok hd n hn), List.filter_eq_nil_iff]
  intro t ht
  obtain ⟨k, hk, rfl⟩ := adds_mem.1 ht
  have := h k hk
  simp; omega
end Go.L.Whl
