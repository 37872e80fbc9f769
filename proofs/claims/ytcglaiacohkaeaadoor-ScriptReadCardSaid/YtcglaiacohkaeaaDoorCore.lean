/-
  A small separation logic over the kit's 'Code.wp': heaps in parts, the frame's slots as a list, rules for code. Own work; it speaks of no program.
-/
import Derived.WalkKit
import Derived.StillTail
import Derived.Deep.Quiet
set_option linter.unusedSimpArgs false
set_option linter.unusedVariables false
set_option linter.unusedSectionVars false
namespace Go.L

/-! ## Heaps in parts -/
abbrev Hp := Nat → Option Obj
abbrev Assn := Hp → Prop
def hpOf (w : World) : Hp := fun b => w.heap[b]?
def Disj (h k : Hp) : Prop := ∀ b, h b = none ∨ k b = none
def join (h k : Hp) : Hp := fun b => (h b).or (k b)
def upd (h : Hp) (b : Nat) (o : Obj) : Hp := fun x => if x = b then some o else h x
def Sat : List Assn → Assn
  | [], _ => True
  | A :: r, h => ∃ h1 h2, Disj h1 h2 ∧ h = join h1 h2 ∧ A h1 ∧ Sat r h2
def pts (b : Nat) (o : Obj) : Assn := fun h => h b = some o
/-- a fact that needs no memory -/
def starL (l : List Assn) : Assn := Sat l

theorem Disj.symm {h k : Hp} (d : Disj h k) : Disj k h := fun b => (d b).symm
theorem join_comm {h k : Hp} (d : Disj h k) : join h k = join k h := by
  funext b
  rcases d b with e | e <;> cases h1 : h b <;> cases h2 : k b <;> simp_all [join]
theorem join_assoc (a b c : Hp) : join (join a b) c = join a (join b c) := by
  funext x; cases h : a x <;> simp [join, h]
theorem disj_join {a b c : Hp} : Disj (join a b) c ↔ Disj a c ∧ Disj b c := by
  constructor
  · intro h; constructor <;> intro x <;> rcases h x with e | e
    · left; cases ha : a x <;> simp_all [join]
    · right; exact e
    · left; cases ha : a x <;> simp_all [join]
    · right; exact e
  · intro ⟨h1, h2⟩ x
    rcases h1 x with e | e
    · rcases h2 x with f | f
      · left; simp [join, e, f]
      · right; exact f
    · right; exact e
theorem disj_join' {a b c : Hp} : Disj a (join b c) ↔ Disj a b ∧ Disj a c :=
  ⟨fun h => let ⟨x, y⟩ := disj_join.1 h.symm; ⟨x.symm, y.symm⟩, fun ⟨x, y⟩ => (disj_join.2 ⟨x.symm, y.symm⟩).symm⟩

/-- more memory does no harm -/
theorem Sat.more : ∀ {l : List Assn} {h k : Hp}, Disj h k → Sat l h → Sat l (join h k)
  | [], _, _, _, _ => trivial
  | _ :: _, h, k, d, ⟨h1, h2, d12, e, ha, hr⟩ => by
    subst e
    obtain ⟨d1, d2⟩ := disj_join.1 d
    exact ⟨h1, join h2 k, disj_join'.2 ⟨d12, d1⟩, join_assoc _ _ _, ha, Sat.more d2 hr⟩
theorem Sat.swap {A B : Assn} {r : List Assn} {h : Hp} (s : Sat (A :: B :: r) h) : Sat (B :: A :: r) h := by
  obtain ⟨h1, h2, d, rfl, ha, h3, h4, d', rfl, hb, hr⟩ := s
  obtain ⟨d13, d14⟩ := disj_join'.1 d
  refine ⟨h3, join h1 h4, disj_join'.2 ⟨d13.symm, d'⟩, ?_, hb, h1, h4, d14, rfl, ha, hr⟩
  rw [← join_assoc, join_comm d13, join_assoc]
theorem Sat.tail {A : Assn} {r r' : List Assn} (f : ∀ h, Sat r h → Sat r' h) {h : Hp} (s : Sat (A :: r) h) : Sat (A :: r') h :=
  let ⟨h1, h2, d, e, ha, hr⟩ := s
  ⟨h1, h2, d, e, ha, f _ hr⟩
theorem Sat.head {A B : Assn} {r : List Assn} (f : ∀ h, A h → B h) {h : Hp} (s : Sat (A :: r) h) : Sat (B :: r) h :=
  let ⟨h1, h2, d, e, ha, hr⟩ := s
  ⟨h1, h2, d, e, f _ ha, hr⟩
theorem Sat.drop {A : Assn} {r : List Assn} {h : Hp} (s : Sat (A :: r) h) : Sat r h := by
  obtain ⟨h1, h2, d, rfl, _, hr⟩ := s
  rw [join_comm d]; exact Sat.more d.symm hr
theorem Sat.append : ∀ {l m : List Assn} {h k : Hp}, Disj h k → Sat l h → Sat m k → Sat (l ++ m) (join h k)
  | [], m, h, k, d, _, hm => by rw [join_comm d]; exact Sat.more d.symm hm
  | _ :: l, m, h, k, d, ⟨h1, h2, d12, e, ha, hr⟩, hm => by
    subst e
    obtain ⟨d1, d2⟩ := disj_join.1 d
    exact ⟨h1, join h2 k, disj_join'.2 ⟨d12, d1⟩, join_assoc _ _ _, ha, Sat.append d2 hr hm⟩
theorem Sat.split : ∀ {l m : List Assn} {h : Hp}, Sat (l ++ m) h → ∃ h1 h2, Disj h1 h2 ∧ h = join h1 h2 ∧ Sat l h1 ∧ Sat m h2
  | [], m, h, s => ⟨fun _ => none, h, fun _ => .inl rfl, by funext b; simp [join], trivial, s⟩
  | _ :: l, m, h, ⟨h1, h2, d, e, ha, hr⟩ => by
    obtain ⟨h3, h4, d', rfl, hl, hm⟩ := Sat.split hr
    subst e
    obtain ⟨d3, d4⟩ := disj_join'.1 d
    exact ⟨join h1 h3, h4, disj_join.2 ⟨d4, d'⟩, (join_assoc _ _ _).symm, ⟨h1, h3, d3, rfl, ha, hl⟩, hm⟩
theorem Sat.flat {l r : List Assn} {h : Hp} : Sat (starL l :: r) h ↔ Sat (l ++ r) h :=
  ⟨fun ⟨_, _, d, e, ha, hr⟩ => e ▸ Sat.append d ha hr, fun s => let ⟨h1, h2, d, e, ha, hr⟩ := Sat.split s; ⟨h1, h2, d, e, ha, hr⟩⟩
theorem Sat.ex {α : Type} {A : α → Assn} {r : List Assn} {h : Hp} : Sat ((fun h => ∃ x, A x h) :: r) h ↔ ∃ x, Sat (A x :: r) h :=
  ⟨fun ⟨h1, h2, d, e, ⟨x, ha⟩, hr⟩ => ⟨x, h1, h2, d, e, ha, hr⟩, fun ⟨x, h1, h2, d, e, ha, hr⟩ => ⟨h1, h2, d, e, ⟨x, ha⟩, hr⟩⟩
theorem Sat.pure {p : Prop} {A : Assn} {r : List Assn} {h : Hp} : Sat ((fun h => p ∧ A h) :: r) h ↔ p ∧ Sat (A :: r) h :=
  ⟨fun ⟨h1, h2, d, e, ⟨x, ha⟩, hr⟩ => ⟨x, h1, h2, d, e, ha, hr⟩, fun ⟨x, h1, h2, d, e, ha, hr⟩ => ⟨h1, h2, d, e, ⟨x, ha⟩, hr⟩⟩
theorem Sat.one {A : Assn} {h : Hp} (s : A h) : Sat [A] h := ⟨h, fun _ => none, fun _ => .inr rfl, by funext b; simp [join], s, trivial⟩

/-- 'A' stands in 'l'; 'r' is what is left -/
inductive Sel : Assn → List Assn → List Assn → Prop
  | head {A : Assn} {r : List Assn} : Sel A (A :: r) r
  | tail {A B : Assn} {l r : List Assn} : Sel A l r → Sel A (B :: l) (B :: r)
theorem Sel.to {A : Assn} {l r : List Assn} (s : Sel A l r) : ∀ {h : Hp}, Sat l h → Sat (A :: r) h := by
  induction s with
  | head => exact fun h => h
  | tail _ ih => exact fun h => Sat.swap (Sat.tail (fun _ => ih) h)
theorem Sel.from {A : Assn} {l r : List Assn} (s : Sel A l r) : ∀ {h : Hp}, Sat (A :: r) h → Sat l h := by
  induction s with
  | head => exact fun h => h
  | tail _ ih => exact fun h => Sat.tail (fun _ => ih) (Sat.swap h)
/-- 'm' stands in 'l', in whatever order; 'r' is what is left -/
inductive Part : List Assn → List Assn → List Assn → Prop
  | nil {l : List Assn} : Part [] l l
  | cons {A : Assn} {m l l' r : List Assn} : Sel A l l' → Part m l' r → Part (A :: m) l r
theorem Part.to {m l r : List Assn} (p : Part m l r) : ∀ {h : Hp}, Sat l h → Sat (m ++ r) h := by
  induction p with
  | nil => exact fun h => h
  | cons s _ ih => exact fun h => Sat.tail (fun _ => ih) (s.to h)
theorem Part.from {m l r : List Assn} (p : Part m l r) : ∀ {h : Hp}, Sat (m ++ r) h → Sat l h := by
  induction p with
  | nil => exact fun h => h
  | cons s _ ih => exact fun h => s.from (Sat.tail (fun _ => ih) h)
theorem Part.sub {m l r : List Assn} (p : Part m l r) {h : Hp} (s : Sat l h) : Sat m h := by
  obtain ⟨h1, h2, d, rfl, hm, _⟩ := Sat.split (p.to s); exact Sat.more d hm

/-- what is left over is dropped -/
inductive Drop : List Assn → List Assn → Prop
  | refl {l : List Assn} : Drop l l
  | skip {A : Assn} {l r : List Assn} : Drop l r → Drop (A :: l) r
theorem Drop.sat {l r : List Assn} (d : Drop l r) : ∀ {h : Hp}, Sat l h → Sat r h := by
  induction d with
  | refl => exact fun h => h
  | skip _ ih => exact fun h => ih (Sat.drop h)
/-- 'l' is enough for 'm' -/
inductive To : List Assn → List Assn → Prop
  | nil {l : List Assn} : To l []
  | done {l r : List Assn} : Drop l r → To l r
  | cons {A : Assn} {l l' m : List Assn} : Sel A l l' → To l' m → To l (A :: m)
theorem To.sat {l m : List Assn} (t : To l m) : ∀ h, Sat l h → Sat m h := by
  induction t with
  | nil => exact fun _ _ => trivial
  | done d => exact fun _ h => d.sat h
  | cons s _ ih => exact fun _ h => Sat.tail ih (s.to h)

/-- the same, found -/
theorem tO {l m : List Assn} (t : To l m := by repeat (first | exact .nil | exact .done .refl | (apply To.cons; · (repeat (first | exact .head | apply Sel.tail))) | exact .done (by repeat (first | exact .refl | apply Drop.skip)))) : ∀ h, Sat l h → Sat m h := t.sat
theorem pA {m l r : List Assn} (p : Part m l r := by repeat (first | exact .nil | (apply Part.cons; · (repeat (first | exact .head | apply Sel.tail))))) : Part m l r := p
theorem sE {A : Assn} {l r : List Assn} (s : Sel A l r := by repeat (first | exact .head | apply Sel.tail)) : Sel A l r := s
/-! ## Blocks -/
class Owns (b : Nat) (As : List Assn) (o : outParam Obj) (u : outParam (Obj → List Assn)) : Prop where
  get : ∀ {h : Hp}, Sat As h → h b = some o
  set : ∀ {h : Hp} (o' : Obj), Sat As h → Sat (u o') (upd h b o')
theorem join_some {h1 h2 : Hp} {b : Nat} {o : Obj} (e : h1 b = some o) : join h1 h2 b = some o := by simp [join, e]
theorem upd_join_left {h1 h2 : Hp} {b : Nat} {o o' : Obj} (e : h1 b = some o) (d : Disj h1 h2) : upd (join h1 h2) b o' = join (upd h1 b o') h2 ∧ Disj (upd h1 b o') h2 := by
  have hb : h2 b = none := by rcases d b with x | x; · rw [e] at x; cases x
                              · exact x
  constructor
  · funext x; by_cases hx : x = b <;> simp [upd, join, hx]
  · intro x; by_cases hx : x = b
    · subst hx; right; exact hb
    · rcases d x with y | y
      · left; simp [upd, hx, y]
      · right; exact y
instance Owns.head {b : Nat} {o : Obj} {r : List Assn} : Owns b (pts b o :: r) o (fun o' => pts b o' :: r) where
  get := fun ⟨_, _, _, e, ha, _⟩ => e ▸ join_some ha
  set := fun o' ⟨h1, h2, d, e, ha, hr⟩ => by
    subst e
    obtain ⟨e1, d1⟩ := upd_join_left (o' := o') ha d
    exact ⟨upd h1 b o', h2, d1, e1, by simp [pts, upd], hr⟩
instance Owns.tail {b : Nat} {A : Assn} {r : List Assn} {o : Obj} {u : Obj → List Assn} [i : Owns b r o u] : Owns b (A :: r) o (fun o' => A :: u o') where
  get := fun s => i.get (Sat.drop s)
  set := fun o' ⟨h1, h2, d, e, ha, hr⟩ => by
    subst e
    have hb := i.get hr
    have d' := d.symm
    obtain ⟨e1, d1⟩ := upd_join_left (o' := o') hb d'
    refine ⟨h1, upd h2 b o', d1.symm, ?_, ha, i.set o' hr⟩
    rw [join_comm d, e1, join_comm d1]

/-! ## The world -/
structure St (W0 : World) (As : List Assn) (w : World) : Prop where
  os : w.os = W0.os
  tape : w.tape = W0.tape
  output : w.output = W0.output
  size : W0.heap.size ≤ w.heap.size
  sat : Sat As (hpOf w)
variable {W0 : World} {As Bs : List Assn} {w : World}
theorem St.imp (f : ∀ h, Sat As h → Sat Bs h) (s : St W0 As w) : St W0 Bs w := ⟨s.os, s.tape, s.output, s.size, f _ s.sat⟩
theorem St.drew (s : St W0 As w) : St W0 As { w with drawn := w.drawn + 1 } := ⟨s.os, s.tape, s.output, s.size, s.sat⟩
theorem hpOf_push (w : World) (o : Obj) : hpOf { w with heap := w.heap.push o } = join (fun b => if b = w.heap.size then some o else none) (hpOf w) := by
  funext b
  simp only [hpOf, join, Array.getElem?_push]
  by_cases h : b = w.heap.size <;> simp [h]
theorem St.new (s : St W0 As w) (o : Obj) : St W0 (pts w.heap.size o :: As) { w with heap := w.heap.push o } := by
  refine ⟨s.os, s.tape, s.output, by have := s.size; simp; omega, ?_⟩
  refine ⟨fun b => if b = w.heap.size then some o else none, hpOf w, fun b => ?_, hpOf_push w o, by simp [pts], s.sat⟩
  by_cases h : b = w.heap.size
  · subst h; right; simp [hpOf]
  · left; simp [h]
theorem lt_of_hp {w : World} {b : Nat} {o : Obj} (h : hpOf w b = some o) : b < w.heap.size := by
  rcases Nat.lt_or_ge b w.heap.size with x | x
  · exact x
  · simp [hpOf, Array.getElem?_eq_none x] at h
theorem hpOf_modify {w : World} {b : Nat} {o : Obj} (f : Obj → Obj) (h : hpOf w b = some o) : hpOf { w with heap := w.heap.modify b f } = upd (hpOf w) b (f o) := by
  funext x
  simp only [hpOf, upd, Array.getElem?_modify] at *
  by_cases hx : x = b
  · subst hx; simp [h]
  · rw [if_neg (Ne.symm hx), if_neg hx]
theorem St.modify {b : Nat} {o : Obj} {u : Obj → List Assn} [i : Owns b As o u] (s : St W0 As w) (f : Obj → Obj) : St W0 (u (f o)) { w with heap := w.heap.modify b f } :=
  ⟨s.os, s.tape, s.output, by have := s.size; simpa using this, by rw [hpOf_modify f (i.get s.sat)]; exact i.set _ s.sat⟩
theorem hpOf_set {w : World} {b : Nat} {o : Obj} (o' : Obj) (h : hpOf w b = some o) : hpOf { w with heap := w.heap.setIfInBounds b o' } = upd (hpOf w) b o' := by
  have hb := lt_of_hp h
  funext x
  simp only [hpOf, upd, Array.getElem?_setIfInBounds] at *
  by_cases hx : x = b
  · subst hx; simp [hb]
  · rw [if_neg (Ne.symm hx), if_neg hx]
theorem St.set {b : Nat} {o : Obj} {u : Obj → List Assn} [i : Owns b As o u] (s : St W0 As w) (o' : Obj) : St W0 (u o') { w with heap := w.heap.setIfInBounds b o' } :=
  ⟨s.os, s.tape, s.output, by have := s.size; simpa using this, by rw [hpOf_set o' (i.get s.sat)]; exact i.set _ s.sat⟩
theorem St.heap {b : Nat} {o : Obj} {u : Obj → List Assn} [i : Owns b As o u] (s : St W0 As w) : w.heap[b]? = some o := i.get s.sat

/-! ## Slots -/
abbrev Slots := List (Nat × Value)
def slk : Slots → Nat → Option Value
  | [], _ => none
  | (k, v) :: r, t => cond (Nat.beq k t) (some v) (slk r t)
def opv (sl : Slots) : Operand → Option Value
  | .tmp t => slk sl t
  | .const v => some v
  | .global g => some (.pointer (some ⟨g, 0, none⟩))
  | .func f => some (.func (.func f) #[] #[])
def opvs (sl : Slots) : List Operand → Option (List Value)
  | [] => some []
  | x :: r => match opv sl x, opvs sl r with
    | some v, some vs => some (v :: vs)
    | _, _ => none
structure HasSl (n : Nat) (sl : Slots) (a : Act) : Prop where
  size : a.tmps.size = n
  defers : a.defers = []
  val : ∀ t v, slk sl t = some v → a.tmps[t]? = some v
variable {n : Nat} {sl : Slots} {a : Act}
theorem HasSl.eval {x : Operand} {v : Value} (h : HasSl n sl a) (e : opv sl x = some v) : a.eval x = v := by
  cases x <;> simp only [opv, Option.some.injEq] at e
  · have := h.val _ _ e; simp [Act.eval, Array.getD_eq_getD_getElem?, this]
  · exact e
  · exact e
  · exact e
theorem HasSl.put {d : Nat} (v : Value) (h : HasSl n sl a) (hd : Nat.blt d n = true) : HasSl n ((d, v) :: sl) (a.put (some d) v) := by
  have hd' : d < n := by simpa [Nat.blt_eq] using hd
  refine ⟨by simp [Act.put, h.size], by simp [Act.put, h.defers], fun t u e => ?_⟩
  simp only [slk] at e
  simp only [Act.put, Array.getElem?_setIfInBounds]
  by_cases ht : d = t
  · subst ht
    have : Nat.beq d d = true := Nat.beq_refl d
    rw [this] at e
    simp at e
    simp [h.size, hd', e]
  · have : Nat.beq d t = false := by
      cases hb : Nat.beq d t with
      | false => rfl
      | true => exact absurd (Nat.eq_of_beq_eq_true hb) ht
    rw [this] at e
    rw [if_neg ht]
    exact h.val _ _ e
theorem HasSl.evals {a : Act} {n : Nat} {sl : Slots} (h : HasSl n sl a) : ∀ {xs : List Operand} {vs : List Value}, opvs sl xs = some vs → xs.map a.eval = vs
  | [], vs, e => by simp [opvs] at e; simp [e]
  | x :: r, vs, e => by
    simp only [opvs] at e
    split at e
    · rename_i v vs' e1 e2
      simp at e; subst e
      simp [h.eval e1, HasSl.evals h e2]
    · cases e
/-- slots that are forgotten -/
inductive Keep : Slots → Slots → Prop
  | nil {sl : Slots} : Keep [] sl
  | cons {t : Nat} {v : Value} {r sl : Slots} : slk sl t = some v → Keep r sl → Keep ((t, v) :: r) sl
theorem Keep.val {r sl : Slots} (k : Keep r sl) : ∀ t v, slk r t = some v → slk sl t = some v := by
  induction k with
  | nil => intro t v e; simp [slk] at e
  | @cons t0 v0 r sl e0 _ ih =>
    intro t v e
    simp only [slk] at e
    cases hb : Nat.beq t0 t with
    | true => rw [hb] at e; simp at e; have := Nat.eq_of_beq_eq_true hb; subst this; subst e; exact e0
    | false => rw [hb] at e; simp at e; exact ih _ _ e
theorem HasSl.keep {r : Slots} (h : HasSl n sl a) (k : Keep r sl) : HasSl n r a := ⟨h.size, h.defers, fun _ _ e => h.val _ _ (k.val _ _ e)⟩

end Go.L
