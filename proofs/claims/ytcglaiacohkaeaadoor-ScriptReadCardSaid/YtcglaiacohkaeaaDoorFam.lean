/-
  Parts of memory in a row: one for each of a list. Own work; it speaks of no program.
-/
import Derived.Test.YtcglaiacohkaeaaDoorMore
set_option linter.unusedSimpArgs false
set_option linter.unusedVariables false
set_option linter.unusedSectionVars false
namespace Go.L
def emp : Assn := fun _ => True
def fam (l : List Assn) : Assn := starL l
theorem emp0 {R : List Assn} : ∀ h, Sat R h → Sat (emp :: R) h := fun h s => ⟨fun _ => none, h, fun _ => .inl rfl, by funext b; simp [join], trivial, s⟩
theorem fam_nil {R : List Assn} : ∀ h, Sat R h → Sat (fam [] :: R) h := emp0
theorem fam_open {l : List Assn} {A : Assn} {i : Nat} {R : List Assn} (e : l[i]? = some A) : ∀ h, Sat (fam l :: R) h → Sat (A :: fam (l.set i emp) :: R) h := by
  intro h s
  replace s := Sat.flat.1 s
  refine Sat.tail (r := l.set i emp ++ R) (fun _ => Sat.flat.2) ?_
  induction l generalizing i h with
  | nil => simp at e
  | cons B l ih =>
    cases i with
    | zero => simp only [List.getElem?_cons_zero, Option.some.injEq] at e; subst e; exact Sat.tail (r := l ++ R) (fun h s => emp0 h s) s
    | succ i =>
      simp only [List.getElem?_cons_succ] at e
      exact Sat.swap (Sat.tail (r := l ++ R) (fun h s => ih e h s) s)
theorem fam_shut {l : List Assn} {A : Assn} {i : Nat} {R : List Assn} (hi : i < l.length) : ∀ h, Sat (A :: fam (l.set i emp) :: R) h → Sat (fam (l.set i A) :: R) h := by
  intro h s
  refine Sat.flat.2 ?_
  replace s : Sat (A :: (l.set i emp ++ R)) h := Sat.tail (fun _ => Sat.flat.1) s
  induction l generalizing i h with
  | nil => simp at hi
  | cons B l ih =>
    cases i with
    | zero => exact Sat.tail (r := emp :: (l ++ R)) (fun h s => Sat.drop s) s
    | succ i => exact Sat.tail (r := A :: (l.set i emp ++ R)) (r' := l.set i A ++ R) (fun h s => ih (by simpa using hi) h s) (Sat.swap s)
theorem fam_add {l : List Assn} {A : Assn} {R : List Assn} : ∀ h, Sat (A :: fam l :: R) h → Sat (fam (l ++ [A]) :: R) h := by
  intro h s
  refine Sat.flat.2 ?_
  replace s : Sat (A :: (l ++ R)) h := Sat.tail (fun _ => Sat.flat.1) s
  induction l generalizing h with
  | nil => exact s
  | cons B l ih => exact Sat.tail (r := A :: (l ++ R)) (r' := l ++ [A] ++ R) (fun h s => ih h s) (Sat.swap s)
theorem fam_set_set (l : List Assn) (i : Nat) (A B : Assn) : (l.set i A).set i B = l.set i B := List.set_set ..
section
variable {P : Program} {W0 : World} {n : Nat} {sl : Slots} {As R R' l : List Assn} {A : Assn} {Q : Exit → Act → World → Prop} {c : Code} {ops : Array Oper} {i : Nat}
theorem fo (s : Sel (fam l) As R) (e : l[i]? = some A) : ∀ h, Sat As h → Sat (A :: fam (l.set i emp) :: R) h := fun h st => fam_open e h (s.to st)
theorem fs (s : Sel A As R) (s2 : Sel (fam (l.set i emp)) R R') (hi : i < l.length) : ∀ h, Sat As h → Sat (fam (l.set i A) :: R') h := fun h st => fam_shut hi h (Sat.tail (fun _ => s2.to) (s.to st))
theorem g_fo (s : Sel (fam l) As R) (e : l[i]? = some A) (h : G P W0 n c sl (A :: fam (l.set i emp) :: R) Q) : G P W0 n c sl As Q := g_imp (fo s e) h
theorem gl_fo {os : List Oper} (s : Sel (fam l) As R) (e : l[i]? = some A) (h : GL P W0 n ops os sl (A :: fam (l.set i emp) :: R) Q) : GL P W0 n ops os sl As Q := gl_imp (fo s e) h
theorem g_fs (i : Nat) (l : List Assn) (A : Assn) (s : Sel A As R) (s2 : Sel (fam (l.set i emp)) R R') (hi : i < l.length) (h : G P W0 n c sl (fam (l.set i A) :: R') Q) : G P W0 n c sl As Q := g_imp (fs s s2 hi) h
theorem gl_fs {os : List Oper} (i : Nat) (l : List Assn) (A : Assn) (s : Sel A As R) (s2 : Sel (fam (l.set i emp)) R R') (hi : i < l.length) (h : GL P W0 n ops os sl (fam (l.set i A) :: R') Q) : GL P W0 n ops os sl As Q := gl_imp (fs s s2 hi) h
end
/-- a result that lies in a cell of its own -/
theorem ret1c {P : Program} {W0 : World} {n : Nat} {sl : Slots} {As R : List Assn} {fn : Func} {post : Value → List Assn → Prop} {e : Exit} (he : e = .ret ∨ e = .normal) {t b off sz : Nat} {T te : TypeId} {l vs : List Value} {fz : Nat × Nat} {u : Obj → List Assn} [i : TAgg P T sz] [j : Owns b As (.cells l.toArray te fz) u] (hf : fn.results = #[.cell t T]) (h1 : slk sl t = some (ptr b off)) (hv : (l.drop off).take sz = vs) (hl : vs.length = sz) (Bs : List Assn) (hp : post (.agg vs.toArray) Bs) (hA : ∀ h, Sat As h → Sat (Bs ++ R) h) :
    GE W0 n sl As (FQ P W0 fn post R e) :=
  fq_ret he (fun a w hs s => by
    obtain ⟨dd, g1, g2⟩ := i.out
    obtain ⟨inf, g3, g4⟩ := i.size
    have hb := s.heap (b := b)
    have hc := run_loadCells_list (P := P) w ⟨b, off, none⟩ vs (fun k v hk => by
      rw [← hv] at hk
      have := take_get hk
      rw [cell_add]; simp [World.cell?, hb, this])
    rw [hl] at hc
    simp [results, hf, hs.val _ _ h1, asAddr, loadVar, rA1 g1 g2, rS g3, g4, hc]) Bs hp hA
/-- a test whose outcome is known -/
theorem o_is {P : Program} {W0 : World} {n : Nat} {sl : Slots} {As : List Assn} {op : Op} {ty : TypeId} {b c : Bool} (h : b = c) (o : OV P W0 n op ty sl As (.bool b)) : OV P W0 n op ty sl As (.bool c) := h ▸ o
theorem fadd {As R R' l : List Assn} {A : Assn} (s : Sel A As R) (s2 : Sel (fam l) R R') : ∀ h, Sat As h → Sat (fam (l ++ [A]) :: R') h := fun h st => fam_add h (Sat.tail (fun _ => s2.to) (s.to st))
theorem o_shl {P : Program} {W0 : World} {n : Nat} {sl : Slots} {As : List Assn} {ty t t' : TypeId} {x y : Operand} {k yk : IntKind} {p q : Int} (r : Int) (hr : k.wrap (p * 2 ^ q.toNat) = r) (hx : opv sl x = some (.int k p)) (hy : opv sl y = some (.int yk q)) (h0 : 0 ≤ q) (h1 : q ≤ k.bits) :
    OV P W0 n (.binOp .shl t x y t') ty sl As (.int k r) := fun a w d pos aft g hs _ => by
  simp only [execOp, hs.eval hx, hs.eval hy]
  simp [eqGuard, binOp_shl, shift_shl k yk p q h0 h1, hr]
theorem o_shr {P : Program} {W0 : World} {n : Nat} {sl : Slots} {As : List Assn} {ty t t' : TypeId} {x y : Operand} {k yk : IntKind} {p q : Int} (r : Int) (hr : p / 2 ^ q.toNat = r) (hx : opv sl x = some (.int k p)) (hy : opv sl y = some (.int yk q)) (h0 : 0 ≤ q) (h1 : q ≤ k.bits) :
    OV P W0 n (.binOp .shr t x y t') ty sl As (.int k r) := fun a w d pos aft g hs _ => by
  simp only [execOp, hs.eval hx, hs.eval hy]
  simp [eqGuard, binOp_shr, shift_shr k yk p q h0 h1, hr]
/-- a list's parts, by a function -/
theorem map_at' {α : Type} {β : Type} {f : α → β} {l : List α} {i : Nat} {x : α} (h : l[i]? = some x) : (l.map f)[i]? = some (f x) := by simp [h]
theorem get_of {α : Type} {l : List α} {i : Nat} (d : α) (h : i < l.length) : l[i]? = some (l.getD i d) := by simp [List.getD_eq_getElem?_getD, List.getElem?_eq_getElem h]
theorem getD_set {α : Type} (L : List α) (i j : Nat) (x d : α) (h : i < L.length) : (L.set i x).getD j d = if j = i then x else L.getD j d := by
  simp only [List.getD_eq_getElem?_getD, List.getElem?_set]
  by_cases e : i = j
  · subst e; simp [h]
  · rw [if_neg e, if_neg (Ne.symm e)]
theorem tmodn (s n : Nat) : (s : Int).tmod n = ((s % n : Nat) : Int) := by rw [Int.tmod_eq_emod_of_nonneg (by omega)]; exact (Int.natCast_emod s n).symm
end Go.L
