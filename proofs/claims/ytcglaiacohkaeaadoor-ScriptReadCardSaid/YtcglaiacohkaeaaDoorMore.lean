/-
  More operations: min, max, slices against nil. Own work; no program.
-/
import Derived.Test.YtcglaiacohkaeaaDoorMap
set_option linter.unusedSimpArgs false
set_option linter.unusedVariables false
set_option linter.unusedSectionVars false
namespace Go.L
section
variable {P : Program} {W0 w : World} {n : Nat} {sl : Slots} {As : List Assn} {ty : TypeId}
theorem o_min {x y : Operand} {ts : Array TypeId} {k : IntKind} {p q : Int} (r : Int) (hr : (if q < p then q else p) = r) (hx : opv sl x = some (.int k p)) (hy : opv sl y = some (.int k q)) : OV P W0 n (.call { callee := .builtin .min, args := #[x, y], argTypes := ts }) ty sl As (.int k r) := fun a w d pos aft g hs s => by
  simp only [execOp, resolve, List.map_toArray, List.map_cons, List.map_nil, hs.eval hx, hs.eval hy]
  subst hr
  simp [invoke, builtin, Builtin.min_, Builtin.min2]
theorem o_max {x y : Operand} {ts : Array TypeId} {k : IntKind} {p q : Int} (r : Int) (hr : (if p < q then q else p) = r) (hx : opv sl x = some (.int k p)) (hy : opv sl y = some (.int k q)) : OV P W0 n (.call { callee := .builtin .max, args := #[x, y], argTypes := ts }) ty sl As (.int k r) := fun a w d pos aft g hs s => by
  simp only [execOp, resolve, List.map_toArray, List.map_cons, List.map_nil, hs.eval hx, hs.eval hy]
  subst hr
  simp [invoke, builtin, Builtin.max_, Builtin.max2]
theorem rEqS {t e : TypeId} (h : P.underlying t = some (.slice e)) (d : Nat) (a : Option Addr) (l c : Nat) (w : World) : (Op.equalIn (d + 1) t (.slice a l c) (.slice none 0 0)).run P w = .ok a.isNone w := by
  cases a <;> simp [Op.equalIn, rU h]
theorem o_eqlSn {t t' : TypeId} {x y : Operand} {a : Option Addr} {l c e sz : Nat} [i : TSlice P t e sz] (hx : opv sl x = some (.slice a l c)) (hy : opv sl y = some (.slice none 0 0)) : OV P W0 n (.binOp .eql t x y t') ty sl As (.bool a.isNone) := fun a w d pos aft g hs _ => by
  obtain ⟨inf, h1, _⟩ := i.out
  simp only [execOp, hs.eval hx, hs.eval hy]
  simp only [binOp]
  simp [eqGuard, Op.equal, Op.maxDepth, rEqS h1 9999]
theorem o_neqSn {t t' : TypeId} {x y : Operand} {a : Option Addr} {l c e sz : Nat} [i : TSlice P t e sz] (hx : opv sl x = some (.slice a l c)) (hy : opv sl y = some (.slice none 0 0)) : OV P W0 n (.binOp .neq t x y t') ty sl As (.bool (!a.isNone)) := fun a w d pos aft g hs _ => by
  obtain ⟨inf, h1, _⟩ := i.out
  simp only [execOp, hs.eval hx, hs.eval hy]
  simp only [binOp]
  simp [eqGuard, Op.equal, Op.maxDepth, rEqS h1 9999]
theorem rds_none {h : Hp} {l c k : Nat} {xs : List Value} [i : RdS (.slice none l c) As k xs] (s : Sat As h) : l = 0 ∧ c = 0 ∧ k = 0 ∧ xs = [] := by
  rcases i.get s with ⟨h1, h2, h3⟩ | ⟨b, off, spot, cap, h1, _⟩
  · cases h1; exact ⟨rfl, rfl, h3, h2⟩
  · cases h1
theorem o_buildS0 {t e : TypeId} {sz bytes : Nat} {zs : List Value} [i : TElem P t e sz bytes zs] : ON P W0 n (.buildSlice t 0 #[]) ty sl As (fun v Bs => ∃ b, v = .slice (some ⟨b, 0, none⟩) 0 0 ∧ Bs = own (.slice (some ⟨b, 0, none⟩) 0 0) e sz 0 [] :: As) := fun a w d pos aft g hs s => by
  obtain ⟨inf, z, h1, h2, h3, h4, h5, h6, h7⟩ := i.out
  refine ⟨_, _, { w with heap := w.heap.push (.cells #[] e (0, 0)) }, ?_, ⟨w.heap.size, rfl, rfl⟩, (s.new _).imp fun _ => Sat.head fun h hh => ⟨by simp, .inr ⟨_, 0, [], rfl, by simp, Nat.le_refl _, by unfold maxLen; omega, hh⟩⟩⟩
  simp [execOp, Instr.buildSlice, rU h1, rS h2, newRow, Instr.fill]
  congr 2; apply Array.eq_empty_of_size_eq_zero; simp
/-- a literal's own room -/
theorem own_lit {b : Nat} {e : TypeId} {sz k : Nat} {xs : List Value} {R : List Assn} (hl : xs.length = k * sz) (h63 : k ≤ maxLen) : ∀ h, Sat (cel b e xs :: R) h → Sat (own (.slice (some ⟨b, 0, none⟩) k k) e sz k xs :: R) h :=
  fun _ => Sat.head fun _ hh => ⟨hl, .inr ⟨b, k, [], rfl, by simpa using hl, Nat.le_refl _, h63, by rw [List.append_nil]; exact hh⟩⟩
/-- what a state says may be used -/
theorem g_fact {Q : Exit → Act → World → Prop} {c : Code} {p : Prop} (f : ∀ h, Sat As h → p) (h : p → G P W0 n c sl As Q) : G P W0 n c sl As Q := fun a w hs st => h (f _ st.sat) a w hs st
theorem gl_fact {Q : Exit → Act → World → Prop} {ops : Array Oper} {os : List Oper} {p : Prop} (f : ∀ h, Sat As h → p) (h : p → GL P W0 n ops os sl As Q) : GL P W0 n ops os sl As Q := fun a w hs st => h (f _ st.sat) a w hs st
theorem ge_fact {F : Act → World → Prop} {p : Prop} (f : ∀ h, Sat As h → p) (h : p → GE W0 n sl As F) : GE W0 n sl As F := fun a w hs st => h (f _ st.sat) a w hs st
end
/-- of a block this one cell is known -/
def fldA (p T k : Nat) (v : Value) : Assn := fun h => ∃ l : List Value, l[k]? = some v ∧ h p = some (.cells l.toArray T (0, 0))
theorem fld_of {p T k : Nat} {v : Value} {l : List Value} {R : List Assn} {h : Hp} (s : Sat (cel p T l :: R) h) (hk : l[k]? = some v) : Sat (fldA p T k v :: R) h := Sat.head (fun _ hh => ⟨l, hk, hh⟩) s
class RdC (b off : Nat) (As : List Assn) (v : outParam Value) : Prop where
  get : ∀ {h : Hp}, Sat As h → ∃ (l : List Value) (T : TypeId) (fz : Nat × Nat), h b = some (.cells l.toArray T fz) ∧ l[off]? = some v
instance RdC.head {b T k : Nat} {v : Value} {r : List Assn} : RdC b k (fldA b T k v :: r) v where
  get := fun ⟨_, _, _, e, ⟨l, hl, hh⟩, _⟩ => ⟨l, T, (0, 0), e ▸ join_some hh, hl⟩
instance RdC.tail {b k : Nat} {v : Value} {A : Assn} {r : List Assn} [i : RdC b k r v] : RdC b k (A :: r) v where
  get := fun s => i.get s.drop
theorem o_loadC {P : Program} {W0 : World} {n : Nat} {sl : Slots} {As : List Assn} {ty t : TypeId} {x : Operand} {b off : Nat} {v : Value} [i : TCell P t] [j : RdC b off As v] (h : opv sl x = some (ptr b off)) : OV P W0 n (.load t x) ty sl As v := fun a w d pos aft g hs s => by
  obtain ⟨d, h1, h2⟩ := i.out
  obtain ⟨l, T, fz, hb, hl⟩ := j.get s.sat
  have hb' : w.heap[b]? = some (.cells l.toArray T fz) := hb
  have hc : w.cell? ⟨b, off, none⟩ = some v := by simp [World.cell?, hb', hl]
  simp only [execOp, hs.eval h]
  simp [Instr.loadAt, Instr.sureAddr, loadVar, rA0 h1 h2, run_load, hc]
instance RdA.own {v : Value} {e : TypeId} {sz n : Nat} {xs : List Value} : RdA v (own v e sz n xs) n xs where
  get s := SlO.rd s
theorem take_ext {X Y : List Int} {k : Nat} (h : X.take k = Y.take k) (hx : k < X.length) (hy : k < Y.length) (e : X.getD k 0 = Y.getD k 0) : X.take (k + 1) = Y.take (k + 1) := by
  rw [List.take_succ_eq_append_getElem hx, List.take_succ_eq_append_getElem hy, h]
  simp only [List.getD_eq_getElem?_getD, List.getElem?_eq_getElem hx, List.getElem?_eq_getElem hy, Option.getD_some] at e
  rw [e]
abbrev I64 (x : Int) : Value := .int .i64 x
abbrev U64 (x : Int) : Value := .int .u64 x
theorem rep_one (z : Value) : ∀ k, rep [z] k = List.replicate k z
  | 0 => rfl
  | k + 1 => by rw [rep, rep_one z k, List.replicate_succ]; rfl
theorem rep_map {α : Type} (f : α → Value) (z : α) (k : Nat) : rep [f z] k = (List.replicate k z).map f := by rw [rep_one, List.map_replicate]
theorem map_at {α : Type} {f : α → Value} {l : List α} {d : α} {i : Nat} (h : i < l.length) : (l.map f)[i * 1]? = some (f (l.getD i d)) := by
  simp [List.getD_eq_getElem?_getD, List.getElem?_eq_getElem h]
theorem map_set1 {α : Type} {f : α → Value} {l : List α} {i : Nat} {x : α} : (l.map f).set (i * 1) (f x) = (l.set i x).map f := by
  rw [Nat.mul_one, List.map_set]
end Go.L
