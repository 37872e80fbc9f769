/-
  Slices and maps over heaps in parts. Own work; it speaks of no program.
-/
import Derived.Test.YtcglaiacohkaeaaDoorDraw
import Derived.Laws.AppendOwn
import Derived.Laws.MakeOwn
import Derived.Laws.IdiomMaps
set_option linter.unusedSimpArgs false
set_option linter.unusedVariables false
set_option linter.unusedSectionVars false
namespace Go.L
def bOf : Value → Nat
  | .slice (some a) _ _ => a.block
  | _ => 0
def oOf : Value → Nat
  | .slice (some a) _ _ => a.off
  | _ => 0
/-- the address of a cell of a slice -/
def el (v : Value) (m : Nat) : Value := .pointer (some ⟨bOf v, oOf v + m, none⟩)
/-- 'v' is a slice of n elements that reads as 'xs' -/
def SlR (h : Hp) (v : Value) (n : Nat) (xs : List Value) : Prop :=
  (v = .slice none 0 0 ∧ xs = [] ∧ n = 0) ∨ ∃ b off spot cap, v = .slice (some ⟨b, off, spot⟩) n cap ∧ (0 < n → spot = none) ∧ (∀ j x, xs[j]? = some x → spot = none ∧ ∃ cs e fz, h b = some (.cells cs e fz) ∧ cs[off + j]? = some x)
/-- 'v' is a slice whose room is its own -/
def SlO (h : Hp) (v : Value) (e : TypeId) (sz n : Nat) (xs : List Value) : Prop :=
  xs.length = n * sz ∧ ((v = .slice none 0 0 ∧ n = 0) ∨ ∃ b cap sp, v = .slice (some ⟨b, 0, none⟩) n cap ∧ (xs ++ sp).length = cap * sz ∧ n ≤ cap ∧ cap ≤ maxLen ∧ h b = some (.cells (xs ++ sp).toArray e (0, 0)))
def own (v : Value) (e : TypeId) (sz n : Nat) (xs : List Value) : Assn := fun h => SlO h v e sz n xs
/-- all that was there -/
def base (W : World) : Assn := fun h => ∀ b, b < W.heap.size → h b = W.heap[b]?
class InS (W : World) (v : Value) (n : outParam Nat) (xs : outParam (List Value)) : Prop where
  out : SlR (hpOf W) v n xs
class RdS (v : Value) (As : List Assn) (n : outParam Nat) (xs : outParam (List Value)) : Prop where
  get : ∀ {h : Hp}, Sat As h → SlR h v n xs
class OwS (v : Value) (As : List Assn) (e : outParam TypeId) (sz n : outParam Nat) (xs : outParam (List Value)) (u : outParam (List Value → List Assn)) : Prop where
  get : ∀ {h : Hp}, Sat As h → SlO h v e sz n xs
  set : ∀ {h : Hp} {b cap : Nat} {sp : List Value} (ys : List Value), Sat As h → v = .slice (some ⟨b, 0, none⟩) n cap → h b = some (.cells (xs ++ sp).toArray e (0, 0)) → ys.length = xs.length → Sat (u ys) (upd h b (.cells (ys ++ sp).toArray e (0, 0)))
theorem SlR.imp {h k : Hp} {v : Value} {n : Nat} {xs : List Value} (s : SlR h v n xs) (f : ∀ b o, h b = some o → k b = some o) : SlR k v n xs := by
  rcases s with s | ⟨b, off, spot, cap, h1, h2, h3⟩
  · exact .inl s
  · exact .inr ⟨b, off, spot, cap, h1, h2, fun j x hx => let ⟨h4, cs, e, fz, h5, h6⟩ := h3 j x hx; ⟨h4, cs, e, fz, f _ _ h5, h6⟩⟩
theorem SlR.more {h k : Hp} {v : Value} {n : Nat} {xs : List Value} (s : SlR h v n xs) : SlR (join h k) v n xs := s.imp fun _ _ e => join_some e
theorem SlO.rd {h : Hp} {v : Value} {e : TypeId} {sz n : Nat} {xs : List Value} (s : SlO h v e sz n xs) : SlR h v n xs := by
  obtain ⟨hl, s | ⟨b, cap, sp, h1, h2, h3, h4, h5⟩⟩ := s
  · obtain ⟨s1, rfl⟩ := s; exact .inl ⟨s1, List.eq_nil_of_length_eq_zero (by simpa using hl), rfl⟩
  · refine .inr ⟨b, 0, none, cap, h1, fun _ => rfl, fun j x hx => ⟨rfl, _, e, _, h5, ?_⟩⟩
    have hj := (List.getElem?_eq_some_iff.1 hx).1
    simp [List.getElem?_append_left hj, hx]
theorem SlO.more {h k : Hp} {v : Value} {e : TypeId} {sz n : Nat} {xs : List Value} (s : SlO h v e sz n xs) : SlO (join h k) v e sz n xs := by
  obtain ⟨hl, s | ⟨b, cap, sp, h1, h2, h3, h4, h5⟩⟩ := s
  · exact ⟨hl, .inl s⟩
  · exact ⟨hl, .inr ⟨b, cap, sp, h1, h2, h3, h4, join_some h5⟩⟩
instance RdS.own {v : Value} {e : TypeId} {sz n : Nat} {xs : List Value} {r : List Assn} : RdS v (own v e sz n xs :: r) n xs where
  get := fun ⟨_, _, _, e, ha, _⟩ => e ▸ (SlO.rd ha).more
instance RdS.tail {v : Value} {A : Assn} {n : Nat} {xs : List Value} {r : List Assn} [i : RdS v r n xs] : RdS v (A :: r) n xs where
  get := fun s => i.get (Sat.drop s)
/-- what one part of memory lets be read -/
class RdA (v : Value) (A : Assn) (n : outParam Nat) (xs : outParam (List Value)) : Prop where
  get : ∀ {h : Hp}, A h → SlR h v n xs
instance RdS.part {v : Value} {A : Assn} {n : Nat} {xs : List Value} {r : List Assn} [i : RdA v A n xs] : RdS v (A :: r) n xs where
  get := fun ⟨_, _, _, e, ha, _⟩ => e ▸ (i.get ha).more
instance RdA.base {W : World} {v : Value} {n : Nat} {xs : List Value} [i : InS W v n xs] : RdA v (base W) n xs where
  get := fun ha => i.out.imp fun b o e => by rw [ha b (lt_of_hp e)]; exact e
instance RdS.nil {As : List Assn} : RdS (.slice none 0 0) As 0 [] where
  get := fun _ => .inl ⟨rfl, rfl, rfl⟩
/-- a fresh literal -/
instance RdS.lit {b n cap : Nat} {e : TypeId} {xs : List Value} {r : List Assn} : RdS (.slice (some ⟨b, 0, none⟩) n cap) (cel b e xs :: r) n xs where
  get := fun ⟨_, _, _, e1, ha, _⟩ => e1 ▸ .inr ⟨b, 0, none, cap, rfl, fun _ => rfl, fun j x hx => ⟨rfl, xs.toArray, e, (0, 0), join_some ha, by simpa using hx⟩⟩
instance OwS.head {v : Value} {e : TypeId} {sz n : Nat} {xs : List Value} {r : List Assn} : OwS v (own v e sz n xs :: r) e sz n xs (fun ys => own v e sz n ys :: r) where
  get := fun ⟨_, _, _, e, ha, _⟩ => e ▸ SlO.more ha
  set := fun {_ b cap sp} ys ⟨h1, h2, d, e0, ha, hr⟩ hv hb hl => by
    subst e0
    obtain ⟨hl', s | ⟨b', cap', sp', k1, k2, k3, k4, k5⟩⟩ := ha
    · rw [s.1] at hv; cases hv
    · have : b' = b := by rw [k1] at hv; simp only [Value.slice.injEq, Option.some.injEq, Addr.mk.injEq] at hv; exact hv.1.1
      subst this
      have hh : (xs ++ sp').toArray = (xs ++ sp).toArray := by
        have := join_some (h2 := h2) k5
        rw [hb] at this; simp only [Option.some.injEq, Obj.cells.injEq] at this; exact this.1.symm
      have hsp : sp' = sp := by
        have := congrArg Array.toList hh; simpa using this
      subst hsp
      obtain ⟨e1, d1⟩ := upd_join_left (o' := .cells (ys ++ sp').toArray e (0, 0)) k5 d
      exact ⟨_, h2, d1, e1, ⟨by rw [hl, hl'], .inr ⟨b', cap', sp', k1, by rw [List.length_append, hl, ← List.length_append]; exact k2, k3, k4, by simp [upd]⟩⟩, hr⟩
instance OwS.tail {v : Value} {A : Assn} {e : TypeId} {sz n : Nat} {xs : List Value} {r : List Assn} {u : List Value → List Assn} [i : OwS v r e sz n xs u] : OwS v (A :: r) e sz n xs (fun ys => A :: u ys) where
  get := fun s => i.get (Sat.drop s)
  set := fun {_ b cap sp} ys ⟨h1, h2, d, e0, ha, hr⟩ hv hb hl => by
    subst e0
    have hb2 : h2 b = some (.cells (xs ++ sp).toArray e (0, 0)) := by
      obtain ⟨_, s | ⟨b', cap', sp', k1, _, _, _, k5⟩⟩ := i.get hr
      · rw [s.1] at hv; cases hv
      · have : b' = b := by rw [k1] at hv; simp only [Value.slice.injEq, Option.some.injEq, Addr.mk.injEq] at hv; exact hv.1.1
        subst this
        have := join_some (h2 := h1) k5
        rw [join_comm d.symm] at this
        rw [hb] at this
        rw [k5, ← this]
    obtain ⟨e1, d1⟩ := upd_join_left (o' := .cells (ys ++ sp).toArray e (0, 0)) hb2 d.symm
    refine ⟨h1, _, d1.symm, ?_, ha, i.set ys hr hv hb2 hl⟩
    rw [join_comm d, e1, join_comm d1]

theorem own_nil {e : TypeId} {sz : Nat} {A : Assn} {R : List Assn} : ∀ h, Sat (A :: R) h → Sat (A :: own (.slice none 0 0) e sz 0 [] :: R) h := fun _ s =>
  Sat.tail (r := R) (r' := own (.slice none 0 0) e sz 0 [] :: R) (fun h s => ⟨fun _ => none, h, fun _ => .inl rfl, by funext b; simp [join], ⟨by simp, .inl ⟨rfl, rfl⟩⟩, s⟩) s
theorem own_nil0 {e : TypeId} {sz : Nat} {R : List Assn} : ∀ h, Sat R h → Sat (own (.slice none 0 0) e sz 0 [] :: R) h := fun h s =>
  ⟨fun _ => none, h, fun _ => .inl rfl, by funext b; simp [join], ⟨by simp, .inl ⟨rfl, rfl⟩⟩, s⟩
theorem SlO.form {h : Hp} {v : Value} {e : TypeId} {sz n : Nat} {xs : List Value} (s : SlO h v e sz n xs) : ∃ a cap, v = .slice a n cap := by
  obtain ⟨_, ⟨rfl, rfl⟩ | ⟨b, cap, _, rfl, _⟩⟩ := s
  · exact ⟨_, _, rfl⟩
  · exact ⟨_, _, rfl⟩
section
variable {P : Program} {W0 w : World} {n : Nat} {sl : Slots} {As : List Assn} {ty : TypeId}

theorem o_len {x : Operand} {t : TypeId} {v : Value} {k e sz : Nat} {xs : List Value} [i : TSlice P t e sz] [r : RdS v As k xs] (h : opv sl x = some v) : OV P W0 n (.call { callee := .builtin .len, args := #[x], argTypes := #[t] }) ty sl As (.int .i64 k) := fun a w d pos aft g hs s => by
  obtain ⟨inf, h1, h2, h3⟩ := i.out
  simp only [execOp, resolve, List.map_toArray, List.map_cons, List.map_nil, hs.eval h]
  rcases r.get s.sat with ⟨rfl, _, rfl⟩ | ⟨b, off, spot, cap, rfl, _, _⟩ <;> simp [invoke, builtin, Builtin.len_, rU h1, goInt]
theorem o_idxS {x y : Operand} {t : TypeId} {v : Value} {j k e sz : Nat} {kk : IntKind} {xs : List Value} [i : TSlice P t e sz] [r : RdS v As k xs] (h : opv sl x = some v) (hy : opv sl y = some (.int kk (j : Int))) (hj : j < k) : OV P W0 n (.indexAddr t x y) ty sl As (el v (j * sz)) := fun a w d pos aft g hs s => by
  obtain ⟨inf, h1, h2, h3⟩ := i.out
  simp only [execOp, hs.eval h, hs.eval hy]
  rcases r.get s.sat with ⟨_, _, rfl⟩ | ⟨b, off, spot, cap, rfl, hsp, _⟩
  · omega
  · obtain rfl := hsp (by omega)
    have h0 : (0 : Int) ≤ j ∧ (j : Int) < k := by omega
    simp [Instr.indexAt, asIntOf, rU h1, rS h2, h3, hj, el, bOf, oOf, Addr.add]
theorem o_idxA {x y : Operand} {t : TypeId} {b o j len sz : Nat} {kk : IntKind} [i : TArr P t len sz] (h : opv sl x = some (ptr b o)) (hy : opv sl y = some (.int kk (j : Int))) (hj : j < len) : OV P W0 n (.indexAddr t x y) ty sl As (ptr b (o + j * sz)) := fun a w d pos aft g hs s => by
  obtain ⟨e, inf, h1, h2, h3⟩ := i.out
  simp only [execOp, hs.eval h, hs.eval hy]
  simp [Instr.indexAt, Instr.sureAddr, asIntOf, rU h1, rS h2, h3, hj, Addr.add]
theorem o_nilS {x : Operand} {v : Value} {m : Nat} (h : opv sl x = some (el v m)) : OV P W0 n (.nilCheck x) ty sl As (el v m) := o_nil h
theorem o_fldS {s : TypeId} {x : Operand} {v : Value} {f m off : Nat} [i : TFld P s f off] (h : opv sl x = some (el v m)) : OV P W0 n (.fieldAddr s x f) ty sl As (el v (m + off)) := by
  have := o_fld (P := P) (W0 := W0) (n := n) (ty := ty) (As := As) (s := s) (f := f) (i := i) (x := x) (b := bOf v) (o := oOf v + m) h
  rw [show el v (m + off) = ptr (bOf v) (oOf v + m + off) by simp [el, Nat.add_assoc]]; exact this
theorem cell_S {v : Value} {k m : Nat} {xs : List Value} {x : Value} (h : SlR (hpOf w) v k xs) (hx : xs[m]? = some x) : w.cell? ⟨bOf v, oOf v + m, none⟩ = some x := by
  rcases h with ⟨_, rfl, _⟩ | ⟨b, off, spot, cap, rfl, _, h3⟩
  · simp at hx
  · obtain ⟨_, cs, e, fz, h2, h4⟩ := h3 _ _ hx
    have hb : w.heap[b]? = _ := h2
    simp [bOf, oOf, World.cell?, hb, h4]
theorem o_loadS {t : TypeId} {x : Operand} {v y : Value} {m k : Nat} {xs : List Value} [i : TCell P t] [r : RdS v As k xs] (h : opv sl x = some (el v m)) (hy : xs[m]? = some y) : OV P W0 n (.load t x) ty sl As y := fun a w d pos aft g hs s => by
  obtain ⟨dd, h1, h2⟩ := i.out
  have hc := cell_S (r.get s.sat) hy
  simp only [execOp, hs.eval h]
  simp [el, Instr.loadAt, Instr.sureAddr, loadVar, rA0 h1 h2, run_load, hc]
theorem o_loadSA {t : TypeId} {x : Operand} {v : Value} {m k sz : Nat} {xs vs : List Value} [i : TAgg P t sz] [r : RdS v As k xs] (h : opv sl x = some (el v m)) (hv : (xs.drop m).take sz = vs) (hl : vs.length = sz) : OV P W0 n (.load t x) ty sl As (.agg vs.toArray) := fun a w d pos aft g hs s => by
  obtain ⟨dd, h1, h2⟩ := i.out
  obtain ⟨inf, h3, h4⟩ := i.size
  have hc := run_loadCells_list (P := P) w ⟨bOf v, oOf v + m, none⟩ vs (fun k v hk => by
    rw [← hv] at hk
    have := cell_S (r.get s.sat) (take_get hk)
    rw [cell_add]; rw [Nat.add_assoc]; exact this)
  simp only [execOp, hs.eval h]
  simp [el, Instr.loadAt, Instr.sureAddr, loadVar, rA1 h1 h2, rS h3, h4]
  rw [hl] at hc
  simp [hc]
theorem oneCell_cells {v : Value} (h1 : v.oneCell' = true) : v.cells = #[v] := by cases v <;> simp [Value.oneCell'] at h1 <;> rfl
theorem o_storeS {t : TypeId} {x y : Operand} {v z : Value} {m k e sz : Nat} {xs : List Value} {u : List Value → List Assn} [i : TCell P t] [r : OwS v As e sz k xs u] (h : opv sl x = some (el v m)) (hy : opv sl y = some z) (h1 : z.oneCell' = true) (hm : m < xs.length) :
    OU P W0 n (.store t x y) ty sl As (u (xs.set m z)) := fun a w d pos aft g hs s => by
  obtain ⟨inf, h3, h4⟩ := i.size
  obtain ⟨hl, ⟨rfl, rfl⟩ | ⟨b, cap, sp, hv, k2, k3, k4, k5⟩⟩ := r.get s.sat
  · simp at hl; subst hl; simp at hm
  · have hb : w.heap[b]? = _ := k5
    have hm' : m < (xs ++ sp).length := by simp; omega
    have hc : ∃ c, w.cell? ⟨b, m, none⟩ = some c := ⟨(xs ++ sp)[m], by simp only [World.cell?, hb]; simp [List.getElem?_eq_getElem hm']⟩
    obtain ⟨c, hc⟩ := hc
    have hf : w.frozen? ⟨b, m, none⟩ = false := by simp [World.frozen?, hb]
    refine ⟨w.setCell ⟨b, m, none⟩ z, ?_, ?_⟩
    · simp only [execOp, hs.eval h, hs.eval hy]
      simp [hv, el, bOf, oOf, Instr.storeAt, Instr.sureAddr, storeVar, rS h3, h4, oneCell_cells h1, storeCells, Addr.add, run_store, h1, stored, hc, hf]
    · have h6 := r.set (xs.set m z) s.sat hv k5 (by simp)
      refine ⟨s.os, s.tape, s.output, by have := s.size; simpa [World.setCell] using this, ?_⟩
      have : hpOf (w.setCell ⟨b, m, none⟩ z) = upd (hpOf w) b (.cells (xs.set m z ++ sp).toArray e (0, 0)) := by
        unfold World.setCell; rw [hpOf_modify _ k5]; simp [List.set_append_left _ _ hm]
      rw [this]; exact h6
theorem splice_take : ∀ (cs l : List Value) (off : Nat), off + cs.length ≤ l.length → splice l off cs = l.take off ++ cs ++ l.drop (off + cs.length)
  | [], l, off, _ => by simp [splice]
  | c :: cs, l, off, h => by
    simp only [List.length_cons] at h
    rw [splice, splice_take cs _ (off + 1) (by simp; omega)]
    have h1 : off < l.length := by omega
    have h2 : (l.set off c).take (off + 1) = l.take off ++ [c] := by
      rw [List.take_succ_eq_append_getElem (by simpa using h1), List.take_set_of_le (Nat.le_refl _), List.getElem_set_self]
    rw [h2, List.drop_set_of_lt (by omega)]
    rw [show off + (c :: cs).length = off + 1 + cs.length by simp; omega]
    simp
theorem St.setRow {g : Nat} {o : Obj} {u : Obj → List Assn} [i : Owns g As o u] (s : St W0 As w) {cur row : Array Value} {e : TypeId} (ho : o = .cells cur e (0, 0)) : St W0 (u (.cells row e (0, 0))) (w.setRow g row) := by
  have h := i.get s.sat
  refine ⟨s.os, s.tape, s.output, by have := s.size; simpa [World.setRow] using this, ?_⟩
  have : hpOf (w.setRow g row) = upd (hpOf w) g (.cells row e (0, 0)) := by
    unfold World.setRow; rw [hpOf_modify _ h]; rw [ho]
  rw [this]; exact i.set _ s.sat
/-- a whole struct is stored -/
theorem o_storeA {t : TypeId} {x y : Operand} {b off sz : Nat} {e : TypeId} {l vs : List Value} {u : Obj → List Assn} [i : TAgg P t sz] [j : Owns b As (.cells l.toArray e (0, 0)) u] (h : opv sl x = some (ptr b off)) (hv : opv sl y = some (.agg vs.toArray)) (h1 : vs.all Value.oneCell' = true) (hs' : vs.length = sz) (hl : Nat.ble (off + vs.length) l.length = true) :
    OU P W0 n (.store t x y) ty sl As (u (.cells (splice l off vs).toArray e (0, 0))) := fun a w d pos aft g hs s => by
  obtain ⟨inf, h3, h4⟩ := i.size
  have hb := s.heap (b := b)
  have hl' := Nat.le_of_ble_eq_true hl
  have hst := run_storeCells_at P b off e vs 0 l.toArray w hb (by simpa using hl') (fun x hx => List.all_eq_true.1 h1 x hx)
  refine ⟨_, ?_, s.setRow (g := b) (row := (splice l off vs).toArray) rfl⟩
  simp only [execOp, hs.eval h, hs.eval hv]
  rw [splice_take _ _ _ hl']
  simp [Instr.storeAt, Instr.sureAddr, storeVar, rS h3, h4, Value.cells, hs']
  simp [hst, hs']
/-- a whole struct is stored into a slice -/
theorem o_storeSA {t : TypeId} {x y : Operand} {v : Value} {m k e sz sz2 : Nat} {xs vs : List Value} {u : List Value → List Assn} [i : TAgg P t sz2] [r : OwS v As e sz k xs u] (h : opv sl x = some (el v m)) (hy : opv sl y = some (.agg vs.toArray)) (h1 : vs.all Value.oneCell' = true) (hs' : vs.length = sz2) (hm : m + vs.length ≤ xs.length) (h0 : 0 < vs.length) :
    OU P W0 n (.store t x y) ty sl As (u (splice xs m vs)) := fun a w d pos aft g hs s => by
  obtain ⟨inf, h3, h4⟩ := i.size
  obtain ⟨hl, ⟨rfl, rfl⟩ | ⟨b, cap, sp, hv, k2, k3, k4, k5⟩⟩ := r.get s.sat
  · have : xs.length = 0 := by simpa using hl
    omega
  · have hb : w.heap[b]? = _ := k5
    have hst := run_storeCells_at P b m e vs 0 (xs ++ sp).toArray w hb (by simp; omega) (fun x hx => List.all_eq_true.1 h1 x hx)
    have h6 := r.set (splice xs m vs) s.sat hv k5 (splice_length _ _ _)
    have e0 : ((xs ++ sp).toArray.toList.take (m + 0) ++ vs ++ (xs ++ sp).toArray.toList.drop (m + 0 + vs.length)) = splice xs m vs ++ sp := by
      rw [splice_take _ _ _ hm]
      simp [List.take_append_of_le_length (show m ≤ xs.length by omega), List.drop_append_of_le_length hm]
    rw [e0] at hst
    refine ⟨w.setRow b (splice xs m vs ++ sp).toArray, ?_, s.os, s.tape, s.output, by have := s.size; simpa [World.setRow] using this, ?_⟩
    · simp only [execOp, hs.eval h, hs.eval hy]
      simp [hv, el, bOf, oOf, Instr.storeAt, Instr.sureAddr, storeVar, rS h3, h4, Value.cells, hs']
      simp [hst]
    · have e2 : hpOf (w.setRow b (splice xs m vs ++ sp).toArray) = upd (hpOf w) b (.cells (splice xs m vs ++ sp).toArray e (0, 0)) := by
        unfold World.setRow; rw [hpOf_modify _ k5]
      rw [e2]; exact h6
/-- a slice written out -/
def fillS (sz : Nat) (l : List Value) : List (Nat × Value) → Option (List Value)
  | [] => some l
  | (i, v) :: r => match v.cells.toList with
      | cs => cond (Nat.beq cs.length sz && Nat.ble (i * sz + cs.length) l.length) (fillS sz (splice l (i * sz) cs) r) none
theorem fillS_eq (sz : Nat) : ∀ (ps : List (Nat × Value)) (l cs : List Value), fillS sz l ps = some cs → Instr.fill (fun i => some (i * sz, sz)) l.toArray ps = some cs.toArray
  | [], l, cs, h => by simp [fillS] at h; simp [Instr.fill, h]
  | (i, v) :: r, l, cs, h => by
    simp only [fillS] at h
    simp only [Instr.fill]
    cases hb : (Nat.beq v.cells.toList.length sz && Nat.ble (i * sz + v.cells.toList.length) l.length) with
    | false => rw [hb] at h; cases h
    | true =>
      rw [hb] at h
      simp only [Bool.and_eq_true, Nat.ble_eq] at hb
      simp only [cond_true] at h
      have h1 : v.cells.size = sz := by have := Nat.eq_of_beq_eq_true hb.1; simpa using this
      have h2 : i * sz + v.cells.size ≤ l.length := by simpa using hb.2
      rw [if_neg (by simp [h1]; omega)]
      have h3 := splice_eq v.cells.toList l (i * sz) 0
      have h4 : (v.cells.zipIdx.foldl (fun cs (x : Value × Nat) => cs.setIfInBounds (i * sz + x.2) x.1) l.toArray) = (splice l (i * sz) v.cells.toList).toArray := by
        rw [← Array.foldl_toList, Array.toList_zipIdx]; simpa using h3
      rw [h4]
      exact fillS_eq sz r _ _ h
def rep (zs : List Value) : Nat → List Value
  | 0 => []
  | k + 1 => zs ++ rep zs k
theorem rep_length (zs : List Value) : ∀ k, (rep zs k).length = k * zs.length
  | 0 => by simp [rep]
  | k + 1 => by simp [rep, rep_length zs k, Nat.add_mul]; omega
theorem rep_get (zs : List Value) (hz : 0 < zs.length) : ∀ (k j : Nat), j < k * zs.length → (rep zs k)[j]? = zs[j % zs.length]?
  | 0, j, h => by omega
  | k + 1, j, h => by
    simp only [rep]
    rcases Nat.lt_or_ge j zs.length with x | x
    · rw [List.getElem?_append_left x, Nat.mod_eq_of_lt x]
    · rw [List.getElem?_append_right x, rep_get zs hz k _ (by rw [Nat.add_mul] at h; omega), Nat.mod_eq_sub_mod x]
theorem rep_range (zs : List Value) (k : Nat) (d : Value) : (List.range (k * zs.length)).map (fun i => (zs[i % zs.length]?).getD d) = rep zs k := by
  apply List.ext_getElem?
  intro j
  rcases Nat.lt_or_ge j (k * zs.length) with x | x
  · have hz : 0 < zs.length := by rcases Nat.eq_zero_or_pos zs.length with y | y; · rw [y] at x; omega
                                  · exact y
    have h2 : j % zs.length < zs.length := Nat.mod_lt _ hz
    rw [List.getElem?_map, List.getElem?_range x, rep_get zs hz k j x]
    simp [h2]
  · rw [List.getElem?_eq_none (by simpa using x), List.getElem?_eq_none (by rw [rep_length]; exact x)]
class TElem (P : Program) (t : TypeId) (e : outParam TypeId) (sz bytes : outParam Nat) (zs : outParam (List Value)) : Prop where
  out : ∃ i z, P.underlying t = some (.slice e) ∧ P.info? e = some i ∧ i.size = sz ∧ i.bytes = bytes ∧ i.zero = some z ∧ z.cells = zs.toArray ∧ zs.length = sz
theorem o_buildS {t e : TypeId} {sz bytes len : Nat} {zs cs : List Value} {xs : List (Nat × Operand)} {ps : List (Nat × Value)} [i : TElem P t e sz bytes zs] (hlen : Nat.ble (len * sz) 16777216 = true) (hp : Nat.blt 0 (len * sz) = true) (hx : opps sl xs = some ps) (hf : fillS sz (rep zs len) ps = some cs) :
    ON P W0 n (.buildSlice t len xs.toArray) ty sl As (fun v Bs => ∃ b, v = .slice (some ⟨b, 0, none⟩) len len ∧ Bs = cel b e cs :: As) := fun a w d pos aft g hs s => by
  obtain ⟨inf, z, h1, h2, h3, h4, h5, h6, h7⟩ := i.out
  have h8 := fillS_eq _ _ _ _ hf
  have hl : ¬ (16777216 < len * sz) := by have := Nat.le_of_ble_eq_true hlen; omega
  have hp' : 0 < len * sz := by simpa [Nat.blt_eq] using hp
  have hp0 : len * sz ≠ 0 := by omega
  have h9 : ((Array.range (len * sz)).map fun x => zs.toArray[x % sz]!) = (rep zs len).toArray := by
    rw [← rep_range zs len default, h7]
    apply Array.ext'
    simp
  refine ⟨_, _, _, ?_, ⟨w.heap.size, rfl, rfl⟩, s.new _⟩
  simp only [execOp, Instr.buildSlice, List.map_toArray, opps_map hs hx]
  have hn0 : ¬ (len = 0 ∨ sz = 0) := by rintro (rfl | rfl) <;> simp at hp0
  simp [rU h1, rS h2, rZ h2 h5, h3, hl, hn0, newRow, h6, h7] at h8 h9 ⊢
  simp [h9, h8]
  intro h; exact absurd h hp0
theorem lits_rd {b n cap : Nat} {e : TypeId} {xs : List Value} {h : Hp} (hb : h b = some (.cells xs.toArray e (0, 0))) : SlR h (.slice (some ⟨b, 0, none⟩) n cap) n xs :=
  .inr ⟨b, 0, none, cap, rfl, fun _ => rfl, fun j x hx => ⟨rfl, xs.toArray, e, (0, 0), hb, by simpa using hx⟩⟩
theorem o_buildS1 {t e : TypeId} {sz bytes : Nat} {zs : List Value} {x : Operand} {v : Value} [i : TElem P t e sz bytes zs] (hx : opv sl x = some v) (h1 : v.oneCell' = true) (hsz : Nat.beq sz 1 = true) :
    ON P W0 n (.buildSlice t 1 [(0, x)].toArray) ty sl As (fun u Bs => ∃ b, u = .slice (some ⟨b, 0, none⟩) 1 1 ∧ Bs = cel b e [v] :: As) := by
  have hs : sz = 1 := Nat.eq_of_beq_eq_true hsz
  subst hs
  obtain ⟨inf, z, g1, g2, g3, g4, g5, g6, g7⟩ := i.out
  obtain ⟨z0, rfl⟩ : ∃ z0, zs = [z0] := by match zs, g7 with | [z0], _ => exact ⟨z0, rfl⟩
  exact o_buildS (i := i) rfl rfl (by simp [opps, hx]; rfl) (by simp [fillS, oneCell_cells h1, rep, splice]; rfl)
theorem o_buildS1A {t e : TypeId} {sz bytes : Nat} {zs vs : List Value} {x : Operand} [i : TElem P t e sz bytes zs] (hx : opv sl x = some (.agg vs.toArray)) (hsz : Nat.beq vs.length sz = true) (h0 : Nat.blt 0 sz = true) (hm : Nat.ble sz 16777216 = true) :
    ON P W0 n (.buildSlice t 1 [(0, x)].toArray) ty sl As (fun u Bs => ∃ b, u = .slice (some ⟨b, 0, none⟩) 1 1 ∧ Bs = cel b e vs :: As) := by
  have hs : vs.length = sz := Nat.eq_of_beq_eq_true hsz
  obtain ⟨inf, z, g1, g2, g3, g4, g5, g6, g7⟩ := i.out
  refine o_buildS (i := i) (by simpa using hm) (by simpa using h0) (by simp [opps, hx]; rfl) ?_
  simp only [fillS, Value.cells, rep, List.append_nil, Nat.zero_mul, Nat.zero_add]
  have e1 : Nat.beq vs.length sz = true := hsz
  have e2 : Nat.ble vs.length zs.length = true := by rw [g7, hs]; exact Nat.ble_eq_true_of_le (Nat.le_refl _)
  simp only [List.toList_toArray, e1, e2, Bool.and_self, cond_true]
  rw [splice_take _ _ _ (by omega)]
  simp; omega
/-- append: what is appended to is one's own -/
theorem append_core {v u : Value} {t e : TypeId} {sz bytes k m : Nat} {zs xs news : List Value} {R : List Assn} [i : TElem P t e sz bytes zs] (hsz : 0 < sz) (s : St W0 (own v e sz k xs :: R) w) (hu : SlR (hpOf w) u m news) (hl : news.length = m * sz) (h1 : ∀ x ∈ news, x.oneCell' = true)
    (hb : (k + m) * bytes ≤ 140737488355328) (h63 : k + m ≤ maxLen) (ty : TypeId) :
    ∃ v' w', (Builtin.append_ #[t, t] ty #[v, u]).run P w = .ok v' w' ∧ St W0 (own v' e sz (k + m) (xs ++ news) :: R) w' := by
  obtain ⟨inf, z, g1, g2, rfl, rfl, g5, g6, g7⟩ := i.out
  have hxl : (xs ++ news).length = (k + m) * inf.size := by
    obtain ⟨h0, h2, _, _, ⟨hx, _⟩, _⟩ := s.sat
    rw [List.length_append, hx, hl, Nat.add_mul]
  have hsmall : k + m ≤ 9223372036854775807 := by simp only [maxLen] at h63; omega
  have hzs : z.cells.size = inf.size := by rw [g6]; simp [g7]
  -- where a new row is made
  have grown : ∀ old, old < k + m → St W0 (own (.slice (some ⟨w.heap.size, 0, none⟩) (k + m) (grownCap w (k + m) old e)) e inf.size (k + m) (xs ++ news) :: R)
      (w.drew.alloc (.cells (xs.toArray ++ news.toArray ++ Builtin.zeroCells z.cells (grownCap w (k + m) old e - (k + m))) e)) := fun old ho => by
    have hge := grownCap_ge w (k + m) old e
    have hcm := grownCap_le_maxLen w (k + m) old e h63
    have s1 : St W0 (pts w.heap.size (.cells (xs.toArray ++ news.toArray ++ Builtin.zeroCells z.cells (grownCap w (k + m) old e - (k + m))) e) :: R) (w.drew.alloc (.cells (xs.toArray ++ news.toArray ++ Builtin.zeroCells z.cells (grownCap w (k + m) old e - (k + m))) e)) :=
      (s.imp fun _ => Sat.drop).drew.new _
    refine s1.imp fun _ => Sat.head fun h hh => ⟨hxl, .inr ⟨_, _, (Builtin.zeroCells z.cells (grownCap w (k + m) old e - (k + m))).toList, rfl, ?_, hge, hcm, ?_⟩⟩
    · rw [List.length_append, hxl, Array.length_toList, size_zeroCells, hzs, ← Nat.add_mul]; congr 1; omega
    · have hh' : h w.heap.size = some _ := hh
      rw [hh']; congr 2
      apply Array.ext'; simp
  obtain ⟨h1', h2', d, e0, ⟨hx, hv⟩, hR⟩ := s.sat
  rcases hu with ⟨rfl, rfl, rfl⟩ | ⟨b, off, spot, cap, rfl, _, hcs⟩
  · -- nothing is appended
    refine ⟨v, w, ?_, by simpa using s⟩
    rcases hv with ⟨rfl, rfl⟩ | ⟨b, cap, sp, rfl, _, hk, _, _⟩
    · simp [Builtin.append_, run_underlying g1, sizeOf, typeInfo, g2, Builtin.lenOf, Builtin.firstCells]
    · simp [Builtin.append_, run_underlying g1, sizeOf, typeInfo, g2, Builtin.lenOf, Builtin.firstCells, hk, storeCells]
  · have hnews : ∀ j x, news[j]? = some x → w.cell? ((⟨b, off, spot⟩ : Addr).add j) = some x := fun j x hj => by
      obtain ⟨rfl, cs, e', fz, hb', hc'⟩ := hcs j x hj
      have hbw : w.heap[b]? = _ := hb'
      rw [cell_add]; simp [World.cell?, hbw, hc']
    rcases hv with ⟨rfl, rfl⟩ | ⟨g, cap', sp, rfl, k2, k3, k4, k5⟩
    · have hx0 : xs = [] := List.eq_nil_of_length_eq_zero (by simpa using hx)
      subst hx0
      by_cases hm : m = 0
      · subst hm
        have hn : news = [] := List.eq_nil_of_length_eq_zero (by simpa using hl)
        subst hn
        refine ⟨_, w, ?_, by simpa using s⟩
        simp [Builtin.append_, run_underlying g1, sizeOf, typeInfo, g2, Builtin.lenOf, Builtin.firstCells, loadCells, loadCellsFrom]
      · have hr := run_append_nil (P := P) w t ty e inf z g1 g2 g5 ⟨b, off, spot⟩ m cap news hl hnews (by omega) (by omega) (by have hb := hb; simp only [Nat.zero_add] at hb; omega)
        have hgr := grown 0 (by omega)
        simp only [Nat.zero_add, List.nil_append, Array.empty_append] at hgr ⊢
        exact ⟨_, _, hr, hgr⟩
    · have hg : w.heap[g]? = some (.cells (xs ++ sp).toArray e (0, 0)) := by
        have : hpOf w g = _ := e0 ▸ join_some (h2 := h2') k5
        exact this
      by_cases hroom : k + m ≤ cap'
      · have hfit : k * inf.size + news.length ≤ (xs ++ sp).toArray.size := by rw [hl, List.size_toArray, k2, ← Nat.add_mul]; exact Nat.mul_le_mul_right _ hroom
        have hr := run_append_room (P := P) w t ty e inf g1 g2 g k cap' _ hg ⟨b, off, spot⟩ m cap news hl hnews h1 hroom hfit
        refine ⟨_, _, hr, s.os, s.tape, s.output, by have := s.size; simpa [World.setRow] using this, ?_⟩
        have e1 : ((xs ++ sp).toArray.toList.take (k * inf.size) ++ news ++ (xs ++ sp).toArray.toList.drop (k * inf.size + news.length)) = (xs ++ news) ++ sp.drop news.length := by
          rw [← hx]
          simp [List.drop_append]
        have e2 : hpOf (w.setRow g ((xs ++ sp).toArray.toList.take (k * inf.size) ++ news ++ (xs ++ sp).toArray.toList.drop (k * inf.size + news.length)).toArray) = upd (hpOf w) g (.cells ((xs ++ news) ++ sp.drop news.length).toArray e (0, 0)) := by
          rw [e1]; unfold World.setRow; rw [hpOf_modify _ (o := .cells (xs ++ sp).toArray e (0, 0)) hg]
        rw [e2, e0]
        obtain ⟨e3, d3⟩ := upd_join_left (o' := .cells ((xs ++ news) ++ sp.drop news.length).toArray e (0, 0)) k5 d
        refine ⟨_, h2', d3, e3, ⟨hxl, .inr ⟨g, cap', sp.drop news.length, rfl, ?_, hroom, k4, by simp [upd]⟩⟩, hR⟩
        simp only [List.length_append, List.length_drop] at k2 ⊢
        simp only [List.size_toArray, List.length_append] at hfit
        rw [hx] at k2 hfit ⊢
        omega
      · have holds : ∀ j x, xs[j]? = some x → w.cell? ((⟨g, 0, none⟩ : Addr).add j) = some x := fun j x hj => by
          have hj' := (List.getElem?_eq_some_iff.1 hj).1
          rw [cell_add]; simp [World.cell?, hg, List.getElem?_append_left hj', hj]
        have hr := run_append_grow (P := P) w t ty e inf z g1 g2 g5 ⟨g, 0, none⟩ k cap' xs hx holds ⟨b, off, spot⟩ m cap news hl hnews (by omega) (by omega) (growslice_fits (by omega) hb)
        exact ⟨_, _, hr, grown cap' (by omega)⟩
/-- append(s, x): the appended slice is a literal, which is dropped -/
theorem o_append {x y : Operand} {v : Value} {b t e : TypeId} {sz bytes k m c : Nat} {zs xs news : List Value} {R : List Assn} [i : TElem P t e sz bytes zs] (h : opv sl x = some v) (hy : opv sl y = some (.slice (some ⟨b, 0, none⟩) m c)) (hp : Part [own v e sz k xs, cel b e news] As R)
    (hsz : Nat.blt 0 sz = true) (hl : Nat.beq news.length (m * sz) = true) (h1 : news.all Value.oneCell' = true) (hb : (k + m) * bytes ≤ 140737488355328) (h63 : k + m ≤ maxLen) :
    ON P W0 n (.call { callee := .builtin .append, args := #[x, y], argTypes := #[t, t] }) ty sl As (fun v' Bs => ∃ a c, v' = .slice a (k + m) c ∧ Bs = own (.slice a (k + m) c) e sz (k + m) (xs ++ news) :: R) := fun a w d pos aft g hs s => by
  have s1 := s.imp fun _ => hp.to
  have hu : SlR (hpOf w) (.slice (some ⟨b, 0, none⟩) m c) m news := RdS.get (As := own v e sz k xs :: cel b e news :: R) s1.sat
  obtain ⟨v', w', hr, s'⟩ := append_core (P := P) (i := i) (by simpa [Nat.blt_eq] using hsz) s1 hu (Nat.eq_of_beq_eq_true hl) (fun x hx => List.all_eq_true.1 h1 x hx) hb h63 ty
  obtain ⟨ca, cc, rfl⟩ := (OwS.get (v := v') (As := own v' e sz (k + m) (xs ++ news) :: _) s'.sat).form
  refine ⟨_, _, w', ?_, ⟨ca, cc, rfl, rfl⟩, s'.imp fun _ => Sat.tail fun _ => Sat.drop⟩
  simp only [execOp, resolve, List.map_toArray, List.map_cons, List.map_nil, hs.eval h, hs.eval hy]
  simp [invoke, builtin, hr]
/-- append(s, u...): both stay -/
theorem o_appendS {x y : Operand} {v u : Value} {t e : TypeId} {sz bytes k m : Nat} {zs xs news : List Value} {R : List Assn} [i : TElem P t e sz bytes zs] [r : RdS u As m news] (h : opv sl x = some v) (hy : opv sl y = some u) (hp : Sel (own v e sz k xs) As R)
    (hsz : Nat.blt 0 sz = true) (hl : news.length = m * sz) (h1 : news.all Value.oneCell' = true) (hb : (k + m) * bytes ≤ 140737488355328) (h63 : k + m ≤ maxLen) :
    ON P W0 n (.call { callee := .builtin .append, args := #[x, y], argTypes := #[t, t] }) ty sl As (fun v' Bs => ∃ a c, v' = .slice a (k + m) c ∧ Bs = own (.slice a (k + m) c) e sz (k + m) (xs ++ news) :: R) := fun a w d pos aft g hs s => by
  obtain ⟨v', w', hr, s'⟩ := append_core (P := P) (i := i) (by simpa [Nat.blt_eq] using hsz) (s.imp fun _ => hp.to) (r.get s.sat) hl (fun x hx => List.all_eq_true.1 h1 x hx) hb h63 ty
  obtain ⟨ca, cc, rfl⟩ := (OwS.get (v := v') (As := own v' e sz (k + m) (xs ++ news) :: _) s'.sat).form
  refine ⟨_, _, w', ?_, ⟨ca, cc, rfl, rfl⟩, s'⟩
  simp only [execOp, resolve, List.map_toArray, List.map_cons, List.map_nil, hs.eval h, hs.eval hy]
  simp [invoke, builtin, hr]
end
end Go.L
