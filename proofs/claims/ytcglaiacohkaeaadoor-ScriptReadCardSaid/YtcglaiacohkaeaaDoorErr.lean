/-
  Interface values against nil; calls told by the kit's contracts, in parts of memory; what lies in the memory that was there. Own work; it speaks of no program.
-/
import Derived.Test.YtcglaiacohkaeaaDoorIface
import Derived.Test.YtcglaiacohkaeaaDoorStr
import Derived.Below
set_option linter.unusedSimpArgs false
set_option linter.unusedVariables false
set_option linter.unusedSectionVars false
namespace Go.L
open Go.RowKit
class TIfc (P : Program) (t : TypeId) : Prop where
  out : ∃ ms, P.underlying t = some (.interface ms)
section
variable {P : Program} {W0 w : World} {n : Nat} {sl : Slots} {As : List Assn} {ty : TypeId}
theorem rEqIn {t : TypeId} {ms} (h : P.underlying t = some (.interface ms)) (d : Nat) (t1 : TypeId) (v : Value) (w : World) : (Op.equalIn (d + 1) t (.iface t1 v) .nilIface).run P w = .ok false w := by
  simp [Op.equalIn, rU h]
theorem rEqnn' {t : TypeId} {ms} (h : P.underlying t = some (.interface ms)) (d : Nat) (w : World) : (Op.equalIn (d + 1) t .nilIface .nilIface).run P w = .ok true w := by
  simp [Op.equalIn, rU h]
theorem o_eqlIn {t t' t1 : TypeId} {x : Operand} {v : Value} [i : TIfc P t] (hx : opv sl x = some (.iface t1 v)) : OV P W0 n (.binOp .eql t x (.const .nilIface) t') ty sl As (.bool false) := fun a w d pos aft g hs _ => by
  obtain ⟨ms, h1⟩ := i.out
  simp only [execOp, hs.eval hx, show a.eval (.const .nilIface) = .nilIface from rfl]
  simp only [binOp]
  simp [eqGuard, Op.equal, Op.maxDepth, rEqIn h1 9999]
theorem o_neqIn {t t' t1 : TypeId} {x : Operand} {v : Value} [i : TIfc P t] (hx : opv sl x = some (.iface t1 v)) : OV P W0 n (.binOp .neq t x (.const .nilIface) t') ty sl As (.bool true) := fun a w d pos aft g hs _ => by
  obtain ⟨ms, h1⟩ := i.out
  simp only [execOp, hs.eval hx, show a.eval (.const .nilIface) = .nilIface from rfl]
  simp only [binOp]
  simp [eqGuard, Op.equal, Op.maxDepth, rEqIn h1 9999]
theorem o_eqlnI {t t' : TypeId} {x : Operand} [i : TIfc P t] (hx : opv sl x = some .nilIface) : OV P W0 n (.binOp .eql t x (.const .nilIface) t') ty sl As (.bool true) := fun a w d pos aft g hs _ => by
  obtain ⟨ms, h1⟩ := i.out
  simp only [execOp, hs.eval hx, show a.eval (.const .nilIface) = .nilIface from rfl]
  simp only [binOp]
  simp [eqGuard, Op.equal, Op.maxDepth, rEqnn' h1 9999]
theorem o_neqnI {t t' : TypeId} {x : Operand} [i : TIfc P t] (hx : opv sl x = some .nilIface) : OV P W0 n (.binOp .neq t x (.const .nilIface) t') ty sl As (.bool false) := fun a w d pos aft g hs _ => by
  obtain ⟨ms, h1⟩ := i.out
  simp only [execOp, hs.eval hx, show a.eval (.const .nilIface) = .nilIface from rfl]
  simp only [binOp]
  simp [eqGuard, Op.equal, Op.maxDepth, rEqnn' h1 9999]
/-! ### what the kit says of a call, in parts of memory -/
theorem St.below {w' : World} (s : St W0 As w) (b : Below w.heap.size w w') : St W0 As w' := by
  obtain ⟨h1, h2, h3, h4, h5⟩ := b
  refine ⟨h1.trans s.os, h2.trans s.tape, h3.trans s.output, Nat.le_trans s.size h4, ?_⟩
  have e : hpOf w' = join (hpOf w) (fun b => if b < w.heap.size then none else hpOf w' b) := by
    funext b
    simp only [join, hpOf]
    by_cases hb : b < w.heap.size
    · rw [h5 b hb, Array.getElem?_eq_getElem hb]; rfl
    · rw [Array.getElem?_eq_none (xs := w.heap) (by omega)]; simp [hb]
  rw [e]
  refine Sat.more (fun b => ?_) s.sat
  by_cases hb : b < w.heap.size
  · right; simp [hb]
  · left; simp only [hpOf]; exact Array.getElem?_eq_none (by omega)
theorem below_refl (k : Nat) (w : World) : Below k w w := ⟨rfl, rfl, rfl, Nat.le_refl _, fun _ _ => rfl⟩
theorem below_trans {k : Nat} {w w' w'' : World} (a : Below k w w') (b : Below k w' w'') : Below k w w'' := by
  obtain ⟨a1, a2, a3, a4, a5⟩ := a
  obtain ⟨b1, b2, b3, b4, b5⟩ := b
  exact ⟨b1.trans a1, b2.trans a2, b3.trans a3, Nat.le_trans a4 b4, fun k hk => (b5 k hk).trans (a5 k hk)⟩
theorem below_alloc {k : Nat} {w w' : World} (o : Obj) (a : Below k w w') (hk : k ≤ w'.heap.size) : Below k w (w'.alloc o) := by
  refine below_trans a ⟨rfl, rfl, rfl, ?_, fun j hj => ?_⟩
  · show w'.heap.size ≤ (w'.heap.push o).size
    rw [Array.size_push]; omega
  · show (w'.heap.push o)[j]? = w'.heap[j]?
    rw [Array.getElem?_push_lt (by omega), Array.getElem?_eq_getElem]
/-- a call that leaves all that was there -/
theorem fns_below {f : FuncId} {args : List Value} {post : Value → Prop} (h : ∀ w, St W0 As w → Calls P f args.toArray w fun e w' => ∃ v, e = .returned v ∧ post v ∧ Below w.heap.size w w') {w : World} (s : St W0 As w) :
    Calls P f args.toArray w fun e w' => ∃ v Bs, e = .returned v ∧ (post v ∧ Bs = As) ∧ St W0 Bs w' :=
  (h w s).mono fun _ _ ⟨v, he, hp, hb⟩ => ⟨v, As, he, ⟨hp, rfl⟩, s.below hb⟩
/-! ### the memory that was there -/
theorem base_cell {W : World} {r : List Assn} {a : Addr} {v : Value} (s : St W0 (base W :: r) w) (h : W.cell? a = some v) : w.cell? a = some v := by
  obtain ⟨h1, h2, _, e, ha, _⟩ := s.sat
  have hb : a.block < W.heap.size := by
    unfold World.cell? at h
    rcases Nat.lt_or_ge a.block W.heap.size with x | x
    · exact x
    · rw [Array.getElem?_eq_none x] at h; cases h
  have h3 := ha a.block hb
  have h4 : w.heap[a.block]? = W.heap[a.block]? := by
    have h5 : w.heap[a.block]? = join h1 h2 a.block := congrFun e a.block
    rw [h5]; obtain ⟨o, ho⟩ : ∃ o, W.heap[a.block]? = some o := ⟨_, Array.getElem?_eq_getElem hb⟩
    rw [ho] at h3 ⊢; exact join_some h3
  unfold World.cell? at h ⊢
  rw [h4]; exact h
end
end Go.L
