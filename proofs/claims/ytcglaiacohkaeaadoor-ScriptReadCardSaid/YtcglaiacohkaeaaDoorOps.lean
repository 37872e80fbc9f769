/-
  What single operations do, over slots and heaps in parts. Own work; it speaks of no program.
-/
import Derived.Test.YtcglaiacohkaeaaDoorCode
set_option linter.unusedSimpArgs false
set_option linter.unusedVariables false
set_option linter.unusedSectionVars false
namespace Go.L
abbrev cel (b : Nat) (ty : TypeId) (l : List Value) : Assn := pts b (.cells l.toArray ty (0, 0))
abbrev ptr (b : Nat) (off : Nat) : Value := .pointer (some ⟨b, off, none⟩)

/-! facts on types -/
def isA : TypeDesc → Bool
  | .struct _ | .array _ _ => true
  | _ => false
class TInt (P : Program) (t : TypeId) (k : outParam IntKind) : Prop where
  out : P.underlying t = some (.int k)
class TBool (P : Program) (t : TypeId) : Prop where
  out : P.underlying t = some .bool
class TPtr (P : Program) (t : TypeId) : Prop where
  out : ∃ e, P.underlying t = some (.pointer e)
class TStr (P : Program) (t : TypeId) : Prop where
  out : P.underlying t = some .string
class TCell (P : Program) (t : TypeId) : Prop where
  out : ∃ d, P.underlying t = some d ∧ isA d = false
  size : ∃ i, P.info? t = some i ∧ i.size = 1
class TAgg (P : Program) (t : TypeId) (sz : outParam Nat) : Prop where
  out : ∃ d, P.underlying t = some d ∧ isA d = true
  size : ∃ i, P.info? t = some i ∧ i.size = sz
class TFld (P : Program) (s : TypeId) (f : Nat) (off : outParam Nat) : Prop where
  out : ∃ fs fd i, P.underlying s = some (.struct fs) ∧ fs[f]? = some fd ∧ fd.offset = off ∧ P.info? fd.type = some i ∧ i.size ≠ 0
class TFldV (P : Program) (s : TypeId) (f : Nat) (off : outParam Nat) : Prop where
  out : ∃ fs fd d, P.underlying s = some (.struct fs) ∧ fs[f]? = some fd ∧ fd.offset = off ∧ P.underlying fd.type = some d ∧ isA d = false
class TFldA (P : Program) (s : TypeId) (f : Nat) (off sz : outParam Nat) : Prop where
  out : ∃ fs fd d i, P.underlying s = some (.struct fs) ∧ fs[f]? = some fd ∧ fd.offset = off ∧ P.underlying fd.type = some d ∧ isA d = true ∧ P.info? fd.type = some i ∧ i.size = sz
class TArr (P : Program) (t : TypeId) (len sz : outParam Nat) : Prop where
  out : ∃ e i, P.underlying t = some (.array len e) ∧ P.info? e = some i ∧ i.size = sz
class TSlice (P : Program) (t : TypeId) (e : outParam TypeId) (sz : outParam Nat) : Prop where
  out : ∃ i, P.underlying t = some (.slice e) ∧ P.info? e = some i ∧ i.size = sz
class TZero (P : Program) (t : TypeId) (z : outParam Value) : Prop where
  out : ∃ i, P.info? t = some i ∧ i.zero = some z
class TFunc (P : Program) (f : FuncId) : Prop where
  out : ∃ fn c, P.funcs[f]? = some fn ∧ fn.body = some c ∧ (fn.name == "runtime.NumGoroutine") = false

section
variable {P : Program} {W0 w : World} {n : Nat} {sl : Slots} {As : List Assn} {ty : TypeId}

theorem rU {t : TypeId} {d : TypeDesc} (h : P.underlying t = some d) (w : World) : (underlying t).run P w = .ok d w := by simp [underlying, h]
theorem rI {t : TypeId} {i : TypeInfo} (h : P.info? t = some i) (w : World) : (typeInfo t).run P w = .ok i w := by simp [typeInfo, h]
theorem rS {t : TypeId} {i : TypeInfo} (h : P.info? t = some i) (w : World) : (sizeOf t).run P w = .ok i.size w := by simp [sizeOf, rI h]
theorem rZ {t : TypeId} {i : TypeInfo} {z : Value} (h : P.info? t = some i) (hz : i.zero = some z) (w : World) : (zeroValue t).run P w = .ok z w := by simp [zeroValue, rI h, hz]
theorem rA0 {t : TypeId} {d : TypeDesc} (h : P.underlying t = some d) (h2 : isA d = false) (w : World) : (isAgg t).run P w = .ok false w := by
  cases d <;> simp [isA] at h2 <;> simp [isAgg, rU h]
theorem rA1 {t : TypeId} {d : TypeDesc} (h : P.underlying t = some d) (h2 : isA d = true) (w : World) : (isAgg t).run P w = .ok true w := by
  cases d <;> simp [isA] at h2 <;> simp [isAgg, rU h]
theorem sem_pure {α : Type} (x : α) : (Pure.pure x : Sem α) = Sem.pure x := rfl
theorem run_pure {α : Type} (x : α) (w : World) : (Pure.pure x : Sem α).run P w = .ok x w := rfl

theorem o_move {x : Operand} {v : Value} (h : opv sl x = some v) : OV P W0 n (.move x) ty sl As v := fun a w d pos aft g hs _ => by
  simp [execOp, hs.eval h]
theorem o_assign {x : Operand} {v : Value} (h : opv sl x = some v) : OV P W0 n (.assign x) ty sl As v := fun a w d pos aft g hs _ => by
  simp [execOp, hs.eval h]
theorem o_nil {x : Operand} {ad : Addr} (h : opv sl x = some (.pointer (some ad))) : OV P W0 n (.nilCheck x) ty sl As (.pointer (some ad)) := fun a w d pos aft g hs _ => by
  simp [execOp, hs.eval h]
theorem o_pick {c x y : Operand} {b : Bool} {v u : Value} (hc : opv sl c = some (.bool b)) (h1 : opv sl x = some v) (h2 : opv sl y = some u) : OV P W0 n (.pick c x y) ty sl As (if b then v else u) := fun a w d pos aft g hs _ => by
  simp only [execOp, hs.eval hc, hs.eval h1, hs.eval h2]
  cases b <;> simp [go_sem]
theorem o_fld {s : TypeId} {x : Operand} {f b o off : Nat} [i : TFld P s f off] (h : opv sl x = some (ptr b o)) : OV P W0 n (.fieldAddr s x f) ty sl As (ptr b (o + off)) := fun a w d pos aft g hs _ => by
  obtain ⟨fs, fd, inf, h1, h2, h3, h4, h5⟩ := i.out
  simp only [execOp, hs.eval h]
  simp [Instr.fieldAt, Instr.sureAddr, rU h1, h2, h3, fieldPlace, rS h4, h5, Addr.add]
theorem o_extract {x : Operand} {k : Nat} {vs : List Value} {v : Value} (h : opv sl x = some (.tuple vs.toArray)) (hk : vs[k]? = some v) : OV P W0 n (.extract x k) ty sl As v := fun a w d pos aft g hs _ => by
  simp only [execOp, hs.eval h]
  simp [go_sem, Instr.extract, hk]

/-! integers -/
theorem o_add {t t' : TypeId} {x y : Operand} {k : IntKind} {p q : Int} (hx : opv sl x = some (.int k p)) (hy : opv sl y = some (.int k q)) : OV P W0 n (.binOp .add t x y t') ty sl As (.int k (k.wrap (p + q))) := fun a w d pos aft g hs _ => by
  simp only [execOp, hs.eval hx, hs.eval hy]
  simp [go_sem, eqGuard, binOp, Op.intArith]
theorem o_sub {t t' : TypeId} {x y : Operand} {k : IntKind} {p q : Int} (hx : opv sl x = some (.int k p)) (hy : opv sl y = some (.int k q)) : OV P W0 n (.binOp .sub t x y t') ty sl As (.int k (k.wrap (p - q))) := fun a w d pos aft g hs _ => by
  simp only [execOp, hs.eval hx, hs.eval hy]
  simp [go_sem, eqGuard, binOp, Op.intArith]
theorem o_mul {t t' : TypeId} {x y : Operand} {k : IntKind} {p q : Int} (hx : opv sl x = some (.int k p)) (hy : opv sl y = some (.int k q)) : OV P W0 n (.binOp .mul t x y t') ty sl As (.int k (k.wrap (p * q))) := fun a w d pos aft g hs _ => by
  simp only [execOp, hs.eval hx, hs.eval hy]
  simp [go_sem, eqGuard, binOp, Op.intArith]
theorem o_lss {t t' : TypeId} {x y : Operand} {k : IntKind} {p q : Int} (hx : opv sl x = some (.int k p)) (hy : opv sl y = some (.int k q)) : OV P W0 n (.binOp .lss t x y t') ty sl As (.bool (decide (p < q))) := fun a w d pos aft g hs _ => by
  simp only [execOp, hs.eval hx, hs.eval hy]
  simp [go_sem, eqGuard, binOp, Op.intCmp]
theorem o_leq {t t' : TypeId} {x y : Operand} {k : IntKind} {p q : Int} (hx : opv sl x = some (.int k p)) (hy : opv sl y = some (.int k q)) : OV P W0 n (.binOp .leq t x y t') ty sl As (.bool (decide (p ≤ q))) := fun a w d pos aft g hs _ => by
  simp only [execOp, hs.eval hx, hs.eval hy]
  simp [go_sem, eqGuard, binOp, Op.intCmp]
theorem o_gtr {t t' : TypeId} {x y : Operand} {k : IntKind} {p q : Int} (hx : opv sl x = some (.int k p)) (hy : opv sl y = some (.int k q)) : OV P W0 n (.binOp .gtr t x y t') ty sl As (.bool (decide (q < p))) := fun a w d pos aft g hs _ => by
  simp only [execOp, hs.eval hx, hs.eval hy]
  simp [go_sem, eqGuard, binOp, Op.intCmp]
theorem o_geq {t t' : TypeId} {x y : Operand} {k : IntKind} {p q : Int} (hx : opv sl x = some (.int k p)) (hy : opv sl y = some (.int k q)) : OV P W0 n (.binOp .geq t x y t') ty sl As (.bool (decide (q ≤ p))) := fun a w d pos aft g hs _ => by
  simp only [execOp, hs.eval hx, hs.eval hy]
  simp [go_sem, eqGuard, binOp, Op.intCmp]
theorem o_eql {t t' : TypeId} {x y : Operand} {k : IntKind} {p q : Int} (hx : opv sl x = some (.int k p)) (hy : opv sl y = some (.int k q)) : OV P W0 n (.binOp .eql t x y t') ty sl As (.bool (decide (p = q))) := fun a w d pos aft g hs _ => by
  simp only [execOp, hs.eval hx, hs.eval hy]
  simp [go_sem, eqGuard, binOp, Op.intCmp]
  rfl
theorem o_neq {t t' : TypeId} {x y : Operand} {k : IntKind} {p q : Int} (hx : opv sl x = some (.int k p)) (hy : opv sl y = some (.int k q)) : OV P W0 n (.binOp .neq t x y t') ty sl As (.bool (!decide (p = q))) := fun a w d pos aft g hs _ => by
  simp only [execOp, hs.eval hx, hs.eval hy]
  simp [go_sem, eqGuard, binOp, Op.intCmp]
  rfl
theorem o_eqlb {t t' : TypeId} {x y : Operand} {p q : Bool} [ht : TBool P t] (hx : opv sl x = some (.bool p)) (hy : opv sl y = some (.bool q)) : OV P W0 n (.binOp .eql t x y t') ty sl As (.bool (p == q)) := fun a w d pos aft g hs _ => by
  simp only [execOp, hs.eval hx, hs.eval hy]
  simp [eqGuard, run_eql_bool _ _ _ _ ht.out]
theorem o_neqb {t t' : TypeId} {x y : Operand} {p q : Bool} [ht : TBool P t] (hx : opv sl x = some (.bool p)) (hy : opv sl y = some (.bool q)) : OV P W0 n (.binOp .neq t x y t') ty sl As (.bool (!(p == q))) := fun a w d pos aft g hs _ => by
  simp only [execOp, hs.eval hx, hs.eval hy]
  simp [eqGuard, run_neq_bool _ _ _ _ ht.out]
theorem o_not {t : TypeId} {x : Operand} {b : Bool} (hx : opv sl x = some (.bool b)) : OV P W0 n (.unOp .not t x) ty sl As (.bool (!b)) := fun a w d pos aft g hs _ => by
  simp only [execOp, hs.eval hx]
  simp [go_sem, Op.unary]
theorem o_conv {t t' : TypeId} {x : Operand} {k k' : IntKind} {p : Int} [i : TInt P t k] [j : TInt P t' k'] (hx : opv sl x = some (.int k p)) : OV P W0 n (.convert t t' x) ty sl As (.int k' (k'.wrap p)) := fun a w d pos aft g hs _ => by
  simp only [execOp, hs.eval hx]
  simp [convert, rU i.out, rU j.out, Conv.intToInt]

/-! memory -/
theorem o_load {t : TypeId} {x : Operand} {b off : Nat} {e : TypeId} {l : List Value} {u : Obj → List Assn} {v : Value} {fz : Nat × Nat} [i : TCell P t] [j : Owns b As (.cells l.toArray e fz) u] (h : opv sl x = some (ptr b off)) (hv : l[off]? = some v) :
    OV P W0 n (.load t x) ty sl As v := fun a w d pos aft g hs s => by
  obtain ⟨dd, h1, h2⟩ := i.out
  have hb := s.heap (b := b)
  have hc : w.cell? ⟨b, off, none⟩ = some v := by simp [World.cell?, hb, hv]
  simp only [execOp, hs.eval h]
  simp [Instr.loadAt, Instr.sureAddr, loadVar, rA0 h1 h2, run_load, hc]
theorem take_get {l : List Value} {off sz j : Nat} {v : Value} (h : ((l.drop off).take sz)[j]? = some v) : l[off + j]? = some v := by
  rw [List.getElem?_take] at h
  split at h
  · rwa [List.getElem?_drop] at h
  · cases h
theorem cell_add {w : World} {b off j : Nat} : w.cell? (Addr.add ⟨b, off, none⟩ j) = w.cell? ⟨b, off + j, none⟩ := by
  unfold Addr.add; split
  · subst_vars; rfl
  · rfl
/-- a whole struct or array -/
theorem o_loadA {t : TypeId} {x : Operand} {b off : Nat} {e : TypeId} {l vs : List Value} {u : Obj → List Assn} {sz : Nat} {fz : Nat × Nat} [i : TAgg P t sz] [j : Owns b As (.cells l.toArray e fz) u] (h : opv sl x = some (ptr b off)) (hv : (l.drop off).take sz = vs) (hl : vs.length = sz) :
    OV P W0 n (.load t x) ty sl As (.agg vs.toArray) := fun a w d pos aft g hs s => by
  obtain ⟨dd, h1, h2⟩ := i.out
  obtain ⟨inf, h3, h4⟩ := i.size
  have hb := s.heap (b := b)
  have hc := run_loadCells_list (P := P) w ⟨b, off, none⟩ vs (fun k v hk => by
    rw [← hv] at hk
    have := take_get hk
    rw [cell_add]; simp [World.cell?, hb, this])
  simp only [execOp, hs.eval h]
  simp [Instr.loadAt, Instr.sureAddr, loadVar, rA1 h1 h2, rS h3, h4]
  rw [hl] at hc
  simp [hc]
theorem St.setCell {b off : Nat} {e : TypeId} {l : List Value} {u : Obj → List Assn} {fz : Nat × Nat} [i : Owns b As (.cells l.toArray e fz) u] (s : St W0 As w) (v : Value) : St W0 (u (.cells (l.set off v).toArray e fz)) (w.setCell ⟨b, off, none⟩ v) := by
  have h := i.get s.sat
  refine ⟨s.os, s.tape, s.output, by have := s.size; simpa [World.setCell] using this, ?_⟩
  have : hpOf (w.setCell ⟨b, off, none⟩ v) = upd (hpOf w) b (.cells (l.set off v).toArray e fz) := by
    unfold World.setCell; rw [hpOf_modify _ h]; simp
  rw [this]; exact i.set _ s.sat
theorem o_store {t : TypeId} {x y : Operand} {b off : Nat} {e : TypeId} {l : List Value} {u : Obj → List Assn} {v : Value} [i : TCell P t] [j : Owns b As (.cells l.toArray e (0, 0)) u] (h : opv sl x = some (ptr b off)) (hv : opv sl y = some v) (h1 : v.oneCell' = true) (hl : Nat.blt off l.length = true) :
    OU P W0 n (.store t x y) ty sl As (u (.cells (l.set off v).toArray e (0, 0))) := fun a w d pos aft g hs s => by
  obtain ⟨inf, h3, h4⟩ := i.size
  have hb := s.heap (b := b)
  have hl' : off < l.length := by simpa [Nat.blt_eq] using hl
  have hc : (w.cell? ⟨b, off, none⟩).isSome := by simp [World.cell?, hb, hl']
  have hf : w.frozen? ⟨b, off, none⟩ = false := by simp [World.frozen?, hb]
  refine ⟨w.setCell ⟨b, off, none⟩ v, ?_, ?_⟩
  · simp only [execOp, hs.eval h, hs.eval hv]
    have hcs : v.cells = #[v] := by cases v <;> simp [Value.oneCell'] at h1 <;> rfl
    obtain ⟨c, hc'⟩ := Option.isSome_iff_exists.1 hc
    simp [Instr.storeAt, Instr.sureAddr, storeVar, rS h3, h4, hcs, storeCells, Addr.add, run_store, h1, stored, hc', hf]
  · exact s.setCell v

/-! results that fit -/
theorem o_addR {t t' : TypeId} {x y : Operand} {k : IntKind} {p q : Int} (r : Int) (hr : k.wrap (p + q) = r) (hx : opv sl x = some (.int k p)) (hy : opv sl y = some (.int k q)) : OV P W0 n (.binOp .add t x y t') ty sl As (.int k r) := hr ▸ o_add hx hy
theorem o_subR {t t' : TypeId} {x y : Operand} {k : IntKind} {p q : Int} (r : Int) (hr : k.wrap (p - q) = r) (hx : opv sl x = some (.int k p)) (hy : opv sl y = some (.int k q)) : OV P W0 n (.binOp .sub t x y t') ty sl As (.int k r) := hr ▸ o_sub hx hy
theorem o_mulR {t t' : TypeId} {x y : Operand} {k : IntKind} {p q : Int} (r : Int) (hr : k.wrap (p * q) = r) (hx : opv sl x = some (.int k p)) (hy : opv sl y = some (.int k q)) : OV P W0 n (.binOp .mul t x y t') ty sl As (.int k r) := hr ▸ o_mul hx hy
theorem o_convR {t t' : TypeId} {x : Operand} {k k' : IntKind} {p : Int} (r : Int) [TInt P t k] [TInt P t' k'] (hr : k'.wrap p = r) (hx : opv sl x = some (.int k p)) : OV P W0 n (.convert t t' x) ty sl As (.int k' r) := hr ▸ o_conv hx
theorem o_quo {t t' : TypeId} {x y : Operand} {k : IntKind} {p q : Int} (hx : opv sl x = some (.int k p)) (hy : opv sl y = some (.int k q)) (hq : q ≠ 0) : OV P W0 n (.binOp .quo t x y t') ty sl As (.int k (k.wrap (p.tdiv q))) := fun a w d pos aft g hs _ => by
  simp only [execOp, hs.eval hx, hs.eval hy]
  simp [eqGuard, binOp, Op.intDiv, hq]
theorem o_rem {t t' : TypeId} {x y : Operand} {k : IntKind} {p q : Int} (hx : opv sl x = some (.int k p)) (hy : opv sl y = some (.int k q)) (hq : q ≠ 0) : OV P W0 n (.binOp .rem t x y t') ty sl As (.int k (p.tmod q)) := fun a w d pos aft g hs _ => by
  simp only [execOp, hs.eval hx, hs.eval hy]
  simp [eqGuard, binOp, Op.intDiv, hq]
theorem o_quoR {t t' : TypeId} {x y : Operand} {k : IntKind} {p q : Int} (r : Int) (hr : k.wrap (p.tdiv q) = r) (hx : opv sl x = some (.int k p)) (hy : opv sl y = some (.int k q)) (hq : q ≠ 0) : OV P W0 n (.binOp .quo t x y t') ty sl As (.int k r) := hr ▸ o_quo hx hy hq
theorem o_remR {t t' : TypeId} {x y : Operand} {k : IntKind} {p q : Int} (r : Int) (hr : p.tmod q = r) (hx : opv sl x = some (.int k p)) (hy : opv sl y = some (.int k q)) (hq : q ≠ 0) : OV P W0 n (.binOp .rem t x y t') ty sl As (.int k r) := hr ▸ o_rem hx hy hq

/-! making things -/
theorem o_iface {t : TypeId} {x : Operand} {v : Value} {d : TypeDesc} (ht : P.underlying t = some d) (hd : (match d with | .interface _ => false | _ => true) = true) (hx : opv sl x = some v) : OV P W0 n (.makeInterface t x) ty sl As (.iface t v) := fun a w dd pos aft g hs _ => by
  simp only [execOp, hs.eval hx]
  simp only [Instr.makeInterface]
  cases d <;> simp at hd <;> simp [rU ht]
theorem o_func {fn : Go.Fn} {xs ys : List Operand} {vs us : List Value} (hx : opvs sl xs = some vs) (hy : opvs sl ys = some us) : OV P W0 n (.makeFunc fn xs.toArray ys.toArray) ty sl As (.func fn vs.toArray us.toArray) := fun a w d pos aft g hs _ => by
  simp [execOp, Instr.makeFunc, hs.evals hx, hs.evals hy]
theorem o_makeMap {t : TypeId} : ON P W0 n (.makeMap t none) ty sl As (fun v Bs => ∃ b, v = .map (some b) ∧ Bs = pts b (.map #[] 0) :: As) := fun a w d pos aft g hs s =>
  ⟨_, _, _, by simp [execOp, Instr.makeMap], ⟨w.heap.size, rfl, rfl⟩, s.new _⟩
theorem o_box {e : TypeId} {x : Operand} {v : Value} (hx : opv sl x = some v) (h1 : v.oneCell' = true) : ON P W0 n (.box e x) ty sl As (fun u Bs => ∃ b, u = ptr b 0 ∧ Bs = cel b e [v] :: As) := fun a w d pos aft g hs s => by
  have hcs : v.cells = [v].toArray := by cases v <;> simp [Value.oneCell'] at h1 <;> rfl
  exact ⟨_, _, _, by simp only [execOp, hs.eval hx, Instr.box, newVar, newRow, hcs]; simp, ⟨w.heap.size, rfl, rfl⟩, s.new _⟩
theorem o_boxA {e : TypeId} {x : Operand} {vs : List Value} (hx : opv sl x = some (.agg vs.toArray)) : ON P W0 n (.box e x) ty sl As (fun u Bs => ∃ b, u = ptr b 0 ∧ Bs = cel b e vs :: As) := fun a w d pos aft g hs s => by
  exact ⟨_, _, _, by simp only [execOp, hs.eval hx, Instr.box, newVar, newRow, Value.cells]; simp, ⟨w.heap.size, rfl, rfl⟩, s.new _⟩
class TZeroC (P : Program) (t : TypeId) (zs : outParam (List Value)) : Prop where
  out : ∃ i z, P.info? t = some i ∧ i.zero = some z ∧ z.cells = zs.toArray
theorem o_alloc {e : TypeId} {zs : List Value} [i : TZeroC P e zs] : ON P W0 n (.alloc e) ty sl As (fun u Bs => ∃ b, u = ptr b 0 ∧ Bs = cel b e zs :: As) := fun a w d pos aft g hs s => by
  obtain ⟨inf, z, h1, h2, h3⟩ := i.out
  exact ⟨_, _, _, by simp only [execOp, Instr.alloc]; simp [rZ h1 h2, newVar, newRow, h3], ⟨w.heap.size, rfl, rfl⟩, s.new _⟩

/-! structs written out -/
def splice (l : List Value) (off : Nat) : List Value → List Value
  | [] => l
  | v :: r => splice (l.set off v) (off + 1) r
def fillL (places : List (Nat × Nat)) (l : List Value) : List (Nat × Value) → Option (List Value)
  | [] => some l
  | (i, v) :: r => match places[i]? with
    | none => none
    | some (off, sz) => match v.cells.toList with
      | cs => cond (Nat.beq cs.length sz && Nat.ble (off + cs.length) l.length) (fillL places (splice l off cs) r) none
class TStruct (P : Program) (t : TypeId) (places : outParam (List (Nat × Nat))) (zs : outParam (List Value)) : Prop where
  out : ∃ i z fs, P.info? t = some i ∧ i.zero = some z ∧ z.cells = zs.toArray ∧ P.underlying t = some (.struct fs) ∧ fs.toList.map (fun f => (f.offset, ((P.info? f.type).map (·.size)))) = places.map (fun p => (p.1, some p.2))
theorem splice_eq : ∀ (cs l : List Value) (off k : Nat), ((cs.zipIdx k).foldl (fun (a : Array Value) (x : Value × Nat) => a.setIfInBounds (off + x.2) x.1) l.toArray) = (splice l (off + k) cs).toArray
  | [], _, _, _ => rfl
  | c :: cs, l, off, k => by
    simp only [List.zipIdx_cons, List.foldl_cons, List.setIfInBounds_toArray, splice]
    rw [splice_eq cs _ off (k + 1)]; rfl
theorem splice_length : ∀ (cs l : List Value) (off : Nat), (splice l off cs).length = l.length
  | [], _, _ => rfl
  | c :: cs, l, off => by simp only [splice]; rw [splice_length cs]; simp
theorem fill_eq (places : List (Nat × Nat)) : ∀ (ps : List (Nat × Value)) (l cs : List Value), fillL places l ps = some cs → Instr.fill (places.toArray[·]?) l.toArray ps = some cs.toArray
  | [], l, cs, h => by simp [fillL] at h; simp [Instr.fill, h]
  | (i, v) :: r, l, cs, h => by
    simp only [fillL] at h
    simp only [Instr.fill, List.getElem?_toArray]
    cases hp : places[i]? with
    | none => rw [hp] at h; cases h
    | some p =>
      obtain ⟨off, sz⟩ := p
      rw [hp] at h
      simp only at h ⊢
      cases hb : (Nat.beq v.cells.toList.length sz && Nat.ble (off + v.cells.toList.length) l.length) with
      | false => rw [hb] at h; cases h
      | true =>
        rw [hb] at h
        simp only [Bool.and_eq_true, Nat.ble_eq] at hb
        simp only [cond_true] at h
        have h1 : v.cells.size = sz := by have := Nat.eq_of_beq_eq_true hb.1; simpa using this
        have h2 : off + v.cells.size ≤ l.length := by simpa using hb.2
        rw [if_neg (by simp [h1]; omega)]
        have h3 := splice_eq v.cells.toList l off 0
        have h4 : (v.cells.zipIdx.foldl (fun cs (x : Value × Nat) => cs.setIfInBounds (off + x.2) x.1) l.toArray) = (splice l off v.cells.toList).toArray := by
          rw [← Array.foldl_toList, Array.toList_zipIdx]; simpa using h3
        rw [h4]
        simpa using fill_eq places r _ _ h
theorem mapM_places {P : Program} (w : World) : ∀ (fs : List Field) (places : List (Nat × Nat)), fs.map (fun f => (f.offset, ((P.info? f.type).map (·.size)))) = places.map (fun p => (p.1, some p.2)) →
    (fs.mapM (m := Sem) fun f => do Pure.pure (f.offset, ← sizeOf f.type)).run P w = .ok places w
  | [], [], _ => by simp
  | f :: fs, p :: ps, h => by
    simp only [List.map_cons, List.cons.injEq, Prod.mk.injEq] at h
    obtain ⟨⟨h1, h2⟩, h3⟩ := h
    cases hi : P.info? f.type with
    | none => rw [hi] at h2; cases h2
    | some i =>
      rw [hi] at h2; simp at h2
      have := mapM_places (P := P) w fs ps h3
      rw [List.mapM_cons]
      simp [rS hi] at this ⊢
      rw [this]; simp [h1, h2]
  | [], _ :: _, h => by cases h
  | _ :: _, [], h => by cases h
def opps (sl : Slots) : List (Nat × Operand) → Option (List (Nat × Value))
  | [] => some []
  | (i, x) :: r => match opv sl x, opps sl r with
    | some v, some vs => some ((i, v) :: vs)
    | _, _ => none
theorem opps_map {a : Act} (hs : HasSl n sl a) : ∀ {xs : List (Nat × Operand)} {vs : List (Nat × Value)}, opps sl xs = some vs → xs.map (fun (i, x) => (i, a.eval x)) = vs
  | [], vs, e => by simp [opps] at e; simp [e]
  | (i, x) :: r, vs, e => by
    simp only [opps] at e
    split at e
    · rename_i v vs' e1 e2
      simp at e; subst e
      simp [hs.eval e1, opps_map hs e2]
    · cases e
theorem o_build {t : TypeId} {places : List (Nat × Nat)} {zs cs : List Value} {xs : List (Nat × Operand)} {ps : List (Nat × Value)} [i : TStruct P t places zs] (hx : opps sl xs = some ps) (hf : fillL places zs ps = some cs) :
    OV P W0 n (.build t xs.toArray) ty sl As (.agg cs.toArray) := fun a w d pos aft g hs _ => by
  obtain ⟨inf, z, fs, h1, h2, h3, h4, h5⟩ := i.out
  have h6 := mapM_places (P := P) w fs.toList places h5
  have h7 := fill_eq _ _ _ _ hf
  have h8 : (fs.mapM (m := Sem) fun f => do Pure.pure (f.offset, ← sizeOf f.type)).run P w = .ok places.toArray w := by
    rw [Array.mapM_eq_mapM_toList]
    simp at h6 ⊢
    rw [h6]; rfl
  simp only [execOp, Instr.build, List.map_toArray, opps_map hs hx]
  simp at h8 h7
  simp [rZ h1 h2, rU h4, h3, h8, h7]

/-! calls -/
theorem run_callFunc {f : FuncId} [i : TFunc P f] (args : Array Value) (w : World) : (callFunc f args).run P w = .ok (.enter f args) w := by
  obtain ⟨fn, c, h1, h2, h3⟩ := i.out
  simp at h3
  simp [callFunc, h1, h2, h3]
theorem o_call {f : FuncId} {xs : List Operand} {ts : Array TypeId} {vs : List Value} {pre R : List Assn} {post : Value → List Assn → Prop} [i : TFunc P f] (hx : opvs sl xs = some vs) (hf : FnS P f vs pre post) (hp : Part pre As R) :
    OC P W0 n (.call { callee := .value (.func f), args := xs.toArray, argTypes := ts }) ty sl As (fun v Bs => ∃ L, post v L ∧ Bs = L ++ R) := fun a w d pos aft g hs s => by
  refine ⟨f, vs.toArray, ?_, ?_⟩
  · simp only [execOp, resolve, List.map_toArray, hs.evals hx, Act.eval]
    simp [Deferred.ofValue, invoke, run_callFunc]
  · exact (hf W0 R w (s.imp fun _ => hp.to)).mono fun e w' ⟨v, L, he, hq, s'⟩ => ⟨v, _, he, ⟨L, hq, rfl⟩, s'⟩
/-- a call of a function value: a closure or a bound method -/
theorem o_callV {f : FuncId} {x : Operand} {xs : List Operand} {ts : Array TypeId} {vs first cap : List Value} {pre R : List Assn} {post : Value → List Assn → Prop} [i : TFunc P f] (hv : opv sl x = some (.func (.func f) first.toArray cap.toArray)) (hx : opvs sl xs = some vs) (hf : FnS P f (first ++ vs ++ cap) pre post) (hp : Part pre As R) :
    OC P W0 n (.call { callee := .value x, args := xs.toArray, argTypes := ts }) ty sl As (fun v Bs => ∃ L, post v L ∧ Bs = L ++ R) := fun a w d pos aft g hs s => by
  refine ⟨f, (first ++ vs ++ cap).toArray, ?_, ?_⟩
  · simp only [execOp, resolve, List.map_toArray, hs.evals hx, hs.eval hv]
    simp [Deferred.ofValue, invoke, run_callFunc]
  · exact (hf W0 R w (s.imp fun _ => hp.to)).mono fun e w' ⟨v, L, he, hq, s'⟩ => ⟨v, _, he, ⟨L, hq, rfl⟩, s'⟩

theorem o_pickT {c x y : Operand} {b : Bool} {v : Value} (hb : b = true) (hc : opv sl c = some (.bool b)) (h1 : opv sl x = some v) : OV P W0 n (.pick c x y) ty sl As v := fun a w d pos aft g hs _ => by
  subst hb
  simp only [execOp, hs.eval hc, hs.eval h1]
  simp [asBool]
theorem o_pickF {c x y : Operand} {b : Bool} {v : Value} (hb : b = false) (hc : opv sl c = some (.bool b)) (h1 : opv sl y = some v) : OV P W0 n (.pick c x y) ty sl As v := fun a w d pos aft g hs _ => by
  subst hb
  simp only [execOp, hs.eval hc, hs.eval h1]
  simp [asBool]
theorem wr_i64 {x : Int} (h : -9223372036854775808 ≤ x ∧ x ≤ 9223372036854775807) : IntKind.i64.wrap x = x := by
  unfold IntKind.wrap; simp [IntKind.bits, IntKind.signed]; omega
theorem wr_i32 {x : Int} (h : -2147483648 ≤ x ∧ x ≤ 2147483647) : IntKind.i32.wrap x = x := by
  unfold IntKind.wrap; simp [IntKind.bits, IntKind.signed]; omega
theorem wr_u64 {x : Int} (h : 0 ≤ x ∧ x ≤ 18446744073709551615) : IntKind.u64.wrap x = x := by
  unfold IntKind.wrap; simp [IntKind.bits, IntKind.signed]; omega
theorem wr_u32 {x : Int} (h : 0 ≤ x ∧ x ≤ 4294967295) : IntKind.u32.wrap x = x := by
  unfold IntKind.wrap; simp [IntKind.bits, IntKind.signed]; omega
theorem wr_u16 {x : Int} (h : 0 ≤ x ∧ x ≤ 65535) : IntKind.u16.wrap x = x := by
  unfold IntKind.wrap; simp [IntKind.bits, IntKind.signed]; omega
theorem wr_u8 {x : Int} (h : 0 ≤ x ∧ x ≤ 255) : IntKind.u8.wrap x = x := by
  unfold IntKind.wrap; simp [IntKind.bits, IntKind.signed]; omega
end
end Go.L
