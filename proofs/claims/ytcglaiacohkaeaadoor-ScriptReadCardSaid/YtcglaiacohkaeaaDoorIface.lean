/-
  Interface values: methods called through them, nil; slices of slices. Own work; it speaks of no program.
-/
import Derived.Test.YtcglaiacohkaeaaDoorTree
set_option linter.unusedSimpArgs false
set_option linter.unusedVariables false
set_option linter.unusedSectionVars false
namespace Go.L
/-- the method of a dynamic type -/
class TMeth (P : Program) (t : TypeId) (name : String) (f : outParam FuncId) : Prop where
  out : ∀ v w, (method (P.types.size + Made.depth) t v name).run P w = .ok (f, v) w
section
variable {P : Program} {W0 w : World} {n : Nat} {sl : Slots} {As : List Assn} {ty : TypeId}
theorem run_program (w : World) : (program).run P w = .ok P w := by simp [program, Sem.run]
theorem o_inv {t : TypeId} {name : String} {f : FuncId} {x : Operand} {v : Value} {xs : List Operand} {ts : Array TypeId} {vs : List Value} {pre R : List Assn} {post : Value → List Assn → Prop} [m : TMeth P t name f] [i : TFunc P f] (hv : opv sl x = some (.iface t v)) (hx : opvs sl xs = some vs) (hf : FnS P f (v :: vs) pre post) (hp : Part pre As R) :
    OC P W0 n (.call { callee := .invoke x name, args := xs.toArray, argTypes := ts }) ty sl As (fun v Bs => ∃ L, post v L ∧ Bs = L ++ R) := fun a w d pos aft g hs s => by
  refine ⟨f, (v :: vs).toArray, ?_, ?_⟩
  · simp only [execOp, resolve, List.map_toArray, hs.evals hx, hs.eval hv]
    have e1 := m.out v w
    simp [invoke, callMethod, run_program] at e1 ⊢
    rw [e1]
    simpa using run_callFunc (P := P) (f := f) (v :: vs).toArray w
  · exact (hf W0 R w (s.imp fun _ => hp.to)).mono fun e w' ⟨v, L, he, hq, s'⟩ => ⟨v, _, he, ⟨L, hq, rfl⟩, s'⟩
instance (priority := low) RdS.litOff {b off n cap : Nat} {e : TypeId} {xs : List Value} {r : List Assn} : RdS (.slice (some ⟨b, off, none⟩) n cap) (cel b e xs :: r) n (xs.drop off) where
  get := fun ⟨_, _, _, e1, ha, _⟩ => e1 ▸ .inr ⟨b, off, none, cap, rfl, fun _ => rfl, fun j x hx => ⟨rfl, xs.toArray, e, (0, 0), join_some ha, by rw [List.getElem?_drop] at hx; simpa using hx⟩⟩
theorem o_lenL {x : Operand} {t e sz l c : Nat} {a : Option Addr} [i : TSlice P t e sz] (h : opv sl x = some (.slice a l c)) : OV P W0 n (.call { callee := .builtin .len, args := #[x], argTypes := #[t] }) ty sl As (.int .i64 l) := fun a' w d pos aft g hs s => by
  obtain ⟨inf, h1, h2, h3⟩ := i.out
  simp only [execOp, resolve, List.map_toArray, List.map_cons, List.map_nil, hs.eval h]
  simp [invoke, builtin, Builtin.len_, rU h1, goInt]
/-- s[:i] -/
theorem o_slTo {t e sz : Nat} {x y : Operand} {a : Option Addr} {l c i : Nat} {kk : IntKind} [j : TSlice P t e sz] (hx : opv sl x = some (.slice a l c)) (hy : opv sl y = some (.int kk (i : Int))) (hi : i ≤ c) : OV P W0 n (.slice t x none (some y) none) ty sl As (.slice a i c) := fun a' w d pos aft g hs _ => by
  obtain ⟨inf, h1, h2, h3⟩ := j.out
  simp only [execOp, Option.map_some, Option.map_none, hs.eval hx, hs.eval hy]
  have e0 : a.map (fun x : Addr => x.add 0) = a := by cases a <;> simp [Addr.add]
  simp [Instr.sliceAt, Instr.slice, rU h1, rS h2, Instr.sliceBounds, Instr.sliceBound, asIntOf, hi, e0]
/-- s[i:] -/
theorem o_slFrom {t e sz : Nat} {x y : Operand} {a : Option Addr} {l c i : Nat} {kk : IntKind} [j : TSlice P t e sz] (hx : opv sl x = some (.slice a l c)) (hy : opv sl y = some (.int kk (i : Int))) (hi : i ≤ l) : OV P W0 n (.slice t x (some y) none none) ty sl As (.slice (if c = i then a else a.map (fun x : Addr => x.add (i * sz))) (l - i) (c - i)) := fun a' w d pos aft g hs _ => by
  obtain ⟨inf, h1, h2, h3⟩ := j.out
  simp only [execOp, Option.map_some, Option.map_none, hs.eval hx, hs.eval hy]
  simp [Instr.sliceAt, Instr.slice, rU h1, rS h2, h3, Instr.sliceBounds, Instr.sliceBound, asIntOf, hi]
end
end Go.L
