/-
  range over a text of plain bytes; an array's element that is a struct; a rest of a slice that is only read. Own work; it speaks of no program.
-/
import Derived.Test.YtcglaiacohkaeaaDoorStr
import Derived.Test.YtcglaiacohkaeaaDoorIface
import Derived.Test.YtcglaiacohkaeaaDoorPgP
set_option linter.unusedSimpArgs false
set_option linter.unusedVariables false
set_option linter.unusedSectionVars false
namespace Go.L
section
variable {P : Program} {W0 w : World} {n : Nat} {sl : Slots} {As R : List Assn} {ty : TypeId}
theorem get_it {r p : Nat} {s : ByteArray} (h : w.heap[r]? = some (.stringIter s p)) : (getObj r).run P w = .ok (.stringIter s p) w := by simp [getObj, Sem.run, h]
theorem set_it {r p : Nat} {s : ByteArray} (h : w.heap[r]? = some (.stringIter s p)) (o : Obj) : (setObj r o).run P w = .ok () { w with heap := w.heap.setIfInBounds r o } := by simp [setObj, Sem.run, h]
/-- where a walk over a text stands -/
abbrev itr (r : Nat) (s : List UInt8) (p : Nat) : Assn := pts r (.stringIter ⟨s.toArray⟩ p)
theorem o_range {t : TypeId} {x : Operand} {l : List UInt8} [i : TStr P t] (hx : opv sl x = some (S l)) : ON P W0 n (.range t x) ty sl As (fun u Bs => ∃ b, u = ptr b 0 ∧ Bs = itr b l 0 :: As) := fun a w d pos aft g hs s => by
  refine ⟨_, _, { w with heap := w.heap.push (.stringIter ⟨l.toArray⟩ 0) }, ?_, ⟨w.heap.size, rfl, rfl⟩, s.new _⟩
  simp only [execOp, hs.eval hx, Instr.range]
  simp [rU i.out]
theorem decode_ascii {l : List UInt8} {p : Nat} {c : UInt8} (h : l[p]? = some c) (hc : c.toNat < 128) : Utf8.decode ⟨l.toArray⟩ p = (c.toNat, 1) := by
  have e : (ByteArray.mk l.toArray).get! p = c := by
    obtain ⟨hp, e⟩ := List.getElem?_eq_some_iff.1 h
    simp [ByteArray.get!, getElem!_pos, hp, e]
  unfold Utf8.decode
  simp only [Nat.add_zero, e]
  rw [if_pos hc]
theorem o_next {x : Operand} {l : List UInt8} {r p : Nat} {c : UInt8} {F : List Assn} (hx : opv sl x = some (ptr r 0)) (hp : Sel (itr r l p) As F) (hc : l[p]? = some c) (h8 : c.toNat < 128) : ON P W0 n (.next x true) ty sl As (fun u Bs => u = .tuple #[.bool true, .int .i64 p, .int .i32 (c.toNat : Int)] ∧ Bs = itr r l (p + 1) :: F) := fun a w d pos aft g hs s => by
  have s1 := s.imp fun _ => hp.to
  have hh := s1.heap (b := r)
  refine ⟨_, _, { w with heap := w.heap.setIfInBounds r (.stringIter ⟨l.toArray⟩ (p + 1)) }, ?_, ⟨rfl, rfl⟩, St.set (u := fun o' => pts r o' :: F) s1 (.stringIter ⟨l.toArray⟩ (p + 1))⟩
  have hlt : p < (ByteArray.mk l.toArray).size := by simp [ByteArray.size]; exact (List.getElem?_eq_some_iff.1 hc).1
  have hd := decode_ascii hc h8
  simp only [execOp, hs.eval hx, Instr.next]
  simp [get_it hh, set_it hh, hlt, hd, goInt]
theorem o_nextE {x : Operand} {l : List UInt8} {r : Nat} {F : List Assn} (hx : opv sl x = some (ptr r 0)) (hp : Sel (itr r l l.length) As F) : OV P W0 n (.next x true) ty sl As (.tuple #[.bool false]) := fun a w d pos aft g hs s => by
  have s1 := s.imp fun _ => hp.to
  have hh := s1.heap (b := r)
  have hlt : ¬ l.length < (ByteArray.mk l.toArray).size := by simp [ByteArray.size]
  simp only [execOp, hs.eval hx, Instr.next]
  simp [get_it hh, hlt]
theorem o_indexA {t e : TypeId} {x y : Operand} {vs us : List Value} {i len sz : Nat} {kk : IntKind} (h1 : P.underlying t = some (.array len e)) [j : TAgg P e sz] (hx : opv sl x = some (.agg vs.toArray)) (hy : opv sl y = some (.int kk (i : Int))) (hi : i < len) (hv : (vs.drop (i * sz)).take sz = us) : OV P W0 n (.index t x y) ty sl As (.agg us.toArray) := fun a w d pos aft g hs _ => by
  obtain ⟨dd, g1, g2⟩ := j.out
  obtain ⟨inf, g3, g4⟩ := j.size
  simp only [execOp, hs.eval hx, hs.eval hy]
  have h0 : (0 : Int) ≤ i ∧ (i : Int) < len := by omega
  simp [Instr.index, asIntOf, rU h1, h0, part, rA1 g1 g2, rS g3, g4, hi]
  rw [← hv]
theorem o_buildArr {t : TypeId} {len sz : Nat} {zs cs : List Value} {xs : List (Nat × Operand)} {ps : List (Nat × Value)} [i : TArr P t len sz] [j : TZeroC P t zs] (hx : opps sl xs = some ps) (hf : fillS sz zs ps = some cs) : OV P W0 n (.build t xs.toArray) ty sl As (.agg cs.toArray) := fun a w d pos aft g hs _ => by
  obtain ⟨e, inf, h1, h2, h3⟩ := i.out
  obtain ⟨inf2, z, g1, g2, g3⟩ := j.out
  have h8 := fillS_eq _ _ _ _ hf
  simp only [execOp, Instr.build, List.map_toArray, opps_map hs hx]
  simp [rZ g1 g2, rU h1, rS h2, h3, g3] at h8 ⊢
  simp [h8]
end
/-! ### a slice that is only read -/
def rdo (a : Option Addr) (c n : Nat) (xs : List Value) : Assn := fun h => Pg.RdH h a c n xs
instance RdA.rdo {a : Option Addr} {c n : Nat} {xs : List Value} : RdA (.slice a n c) (rdo a c n xs) n xs where
  get := fun h => h.1
theorem rdo_own {a : Option Addr} {c n : Nat} {e : TypeId} {sz : Nat} {xs : List Value} {R : List Assn} : ∀ h, Sat (own (.slice a n c) e sz n xs :: R) h → Sat (rdo a c n xs :: R) h := fun _ => Sat.head fun g hh => by
  refine ⟨SlO.rd hh, ?_⟩
  obtain ⟨_, h | ⟨b, cap, sp, h1, h2, h3, h4, h5⟩⟩ := hh
  · simp only [Value.slice.injEq] at h; omega
  · simp only [Value.slice.injEq] at h1; omega
theorem rdo_tail {a : Option Addr} {c n sz : Nat} {x xs : List Value} (hx : x.length = sz) (hxs : n = 0 → xs = []) {R : List Assn} : ∀ h, Sat (rdo a c (n + 1) (x ++ xs) :: R) h → Sat (rdo (if c = 1 then a else a.map (fun y : Addr => y.add (1 * sz))) (c - 1) n xs :: R) h := fun _ => Sat.head fun g hh => by
  obtain ⟨hh, hc⟩ := hh
  refine ⟨?_, by omega⟩
  rcases hh with ⟨_, _, h⟩ | ⟨b, off, spot, cap, h1, h2, h3⟩
  · omega
  · simp only [Value.slice.injEq] at h1
    obtain ⟨rfl, _, rfl⟩ := h1
    obtain rfl := h2 (by omega)
    by_cases h1c : c = 1
    · subst h1c
      have hn : n = 0 := by omega
      subst hn
      obtain rfl := hxs rfl
      rw [if_pos rfl]
      exact .inr ⟨b, off, none, 0, rfl, fun _ => rfl, fun j x hj => by cases hj⟩
    · rw [if_neg h1c]
      refine .inr ⟨b, off + sz, none, c - 1, by simp [Addr.add], fun _ => rfl, fun j y hj => ?_⟩
      obtain ⟨_, cs, e, fz, k1, k2⟩ := h3 (sz + j) y (by rw [List.getElem?_append_right (by omega), hx, Nat.add_sub_cancel_left]; exact hj)
      exact ⟨rfl, cs, e, fz, k1, by rw [Nat.add_assoc]; exact k2⟩
end Go.L
