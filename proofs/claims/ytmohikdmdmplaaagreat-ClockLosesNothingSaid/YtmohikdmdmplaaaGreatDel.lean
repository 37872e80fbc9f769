/-
  What slices.Delete is made of: a slice appended to a front part of itself, clear. Own work; it speaks of no program.
-/
import Derived.Test.YtmohikdmdmplaaaGreatIface
set_option linter.unusedSimpArgs false
set_option linter.unusedVariables false
set_option linter.unusedSectionVars false
namespace Go.L
section
variable {P : Program} {W0 w : World} {n : Nat} {sl : Slots} {As : List Assn} {ty : TypeId}
theorem o_sl3 {t e sz : Nat} {x y z q : Operand} {a : Option Addr} {l c i k m : Nat} {k1 k2 k3 : IntKind} [j : TSlice P t e sz] (hx : opv sl x = some (.slice a l c)) (hy : opv sl y = some (.int k1 (i : Int))) (hz : opv sl z = some (.int k2 (k : Int))) (hq : opv sl q = some (.int k3 (m : Int))) (h1 : i ≤ k) (h2 : k ≤ m) (h3 : m ≤ c) :
    OV P W0 n (.slice t x (some y) (some z) (some q)) ty sl As (.slice (if m = i then a else a.map (fun x : Addr => x.add (i * sz))) (k - i) (m - i)) := fun a' w d pos aft g hs _ => by
  obtain ⟨inf, g1, g2, g3⟩ := j.out
  simp only [execOp, Option.map_some, Option.map_none, hs.eval hx, hs.eval hy, hs.eval hz, hs.eval hq]
  simp [Instr.sliceAt, Instr.slice, rU g1, rS g2, g3, Instr.sliceBounds, Instr.sliceBound, asIntOf, h1, h2, h3]
theorem o_slSub {t e sz : Nat} {x y z : Operand} {a : Option Addr} {l c i k : Nat} {k1 k2 : IntKind} [j : TSlice P t e sz] (hx : opv sl x = some (.slice a l c)) (hy : opv sl y = some (.int k1 (i : Int))) (hz : opv sl z = some (.int k2 (k : Int))) (h1 : i ≤ k) (h2 : k ≤ c) :
    OV P W0 n (.slice t x (some y) (some z) none) ty sl As (.slice (if c = i then a else a.map (fun x : Addr => x.add (i * sz))) (k - i) (c - i)) := fun a' w d pos aft g hs _ => by
  obtain ⟨inf, g1, g2, g3⟩ := j.out
  simp only [execOp, Option.map_some, Option.map_none, hs.eval hx, hs.eval hy, hs.eval hz]
  simp [Instr.sliceAt, Instr.slice, rU g1, rS g2, g3, Instr.sliceBounds, Instr.sliceBound, asIntOf, h1, h2]
theorem add0 (b k : Nat) : Addr.add ⟨b, 0, none⟩ k = ⟨b, k, none⟩ := by unfold Addr.add; split <;> simp_all
/-- append(s[:i], s[j:]...) -/
theorem o_appendOver {x y : Operand} {b i j k cap : Nat} {t e : TypeId} {sz bytes : Nat} {zs xs : List Value} {u : List Value → List Assn} [it : TElem P t e sz bytes zs] [r : OwS (.slice (some ⟨b, 0, none⟩) k cap) As e sz k xs u] (hx : opv sl x = some (.slice (some ⟨b, 0, none⟩) i cap))
    (hy : opv sl y = some (.slice (if cap = j then some ⟨b, 0, none⟩ else (some (⟨b, 0, none⟩ : Addr)).map (fun x : Addr => x.add (j * sz))) (k - j) (cap - j))) (hij : i ≤ j) (hj : j ≤ k) (hk : k ≤ cap) (h1 : ∀ x ∈ xs, x.oneCell' = true) :
    ON P W0 n (.call { callee := .builtin .append, args := #[x, y], argTypes := #[t, t] }) ty sl As (fun v' Bs => v' = .slice (some ⟨b, 0, none⟩) (i + (k - j)) cap ∧ Bs = u (xs.take (i * sz) ++ xs.drop (j * sz) ++ xs.drop ((i + (k - j)) * sz))) := fun a w d pos aft g hs s => by
  obtain ⟨inf, z, g1, g2, rfl, g4, g5, g6, g7⟩ := it.out
  obtain ⟨hl, hh | ⟨b', cap', sp, hv, k2, k3, k4, k5⟩⟩ := r.get s.sat
  · cases hh.1
  · simp only [Value.slice.injEq, Option.some.injEq, Addr.mk.injEq] at hv
    obtain ⟨⟨rfl, _, _⟩, _, rfl⟩ := hv
    have hbw : w.heap[b]? = some (.cells (xs ++ sp).toArray e (0, 0)) := k5
    obtain ⟨A, hA, hAn⟩ : ∃ A : Addr, (if cap = j then some (⟨b, 0, none⟩ : Addr) else (some (⟨b, 0, none⟩ : Addr)).map (fun x : Addr => x.add (j * inf.size))) = some A ∧ ∀ q x, (xs.drop (j * inf.size))[q]? = some x → w.cell? (A.add q) = some x := by
      by_cases h : cap = j
      · refine ⟨⟨b, 0, none⟩, by rw [if_pos h], fun q x hq => ?_⟩
        rw [List.drop_of_length_le (by rw [hl, show j = k by omega]; exact Nat.le_refl _)] at hq; simp at hq
      · refine ⟨⟨b, j * inf.size, none⟩, by rw [if_neg h, Option.map_some, add0], fun q x hq => ?_⟩
        rw [cell_add]
        rw [List.getElem?_drop] at hq
        have hlt := (List.getElem?_eq_some_iff.1 hq).1
        simp [World.cell?, hbw, List.getElem?_append_left hlt, hq]
    rw [hA] at hy
    have hnl : (xs.drop (j * inf.size)).length = (k - j) * inf.size := by rw [List.length_drop, hl, Nat.sub_mul]
    have hmul : i * inf.size + (k - j) * inf.size = (i + (k - j)) * inf.size := by rw [Nat.add_mul]
    have hle : (i + (k - j)) * inf.size ≤ k * inf.size := Nat.mul_le_mul_right _ (by omega)
    have hr := run_append_room (P := P) w t ty e inf g1 g2 b i cap (xs ++ sp).toArray hbw A (k - j) (cap - j) (xs.drop (j * inf.size)) hnl hAn (fun x hx => h1 x (List.mem_of_mem_drop hx)) (by omega) (by rw [hnl, List.size_toArray, List.length_append, hl]; omega)
    have hile : i * inf.size ≤ xs.length := by rw [hl]; omega
    have e1 : ((xs ++ sp).toArray.toList.take (i * inf.size) ++ xs.drop (j * inf.size) ++ (xs ++ sp).toArray.toList.drop (i * inf.size + (xs.drop (j * inf.size)).length)) = (xs.take (i * inf.size) ++ xs.drop (j * inf.size) ++ xs.drop ((i + (k - j)) * inf.size)) ++ sp := by
      rw [hnl, hmul, List.take_append_of_le_length hile, List.drop_append_of_le_length (by rw [hl]; exact hle)]; simp
    rw [e1] at hr
    have hlen : (xs.take (i * inf.size) ++ xs.drop (j * inf.size) ++ xs.drop ((i + (k - j)) * inf.size)).length = xs.length := by
      simp only [List.length_append, List.length_take, List.length_drop]; rw [hnl.symm.trans (List.length_drop ..)] at hmul; omega
    refine ⟨_, _, w.setRow b ((xs.take (i * inf.size) ++ xs.drop (j * inf.size) ++ xs.drop ((i + (k - j)) * inf.size)) ++ sp).toArray, ?_, ⟨rfl, rfl⟩, s.os, s.tape, s.output, by have := s.size; simpa [World.setRow] using this, ?_⟩
    · simp only [execOp, resolve, List.map_toArray, List.map_cons, List.map_nil, hs.eval hx, hs.eval hy]
      simp [invoke, builtin] at hr ⊢
      simp [hr]
    · have e2 : hpOf (w.setRow b ((xs.take (i * inf.size) ++ xs.drop (j * inf.size) ++ xs.drop ((i + (k - j)) * inf.size)) ++ sp).toArray) = upd (hpOf w) b (.cells ((xs.take (i * inf.size) ++ xs.drop (j * inf.size) ++ xs.drop ((i + (k - j)) * inf.size)) ++ sp).toArray e (0, 0)) := by
        unfold World.setRow; rw [hpOf_modify _ k5]
      rw [e2]; exact r.set _ s.sat rfl k5 hlen
theorem gl_n0 {Q : Exit → Act → World → Prop} {ops : Array Oper} {op : Op} {pos : String} {aft : Array Edge} {rest : List Oper} {p : Value → List Assn → Prop} (hv : ON P W0 n op ty sl As p) (h : ∀ v Bs, p v Bs → GL P W0 n ops rest sl Bs Q) : GL P W0 n ops (⟨none, op, ty, pos, aft, none⟩ :: rest) sl As Q :=
  fun a w hs s => wpList_plain rfl fun K hK => by
    obtain ⟨v, Bs, w', hr, hp, s'⟩ := hv a w none pos aft none hs s
    simp only [Oper.wp, hr, Oper.upon]
    exact hK _ _ (h v Bs hp _ _ hs s')
theorem zeroCells_rep (zs : List Value) (m : Nat) : (Builtin.zeroCells zs.toArray m).toList = rep zs m := by
  rcases Nat.eq_zero_or_pos zs.length with h | h
  · have : zs = [] := List.eq_nil_of_length_eq_zero h
    subst this
    have hr : ∀ m, rep ([] : List Value) m = [] := fun m => by induction m with | zero => rfl | succ m ih => simp [rep, ih]
    simp [Builtin.zeroCells, hr]
  · apply List.ext_getElem?
    intro j
    simp only [Builtin.zeroCells]
    rcases Nat.lt_or_ge j (m * zs.length) with x | x
    · have hm : j % zs.length < zs.length := Nat.mod_lt _ h
      rw [rep_get zs h m j x]
      simp [x, hm]
    · rw [List.getElem?_eq_none (by simpa using x), List.getElem?_eq_none (by rw [rep_length]; exact x)]
/-- clear(s[k:]) -/
theorem o_clear {x : Operand} {b n' k m cap c : Nat} {t e : TypeId} {sz bytes : Nat} {zs xs : List Value} {u : List Value → List Assn} [it : TElem P t e sz bytes zs] [r : OwS (.slice (some ⟨b, 0, none⟩) n' cap) As e sz n' xs u] (hn : k + m = n') (hx : opv sl x = some (.slice (if cap = k then some ⟨b, 0, none⟩ else (some (⟨b, 0, none⟩ : Addr)).map (fun x : Addr => x.add (k * sz))) m c)) (hm : 0 < m) (h1 : ∀ x ∈ zs, x.oneCell' = true) :
    ON P W0 n (.call { callee := .builtin .clear, args := #[x], argTypes := #[t] }) ty sl As (fun v' Bs => v' = .tuple #[] ∧ Bs = u (xs.take (k * sz) ++ rep zs m)) := fun a w d pos aft g hs s => by
  subst hn
  obtain ⟨inf, z, g1, g2, rfl, g4, g5, g6, g7⟩ := it.out
  obtain ⟨hl, hh | ⟨b', cap', sp, hv, k2, k3, k4, k5⟩⟩ := r.get s.sat
  · cases hh.1
  · simp only [Value.slice.injEq, Option.some.injEq, Addr.mk.injEq] at hv
    obtain ⟨⟨rfl, _, _⟩, _, rfl⟩ := hv
    have hbw : w.heap[b]? = some (.cells (xs ++ sp).toArray e (0, 0)) := k5
    rw [if_neg (by omega), Option.map_some, add0] at hx
    have hrl : (rep zs m).length = m * inf.size := by rw [rep_length, g7]
    have hkm : (k + m) * inf.size = k * inf.size + m * inf.size := Nat.add_mul ..
    have hst := run_storeCells_at P b (k * inf.size) e (rep zs m) 0 (xs ++ sp).toArray w hbw (by rw [hrl, List.size_toArray, List.length_append, hl]; omega) (fun x hx => by
      have : ∀ m, ∀ x ∈ rep zs m, x.oneCell' = true := fun m => by
        induction m with
        | zero => intro x hx; simp [rep] at hx
        | succ m ih => intro x hx; simp only [rep, List.mem_append] at hx; rcases hx with hx | hx; exact h1 x hx; exact ih x hx
      exact this m x hx)
    have e0 : ((xs ++ sp).toArray.toList.take (k * inf.size + 0) ++ rep zs m ++ (xs ++ sp).toArray.toList.drop (k * inf.size + 0 + (rep zs m).length)) = (xs.take (k * inf.size) ++ rep zs m) ++ sp := by
      rw [hrl, Nat.add_zero, ← hkm, ← hl]
      simp [List.take_append_of_le_length (show k * inf.size ≤ xs.length by rw [hl]; omega)]
    rw [e0] at hst
    obtain ⟨m', rfl⟩ : ∃ m', m = m' + 1 := ⟨m - 1, by omega⟩
    refine ⟨_, _, w.setRow b ((xs.take (k * inf.size) ++ rep zs (m' + 1)) ++ sp).toArray, ?_, ⟨rfl, rfl⟩, s.os, s.tape, s.output, by have := s.size; simpa [World.setRow] using this, ?_⟩
    · have hzc := zeroCells_rep zs (m' + 1)
      simp only [execOp, resolve, List.map_toArray, List.map_cons, List.map_nil, hs.eval hx]
      simp only [invoke]
      simp [builtin, Builtin.clear_, rU g1, rZ g2 g5, g6, hzc] at hst ⊢
      simp [hst]
    · have e2 : hpOf (w.setRow b ((xs.take (k * inf.size) ++ rep zs (m' + 1)) ++ sp).toArray) = upd (hpOf w) b (.cells ((xs.take (k * inf.size) ++ rep zs (m' + 1)) ++ sp).toArray e (0, 0)) := by
        unfold World.setRow; rw [hpOf_modify _ k5]
      rw [e2]; exact r.set _ s.sat rfl k5 (by rw [List.length_append, hrl, List.length_take, hl]; omega)
end
/-- a slice cut short -/
theorem own_cut {b n k cap : Nat} {e : TypeId} {sz : Nat} {xs : List Value} {R : List Assn} (h : k ≤ n) : ∀ H, Sat (own (.slice (some ⟨b, 0, none⟩) n cap) e sz n xs :: R) H → Sat (own (.slice (some ⟨b, 0, none⟩) k cap) e sz k (xs.take (k * sz)) :: R) H := fun _ => Sat.head fun g hh => by
  obtain ⟨hl, hh | ⟨b', cap', sp, hv, k2, k3, k4, k5⟩⟩ := hh
  · cases hh.1
  · simp only [Value.slice.injEq, Option.some.injEq, Addr.mk.injEq] at hv
    obtain ⟨⟨rfl, _, _⟩, _, rfl⟩ := hv
    have hle : k * sz ≤ n * sz := Nat.mul_le_mul_right _ h
    refine ⟨by rw [List.length_take, hl]; omega, .inr ⟨b, cap, xs.drop (k * sz) ++ sp, rfl, ?_, by omega, k4, ?_⟩⟩
    · rw [← List.append_assoc, List.take_append_drop]; exact k2
    · rw [← List.append_assoc, List.take_append_drop]; exact k5
end Go.L
