/-
  append(b, s...): a string's bytes behind bytes that are one's own. Own work; it speaks of no program.
-/
import Derived.Lib.AppendStr
import Derived.Test.YtcglaiacohkaeaaDoorStr
import Derived.Test.YtcglaiacohkaeaaDoorMem
set_option linter.unusedSimpArgs false
set_option linter.unusedVariables false
set_option linter.unusedSectionVars false
namespace Go.L
section
variable {P : Program} {W0 : World} {n : Nat} {sl : Slots} {As : List Assn}
abbrev byC (l : List UInt8) : List Value := l.map fun c => Value.int .u8 c.toNat
theorem append_coreT {v : Value} {t u e : TypeId} {k : Nat} {xs : List Value} {m : List UInt8} {R : List Assn} {w : World} [i : TElem P t e 1 1 [.int .u8 0]] [j : TStr P u] (hz : (P.info? e).map (·.zero) = some (some (.int .u8 0))) (s : St W0 (own v e 1 k xs :: R) w)
    (hb : k + m.length ≤ 140737488355328) (h63 : k + m.length ≤ maxLen) (ty : TypeId) :
    ∃ v' w', (Builtin.append_ #[t, u] ty #[v, S m]).run P w = .ok v' w' ∧ St W0 (own v' e 1 (k + m.length) (xs ++ byC m) :: R) w' := by
  obtain ⟨inf, z, g1, g2, g3, g4, g5, g6, g7⟩ := i.out
  have hz' : inf.zero = some (.int .u8 0) := by rw [g2] at hz; simpa using hz
  have hms : (ByteArray.mk m.toArray).size = m.length := by simp [ByteArray.size]
  have hmc : Lib.strCells ⟨m.toArray⟩ = byC m := by simp [Lib.strCells]
  have hl : (byC m).length = m.length := List.length_map _
  have hxl : (xs ++ byC m).length = (k + m.length) * 1 := by
    obtain ⟨h0, h2, _, _, ⟨hx, _⟩, _⟩ := s.sat
    rw [List.length_append, hx, hl]; omega
  have hsmall : k + m.length ≤ 9223372036854775807 := by simp only [maxLen] at h63; omega
  have grown : ∀ old, old < k + m.length → St W0 (own (.slice (some ⟨w.heap.size, 0, none⟩) (k + m.length) (grownCap w (k + m.length) old e)) e 1 (k + m.length) (xs ++ byC m) :: R)
      (w.drew.alloc (.cells (xs.toArray ++ (byC m).toArray ++ Builtin.zeroCells (Value.int .u8 0).cells (grownCap w (k + m.length) old e - (k + m.length))) e)) := fun old ho => by
    have hge := grownCap_ge w (k + m.length) old e
    have hcm := grownCap_le_maxLen w (k + m.length) old e h63
    have s1 : St W0 (pts w.heap.size (.cells (xs.toArray ++ (byC m).toArray ++ Builtin.zeroCells (Value.int .u8 0).cells (grownCap w (k + m.length) old e - (k + m.length))) e) :: R) (w.drew.alloc (.cells (xs.toArray ++ (byC m).toArray ++ Builtin.zeroCells (Value.int .u8 0).cells (grownCap w (k + m.length) old e - (k + m.length))) e)) :=
      (s.imp fun _ => Sat.drop).drew.new _
    refine s1.imp fun _ => Sat.head fun h hh => ⟨hxl, .inr ⟨_, _, (Builtin.zeroCells (Value.int .u8 0).cells (grownCap w (k + m.length) old e - (k + m.length))).toList, rfl, ?_, hge, hcm, ?_⟩⟩
    · rw [List.length_append, hxl]
      show _ + (Builtin.zeroCells _ _).size = _
      rw [size_zeroCells, show (Value.int IntKind.u8 0).cells.size = 1 from rfl]; omega
    · have hh' : h w.heap.size = some _ := hh
      rw [hh']; congr 2
      apply Array.ext'; simp
  obtain ⟨h1', h2', d, e0, ⟨hx, hv⟩, hR⟩ := s.sat
  rcases hv with ⟨rfl, rfl⟩ | ⟨g, cap', sp, rfl, k2, k3, k4, k5⟩
  · have hx0 : xs = [] := List.eq_nil_of_length_eq_zero (by simpa using hx)
    subst hx0
    by_cases hm : m.length = 0
    · have hn : m = [] := List.eq_nil_of_length_eq_zero hm
      subst hn
      refine ⟨_, w, ?_, by simpa using s⟩
      simp [Builtin.append_, run_underlying g1, run_underlying j.out, sizeOf, typeInfo, g2, g3, Builtin.lenOf, Builtin.firstCells, ByteArray.size, loadCells, loadCellsFrom]
    · have hr := run_append_nil_string (P := P) w t u ty e inf (.int .u8 0) g1 j.out g2 hz' ⟨m.toArray⟩ (by rw [hms]; omega) (by rw [hms]; omega) (by rw [hms, g4]; omega)
      have hgr := grown 0 (by omega)
      simp only [Nat.zero_add, List.nil_append, Array.empty_append] at hgr ⊢
      have e1 : ((⟨m.toArray⟩ : ByteArray).data.map fun b => Value.int .u8 b.toNat) = (byC m).toArray := by apply Array.ext'; simp
      rw [e1, hms] at hr
      exact ⟨_, _, hr, hgr⟩
  · have hg : w.heap[g]? = some (.cells (xs ++ sp).toArray e (0, 0)) := by
      have : hpOf w g = _ := e0 ▸ join_some (h2 := h2') k5
      exact this
    by_cases hroom : k + m.length ≤ cap'
    · have hfit : k + m.length ≤ (xs ++ sp).toArray.size := by rw [List.size_toArray, k2]; omega
      have hr := Lib.run_append_room_string (P := P) w t u ty e inf g1 j.out g2 g3 g k cap' _ hg ⟨m.toArray⟩ (by rw [hms]; exact hroom) (by rw [hms]; exact hfit)
      rw [hms, hmc] at hr
      refine ⟨_, _, hr, s.os, s.tape, s.output, by have := s.size; simpa [World.setRow] using this, ?_⟩
      have hxk : xs.length = k := by simpa using hx
      have e1 : ((xs ++ sp).toArray.toList.take k ++ byC m ++ (xs ++ sp).toArray.toList.drop (k + m.length)) = (xs ++ byC m) ++ sp.drop m.length := by
        rw [← hxk]
        simp [List.drop_append]
      have e2 : hpOf (w.setRow g ((xs ++ sp).toArray.toList.take k ++ byC m ++ (xs ++ sp).toArray.toList.drop (k + m.length)).toArray) = upd (hpOf w) g (.cells ((xs ++ byC m) ++ sp.drop m.length).toArray e (0, 0)) := by
        rw [e1]; unfold World.setRow; rw [hpOf_modify _ (o := .cells (xs ++ sp).toArray e (0, 0)) hg]
      rw [e2, e0]
      obtain ⟨e3, d3⟩ := upd_join_left (o' := .cells ((xs ++ byC m) ++ sp.drop m.length).toArray e (0, 0)) k5 d
      refine ⟨_, h2', d3, e3, ⟨hxl, .inr ⟨g, cap', sp.drop m.length, rfl, ?_, hroom, k4, by simp [upd]⟩⟩, hR⟩
      rw [List.length_append, hxl, List.length_drop]
      rw [List.length_append, hxk] at k2
      omega
    · have holds : ∀ j x, xs[j]? = some x → w.cell? ((⟨g, 0, none⟩ : Addr).add j) = some x := fun j x hj => by
        have hj' := (List.getElem?_eq_some_iff.1 hj).1
        rw [cell_add]; simp [World.cell?, hg, List.getElem?_append_left hj', hj]
      have hr := Lib.run_append_grow_string (P := P) w t u ty e inf (.int .u8 0) g1 j.out g2 hz' ⟨g, 0, none⟩ k cap' xs (by rw [g3]; exact hx) holds ⟨m.toArray⟩ (by rw [hms]; omega) (by rw [hms]; omega) (by rw [hms, g4]; exact growslice_fits (by omega) (by omega))
      rw [hms, hmc] at hr
      exact ⟨_, _, hr, grown cap' (by omega)⟩
theorem o_appendT {x y : Operand} {v : Value} {t u e : TypeId} {l m : List UInt8} {R : List Assn} {ty : TypeId} [i : TElem P t e 1 1 [.int .u8 0]] [j : TStr P u] (hz : (P.info? e).map (·.zero) = some (some (.int .u8 0))) (h : opv sl x = some v) (hy : opv sl y = some (S m)) (hp : Sel (own v e 1 l.length (byC l)) As R)
    (hb : l.length + m.length ≤ 140737488355328) (h63 : l.length + m.length ≤ maxLen) :
    ON P W0 n (.call { callee := .builtin .append, args := #[x, y], argTypes := #[t, u] }) ty sl As (fun v' Bs => ∃ a c, v' = .slice a (l ++ m).length c ∧ Bs = own (.slice a (l ++ m).length c) e 1 (l ++ m).length (byC (l ++ m)) :: R) := fun a w d pos aft g hs s => by
  obtain ⟨v', w', hr, s'⟩ := append_coreT (P := P) (i := i) (j := j) hz (s.imp fun _ => hp.to) hb h63 ty
  rw [← List.length_append, show byC l ++ byC m = byC (l ++ m) from List.map_append.symm] at s'
  obtain ⟨ca, cc, rfl⟩ := (OwS.get (v := v') (As := own v' e 1 (l ++ m).length (byC (l ++ m)) :: _) s'.sat).form
  refine ⟨_, _, w', ?_, ⟨ca, cc, rfl, rfl⟩, s'⟩
  simp only [execOp, resolve, List.map_toArray, List.map_cons, List.map_nil, hs.eval h, hs.eval hy]
  simp [invoke, builtin, hr]
end
end Go.L
