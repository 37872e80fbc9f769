/-
  Slices of one-cell elements that are one's own and begin anywhere in their block: read, cut at the front, appended to. Own work; it speaks of no program.
-/
import Derived.Test.YtkpgcdhepfgfaaaIface
namespace Go.L
/-- 'v' is a slice whose room is its own; ahead of it and behind it there may be more -/
def SlF (h : Hp) (v : Value) (e : TypeId) (n : Nat) (xs : List Value) : Prop :=
  xs.length = n ∧ ((v = .slice none 0 0 ∧ n = 0) ∨ ∃ b cap pre sp post, v = .slice (some ⟨b, List.length pre, none⟩) n cap ∧ (xs ++ sp).length = cap ∧ cap ≤ maxLen ∧ h b = some (.cells (pre ++ (xs ++ sp) ++ post).toArray e (0, 0)))
def ofs (v : Value) (e : TypeId) (n : Nat) (xs : List Value) : Assn := fun h => SlF h v e n xs
theorem SlF.rd {h : Hp} {v : Value} {e : TypeId} {n : Nat} {xs : List Value} (s : SlF h v e n xs) : SlR h v n xs := by
  obtain ⟨hl, s | ⟨b, cap, pre, sp, post, h1, h2, h3, h4⟩⟩ := s
  · obtain ⟨s1, rfl⟩ := s; exact .inl ⟨s1, List.eq_nil_of_length_eq_zero hl, rfl⟩
  · refine .inr ⟨b, pre.length, none, cap, h1, fun _ => rfl, fun j x hx => ⟨rfl, _, e, _, h4, ?_⟩⟩
    have hj := (List.getElem?_eq_some_iff.1 hx).1
    simp only [List.getElem?_toArray]
    rw [List.append_assoc, List.getElem?_append_right (by omega), Nat.add_sub_cancel_left, List.append_assoc, List.getElem?_append_left hj, hx]
instance RdA.ofs {v : Value} {e : TypeId} {n : Nat} {xs : List Value} : RdA v (ofs v e n xs) n xs where
  get := fun ha => SlF.rd ha
theorem ofs_nil {e : TypeId} {R : List Assn} : ∀ h, Sat R h → Sat (Go.L.ofs (.slice none 0 0) e 0 [] :: R) h := fun h s =>
  ⟨fun _ => none, h, fun _ => .inl rfl, by funext b; simp [join], ⟨rfl, .inl ⟨rfl, rfl⟩⟩, s⟩
/-- s[1:] -/
theorem ofs_tail {a : Option Addr} {e : TypeId} {n c : Nat} {x : Value} {xs : List Value} {R : List Assn} : ∀ h, Sat (Go.L.ofs (.slice a (n + 1) c) e (n + 1) (x :: xs) :: R) h →
    Sat (Go.L.ofs (.slice (if c = 1 then a else a.map (fun y : Addr => y.add (1 * 1))) (n + 1 - 1) (c - 1)) e n xs :: R) h := fun _ => Sat.head fun g hh => by
  obtain ⟨hl, hh | ⟨b, cap, pre, sp, post, h1, h2, h3, h4⟩⟩ := hh
  · cases hh.1
  · simp only [Value.slice.injEq] at h1
    obtain ⟨rfl, _, rfl⟩ := h1
    have hxs : xs.length = n := by simpa using hl
    refine ⟨hxs, .inr ?_⟩
    by_cases hc : c = 1
    · subst hc
      refine ⟨b, 0, pre, [], x :: post, by rw [if_pos rfl]; rfl, ?_, Nat.zero_le _, ?_⟩
      · have h2' : xs = [] ∧ sp = [] := by simpa using h2
        simp [h2'.1]
      · have h5 : xs = [] ∧ sp = [] := by simpa using h2
        obtain ⟨rfl, rfl⟩ := h5
        rw [h4]; simp
    · refine ⟨b, c - 1, pre ++ [x], sp, post, ?_, by simp at h2 ⊢; omega, Nat.le_trans (Nat.sub_le _ _) h3, by rw [h4]; simp⟩
      rw [if_neg hc]
      simp [Addr.add]
section
variable {P : Program} {W0 w : World} {n : Nat} {sl : Slots} {As : List Assn} {ty : TypeId}
theorem append_ofs {v : Value} {t e b1 : Nat} {bytes k : Nat} {zs xs : List Value} {new : Value} {R : List Assn} [i : TElem P t e 1 bytes zs] (s : St W0 (ofs v e k xs :: R) w) (hb1 : w.heap[b1]? = some (.cells [new].toArray e (0, 0))) (h1 : new.oneCell' = true)
    (hb : (k + 1) * bytes ≤ 140737488355328) (h63 : k + 1 ≤ maxLen) (ty : TypeId) :
    ∃ a c w', (Builtin.append_ #[t, t] ty #[v, .slice (some ⟨b1, 0, none⟩) 1 1]).run P w = .ok (.slice a (k + 1) c) w' ∧ St W0 (ofs (.slice a (k + 1) c) e (k + 1) (xs ++ [new]) :: R) w' := by
  obtain ⟨inf, z, g1, g2, g3, g4, g5, g6, g7⟩ := i.out
  have hsmall : k + 1 ≤ 9223372036854775807 := by simp only [maxLen] at h63; omega
  have hzs : z.cells.size = 1 := by rw [g6]; simp [g7]
  have hnews : ∀ j x, [new][j]? = some x → w.cell? ((⟨b1, 0, none⟩ : Addr).add j) = some x := fun j x hj => by
    rw [cell_add]; simp only [World.cell?, hb1, List.getElem?_toArray, Nat.zero_add]; exact hj
  have hxl : xs.length = k := by obtain ⟨_, _, _, _, ⟨h, _⟩, _⟩ := s.sat; exact h
  have grown : ∀ old, old < k + 1 → St W0 (ofs (.slice (some ⟨w.heap.size, 0, none⟩) (k + 1) (grownCap w (k + 1) old e)) e (k + 1) (xs ++ [new]) :: R)
      (w.drew.alloc (.cells (xs.toArray ++ [new].toArray ++ Builtin.zeroCells z.cells (grownCap w (k + 1) old e - (k + 1))) e)) := fun old ho => by
    have hge := grownCap_ge w (k + 1) old e
    have hcm := grownCap_le_maxLen w (k + 1) old e h63
    have s1 : St W0 (pts w.heap.size (.cells (xs.toArray ++ [new].toArray ++ Builtin.zeroCells z.cells (grownCap w (k + 1) old e - (k + 1))) e) :: R) (w.drew.alloc (.cells (xs.toArray ++ [new].toArray ++ Builtin.zeroCells z.cells (grownCap w (k + 1) old e - (k + 1))) e)) :=
      (s.imp fun _ => Sat.drop).drew.new _
    refine s1.imp fun _ => Sat.head fun h hh => ⟨by simp [hxl], .inr ⟨_, _, [], (Builtin.zeroCells z.cells (grownCap w (k + 1) old e - (k + 1))).toList, [], rfl, ?_, hcm, ?_⟩⟩
    · have hz0 : (Builtin.zeroCells z.cells (grownCap w (k + 1) old e - (k + 1))).toList.length = grownCap w (k + 1) old e - (k + 1) := by rw [Array.length_toList, size_zeroCells, hzs, Nat.mul_one]
      rw [List.length_append, hz0, List.length_append, hxl]; simp; omega
    · have hh' : h w.heap.size = some _ := hh
      rw [hh']; congr 2
      apply Array.ext'; simp
  obtain ⟨h1', h2', d, e0, ⟨hx, hv⟩, hR⟩ := s.sat
  rcases hv with ⟨rfl, rfl⟩ | ⟨b, cap, pre, sp, post, rfl, k2, k3, k4⟩
  · have hx0 : xs = [] := List.eq_nil_of_length_eq_zero hx
    subst hx0
    have hr := run_append_nil (P := P) w t ty e inf z g1 g2 g5 ⟨b1, 0, none⟩ 1 1 [new] (by simp [g3]) hnews (by omega) (by omega) (by rw [g4]; omega)
    have hgr := grown 0 (by omega)
    simp only [Nat.zero_add, List.nil_append, Array.empty_append] at hgr ⊢
    exact ⟨_, _, _, hr, hgr⟩
  · have hg : w.heap[b]? = some (.cells (pre ++ (xs ++ sp) ++ post).toArray e (0, 0)) := by
      have : hpOf w b = _ := e0 ▸ join_some (h2 := h2') k4
      exact this
    by_cases hroom : k + 1 ≤ cap
    · have hsp : 1 ≤ sp.length := by simp at k2; omega
      obtain ⟨q, sp', rfl⟩ : ∃ q sp', sp = q :: sp' := by
        cases sp with
        | nil => simp at hsp
        | cons q sp' => exact ⟨q, sp', rfl⟩
      have hf := run_firstCells_some (P := P) w inf.size 1 ⟨b1, 0, none⟩ 1 1 [new] (by simp [g3]) hnews
      have hst := run_storeCells_at P b (pre.length + k) e [new] 0 (pre ++ (xs ++ q :: sp') ++ post).toArray w hg (by simp; omega) (fun x hx => by rw [List.mem_singleton.1 hx]; exact h1)
      have e3 : pre.length + k = (pre ++ xs).length := by simp [hxl]
      have e1 : ((pre ++ (xs ++ q :: sp') ++ post).toArray.toList.take (pre.length + k + 0)) ++ [new] ++ (pre ++ (xs ++ q :: sp') ++ post).toArray.toList.drop (pre.length + k + 0 + [new].length) = pre ++ ((xs ++ [new]) ++ sp') ++ post := by
        have e2 : pre ++ (xs ++ q :: sp') ++ post = (pre ++ xs) ++ ([q] ++ (sp' ++ post)) := by simp
        have e4 : pre.length + k + 0 + [new].length = (pre ++ xs ++ [q]).length := by simp [hxl]; omega
        simp only [List.toList_toArray]
        rw [e4, Nat.add_zero, e3, e2, List.take_left' rfl, ← List.append_assoc (pre ++ xs) [q], List.drop_left' rfl]
        simp
      rw [e1] at hst
      have e5 : hpOf (w.setRow b (pre ++ ((xs ++ [new]) ++ sp') ++ post).toArray) = upd (hpOf w) b (.cells (pre ++ ((xs ++ [new]) ++ sp') ++ post).toArray e (0, 0)) := by
        unfold World.setRow; rw [hpOf_modify _ (o := .cells (pre ++ (xs ++ q :: sp') ++ post).toArray e (0, 0)) hg]
      obtain ⟨e6, d6⟩ := upd_join_left (o' := .cells (pre ++ ((xs ++ [new]) ++ sp') ++ post).toArray e (0, 0)) k4 d
      refine ⟨some ⟨b, pre.length, none⟩, cap, w.setRow b (pre ++ ((xs ++ [new]) ++ sp') ++ post).toArray, ?_, s.os, s.tape, s.output, by have := s.size; simpa [World.setRow] using this, ?_⟩
      · have hadd : (⟨b, pre.length, none⟩ : Addr).add (k * 1) = ⟨b, pre.length + k, none⟩ := by rw [Addr.add_lit, Nat.mul_one]
        simp only [g3] at hf
        simp [Builtin.append_, run_underlying g1, sizeOf, typeInfo, g2, g3, Builtin.lenOf, hroom, hf] at hst hadd ⊢
        simp [hadd, hst]
      · rw [e5, e0, e6]
        exact ⟨_, h2', d6, rfl, ⟨by simp [hxl], .inr ⟨b, cap, pre, sp', post, rfl, by simp at k2 ⊢; omega, k3, by simp [upd]⟩⟩, hR⟩
    · have hr := run_append_grow (P := P) w t ty e inf z g1 g2 g5 ⟨b, pre.length, none⟩ k cap xs (by rw [g3, hxl, Nat.mul_one]) (fun j x hj => by
          have hj' := (List.getElem?_eq_some_iff.1 hj).1
          have hq : (pre ++ (xs ++ sp) ++ post)[pre.length + j]? = some x := by rw [List.append_assoc, List.getElem?_append_right (by omega), Nat.add_sub_cancel_left, List.append_assoc, List.getElem?_append_left hj', hj]
          rw [cell_add]; simpa [World.cell?, hg] using hq) ⟨b1, 0, none⟩ 1 1 [new] (by simp [g3]) hnews (by omega) (by omega) (growslice_fits (by omega) (by rw [g4]; exact hb))
      exact ⟨_, _, _, hr, grown cap (by omega)⟩
/-- append(s, x), where s may begin anywhere -/
theorem o_appendF {x y : Operand} {v : Value} {b t e : TypeId} {bytes k : Nat} {zs xs : List Value} {new : Value} {R : List Assn} [i : TElem P t e 1 bytes zs] (h : opv sl x = some v) (hy : opv sl y = some (.slice (some ⟨b, 0, none⟩) 1 1)) (hp : Part [ofs v e k xs, cel b e [new]] As R)
    (h1 : new.oneCell' = true) (hb : (k + 1) * bytes ≤ 140737488355328) (h63 : k + 1 ≤ maxLen) :
    ON P W0 n (.call { callee := .builtin .append, args := #[x, y], argTypes := #[t, t] }) ty sl As (fun v' Bs => ∃ a c, v' = .slice a (k + 1) c ∧ Bs = ofs (.slice a (k + 1) c) e (k + 1) (xs ++ [new]) :: R) := fun a w d pos aft g hs s => by
  have s1 := s.imp fun _ => hp.to
  have hb1 : w.heap[b]? = some (.cells [new].toArray e (0, 0)) := by
    have s2 : St W0 (ofs v e k xs :: cel b e [new] :: R) w := s1
    exact s2.heap (b := b)
  obtain ⟨ca, cc, w', hr, s'⟩ := append_ofs (P := P) (i := i) s1 hb1 h1 hb h63 ty
  refine ⟨_, _, w', ?_, ⟨ca, cc, rfl, rfl⟩, s'.imp fun _ => Sat.tail fun _ => Sat.drop⟩
  simp only [execOp, resolve, List.map_toArray, List.map_cons, List.map_nil, hs.eval h, hs.eval hy]
  simp [invoke, builtin, hr]
end
end Go.L
