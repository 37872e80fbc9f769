/-
  Strings, as lists of bytes. Own work; it speaks of no program.
-/
import Derived.Test.YtcglaiacohkaeaaDoorTree
import Derived.Laws.BytesString
set_option linter.unusedSimpArgs false
set_option linter.unusedVariables false
set_option linter.unusedSectionVars false
namespace Go.L
/-- a string of these bytes -/
abbrev S (l : List UInt8) : Value := .string ⟨l.toArray⟩
theorem S_toList (l : List UInt8) : (ByteArray.mk l.toArray).toList = l := by rw [ByteArray.toList_eq]
theorem S_size (l : List UInt8) : (ByteArray.mk l.toArray).size = l.length := by simp [ByteArray.size]
theorem S_of (b : ByteArray) : Value.string b = S b.data.toList := by cases b; simp
theorem S_extract (l : List UInt8) (a b : Nat) : (ByteArray.mk l.toArray).extract a b = ⟨((l.take b).drop a).toArray⟩ := by
  apply ByteArray.ext
  rw [ByteArray.data_extract]
  simp [List.drop_take]
theorem S_append (l m : List UInt8) : (ByteArray.mk l.toArray) ++ (ByteArray.mk m.toArray) = ⟨(l ++ m).toArray⟩ := by
  apply ByteArray.ext; simp
section
variable {P : Program} {W0 w : World} {n : Nat} {sl : Slots} {As : List Assn} {ty : TypeId}
theorem o_lens {x : Operand} {t : TypeId} {l : List UInt8} [i : TStr P t] (h : opv sl x = some (S l)) : OV P W0 n (.call { callee := .builtin .len, args := #[x], argTypes := #[t] }) ty sl As (.int .i64 l.length) := fun a w d pos aft g hs s => by
  simp only [execOp, resolve, List.map_toArray, List.map_cons, List.map_nil, hs.eval h]
  simp [invoke, builtin, Builtin.len_, rU i.out, goInt, S_size]
theorem o_index_string {t : TypeId} {x y : Operand} {l : List UInt8} {i : Nat} {kk : IntKind} {b : UInt8} [j : TStr P t] (hx : opv sl x = some (S l)) (hy : opv sl y = some (.int kk (i : Int))) (hb : l[i]? = some b) : OV P W0 n (.index t x y) ty sl As (.int .u8 b.toNat) := fun a w d pos aft g hs s => by
  simp only [execOp, hs.eval hx, hs.eval hy]
  obtain ⟨hi, e⟩ := List.getElem?_eq_some_iff.1 hb
  have e1 : (ByteArray.mk l.toArray)[i]? = some b := by
    rw [getElem?_pos _ _ (by simp [ByteArray.size]; exact hi)]
    exact congrArg some e
  simp [Instr.index, asIntOf, rU j.out, e1]
theorem o_eqls {t t' : TypeId} {x y : Operand} {l m : List UInt8} [i : TStr P t] (hx : opv sl x = some (S l)) (hy : opv sl y = some (S m)) : OV P W0 n (.binOp .eql t x y t') ty sl As (.bool (decide (l = m))) := fun a w d pos aft g hs _ => by
  simp only [execOp, hs.eval hx, hs.eval hy]
  simp [eqGuard, binOp, Op.stringOp, S_toList]; rw [Bool.eq_iff_iff]; simp
theorem o_neqs {t t' : TypeId} {x y : Operand} {l m : List UInt8} [i : TStr P t] (hx : opv sl x = some (S l)) (hy : opv sl y = some (S m)) : OV P W0 n (.binOp .neq t x y t') ty sl As (.bool (!decide (l = m))) := fun a w d pos aft g hs _ => by
  simp only [execOp, hs.eval hx, hs.eval hy]
  simp [eqGuard, binOp, Op.stringOp, S_toList]; rw [Bool.eq_iff_iff]; simp
theorem o_adds {t t' : TypeId} {x y : Operand} {l m : List UInt8} [i : TStr P t] (hx : opv sl x = some (S l)) (hy : opv sl y = some (S m)) (h : l.length + m.length ≤ 9223372036854775807) : OV P W0 n (.binOp .add t x y t') ty sl As (S (l ++ m)) := fun a w d pos aft g hs _ => by
  simp only [execOp, hs.eval hx, hs.eval hy]
  have h1 : ¬ ((((ByteArray.mk l.toArray).size + (ByteArray.mk m.toArray).size : Nat) : Int) > IntKind.i64.max) := by
    rw [S_size, S_size]; simp [IntKind.max, IntKind.signed, IntKind.bits]; omega
  simp only [eqGuard, binOp, Op.stringOp, if_neg h1, S_append]
  simp
/-- s[i:], s[:j], s[i:j] -/
theorem o_strFrom {t : TypeId} {x y : Operand} {l : List UInt8} {i : Nat} {kk : IntKind} [j : TStr P t] (hx : opv sl x = some (S l)) (hy : opv sl y = some (.int kk (i : Int))) (hi : i ≤ l.length) : OV P W0 n (.slice t x (some y) none none) ty sl As (S (l.drop i)) := fun a w d pos aft g hs _ => by
  have h0 : (0 : Int) ≤ i ∧ (i : Int) ≤ l.length := by omega
  simp only [execOp, Option.map_some, Option.map_none, hs.eval hx, hs.eval hy]
  simp [Instr.sliceAt, Instr.slice, rU j.out, Instr.sliceBounds, Instr.sliceBound, asIntOf, S_size, hi, S_extract]
theorem o_strTo {t : TypeId} {x y : Operand} {l : List UInt8} {i : Nat} {kk : IntKind} [j : TStr P t] (hx : opv sl x = some (S l)) (hy : opv sl y = some (.int kk (i : Int))) (hi : i ≤ l.length) : OV P W0 n (.slice t x none (some y) none) ty sl As (S (l.take i)) := fun a w d pos aft g hs _ => by
  have h0 : (0 : Int) ≤ i ∧ (i : Int) ≤ l.length := by omega
  simp only [execOp, Option.map_some, Option.map_none, hs.eval hx, hs.eval hy]
  simp [Instr.sliceAt, Instr.slice, rU j.out, Instr.sliceBounds, Instr.sliceBound, asIntOf, S_size, hi, S_extract]
theorem o_strSub {t : TypeId} {x y z : Operand} {l : List UInt8} {i k : Nat} {kk kk' : IntKind} [j : TStr P t] (hx : opv sl x = some (S l)) (hy : opv sl y = some (.int kk (i : Int))) (hz : opv sl z = some (.int kk' (k : Int))) (hi : i ≤ k) (hk : k ≤ l.length) : OV P W0 n (.slice t x (some y) (some z) none) ty sl As (S ((l.take k).drop i)) := fun a w d pos aft g hs _ => by
  simp only [execOp, Option.map_some, Option.map_none, hs.eval hx, hs.eval hy, hs.eval hz]
  simp [Instr.sliceAt, Instr.slice, rU j.out, Instr.sliceBounds, Instr.sliceBound, asIntOf, S_size, hi, hk, S_extract]
theorem push_all : ∀ (l m : List UInt8), (l.map fun c => (c.toNat : Int)).foldl (fun (r : ByteArray) n => r.push (UInt8.ofNat n.toNat)) ⟨m.toArray⟩ = ⟨(m ++ l).toArray⟩
  | [], m => by simp
  | c :: l, m => by
    have h := push_all l (m ++ [c])
    rw [List.map_cons, List.foldl_cons]
    rw [show (ByteArray.mk m.toArray).push (UInt8.ofNat ((c.toNat : Int)).toNat) = ⟨(m ++ [c]).toArray⟩ by apply ByteArray.ext; simp [ByteArray.push], h]
    simp
/-- string(bytes) -/
theorem o_bstr {t t' e : TypeId} {x : Operand} {v : Value} {k : Nat} {xs : List Value} (l : List UInt8) [i : TSlice P t e 1] [i8 : TInt P e .u8] [j : TStr P t'] [r : RdS v As k xs] (h : opv sl x = some v) (hl : xs = l.map fun c => .int .u8 c.toNat) (hk : k = l.length) : OV P W0 n (.convert t t' x) ty sl As (S l) := fun a w d pos aft g hs s => by
  obtain ⟨inf, h1, h2, h3⟩ := i.out
  subst hl hk
  simp only [execOp, hs.eval h]
  rcases r.get s.sat with ⟨rfl, hx, hn⟩ | ⟨b, off, spot, cap, rfl, hsp, hc⟩
  · have e1 := run_convert_bytes_string w t t' e none 0 0 h1 i8.out j.out
    have : l = [] := List.eq_nil_of_length_eq_zero hn
    subst this
    have e2 : (Conv.bytesToString (.slice none 0 0)).run P w = .ok (S []) w := rfl
    simp [e1, e2]
  · have e1 := run_convert_bytes_string w t t' e (some ⟨b, off, spot⟩) l.length cap h1 i8.out j.out
    have h4 := run_loadCells_list (P := P) w ⟨b, off, spot⟩ (l.map fun c => Value.int .u8 c.toNat) (fun k v hk => by
      obtain ⟨rfl, cs, e', fz, hb, hv⟩ := hc k v hk
      have hb' : w.heap[b]? = some (.cells cs e' fz) := hb
      rw [cell_add]; simp [World.cell?, hb', hv])
    rw [List.length_map] at h4
    have h5 := run_bytesToString (P := P) w ⟨b, off, spot⟩ l.length cap (l.map fun c => (c.toNat : Int)) (by rw [h4]; congr 1; simp)
    have h6 := push_all l []
    simp only [List.nil_append] at h6
    rw [show ByteArray.empty = ⟨([] : List UInt8).toArray⟩ from rfl, h6] at h5
    simp [e1, h5]
end
end Go.L
