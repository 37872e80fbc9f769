/-
  Check: errors.As at *Bad, slices.Insert. Own work, but for the lines on errors.As, which are a worked example's, turned to this program.
-/
import Derived.Test.YtgmdlhlmffdbhaaGreatDoorLexW
import Derived.Test.YtgmdlhlmffdbhaaGreatDoorPgP
import Derived.Test.YtgmdlhlmffdbhaaGreatDoorIns
set_option linter.unusedSimpArgs false
set_option linter.unusedVariables false
set_option linter.unusedSectionVars false
namespace Go.Proofs.YtgmdlhlmffdbhaaGreatDoor.C
open Go.Proofs.YtgmdlhlmffdbhaaGreatDoor.L Go.L Go.L.Lx

section
open Go.RowKit Go.Extern.Stop Go.Stop Go.Extern
theorem as_nilB (t : Value) (w : World) :
    Calls Tryz.prog 33 #[.nilIface, t] w fun e w' => e = .returned (.bool false) ∧ w' = w := by
  go_enter Tryz.func33, Tryz.ntmps33
  go_wp2
  go_ret
  exact ⟨rfl, rfl⟩

theorem AB_valueOf27 (t : Addr) (w : World) : (ReflectliteValue.unpack (.iface 89 (.pointer (some t)))).run Tryz.prog w
    = .ok (.agg #[.pointer (some ⟨7, 89, none⟩), .pointer (some ⟨w.heap.size, 0, none⟩), .int .u64 150]) (w.alloc (.cells #[.pointer (some t)] 89)) := by kernel_rfl
theorem AB_type27 (a : Addr) (w : World) : (ReflectliteValue.methodAny (ReflectliteValue.valueError "reflectlite.Value.Type" 0) (fun t _ _ _ => ReflectliteType.toType t) #[.agg #[.pointer (some ⟨7, 89, none⟩), .pointer (some a), .int .u64 150]]).run Tryz.prog w
    = .ok (.iface 144 (.agg #[.pointer (some ⟨7, 89, none⟩)])) w := by kernel_rfl
theorem AB_methodKind (h : Value) (w : World) : (Go.method 345 144 (.agg #[h]) "Kind").run Tryz.prog w = .ok (151, h) w := by kernel_rfl
theorem AB_kind27 (w : World) : ((ReflectliteType.abiMethod fun t => (fun a : Nat => Value.int IntKind.u8 (a : Int)) <$> Rtype.kind t) #[.pointer (some ⟨7, 89, none⟩)]).run Tryz.prog w = .ok (.int .u8 22) w := by kernel_rfl
theorem AB_kind25 (w : World) : ((ReflectliteType.abiMethod fun t => (fun a : Nat => Value.int IntKind.u8 (a : Int)) <$> Rtype.kind t) #[.pointer (some ⟨7, 46, none⟩)]).run Tryz.prog w = .ok (.int .u8 22) w := by kernel_rfl

theorem rlmB (z : Sem Value) (f : TypeId → Addr → Nat → Nat → Sem Value) (v : Value) :
    ReflectliteValue.method z f #[v] = (do match ← ReflectliteValue.parts v with | none => z | some (t, a, fl) => f t a fl (fl % 32)) := rfl
theorem AB_parts27 (a : Addr) (w : World) : (ReflectliteValue.parts (.agg #[.pointer (some ⟨7, 89, none⟩), .pointer (some a), .int .u64 150])).run Tryz.prog w = .ok (some (89, a, 150)) w := by kernel_rfl
theorem AB_isNil27 (a p : Addr) (W : World) (ha : W.cell? a = some (.pointer (some p))) :
    (ReflectliteValue.method (ReflectliteValue.valueError "reflectlite.Value.IsNil" 0) ReflectliteValue.isNil #[.agg #[.pointer (some ⟨7, 89, none⟩), .pointer (some a), .int .u64 150]]).run Tryz.prog W = .ok (.bool false) W := by
  rw [rlmB]
  simp only [Sem.run_bind, AB_parts27, Result.andThen]
  simp [ReflectliteValue.isNil, loadVar, isAgg, underlying, Tryz.underlying89, ha, Result.andThen]

theorem AB_methodElem (h : Value) (w : World) : (Go.method 345 144 (.agg #[h]) "Elem").run Tryz.prog w = .ok (166, .agg #[h]) w := by kernel_rfl
theorem AB_methodImplements (h : Value) (w : World) : (Go.method 345 144 (.agg #[h]) "Implements").run Tryz.prog w = .ok (167, .agg #[h]) w := by kernel_rfl
theorem AB_methodAssignableTo (h : Value) (w : World) : (Go.method 345 144 (.agg #[h]) "AssignableTo").run Tryz.prog w = .ok (164, .agg #[h]) w := by kernel_rfl
theorem AB_elem27 (w : World) : (ReflectliteType.method ReflectliteType.elem #[.agg #[.pointer (some ⟨7, 89, none⟩)]]).run Tryz.prog w = .ok (.iface 144 (.agg #[.pointer (some ⟨7, 46, none⟩)])) w := by kernel_rfl
theorem AB_implements25 (w : World) : (ReflectliteType.relation "Implements" ReflectliteType.implements_ #[.agg #[.pointer (some ⟨7, 46, none⟩)], .iface 144 (.agg #[.pointer (some ⟨7, 27, none⟩)])]).run Tryz.prog w = .ok (.bool true) w := by kernel_rfl
theorem AB_typeOf25 (v : Value) (w : World) : (ReflectliteType.typeOf #[.iface 46 v]).run Tryz.prog w = .ok (.iface 144 (.agg #[.pointer (some ⟨7, 46, none⟩)])) w := by kernel_rfl
theorem AB_assignable25 (w : World) : (ReflectliteType.relation "AssignableTo" ReflectliteType.assignableTo #[.agg #[.pointer (some ⟨7, 46, none⟩)], .iface 144 (.agg #[.pointer (some ⟨7, 46, none⟩)])]).run Tryz.prog w = .ok (.bool true) w := by kernel_rfl
theorem AB_valueOf25 (e : Addr) (w : World) : (ReflectliteValue.unpack (.iface 46 (.pointer (some e)))).run Tryz.prog w
    = .ok (.agg #[.pointer (some ⟨7, 46, none⟩), .pointer (some ⟨w.heap.size, 0, none⟩), .int .u64 150]) (w.alloc (.cells #[.pointer (some e)] 46)) := by kernel_rfl

theorem AB_elemOf27 (w : World) : (Rtype.elem? 89).run Tryz.prog w = .ok (some 46) w := by kernel_rfl
theorem AB_mk25 (p : Addr) (w : World) : (ReflectliteValue.mk 46 p ReflectliteValue.flagAddr).run Tryz.prog w = .ok (.agg #[.pointer (some ⟨7, 46, none⟩), .pointer (some p), .int .u64 406]) w := by kernel_rfl
theorem AB_elemV27 (a p : Addr) (W : World) (ha : W.cell? a = some (.pointer (some p))) :
    (ReflectliteValue.method (ReflectliteValue.valueError "reflectlite.Value.Elem" 0) ReflectliteValue.elem #[.agg #[.pointer (some ⟨7, 89, none⟩), .pointer (some a), .int .u64 150]]).run Tryz.prog W
      = .ok (.agg #[.pointer (some ⟨7, 46, none⟩), .pointer (some p), .int .u64 406]) W := by
  rw [rlmB]
  simp only [Sem.run_bind, AB_parts27, Result.andThen]
  simp [ReflectliteValue.elem, loadVar, isAgg, underlying, Tryz.underlying89, ha, Result.andThen, AB_elemOf27, AB_mk25]
theorem rlsB (v x : Value) : ReflectliteValue.set #[v, x] = (do
    let (some (dst, a, fl), some (src, b, _)) := (← ReflectliteValue.parts v, ← ReflectliteValue.parts x)
      | unsupported (.noEntry "extern/(internal/reflectlite.Value).Set.zeroValue")
    if fl / ReflectliteValue.flagAddr % 2 == 0 then unsupported (.noEntry "extern/(internal/reflectlite.Value).Set.unaddressable")
    let val ← loadVar src b
    if ← Rtype.directlyAssignable dst src then storeVar dst a val
    else if ← Rtype.implements dst src then
      if (← Rtype.kind src) == 20 then
        match val with
        | .nilIface => unsupported (.noEntry "extern/reflectlite: a nil value of one interface type handed on as a value of another")
        | _ => storeVar dst a val
      else storeVar dst a (.iface src val)
    else panicString ("reflectlite.Set: value of type " ++ (← Rtype.spelt src) ++ " is not assignable to type " ++ (← Rtype.spelt dst))
    pure (.tuple #[])) := rfl
theorem AB_parts25a (a : Addr) (w : World) : (ReflectliteValue.parts (.agg #[.pointer (some ⟨7, 46, none⟩), .pointer (some a), .int .u64 406])).run Tryz.prog w = .ok (some (46, a, 406)) w := by kernel_rfl
theorem AB_parts25 (a : Addr) (w : World) : (ReflectliteValue.parts (.agg #[.pointer (some ⟨7, 46, none⟩), .pointer (some a), .int .u64 150])).run Tryz.prog w = .ok (some (46, a, 150)) w := by kernel_rfl
theorem AB_direct25 (w : World) : (Rtype.directlyAssignable 46 46).run Tryz.prog w = .ok true w := by kernel_rfl
theorem AB_size25 (w : World) : (sizeOf 46).run Tryz.prog w = .ok 1 w := by kernel_rfl
theorem AB_set25 (ta b e : Addr) (old : Value) (W : World) (hb : W.cell? b = some (.pointer (some e))) (ht : W.cell? ta = some old) (hf : W.frozen? ta = false) :
    (ReflectliteValue.set #[.agg #[.pointer (some ⟨7, 46, none⟩), .pointer (some ta), .int .u64 406], .agg #[.pointer (some ⟨7, 46, none⟩), .pointer (some b), .int .u64 150]]).run Tryz.prog W
      = .ok (.tuple #[]) (W.setCell ta (.pointer (some e))) := by
  rw [rlsB]
  simp only [Sem.run_bind, AB_parts25a, AB_parts25, Result.andThen]
  simp [ReflectliteValue.flagAddr, loadVar, isAgg, underlying, Tryz.underlying46, hb, Result.andThen, AB_direct25, storeVar, Value.cells, storeCells, Addr.add]
  rw [run_store Tryz.prog W ta _ _ (by rfl)]
  simp [ht, hf]

set_option maxHeartbeats 4000000 in
theorem as_hitB (e t : Addr) (old : Value) (w : World) (hg : w.cell? ⟨0, 0, none⟩ = some (.iface 144 (.agg #[.pointer (some ⟨7, 27, none⟩)]))) (ht0 : w.cell? t = some old) (hf0 : w.frozen? t = false) :
    Calls Tryz.prog 33 #[.iface 46 (.pointer (some e)), .iface 89 (.pointer (some t))] w fun ev w' => ev = .returned (.bool true) ∧ w' = ((((w.alloc (.cells #[.pointer (some t)] 89)).alloc (.cells #[.pointer (some ⟨7, 89, none⟩), .pointer (some ⟨w.heap.size, 0, none⟩), .int .u64 150] 126)).alloc (.cells #[.pointer (some ⟨7, 89, none⟩), .pointer (some ⟨w.heap.size, 0, none⟩), .int .u64 150] 126)).alloc (.cells #[.pointer (some e)] 46)).setCell t (.pointer (some e)) := by
  have h6 := @run_callFunc_extern Tryz.prog 62 _ (fun args => ReflectliteValue.unpack (args.getD 0 (.tuple #[]))) Tryz.func62 (by kernel_rfl) (by kernel_rfl) (by kernel_rfl) (by kernel_rfl)
  have h7 := @run_callFunc_extern Tryz.prog 63 _ (ReflectliteValue.methodAny (ReflectliteValue.valueError "reflectlite.Value.Type" 0) (fun t _ _ _ => ReflectliteType.toType t)) Tryz.func63 (by kernel_rfl) (by kernel_rfl) (by kernel_rfl) (by kernel_rfl)
  have h8 := @run_callFunc_extern Tryz.prog 64 _ (ReflectliteValue.method (ReflectliteValue.valueError "reflectlite.Value.IsNil" 0) ReflectliteValue.isNil) Tryz.func64 (by kernel_rfl) (by kernel_rfl) (by kernel_rfl) (by kernel_rfl)
  have h27 := @run_callFunc_extern Tryz.prog 151 _ (ReflectliteType.abiMethod fun t => do pure (.int .u8 (← Rtype.kind t))) Tryz.func151 (by kernel_rfl) (by kernel_rfl) (by kernel_rfl) (by kernel_rfl)
  have h37 := @run_callFunc_extern Tryz.prog 166 _ (ReflectliteType.method ReflectliteType.elem) Tryz.func166 (by kernel_rfl) (by kernel_rfl) (by kernel_rfl) (by kernel_rfl)
  have h38 := @run_callFunc_extern Tryz.prog 167 _ (ReflectliteType.relation "Implements" ReflectliteType.implements_) Tryz.func167 (by kernel_rfl) (by kernel_rfl) (by kernel_rfl) (by kernel_rfl)
  have h10 := @run_callFunc_extern Tryz.prog 51 _ ReflectliteType.typeOf Tryz.func51 (by kernel_rfl) (by kernel_rfl) (by kernel_rfl) (by kernel_rfl)
  have h35 := @run_callFunc_extern Tryz.prog 164 _ (ReflectliteType.relation "AssignableTo" ReflectliteType.assignableTo) Tryz.func164 (by kernel_rfl) (by kernel_rfl) (by kernel_rfl) (by kernel_rfl)
  have h11 := @run_callFunc_extern Tryz.prog 87 _ (ReflectliteValue.method (ReflectliteValue.valueError "reflectlite.Value.Elem" 0) ReflectliteValue.elem) Tryz.func87 (by kernel_rfl) (by kernel_rfl) (by kernel_rfl) (by kernel_rfl)
  have h12 := @run_callFunc_extern Tryz.prog 88 _ ReflectliteValue.set Tryz.func88 (by kernel_rfl) (by kernel_rfl) (by kernel_rfl) (by kernel_rfl)
  have tO := AB_typeOf25
  have mA := AB_methodAssignableTo
  have a25 := AB_assignable25
  have v25 := AB_valueOf25
  have f6 := AB_valueOf27
  have f7 := AB_type27
  have mK := AB_methodKind
  have mE := AB_methodElem
  have mI := AB_methodImplements
  have k27 := AB_kind27
  have k25 := AB_kind25
  have e27 := AB_elem27
  have i25 := AB_implements25
  have n8 := AB_isNil27 ⟨w.heap.size, 0, none⟩ t ((w.alloc (.cells #[.pointer (some t)] 89)).alloc (.cells #[.pointer (some ⟨7, 89, none⟩), .pointer (some ⟨w.heap.size, 0, none⟩), .int .u64 150] 126)) (by simp)
  have hlt : 0 < w.heap.size := by
    rcases Nat.lt_or_ge 0 w.heap.size with h | h
    · exact h
    · simp [World.cell?, Array.getElem?_eq_none h] at hg
  have hg2 : ((w.alloc (.cells #[.pointer (some t)] 89)).alloc (.cells #[.pointer (some ⟨7, 89, none⟩), .pointer (some ⟨w.heap.size, 0, none⟩), .int .u64 150] 126)).cell? ⟨0, 0, none⟩ = some (.iface 144 (.agg #[.pointer (some ⟨7, 27, none⟩)])) := by
    rw [World.cell?_alloc_lt _ _ ⟨0, 0, none⟩ (by simp), World.cell?_alloc_lt _ _ ⟨0, 0, none⟩ hlt]; exact hg
  have htl : t.block < w.heap.size := by
    rcases Nat.lt_or_ge t.block w.heap.size with h | h
    · exact h
    · simp [World.cell?, Array.getElem?_eq_none h] at ht0
  have el := AB_elemV27 ⟨w.heap.size, 0, none⟩ t (((w.alloc (.cells #[.pointer (some t)] 89)).alloc (.cells #[.pointer (some ⟨7, 89, none⟩), .pointer (some ⟨w.heap.size, 0, none⟩), .int .u64 150] 126)).alloc (.cells #[.pointer (some ⟨7, 89, none⟩), .pointer (some ⟨w.heap.size, 0, none⟩), .int .u64 150] 126)) (by rw [World.cell?_alloc_lt _ _ ⟨w.heap.size, 0, none⟩ (by simp; omega)]; simp)
  have st := AB_set25 t ⟨w.heap.size + 1 + 1 + 1, 0, none⟩ e old ((((w.alloc (.cells #[.pointer (some t)] 89)).alloc (.cells #[.pointer (some ⟨7, 89, none⟩), .pointer (some ⟨w.heap.size, 0, none⟩), .int .u64 150] 126)).alloc (.cells #[.pointer (some ⟨7, 89, none⟩), .pointer (some ⟨w.heap.size, 0, none⟩), .int .u64 150] 126)).alloc (.cells #[.pointer (some e)] 46))
    (by rw [World.cell?_alloc_at _ _ _ _ (by simp)]; rfl)
    (by rw [World.cell?_alloc_lt _ _ t (by simp; omega), World.cell?_alloc_lt _ _ t (by simp; omega), World.cell?_alloc_lt _ _ t (by simp; omega), World.cell?_alloc_lt _ _ t htl]; exact ht0)
    (by rw [World.frozen?_alloc_old _ _ t (by simp; omega), World.frozen?_alloc_old _ _ t (by simp; omega), World.frozen?_alloc_old _ _ t (by simp; omega), World.frozen?_alloc_old _ _ t (Nat.ne_of_lt htl)]; exact hf0)
  go_enter Tryz.func33, Tryz.ntmps33
  go_wp2
  refine wp_loop_rounds 1 ?_
  rw [rounds_succ]
  go_wp2
  go_ret
  exact ⟨rfl, rfl⟩
theorem As_nilB (t : Value) : FnS Tryz.prog 33 [.nilIface, t] [] (fun u Bs => u = .bool false ∧ Bs = []) :=
  fun W0 R w s => (as_nilB t w).mono fun _ _ ⟨he, hw⟩ => ⟨_, [], he, ⟨rfl, rfl⟩, hw ▸ s⟩
theorem As_hitB {W : World} (hg : W.cell? ⟨0, 0, none⟩ = some (.iface 144 (.agg #[.pointer (some ⟨7, 27, none⟩)]))) (e t : Nat) (old : Value) : FnS Tryz.prog 33 [.iface 46 (ptr e 0), .iface 89 (ptr t 0)] [base W, cel t 46 [old]] (fun u Bs => u = .bool true ∧ Bs = [base W, cel t 46 [ptr e 0]]) := by
  intro W0 R w s
  simp only [List.cons_append, List.nil_append] at s
  have hb : w.heap[t]? = some (.cells #[old] 46 (0, 0)) := s.heap (b := t)
  refine (as_hitB ⟨e, 0, none⟩ ⟨t, 0, none⟩ old w (base_cell s hg) (by simp [World.cell?, hb]) (by simp [World.frozen?, hb])).mono fun _ w' ⟨he, hw⟩ => ?_
  refine ⟨_, _, he, ⟨rfl, rfl⟩, ?_⟩
  have s4 := (((s.new (.cells #[.pointer (some ⟨t, 0, none⟩)] 89)).new (.cells #[.pointer (some ⟨7, 89, none⟩), .pointer (some ⟨w.heap.size, 0, none⟩), .int .u64 150] 126)).new (.cells #[.pointer (some ⟨7, 89, none⟩), .pointer (some ⟨w.heap.size, 0, none⟩), .int .u64 150] 126)).new (.cells #[.pointer (some ⟨e, 0, none⟩)] 46)
  have s5 := s4.setCell (b := t) (off := 0) (l := [old]) (.pointer (some ⟨e, 0, none⟩))
  rw [hw]
  exact s5.imp fun _ h => h.drop.drop.drop.drop
end

abbrev intsA (a : Option Addr) (c : Nat) (xs : List Int) : Assn := own (.slice a xs.length c) 3 1 xs.length (xs.map I64)
theorem one_ints (xs : List Int) : ∀ v ∈ xs.map I64, v.oneCell' = true := fun v hv => by obtain ⟨x, _, rfl⟩ := List.mem_map.1 hv; rfl
theorem Insert0 (a : Option Addr) (c : Nat) (xs : List Int) (y : Int) (vb : Nat) (hn : xs.length ≤ 1000) : FnS Tryz.prog 66 [.slice a xs.length c, I64 0, .slice (some ⟨vb, 0, none⟩) 1 1] [intsA a c xs, cel vb 3 [I64 y]]
    (fun u Bs => ∃ a' c', u = .slice a' (xs.length + 1) c' ∧ Bs = [intsA a' c' (y :: xs)]) := by
  intro W0 R w s
  simp only [List.cons_append, List.nil_append] at s
  have hvs : ∀ j v, [I64 y][j]? = some v → w.cell? ⟨vb, 0 + j, none⟩ = some v := fun j v hj => by
    rw [Nat.zero_add]; exact cell_cel (s.imp fun _ => Sat.drop) hj
  have h1v : ∀ v ∈ [I64 y], v.oneCell' = true := fun v hv => by simp at hv; subst hv; rfl
  have fin : ∀ {w' : World} {b cap : Nat} {rest : List Value}, rest.length = cap - (xs.length + 1) → xs.length + 1 ≤ cap → cap ≤ maxLen → St W0 (cel b 3 ((y :: xs).map I64 ++ rest) :: R) w' → St W0 ([intsA (some ⟨b, 0, none⟩) cap (y :: xs)] ++ R) w' := fun hr hge hm s' =>
    s'.imp fun _ => Sat.head fun h hh => grown1 (by simp) hr hge hm hh
  obtain ⟨h1, h2, d, e0, ⟨hl, hv⟩, hR⟩ := s.sat
  rcases hv with ⟨hnil, hn0⟩ | ⟨b, cap, sp, hv, k2, k3, k4, k5⟩
  · obtain rfl : xs = [] := List.eq_nil_of_length_eq_zero hn0
    simp only [Value.slice.injEq] at hnil
    obtain ⟨rfl, _, rfl⟩ := hnil
    refine (Any2.slices_Insert_int_end_grow Tryz.insTm none 0 0 vb 0 1 1 [] [I64 y] w (by decide) (by decide) (by decide) (by decide) rfl rfl (fun _ => rfl) (fun a h => by cases h) hvs h1v).mono fun _ w' ⟨he, hw⟩ => ?_
    refine ⟨_, _, he, ⟨_, _, rfl, rfl⟩, ?_⟩
    rw [hw]
    have s' := (s.imp fun _ h => h.drop.drop).drew.new (.cells ((([] : List Value) ++ [I64 y]).toArray ++ Builtin.zeroCells (Value.int .i64 0).cells (grownCap w (0 + 1) 0 3 - (0 + 1))) 3 (0, 0))
    refine fin (rest := (Builtin.zeroCells (Value.int .i64 0).cells (grownCap w (0 + 1) 0 3 - (0 + 1))).toList) (by rw [zeroCells1]; rfl) (grownCap_ge _ _ _ _) (grownCap_le_maxLen _ _ _ _ (by decide)) (s'.imp fun _ => Sat.head fun h hh => ?_)
    have hh' : h w.heap.size = some _ := hh
    show h w.heap.size = _
    rw [hh']; congr 2; apply Array.ext'; simp
  · simp only [Value.slice.injEq] at hv
    obtain ⟨rfl, _, rfl⟩ := hv
    have s1 : St W0 (cel b 3 (xs.map I64 ++ sp) :: cel vb 3 [I64 y] :: R) w := ⟨s.os, s.tape, s.output, s.size, h1, h2, d, e0, k5, hR⟩
    have s2 : St W0 (cel b 3 (xs.map I64 ++ sp) :: R) w := s1.imp fun _ => Sat.tail fun _ => Sat.drop
    have hxl : (xs.map I64).length = xs.length := by simp
    rw [Nat.mul_one, List.length_append, hxl] at k2
    have hne : vb ≠ b := by
      rintro rfl
      obtain ⟨g1, g2, gd, ge, ga, gR⟩ := s1.sat
      obtain ⟨g3, g4, gd', rfl, gb, _⟩ := gR
      rcases (disj_join'.1 gd).1 vb with h | h
      · have ga' : g1 vb = some _ := ga; rw [h] at ga'; cases ga'
      · have gb' : g3 vb = some _ := gb; rw [h] at gb'; cases gb'
    by_cases h0 : xs = []
    · subst h0
      simp only [List.length_nil, List.map_nil, List.nil_append] at *
      by_cases hroom : 1 ≤ c
      · refine (Any2.slices_Insert_int_end_room Tryz.insTm b 0 0 c vb 0 1 1 [I64 y] w (by decide) (by omega) (by unfold maxLen at k4; omega) rfl (fun j hj => ?_) (fun j hj => frozen_cel s2) hvs h1v).mono fun _ w' ⟨he, hw⟩ => ?_
        · obtain ⟨v, hv⟩ : ∃ v, sp[0 + 0 + j]? = some v := ⟨_, List.getElem?_eq_getElem (by omega)⟩
          rw [cell_cel s2 hv]; rfl
        · refine ⟨_, _, he, ⟨_, _, rfl, rfl⟩, ?_⟩
          rw [hw]
          have s3 := s2.setCells [I64 y] sp 0
          rw [splice_take _ _ _ (by simp; omega)] at s3
          refine fin (rest := sp.drop 1) (by simp; omega) (by simpa using hroom) k4 ?_
          simpa using s3
      · obtain rfl : c = 0 := by omega
        refine (Any2.slices_Insert_int_end_grow Tryz.insTm (some ⟨b, 0, none⟩) 0 0 vb 0 1 1 [] [I64 y] w (by decide) (by decide) (by decide) (by decide) rfl rfl (fun _ => rfl) (fun a h j v hj => by simp at hj) hvs h1v).mono fun _ w' ⟨he, hw⟩ => ?_
        refine ⟨_, _, he, ⟨_, _, rfl, rfl⟩, ?_⟩
        rw [hw]
        have s' := (s.imp fun _ h => h.drop.drop).drew.new (.cells ((([] : List Value) ++ [I64 y]).toArray ++ Builtin.zeroCells (Value.int .i64 0).cells (grownCap w (0 + 1) 0 3 - (0 + 1))) 3 (0, 0))
        refine fin (rest := (Builtin.zeroCells (Value.int .i64 0).cells (grownCap w (0 + 1) 0 3 - (0 + 1))).toList) (by rw [zeroCells1]; rfl) (grownCap_ge _ _ _ _) (grownCap_le_maxLen _ _ _ _ (by decide)) (s'.imp fun _ => Sat.head fun h hh => ?_)
        have hh' : h w.heap.size = some _ := hh
        show h w.heap.size = _
        rw [hh']; congr 2; apply Array.ext'; simp
    · have hpos : 0 < xs.length := List.length_pos_iff.2 h0
      have hcs : ∀ j v, (xs.map I64)[j]? = some v → w.cell? ⟨b, 0 + j, none⟩ = some v := fun j v hj => by
        have hlt := (List.getElem?_eq_some_iff.1 hj).1
        rw [Nat.zero_add]; exact cell_cel s2 (by rw [List.getElem?_append_left hlt]; exact hj)
      by_cases hroom : xs.length + 1 ≤ c
      · refine (Any2.slices_Insert_int_shift Tryz.insTm b 0 xs.length c 0 vb 0 1 1 (xs.map I64) [I64 y] w hpos (by decide) hroom (by unfold maxLen at k4; omega) hne hxl rfl hcs (fun j hj => ?_) (fun j hj => frozen_cel s2) hvs (one_ints xs) h1v
          3 3 1 (xs.map I64 ++ sp).length (shape_cel (s1.imp fun _ => Sat.drop)) (shape_cel s2) (by rw [List.length_append, hxl]; omega) (frozen_cel (s1.imp fun _ => Sat.drop)) (frozen_cel (s1.imp fun _ => Sat.drop))).mono fun _ w' ⟨he, hw⟩ => ?_
        · obtain ⟨v, hv⟩ : ∃ v, (xs.map I64 ++ sp)[0 + j]? = some v := ⟨_, List.getElem?_eq_getElem (by rw [List.length_append, hxl]; omega)⟩
          rw [Nat.zero_add] at hv ⊢
          rw [cell_cel s2 hv]; rfl
        · refine ⟨_, _, he, ⟨_, _, rfl, rfl⟩, ?_⟩
          rw [hw]
          have s3 := (s2.drew.setCells (xs.map I64) _ 1).setCells [I64 y] _ 0
          rw [splice_take (xs.map I64) _ 1 (by rw [List.length_append, hxl]; omega), splice_take [I64 y] _ 0 (by simp; omega)] at s3
          refine fin (rest := sp.drop 1) (by simp; omega) hroom k4 ?_
          have e : List.take 0 (List.take 1 (xs.map I64 ++ sp) ++ xs.map I64 ++ List.drop (1 + (xs.map I64).length) (xs.map I64 ++ sp)) ++ [I64 y] ++ List.drop (0 + [I64 y].length) (List.take 1 (xs.map I64 ++ sp) ++ xs.map I64 ++ List.drop (1 + (xs.map I64).length) (xs.map I64 ++ sp)) = (y :: xs).map I64 ++ sp.drop 1 := by
            rw [Nat.add_comm 1, ← List.drop_drop, List.drop_left]
            obtain ⟨x, r, rfl⟩ : ∃ x r, xs = x :: r := by cases xs with
              | nil => exact absurd rfl h0
              | cons x r => exact ⟨x, r, rfl⟩
            simp
          rw [e] at s3
          simpa using s3
      · refine (Any2.slices_Insert_int_grow Tryz.insTm b 0 xs.length c 0 vb 0 1 1 (xs.map I64) [I64 y] w hpos (by decide) k3 (by omega) (by omega) hxl rfl hcs hvs (one_ints xs) h1v).mono fun _ w' ⟨he, hw⟩ => ?_
        simp only [show Tryz.insTm_ren.t 3 = 3 from rfl] at he hw
        refine ⟨_, _, he, ⟨_, _, rfl, rfl⟩, ?_⟩
        rw [hw]
        have hge := grownCap_ge w (xs.length + 1) c 3
        have hmx := grownCap_le_maxLen w (xs.length + 1) c 3 (by unfold maxLen; omega)
        generalize grownCap w (xs.length + 1) c 3 = cap at *
        obtain ⟨Z, hZ, hZl⟩ : ∃ Z : List Value, (((xs.map I64).take 0).toArray ++ Builtin.zeroCells (Value.int .i64 0).cells (xs.length + 1 - 0) ++ Builtin.zeroCells (Value.int .i64 0).cells (cap - (xs.length + 1))) = Z.toArray ∧ Z.length = cap :=
          ⟨(((xs.map I64).take 0).toArray ++ Builtin.zeroCells (Value.int .i64 0).cells (xs.length + 1 - 0) ++ Builtin.zeroCells (Value.int .i64 0).cells (cap - (xs.length + 1))).toList, by simp, by simp [Builtin.zeroCells, Value.cells]; omega⟩
        rw [hZ]
        have s3 := (((s.imp fun _ h => h.drop.drop).new (.cells Z.toArray 3 (0, 0))).drew.setCells [I64 y] Z 0).drew.setCells (xs.map I64) _ 1
        rw [splice_take [I64 y] _ 0 (by simp; omega), splice_take (xs.map I64) _ 1 (by rw [List.length_append, List.length_append, List.length_take, List.length_drop, hxl]; simp; omega)] at s3
        refine fin (rest := Z.drop (xs.length + 1)) (by simp; omega) hge hmx ?_
        have e : List.take 1 (List.take 0 Z ++ [I64 y] ++ List.drop (0 + [I64 y].length) Z) ++ xs.map I64 ++ List.drop (1 + (xs.map I64).length) (List.take 0 Z ++ [I64 y] ++ List.drop (0 + [I64 y].length) Z) = (y :: xs).map I64 ++ Z.drop (xs.length + 1) := by
          simp [Nat.add_comm]
        rw [e] at s3
        exact s3

end Go.Proofs.YtgmdlhlmffdbhaaGreatDoor.C
