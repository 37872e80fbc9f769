/-
  Lex: errors.As, strconv.ParseUint, strings.IndexByte; what the listed variables hold. Own work, but for the lines on errors.As, which are a worked example's, turned to this program.
-/
import Derived.Test.YtgkjnilckmminaaGreatDoorFacts
import Derived.Test.YtgkjnilckmminaaGreatDoorLexP
import Derived.Test.YtgkjnilckmminaaGreatDoorLaid
import Derived.Test.YtgkjnilckmminaaGreatDoorShelf
import Derived.Test.YtgkjnilckmminaaGreatDoorRows
import Derived.LaidEql
import Derived.Stop.Asserts
import Derived.RowKitTokens
import Derived.Lib.AtoiErrMem
set_option linter.unusedSimpArgs false
set_option linter.unusedVariables false
set_option linter.unusedSectionVars false
namespace Go.Proofs.YtgkjnilckmminaaGreatDoor.L
open Go.L Go.L.Lx

section
open Go.RowKit Go.Extern.Stop Go.Stop Go.Extern
theorem as_nilF (t : Value) (w : World) :
    Calls Tryz.prog 28 #[.nilIface, t] w fun e w' => e = .returned (.bool false) ∧ w' = w := by
  go_enter Tryz.func28, Tryz.ntmps28
  go_wp2
  go_ret
  exact ⟨rfl, rfl⟩

theorem AF_valueOf27 (t : Addr) (w : World) : (ReflectliteValue.unpack (.iface 74 (.pointer (some t)))).run Tryz.prog w
    = .ok (.agg #[.pointer (some ⟨7, 74, none⟩), .pointer (some ⟨w.heap.size, 0, none⟩), .int .u64 150]) (w.alloc (.cells #[.pointer (some t)] 74)) := by kernel_rfl
theorem AF_type27 (a : Addr) (w : World) : (ReflectliteValue.methodAny (ReflectliteValue.valueError "reflectlite.Value.Type" 0) (fun t _ _ _ => ReflectliteType.toType t) #[.agg #[.pointer (some ⟨7, 74, none⟩), .pointer (some a), .int .u64 150]]).run Tryz.prog w
    = .ok (.iface 143 (.agg #[.pointer (some ⟨7, 74, none⟩)])) w := by kernel_rfl
theorem AF_methodKind (h : Value) (w : World) : (Go.method 327 143 (.agg #[h]) "Kind").run Tryz.prog w = .ok (142, h) w := by kernel_rfl
theorem AF_kind27 (w : World) : ((ReflectliteType.abiMethod fun t => (fun a : Nat => Value.int IntKind.u8 (a : Int)) <$> Rtype.kind t) #[.pointer (some ⟨7, 74, none⟩)]).run Tryz.prog w = .ok (.int .u8 22) w := by kernel_rfl
theorem AF_kind25 (w : World) : ((ReflectliteType.abiMethod fun t => (fun a : Nat => Value.int IntKind.u8 (a : Int)) <$> Rtype.kind t) #[.pointer (some ⟨7, 60, none⟩)]).run Tryz.prog w = .ok (.int .u8 22) w := by kernel_rfl

theorem rlmF (z : Sem Value) (f : TypeId → Addr → Nat → Nat → Sem Value) (v : Value) :
    ReflectliteValue.method z f #[v] = (do match ← ReflectliteValue.parts v with | none => z | some (t, a, fl) => f t a fl (fl % 32)) := rfl
theorem AF_parts27 (a : Addr) (w : World) : (ReflectliteValue.parts (.agg #[.pointer (some ⟨7, 74, none⟩), .pointer (some a), .int .u64 150])).run Tryz.prog w = .ok (some (74, a, 150)) w := by kernel_rfl
theorem AF_isNil27 (a p : Addr) (W : World) (ha : W.cell? a = some (.pointer (some p))) :
    (ReflectliteValue.method (ReflectliteValue.valueError "reflectlite.Value.IsNil" 0) ReflectliteValue.isNil #[.agg #[.pointer (some ⟨7, 74, none⟩), .pointer (some a), .int .u64 150]]).run Tryz.prog W = .ok (.bool false) W := by
  rw [rlmF]
  simp only [Sem.run_bind, AF_parts27, Result.andThen]
  simp [ReflectliteValue.isNil, loadVar, isAgg, underlying, Tryz.underlying74, ha, Result.andThen]

theorem AF_methodElem (h : Value) (w : World) : (Go.method 327 143 (.agg #[h]) "Elem").run Tryz.prog w = .ok (155, .agg #[h]) w := by kernel_rfl
theorem AF_methodImplements (h : Value) (w : World) : (Go.method 327 143 (.agg #[h]) "Implements").run Tryz.prog w = .ok (156, .agg #[h]) w := by kernel_rfl
theorem AF_methodAssignableTo (h : Value) (w : World) : (Go.method 327 143 (.agg #[h]) "AssignableTo").run Tryz.prog w = .ok (153, .agg #[h]) w := by kernel_rfl
theorem AF_elem27 (w : World) : (ReflectliteType.method ReflectliteType.elem #[.agg #[.pointer (some ⟨7, 74, none⟩)]]).run Tryz.prog w = .ok (.iface 143 (.agg #[.pointer (some ⟨7, 60, none⟩)])) w := by kernel_rfl
theorem AF_implements25 (w : World) : (ReflectliteType.relation "Implements" ReflectliteType.implements_ #[.agg #[.pointer (some ⟨7, 60, none⟩)], .iface 143 (.agg #[.pointer (some ⟨7, 27, none⟩)])]).run Tryz.prog w = .ok (.bool true) w := by kernel_rfl
theorem AF_typeOf25 (v : Value) (w : World) : (ReflectliteType.typeOf #[.iface 60 v]).run Tryz.prog w = .ok (.iface 143 (.agg #[.pointer (some ⟨7, 60, none⟩)])) w := by kernel_rfl
theorem AF_assignable25 (w : World) : (ReflectliteType.relation "AssignableTo" ReflectliteType.assignableTo #[.agg #[.pointer (some ⟨7, 60, none⟩)], .iface 143 (.agg #[.pointer (some ⟨7, 60, none⟩)])]).run Tryz.prog w = .ok (.bool true) w := by kernel_rfl
theorem AF_valueOf25 (e : Addr) (w : World) : (ReflectliteValue.unpack (.iface 60 (.pointer (some e)))).run Tryz.prog w
    = .ok (.agg #[.pointer (some ⟨7, 60, none⟩), .pointer (some ⟨w.heap.size, 0, none⟩), .int .u64 150]) (w.alloc (.cells #[.pointer (some e)] 60)) := by kernel_rfl

theorem AF_elemOf27 (w : World) : (Rtype.elem? 74).run Tryz.prog w = .ok (some 60) w := by kernel_rfl
theorem AF_mk25 (p : Addr) (w : World) : (ReflectliteValue.mk 60 p ReflectliteValue.flagAddr).run Tryz.prog w = .ok (.agg #[.pointer (some ⟨7, 60, none⟩), .pointer (some p), .int .u64 406]) w := by kernel_rfl
theorem AF_elemV27 (a p : Addr) (W : World) (ha : W.cell? a = some (.pointer (some p))) :
    (ReflectliteValue.method (ReflectliteValue.valueError "reflectlite.Value.Elem" 0) ReflectliteValue.elem #[.agg #[.pointer (some ⟨7, 74, none⟩), .pointer (some a), .int .u64 150]]).run Tryz.prog W
      = .ok (.agg #[.pointer (some ⟨7, 60, none⟩), .pointer (some p), .int .u64 406]) W := by
  rw [rlmF]
  simp only [Sem.run_bind, AF_parts27, Result.andThen]
  simp [ReflectliteValue.elem, loadVar, isAgg, underlying, Tryz.underlying74, ha, Result.andThen, AF_elemOf27, AF_mk25]
theorem rlsF (v x : Value) : ReflectliteValue.set #[v, x] = (do
    let (some (dst, a, fl), some (src, b, _)) := (← ReflectliteValue.parts v, ← ReflectliteValue.parts x)
      | unsupported (.noEntry "extern/(internal/reflectlite.Value).Set.zeroValue")
    if fl / ReflectliteValue.flagAddr % 2 == 0 then unsupported (.noEntry "extern/(internal/reflectlite.Value).Set.unaddressable")
    let val ← loadVar src b
    if ← Rtype.directlyAssignable dst src then storeVar dst a val
    else if ← Rtype.implements dst src then
      if (← Rtype.kind src) == 20 then
        match val with
        | .nilIface => unsupported (.noEntry "extern/reflectlite: a nil value of one interface type handed on as a value of another")
        | _ => storeVar dst a val
      else storeVar dst a (.iface src val)
    else panicString ("reflectlite.Set: value of type " ++ (← Rtype.spelt src) ++ " is not assignable to type " ++ (← Rtype.spelt dst))
    pure (.tuple #[])) := rfl
theorem AF_parts25a (a : Addr) (w : World) : (ReflectliteValue.parts (.agg #[.pointer (some ⟨7, 60, none⟩), .pointer (some a), .int .u64 406])).run Tryz.prog w = .ok (some (60, a, 406)) w := by kernel_rfl
theorem AF_parts25 (a : Addr) (w : World) : (ReflectliteValue.parts (.agg #[.pointer (some ⟨7, 60, none⟩), .pointer (some a), .int .u64 150])).run Tryz.prog w = .ok (some (60, a, 150)) w := by kernel_rfl
theorem AF_direct25 (w : World) : (Rtype.directlyAssignable 60 60).run Tryz.prog w = .ok true w := by kernel_rfl
theorem AF_size25 (w : World) : (sizeOf 60).run Tryz.prog w = .ok 1 w := by kernel_rfl
theorem AF_set25 (ta b e : Addr) (old : Value) (W : World) (hb : W.cell? b = some (.pointer (some e))) (ht : W.cell? ta = some old) (hf : W.frozen? ta = false) :
    (ReflectliteValue.set #[.agg #[.pointer (some ⟨7, 60, none⟩), .pointer (some ta), .int .u64 406], .agg #[.pointer (some ⟨7, 60, none⟩), .pointer (some b), .int .u64 150]]).run Tryz.prog W
      = .ok (.tuple #[]) (W.setCell ta (.pointer (some e))) := by
  rw [rlsF]
  simp only [Sem.run_bind, AF_parts25a, AF_parts25, Result.andThen]
  simp [ReflectliteValue.flagAddr, loadVar, isAgg, underlying, Tryz.underlying60, hb, Result.andThen, AF_direct25, storeVar, Value.cells, storeCells, Addr.add]
  rw [run_store Tryz.prog W ta _ _ (by rfl)]
  simp [ht, hf]

set_option maxHeartbeats 4000000 in
theorem as_hitF (e t : Addr) (old : Value) (w : World) (hg : w.cell? ⟨0, 0, none⟩ = some (.iface 143 (.agg #[.pointer (some ⟨7, 27, none⟩)]))) (ht0 : w.cell? t = some old) (hf0 : w.frozen? t = false) :
    Calls Tryz.prog 28 #[.iface 60 (.pointer (some e)), .iface 74 (.pointer (some t))] w fun ev w' => ev = .returned (.bool true) ∧ w' = ((((w.alloc (.cells #[.pointer (some t)] 74)).alloc (.cells #[.pointer (some ⟨7, 74, none⟩), .pointer (some ⟨w.heap.size, 0, none⟩), .int .u64 150] 113)).alloc (.cells #[.pointer (some ⟨7, 74, none⟩), .pointer (some ⟨w.heap.size, 0, none⟩), .int .u64 150] 113)).alloc (.cells #[.pointer (some e)] 60)).setCell t (.pointer (some e)) := by
  have h6 := @run_callFunc_extern Tryz.prog 61 _ (fun args => ReflectliteValue.unpack (args.getD 0 (.tuple #[]))) Tryz.func61 (by kernel_rfl) (by kernel_rfl) (by kernel_rfl) (by kernel_rfl)
  have h7 := @run_callFunc_extern Tryz.prog 62 _ (ReflectliteValue.methodAny (ReflectliteValue.valueError "reflectlite.Value.Type" 0) (fun t _ _ _ => ReflectliteType.toType t)) Tryz.func62 (by kernel_rfl) (by kernel_rfl) (by kernel_rfl) (by kernel_rfl)
  have h8 := @run_callFunc_extern Tryz.prog 63 _ (ReflectliteValue.method (ReflectliteValue.valueError "reflectlite.Value.IsNil" 0) ReflectliteValue.isNil) Tryz.func63 (by kernel_rfl) (by kernel_rfl) (by kernel_rfl) (by kernel_rfl)
  have h27 := @run_callFunc_extern Tryz.prog 142 _ (ReflectliteType.abiMethod fun t => do pure (.int .u8 (← Rtype.kind t))) Tryz.func142 (by kernel_rfl) (by kernel_rfl) (by kernel_rfl) (by kernel_rfl)
  have h37 := @run_callFunc_extern Tryz.prog 155 _ (ReflectliteType.method ReflectliteType.elem) Tryz.func155 (by kernel_rfl) (by kernel_rfl) (by kernel_rfl) (by kernel_rfl)
  have h38 := @run_callFunc_extern Tryz.prog 156 _ (ReflectliteType.relation "Implements" ReflectliteType.implements_) Tryz.func156 (by kernel_rfl) (by kernel_rfl) (by kernel_rfl) (by kernel_rfl)
  have h10 := @run_callFunc_extern Tryz.prog 71 _ ReflectliteType.typeOf Tryz.func71 (by kernel_rfl) (by kernel_rfl) (by kernel_rfl) (by kernel_rfl)
  have h35 := @run_callFunc_extern Tryz.prog 153 _ (ReflectliteType.relation "AssignableTo" ReflectliteType.assignableTo) Tryz.func153 (by kernel_rfl) (by kernel_rfl) (by kernel_rfl) (by kernel_rfl)
  have h11 := @run_callFunc_extern Tryz.prog 89 _ (ReflectliteValue.method (ReflectliteValue.valueError "reflectlite.Value.Elem" 0) ReflectliteValue.elem) Tryz.func89 (by kernel_rfl) (by kernel_rfl) (by kernel_rfl) (by kernel_rfl)
  have h12 := @run_callFunc_extern Tryz.prog 90 _ ReflectliteValue.set Tryz.func90 (by kernel_rfl) (by kernel_rfl) (by kernel_rfl) (by kernel_rfl)
  have tO := AF_typeOf25
  have mA := AF_methodAssignableTo
  have a25 := AF_assignable25
  have v25 := AF_valueOf25
  have f6 := AF_valueOf27
  have f7 := AF_type27
  have mK := AF_methodKind
  have mE := AF_methodElem
  have mI := AF_methodImplements
  have k27 := AF_kind27
  have k25 := AF_kind25
  have e27 := AF_elem27
  have i25 := AF_implements25
  have n8 := AF_isNil27 ⟨w.heap.size, 0, none⟩ t ((w.alloc (.cells #[.pointer (some t)] 74)).alloc (.cells #[.pointer (some ⟨7, 74, none⟩), .pointer (some ⟨w.heap.size, 0, none⟩), .int .u64 150] 113)) (by simp)
  have hlt : 0 < w.heap.size := by
    rcases Nat.lt_or_ge 0 w.heap.size with h | h
    · exact h
    · simp [World.cell?, Array.getElem?_eq_none h] at hg
  have hg2 : ((w.alloc (.cells #[.pointer (some t)] 74)).alloc (.cells #[.pointer (some ⟨7, 74, none⟩), .pointer (some ⟨w.heap.size, 0, none⟩), .int .u64 150] 113)).cell? ⟨0, 0, none⟩ = some (.iface 143 (.agg #[.pointer (some ⟨7, 27, none⟩)])) := by
    rw [World.cell?_alloc_lt _ _ ⟨0, 0, none⟩ (by simp), World.cell?_alloc_lt _ _ ⟨0, 0, none⟩ hlt]; exact hg
  have htl : t.block < w.heap.size := by
    rcases Nat.lt_or_ge t.block w.heap.size with h | h
    · exact h
    · simp [World.cell?, Array.getElem?_eq_none h] at ht0
  have el := AF_elemV27 ⟨w.heap.size, 0, none⟩ t (((w.alloc (.cells #[.pointer (some t)] 74)).alloc (.cells #[.pointer (some ⟨7, 74, none⟩), .pointer (some ⟨w.heap.size, 0, none⟩), .int .u64 150] 113)).alloc (.cells #[.pointer (some ⟨7, 74, none⟩), .pointer (some ⟨w.heap.size, 0, none⟩), .int .u64 150] 113)) (by rw [World.cell?_alloc_lt _ _ ⟨w.heap.size, 0, none⟩ (by simp; omega)]; simp)
  have st := AF_set25 t ⟨w.heap.size + 1 + 1 + 1, 0, none⟩ e old ((((w.alloc (.cells #[.pointer (some t)] 74)).alloc (.cells #[.pointer (some ⟨7, 74, none⟩), .pointer (some ⟨w.heap.size, 0, none⟩), .int .u64 150] 113)).alloc (.cells #[.pointer (some ⟨7, 74, none⟩), .pointer (some ⟨w.heap.size, 0, none⟩), .int .u64 150] 113)).alloc (.cells #[.pointer (some e)] 60))
    (by rw [World.cell?_alloc_at _ _ _ _ (by simp)]; rfl)
    (by rw [World.cell?_alloc_lt _ _ t (by simp; omega), World.cell?_alloc_lt _ _ t (by simp; omega), World.cell?_alloc_lt _ _ t (by simp; omega), World.cell?_alloc_lt _ _ t htl]; exact ht0)
    (by rw [World.frozen?_alloc_old _ _ t (by simp; omega), World.frozen?_alloc_old _ _ t (by simp; omega), World.frozen?_alloc_old _ _ t (by simp; omega), World.frozen?_alloc_old _ _ t (Nat.ne_of_lt htl)]; exact hf0)
  go_enter Tryz.func28, Tryz.ntmps28
  go_wp2
  refine wp_loop_rounds 1 ?_
  rw [rounds_succ]
  go_wp2
  go_ret
  exact ⟨rfl, rfl⟩
theorem As_nilF (t : Value) : FnS Tryz.prog 28 [.nilIface, t] [] (fun u Bs => u = .bool false ∧ Bs = []) :=
  fun W0 R w s => (as_nilF t w).mono fun _ _ ⟨he, hw⟩ => ⟨_, [], he, ⟨rfl, rfl⟩, hw ▸ s⟩
theorem As_hitF {W : World} (hg : W.cell? ⟨0, 0, none⟩ = some (.iface 143 (.agg #[.pointer (some ⟨7, 27, none⟩)]))) (e t : Nat) (old : Value) : FnS Tryz.prog 28 [.iface 60 (ptr e 0), .iface 74 (ptr t 0)] [base W, cel t 60 [old]] (fun u Bs => u = .bool true ∧ Bs = [base W, cel t 60 [ptr e 0]]) := by
  intro W0 R w s
  simp only [List.cons_append, List.nil_append] at s
  have hb : w.heap[t]? = some (.cells #[old] 60 (0, 0)) := s.heap (b := t)
  refine (as_hitF ⟨e, 0, none⟩ ⟨t, 0, none⟩ old w (base_cell s hg) (by simp [World.cell?, hb]) (by simp [World.frozen?, hb])).mono fun _ w' ⟨he, hw⟩ => ?_
  refine ⟨_, _, he, ⟨rfl, rfl⟩, ?_⟩
  have s4 := (((s.new (.cells #[.pointer (some ⟨t, 0, none⟩)] 74)).new (.cells #[.pointer (some ⟨7, 74, none⟩), .pointer (some ⟨w.heap.size, 0, none⟩), .int .u64 150] 113)).new (.cells #[.pointer (some ⟨7, 74, none⟩), .pointer (some ⟨w.heap.size, 0, none⟩), .int .u64 150] 113)).new (.cells #[.pointer (some ⟨e, 0, none⟩)] 60)
  have s5 := s4.setCell (b := t) (off := 0) (l := [old]) (.pointer (some ⟨e, 0, none⟩))
  rw [hw]
  exact s5.imp fun _ h => h.drop.drop.drop.drop
end
/-- what the listed variables hold -/
structure Gok (W : World) : Prop where
  et : W.cell? ⟨0, 0, none⟩ = some (.iface 143 (.agg #[.pointer (some ⟨7, 27, none⟩)]))
  v_strconv_ErrRange : ∃ u v, W.cell? ⟨3, 0, none⟩ = some (.iface u v)
  tb : Lib.TabIs Tryz.prog W "internal/strconv.uint64pow10" .u64 Lib.pow10Tab
abbrev laidL : List (String × DataW Unit) := [("math/bits.deBruijn32tab", Rows.laid_math_bits_deBruijn32tab), ("math/bits.deBruijn64tab", Rows.laid_math_bits_deBruijn64tab), ("internal/strconv.uint64pow10", Rows.laid_internal_strconv_uint64pow10), ("errors.errorType", Rows.laid_errors_errorType), ("strconv.ErrRange", Rows.laid_strconv_ErrRange), ("strconv.ErrSyntax", Rows.laid_strconv_ErrSyntax)]
theorem gok_of {W : World} (h0 : laidMetH Tryz.prog laidL W) : Gok W := by
  have h : laidMet Tryz.prog [("math/bits.deBruijn32tab", Rows.laid_math_bits_deBruijn32tab), ("math/bits.deBruijn64tab", Rows.laid_math_bits_deBruijn64tab), ("internal/strconv.uint64pow10", Rows.laid_internal_strconv_uint64pow10), ("strconv.ErrRange", Rows.laid_strconv_ErrRange), ("strconv.ErrSyntax", Rows.laid_strconv_ErrSyntax)] W ∧ handlesMet Tryz.prog [("errors.errorType", Rows.laid_errors_errorType)] W := laid_split h0 (by kernel_rfl) (by kernel_rfl)
  exact ⟨laid_handle h.2 (n := "errors.errorType") (d := Rows.laid_errors_errorType) List.mem_cons_self rfl rfl (show Tryz.prog.globalNamed "errors.errorType" = some 0 by kernel_rfl) (by kernel_rfl) (show Tryz.prog.types.size = 227 by kernel_rfl) (by kernel_rfl), laid_iface h.1 (n := "strconv.ErrRange") (List.mem_cons_of_mem _ (List.mem_cons_of_mem _ (List.mem_cons_of_mem _ (List.mem_cons_self)))) (show Tryz.prog.globalNamed "strconv.ErrRange" = some 3 by kernel_rfl) (show (Tryz.prog.globals[3]?).map (·.type) = some 27 by kernel_rfl) Tryz.underlying27, laid_tab h.1 (nm := "internal/strconv.uint64pow10") (k := .u64) (zs := Lib.pow10Tab) (List.mem_cons_of_mem _ (List.mem_cons_of_mem _ (List.mem_cons_self))) (show Tryz.prog.globalNamed "internal/strconv.uint64pow10" = some 4 by kernel_rfl) (show (Tryz.prog.globals[4]?).map (·.type) = some 191 by kernel_rfl) Tryz.underlying191 Tryz.underlying138 (by kernel_rfl) (by kernel_rfl)⟩

theorem numG_big : ∀ (l : Lx.By), Lx.numG 65536 l = 65536
  | [] => rfl
  | d :: l => by
    have : Lx.numG 65536 (d :: l) = Lx.numG (min (10 * 65536 + (d.toNat - 48)) 65536) l := rfl
    rw [this, show min (10 * 65536 + (d.toNat - 48)) 65536 = 65536 by omega]; exact numG_big l
theorem parseM_dig : ∀ (l : Lx.By) (acc : Nat), acc ≤ 65535 → (∀ c ∈ l, Lx.isDig c = true) → (Lx.numG acc l ≤ 65535 → Lib.parseUintM 65535 acc l = .ok (Lx.numG acc l)) ∧ (65535 < Lx.numG acc l → Lib.parseUintM 65535 acc l = .range)
  | [], acc, h, _ => ⟨fun _ => rfl, fun h' => by have h' : 65535 < acc := h'; omega⟩
  | c :: r, acc, h, hd => by
    have hc := hd c List.mem_cons_self
    unfold Lx.isDig at hc; simp only [decide_eq_true_eq] at hc
    have e1 : Lx.numG acc (c :: r) = Lx.numG (min (10 * acc + (c.toNat - 48)) 65536) r := rfl
    have e2 : Lib.parseUintM 65535 acc (c :: r) = if 65535 < acc * 10 + (c.toNat - 48) then .range else Lib.parseUintM 65535 (acc * 10 + (c.toNat - 48)) r := by
      show (if 48 ≤ c.toNat ∧ c.toNat ≤ 57 then if 1844674407370955162 ≤ acc then _ else _ else _) = _
      rw [if_pos hc, if_neg (by omega)]
    rw [e1, e2]
    by_cases hg : 65535 < acc * 10 + (c.toNat - 48)
    · rw [if_pos hg, show min (10 * acc + (c.toNat - 48)) 65536 = 65536 by omega, numG_big]
      exact ⟨fun h' => by omega, fun _ => rfl⟩
    · rw [if_neg hg, show min (10 * acc + (c.toNat - 48)) 65536 = acc * 10 + (c.toNat - 48) by omega]
      exact parseM_dig r _ (by omega) (fun x hx => hd x (List.mem_cons_of_mem _ hx))
theorem parse16 {l : Lx.By} (hl : l ≠ []) (hd : ∀ c ∈ l, Lx.isDig c = true) : (Lx.num l ≤ 65535 → Lib.parseUintB 16 l = .ok (Lx.num l)) ∧ (65535 < Lx.num l → Lib.parseUintB 16 l = .range) := by
  unfold Lib.parseUintB; rw [if_neg hl]; exact parseM_dig l 0 (by omega) hd
theorem PU_ok {l : Lx.By} (hl : l ≠ []) (hd : ∀ c ∈ l, Lx.isDig c = true) (hlen : l.length ≤ 281474976710656) (h : Lx.num l ≤ 65535) : FnS Tryz.prog 84 [S l, I64 10, I64 16] [] (fun u Bs => u = .tuple #[U64 (Lx.num l), .nilIface] ∧ Bs = []) := by
  intro W0 R w s
  have h1 : Lib.parseUintB 16 (ByteArray.mk l.toArray).data.toList = .ok (Lx.num l) := by
    show Lib.parseUintB 16 l = _
    exact (parse16 hl hd).1 h
  refine (Any.strconv_ParseUint_10_at16_ok Tryz.puTm _ (by rw [S_size]; omega) _ h1 w).mono fun _ w' ⟨he, hw⟩ => ⟨_, [], he, ⟨rfl, rfl⟩, ?_⟩
  rcases hw with hw | hw
  · exact hw ▸ s
  · exact s.below (hw ▸ Lib.bytesWorld_below w _ _)
theorem PU_range {W : World} (hg : ∃ te pe, W.cell? ⟨3, 0, none⟩ = some (.iface te pe)) {l : Lx.By} (hl : l ≠ []) (hd : ∀ c ∈ l, Lx.isDig c = true) (hlen : l.length ≤ 281474976710656) (h : 65535 < Lx.num l) :
    FnS Tryz.prog 84 [S l, I64 10, I64 16] [base W] (fun u Bs => ∃ t p, u = .tuple #[U64 65535, .iface t p] ∧ Bs = [base W]) := by
  intro W0 R w s
  obtain ⟨te, pe, hg⟩ := hg
  have h1 : Lib.parseUintB 16 (ByteArray.mk l.toArray).data.toList = .range := by
    show Lib.parseUintB 16 l = _
    exact (parse16 hl hd).2 h
  exact (Any.strconv_ParseUint_10_at16_range Tryz.puTm _ (by rw [S_size]; omega) h1 _ w (base_cell s hg) (.inr ⟨te, pe, rfl⟩)).mono fun _ w' ⟨N, he, _, _, hw⟩ => ⟨_, _, he, ⟨_, _, rfl, rfl⟩, s.below hw⟩


theorem indexByte_pos : ∀ (l : List UInt8) (c : UInt8), (0 ≤ Lib.indexByte l c ↔ c ∈ l)
  | [], c => by simp [Lib.indexByte]
  | b :: l, c => by
    have ih := indexByte_pos l c
    have hge := Lib.indexByte_ge l c
    unfold Lib.indexByte
    by_cases hb : b = c
    · subst hb; simp
    · rw [if_neg (by simpa using hb)]
      by_cases h1 : Lib.indexByte l c = -1
      · rw [if_pos (by simpa using h1)]
        constructor
        · intro h; omega
        · intro h; rcases List.mem_cons.1 h with e | e
          · exact absurd e.symm hb
          · have := ih.2 e; omega
      · rw [if_neg (by simpa using h1)]
        constructor
        · intro _; exact List.mem_cons_of_mem _ (ih.1 (by omega))
        · intro _; omega
theorem IndexByte_spec (l : List UInt8) (c : UInt8) : FnS Tryz.prog 77 [S l, .int .u8 c.toNat] [] (fun u Bs => ∃ r : Int, (0 ≤ r ↔ c ∈ l) ∧ u = I64 r ∧ Bs = []) := by
  intro W0 R w s
  refine (Any.strings_IndexByte Tryz.ibTm _ _ w).mono fun _ w' ⟨he, hw⟩ => ⟨_, [], he, ⟨_, ?_, rfl, rfl⟩, hw ▸ s⟩
  rw [show ((c.toNat : Int)).toNat.toUInt8 = c by simp]
  exact indexByte_pos l c

end Go.Proofs.YtgkjnilckmminaaGreatDoor.L
