/-
  Parse: errors.Is at a Fault and an Errno. Own work, but for the lines that a worked example holds, turned to this program.
-/
import Derived.Test.YtgmdlhlmffdbhaaGreatDoorLexW
import Derived.Lib.IfaceEq
import Derived.Stop.Asserts
set_option linter.unusedSimpArgs false
set_option linter.unusedVariables false
set_option linter.unusedSectionVars false
namespace Go.Proofs.YtgmdlhlmffdbhaaGreatDoor.L
open Go.L Go.L.Lx
section
open Go.RowKit Go.Extern.Stop Go.Stop Go.Extern
theorem isTO (v : Value) (w : World) : (Extern.ReflectliteType.typeOf #[.iface 29 v]).run Tryz.prog w = .ok (.iface 144 (.agg #[.pointer (some ⟨7, 29, none⟩)])) w := by kernel_rfl
abbrev cmpE : Array Value → Sem Value := Extern.ReflectliteType.method fun t => do Extern.Rtype.noPackHeld "Comparable" t; pure (.bool (← typeInfo t).comparable)
theorem isCM (w : World) : (cmpE #[.agg #[.pointer (some ⟨7, 29, none⟩)]]).run Tryz.prog w = .ok (.bool true) w := by kernel_rfl
theorem isMC (v : Value) (w : World) : (Go.method 345 144 v "Comparable").run Tryz.prog w = .ok (165, v) w := by kernel_rfl
theorem noIsF (v : Value) (xT : TypeId) (w : World) : (Instr.typeAssert (.iface 65 v) xT 146 true).run Tryz.prog w = .ok (.tuple #[.nilIface, .bool false]) w := run_typeAssert_lacksB Tryz.underlying146 (by kernel_rfl) (by kernel_rfl) v xT w
theorem hasUnF (v : Value) (xT : TypeId) (w : World) : (Instr.typeAssert (.iface 65 v) xT 149 true).run Tryz.prog w = .ok (.tuple #[.iface 65 v, .bool true]) w := run_typeAssert_hasB Tryz.underlying149 (by kernel_rfl) v xT w
theorem mUnF (v : Value) (w : World) : (Go.method 345 65 v "Unwrap").run Tryz.prog w = .ok (158, v) w := by kernel_rfl
theorem noIsE (v : Value) (xT : TypeId) (w : World) : (Instr.typeAssert (.iface 29 v) xT 146 true).run Tryz.prog w = .ok (.tuple #[.nilIface, .bool false]) w := run_typeAssert_lacksB Tryz.underlying146 (by kernel_rfl) (by kernel_rfl) v xT w
theorem noUnE (v : Value) (xT : TypeId) (w : World) : (Instr.typeAssert (.iface 29 v) xT 149 true).run Tryz.prog w = .ok (.tuple #[.nilIface, .bool false]) w := run_typeAssert_lacksB Tryz.underlying149 (by kernel_rfl) (by kernel_rfl) v xT w
theorem noUsE (v : Value) (xT : TypeId) (w : World) : (Instr.typeAssert (.iface 29 v) xT 151 true).run Tryz.prog w = .ok (.tuple #[.nilIface, .bool false]) w := run_typeAssert_lacksB Tryz.underlying151 (by kernel_rfl) (by kernel_rfl) v xT w
theorem is_fault (b : Nat) (x k : Int) (w : World) (h1 : w.cell? ⟨b, 0, none⟩ = some (.int .i64 x)) :
    Calls Tryz.prog 19 #[.iface 65 (.pointer (some ⟨b, 0, none⟩)), .iface 29 (.int .i64 k)] w fun e w' => e = .returned (.bool (decide (x = k))) ∧ w' = w := by
  have h8 := @run_callFunc_extern Tryz.prog 51 _ Extern.ReflectliteType.typeOf Tryz.func51 (by kernel_rfl) (by kernel_rfl) (by kernel_rfl) (by kernel_rfl)
  have h32 := @run_callFunc_extern Tryz.prog 165 _ cmpE Tryz.func165 (by kernel_rfl) (by kernel_rfl) (by kernel_rfl) (by kernel_rfl)
  have tT := isTO
  have cT := isCM
  have mR := isMC
  have nF := noIsF
  have uF := hasUnF
  have mU := mUnF
  have nE := noIsE
  have uE := noUnE
  have vE := noUsE
  have hty := run_eql_iface_types (P := Tryz.prog) 65 29 (.pointer (some ⟨b, 0, none⟩)) (.int .i64 k) Tryz.underlying27 (by decide) w
  have heq := Lib.run_eql_iface_int (P := Tryz.prog) w (t := 27) (tx := 29) (k := .i64) x k Tryz.underlying27 (by kernel_rfl) Tryz.underlying29
  by_cases hx : x = k
  · subst hx
    go_enter Tryz.func19, Tryz.ntmps19
    go_wp2
    refine wp_loop_rounds 2 ?_
    rw [rounds_succ]
    go_wp2
    rw [rounds_succ]
    go_wp2
    go_ret
    exact ⟨by simp, rfl⟩
  · have heq2 : (x == k) = false := by simpa using hx
    rw [heq2] at heq
    go_enter Tryz.func19, Tryz.ntmps19
    go_wp2
    refine wp_loop_rounds 2 ?_
    rw [rounds_succ]
    go_wp2
    rw [rounds_succ]
    go_wp2
    go_ret
    exact ⟨by simp [hx], rfl⟩
theorem is_nilE (k : Int) (w : World) : Calls Tryz.prog 19 #[.nilIface, .iface 29 (.int .i64 k)] w fun e w' => e = .returned (.bool false) ∧ w' = w := by
  have hn := run_eql_iface_nil_left (P := Tryz.prog) w 29 (.int .i64 k) Tryz.underlying27
  go_enter Tryz.func19, Tryz.ntmps19
  go_wp2
  go_ret
  exact ⟨rfl, rfl⟩
end
abbrev errnoV (k : Int) : Value := .iface 29 (I64 k)
theorem Is_flt (b : Nat) (e : Err) (k : Int) : FnS Tryz.prog 19 [errV b, errnoV k] [errM b e] (fun u Bs => u = .bool (decide ((e.1 : Int) = k)) ∧ Bs = [errM b e]) := by
  intro W0 R w s
  simp only [List.cons_append, List.nil_append] at s
  have hb := s.heap (b := b)
  exact (is_fault b e.1 k w (by simp [World.cell?, hb])).mono fun _ w' ⟨he, hw⟩ => ⟨_, _, he, ⟨rfl, rfl⟩, hw ▸ s⟩
theorem Is_nil (k : Int) : FnS Tryz.prog 19 [.nilIface, errnoV k] [] (fun u Bs => u = .bool false ∧ Bs = []) := by
  intro W0 R w s
  exact (is_nilE k w).mono fun _ w' ⟨he, hw⟩ => ⟨_, _, he, ⟨rfl, rfl⟩, hw ▸ s⟩
end Go.Proofs.YtgmdlhlmffdbhaaGreatDoor.L
