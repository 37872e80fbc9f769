/-
  Operations put together out of others: single accesses, what comes behind them. Own work, printed in part by a program of its own.
-/
import Derived.Test.YtmohikdmdmplaaaGreatRingH
import Derived.Test.YtmohikdmdmplaaaGreatClockP
import Derived.Test.YtmohikdmdmplaaaGreatIface
set_option linter.unusedSimpArgs false
set_option linter.unusedVariables false
set_option linter.unusedSectionVars false
namespace Go.Proofs.YtmohikdmdmplaaaGreat.L
open Go.L Go.L.Ring Go.L.Post Go.L.Clk
instance : TMeth Tryz.prog 101 "Step" 154 := ⟨fun v w => by kernel_rfl⟩
instance : TMeth Tryz.prog 101 "Over" 153 := ⟨fun v w => by kernel_rfl⟩
instance : TMeth Tryz.prog 116 "Step" 156 := ⟨fun v w => by kernel_rfl⟩
instance : TMeth Tryz.prog 116 "Over" 155 := ⟨fun v w => by kernel_rfl⟩
/-- what an operation holds behind the common part -/
structure BXT where
  c : Nat
  d : Value
  u : Value
  r : Value
abbrev opC (p : Nat) (cur thn : Value) (out val : Int) (bx : BXT) : Assn := cel p 64 [cur, thn, I64 out, U64 val, ptr bx.c 0, bx.d, bx.u, bx.r]
abbrev tchC (τ : Nat) (f : Value) (ov : Bool) (v : Int) (won : Bool) : Assn := cel τ 106 [f, .bool ov, U64 v, .bool won]
abbrev iT (τ : Nat) : Value := .iface 101 (ptr τ 0)
abbrev iR (q : Nat) : Value := .iface 116 (ptr q 0)
abbrev fnV (f : Nat) (caps : List Value) : Value := .func (.func f) [].toArray caps.toArray
def tLoad (τ m i : Nat) : Assn := exA (ι := Nat × Nat × Nat) (fun _ => True) (fun e => [tchC τ (fnV 70 [ptr e.1 0, ptr e.2.1 0, ptr e.2.2 0]) false 0 false, cel e.1 37 [ptr m 0], cel e.2.1 3 [I64 i], cel e.2.2 101 [ptr τ 0]])
def tStore (τ m i : Nat) (v : Int) : Assn := exA (ι := Nat × Nat × Nat) (fun _ => True) (fun e => [tchC τ (fnV 99 [ptr e.1 0, ptr e.2.1 0, ptr e.2.2 0]) false 0 false, cel e.1 37 [ptr m 0], cel e.2.1 3 [I64 i], cel e.2.2 22 [U64 v]])
def tDone (τ : Nat) (v : Int) (won : Bool) : Assn := exA (ι := Value) (fun _ => True) (fun f => [tchC τ f true v won])

set_option maxRecDepth 8000 in
theorem tLoad_new (m i : Nat) : FnS Tryz.prog 51 [ptr m 0, I64 i] [] (fun u Bs => ∃ τ, u = ptr τ 0 ∧ Bs = [tLoad τ m i]) := by
 refine fn_body Tryz.func51 rfl rfl rfl ?_
 intro W0 R
 simp only [List.zipIdx_cons, List.zipIdx_nil, List.map_cons, List.map_nil, Nat.zero_add, Nat.reduceAdd, List.cons_append, List.nil_append]
 refine g_seq ?_
 refine g_region ?_
 refine gl_n rfl (o_box rfl rfl) ?_
 rintro _ _ ⟨b2, rfl, rfl⟩
 refine gl_n rfl (o_box rfl rfl) ?_
 rintro _ _ ⟨b3, rfl, rfl⟩
 refine gl_v rfl (o_assign rfl) ?_
 refine gl_nil ?_
 refine ge_then ?_
 refine g_seq ?_
 refine g_region ?_
 refine gl_v rfl (o_build rfl rfl) ?_
 refine gl_n rfl (o_boxA rfl) ?_
 rintro _ _ ⟨b7, rfl, rfl⟩
 refine gl_n rfl (o_alloc) ?_
 rintro _ _ ⟨b5, rfl, rfl⟩
 first | refine gl_u (o_store rfl rfl rfl rfl) ?_ | refine gl_u (o_storeS rfl rfl rfl (by first | assumption | omega | simp)) ?_
 refine gl_nil ?_
 refine ge_then ?_
 refine g_seq ?_
 refine g_region ?_
 first | refine gl_v rfl (o_load rfl rfl) ?_ | refine gl_v rfl (o_loadS rfl rfl) ?_ | refine gl_v rfl (o_loadC rfl) ?_
 refine gl_v rfl (o_func rfl rfl) ?_
 refine gl_v rfl (o_nil rfl) ?_
 first | refine gl_v rfl (o_fldS rfl) ?_ | refine gl_v rfl (o_fld rfl) ?_
 first | refine gl_u (o_store rfl rfl rfl rfl) ?_ | refine gl_u (o_storeS rfl rfl rfl (by first | assumption | omega | simp)) ?_
 refine gl_nil ?_
 refine ge_then ?_
 refine g_seq ?_
 refine g_region ?_
 first | refine gl_v rfl (o_load rfl rfl) ?_ | refine gl_v rfl (o_loadS rfl rfl) ?_ | refine gl_v rfl (o_loadC rfl) ?_
 refine gl_v rfl (o_assign rfl) ?_
 refine gl_nil ?_
 refine ge_then ?_
 refine g_ret ?_
 refine ret1 (.inl rfl) rfl rfl [tLoad b7 m i] (⟨_, rfl, rfl⟩) (ex_close (b2, b3, b5) trivial (To.sat (by repeat (first | exact .nil | exact .done .refl | (apply To.cons; · (repeat (first | exact .head | apply Sel.tail))) | exact .done (by repeat (first | exact .refl | apply Drop.skip))))))

set_option maxRecDepth 8000 in
theorem tStore_new (m i : Nat) (v : Int) : FnS Tryz.prog 84 [ptr m 0, I64 i, U64 v] [] (fun u Bs => ∃ τ, u = ptr τ 0 ∧ Bs = [tStore τ m i v]) := by
 refine fn_body Tryz.func84 rfl rfl rfl ?_
 intro W0 R
 simp only [List.zipIdx_cons, List.zipIdx_nil, List.map_cons, List.map_nil, Nat.zero_add, Nat.reduceAdd, List.cons_append, List.nil_append]
 refine g_seq ?_
 refine g_region ?_
 refine gl_n rfl (o_box rfl rfl) ?_
 rintro _ _ ⟨b3, rfl, rfl⟩
 refine gl_n rfl (o_box rfl rfl) ?_
 rintro _ _ ⟨b4, rfl, rfl⟩
 refine gl_n rfl (o_box rfl rfl) ?_
 rintro _ _ ⟨b5, rfl, rfl⟩
 refine gl_v rfl (o_assign rfl) ?_
 refine gl_nil ?_
 refine ge_then ?_
 refine g_seq ?_
 refine g_region ?_
 refine gl_v rfl (o_func rfl rfl) ?_
 refine gl_v rfl (o_build rfl rfl) ?_
 refine gl_n rfl (o_boxA rfl) ?_
 rintro _ _ ⟨b9, rfl, rfl⟩
 refine gl_v rfl (o_assign rfl) ?_
 refine gl_nil ?_
 refine ge_then ?_
 refine g_ret ?_
 refine ret1 (.inl rfl) rfl rfl [tStore b9 m i v] (⟨_, rfl, rfl⟩) (ex_close (b3, b4, b5) trivial (To.sat (by repeat (first | exact .nil | exact .done .refl | (apply To.cons; · (repeat (first | exact .head | apply Sel.tail))) | exact .done (by repeat (first | exact .refl | apply Drop.skip))))))

set_option maxRecDepth 8000 in
theorem tLoad_do (τ e1 e2 e3 : Nat) (m i : Nat) (L : List Int) (t : Int) (hi : i < L.length) (f : Value) (ov won : Bool) (v0 : Int) : FnS Tryz.prog 70 [ptr e1 0, ptr e2 0, ptr e3 0] [cel e1 37 [ptr m 0], cel e2 3 [I64 i], cel e3 101 [ptr τ 0], tchC τ f ov v0 won, memA m L t]
      (fun u Bs => u = .bool true ∧ Bs = [tchC τ f ov (L.getD i 0) won, memA m L (tup t)]) := by
 refine fn_body Tryz.func70 rfl rfl rfl ?_
 intro W0 R
 simp only [List.zipIdx_cons, List.zipIdx_nil, List.map_cons, List.map_nil, Nat.zero_add, Nat.reduceAdd, List.cons_append, List.nil_append]
 refine g_seq ?_
 refine g_region ?_
 refine gl_v rfl (o_assign rfl) ?_
 refine gl_nil ?_
 refine ge_then ?_
 refine g_seq ?_
 refine g_draw [3, 9] [3, 9] [(0, .stab), (1, .loc), (2, .loc), (3, .eff), (4, .loc), (5, .loc), (6, .stab), (7, .loc), (8, .loc), (9, .eff)] [cel e3 101 [ptr τ 0]] mixed (by kernel_rfl) ?_
 first | refine go_vs rfl .none rfl (o_load rfl rfl) (To.sat (by repeat (first | exact .nil | exact .done .refl | (apply To.cons; · (repeat (first | exact .head | apply Sel.tail))) | exact .done (by repeat (first | exact .refl | apply Drop.skip))))) ?_ | refine go_vs rfl .none rfl (o_loadS rfl rfl) (To.sat (by repeat (first | exact .nil | exact .done .refl | (apply To.cons; · (repeat (first | exact .head | apply Sel.tail))) | exact .done (by repeat (first | exact .refl | apply Drop.skip))))) ?_ | refine go_vs rfl .none rfl (o_loadC rfl) (To.sat (by repeat (first | exact .nil | exact .done .refl | (apply To.cons; · (repeat (first | exact .head | apply Sel.tail))) | exact .done (by repeat (first | exact .refl | apply Drop.skip))))) ?_
 first | refine go_v rfl .none rfl (o_load rfl rfl) ?_ | refine go_v rfl .none rfl (o_loadS rfl rfl) ?_ | refine go_v rfl .none rfl (o_loadC rfl) ?_
 first | refine go_v rfl .none rfl (o_load rfl rfl) ?_ | refine go_v rfl .none rfl (o_loadS rfl rfl) ?_ | refine go_v rfl .none rfl (o_loadC rfl) ?_
 refine go_c rfl .none rfl (o_call rfl (Load_spec m L t i hi) (by repeat (first | exact .nil | (apply Part.cons; · (repeat (first | exact .head | apply Sel.tail)))))) ?_
 rintro _ R ⟨_, ⟨rfl, rfl⟩, rfl⟩
 try simp only [List.cons_append, List.nil_append]
 refine ⟨(fun _ => (To.sat (by repeat (first | exact .nil | exact .done .refl | (apply To.cons; · (repeat (first | exact .head | apply Sel.tail))) | exact .done (by repeat (first | exact .refl | apply Drop.skip)))))), ?_⟩
 refine go_v rfl .none rfl (o_move rfl) ?_
 refine go_v rfl .none rfl (o_extract rfl rfl) ?_
 refine go_vs rfl .none rfl (o_extract rfl rfl) (To.sat (by repeat (first | exact .nil | exact .done .refl | (apply To.cons; · (repeat (first | exact .head | apply Sel.tail))) | exact .done (by repeat (first | exact .refl | apply Drop.skip))))) ?_
 refine go_v rfl .none rfl (o_nil rfl) ?_
 first | refine go_v rfl .none rfl (o_fldS rfl) ?_ | refine go_v rfl .none rfl (o_fld rfl) ?_
 first | refine go_u rfl .none (o_store rfl rfl rfl rfl) (fun _ => (To.sat (by repeat (first | exact .nil | exact .done .refl | (apply To.cons; · (repeat (first | exact .head | apply Sel.tail))) | exact .done (by repeat (first | exact .refl | apply Drop.skip)))))) ?_ | refine go_u rfl .none (o_storeS rfl rfl rfl (by first | assumption | omega | simp)) (fun _ => (To.sat (by repeat (first | exact .nil | exact .done .refl | (apply To.cons; · (repeat (first | exact .head | apply Sel.tail))) | exact .done (by repeat (first | exact .refl | apply Drop.skip)))))) ?_
 refine go_nil ?_
 refine ge_then ?_
 refine g_seq ?_
 refine g_region ?_
 refine gl_v rfl (o_assign rfl) ?_
 refine gl_nil ?_
 refine ge_then ?_
 refine g_ret ?_
 refine ret1 (.inl rfl) rfl rfl _ (⟨rfl, rfl⟩) (To.sat (by repeat (first | exact .nil | exact .done .refl | (apply To.cons; · (repeat (first | exact .head | apply Sel.tail))) | exact .done (by repeat (first | exact .refl | apply Drop.skip)))))

set_option maxRecDepth 8000 in
theorem tStore_do (e1 e2 e3 : Nat) (m i : Nat) (L : List Int) (t : Int) (hi : i < L.length) (v : Int) : FnS Tryz.prog 99 [ptr e1 0, ptr e2 0, ptr e3 0] [cel e1 37 [ptr m 0], cel e2 3 [I64 i], cel e3 22 [U64 v], memA m L t]
      (fun u Bs => u = .bool true ∧ Bs = [memA m (L.set i v) (tup t)]) := by
 refine fn_body Tryz.func99 rfl rfl rfl ?_
 intro W0 R
 simp only [List.zipIdx_cons, List.zipIdx_nil, List.map_cons, List.map_nil, Nat.zero_add, Nat.reduceAdd, List.cons_append, List.nil_append]
 refine g_seq ?_
 refine g_region ?_
 refine gl_v rfl (o_assign rfl) ?_
 refine gl_nil ?_
 refine ge_then ?_
 refine g_seq ?_
 refine g_region ?_
 first | refine gl_v rfl (o_load rfl rfl) ?_ | refine gl_v rfl (o_loadS rfl rfl) ?_ | refine gl_v rfl (o_loadC rfl) ?_
 first | refine gl_v rfl (o_load rfl rfl) ?_ | refine gl_v rfl (o_loadS rfl rfl) ?_ | refine gl_v rfl (o_loadC rfl) ?_
 first | refine gl_v rfl (o_load rfl rfl) ?_ | refine gl_v rfl (o_loadS rfl rfl) ?_ | refine gl_v rfl (o_loadC rfl) ?_
 refine gl_c rfl (o_call rfl (Store_spec m L t i hi v) (by repeat (first | exact .nil | (apply Part.cons; · (repeat (first | exact .head | apply Sel.tail)))))) ?_
 rintro _ R ⟨_, ⟨rfl, rfl⟩, rfl⟩
 try simp only [List.cons_append, List.nil_append]
 refine gl_v rfl (o_is (c := true) (by rfl) (o_eql rfl rfl)) ?_
 refine gl_v rfl (o_assign rfl) ?_
 refine gl_nil ?_
 refine ge_then ?_
 refine g_ret ?_
 refine ret1 (.inl rfl) rfl rfl _ (⟨rfl, rfl⟩) (To.sat (by repeat (first | exact .nil | exact .done .refl | (apply To.cons; · (repeat (first | exact .head | apply Sel.tail))) | exact .done (by repeat (first | exact .refl | apply Drop.skip)))))

set_option maxRecDepth 8000 in
theorem tStep_load (τ : Nat) (m i : Nat) (L : List Int) (t : Int) (hi : i < L.length) : FnS Tryz.prog 154 [ptr τ 0] [tLoad τ m i, memA m L t] (fun u Bs => u = .bool true ∧ Bs = [tDone τ (L.getD i 0) true, memA m L (tup t)]) := by
 refine fn_body Tryz.func154 rfl rfl rfl ?_
 intro W0 R
 simp only [List.zipIdx_cons, List.zipIdx_nil, List.map_cons, List.map_nil, Nat.zero_add, Nat.reduceAdd, List.cons_append, List.nil_append]
 refine g_open (by repeat (first | exact .head | apply Sel.tail)) ?_
 rintro ⟨e1, e2, e3⟩ -
 simp only [List.cons_append, List.nil_append]
 refine g_seq ?_
 refine g_region ?_
 refine gl_v rfl (o_assign rfl) ?_
 refine gl_nil ?_
 refine ge_then ?_
 refine g_seq ?_
 refine g_seq ?_
 refine g_region ?_
 refine gl_v rfl (o_move rfl) ?_
 refine gl_v rfl (o_nil rfl) ?_
 first | refine gl_v rfl (o_fldS rfl) ?_ | refine gl_v rfl (o_fld rfl) ?_
 first | refine gl_v rfl (o_load rfl rfl) ?_ | refine gl_v rfl (o_loadS rfl rfl) ?_ | refine gl_v rfl (o_loadC rfl) ?_
 refine gl_v rfl (o_not rfl) ?_
 refine gl_nil ?_
 refine ge_then ?_
 refine g_cond_true (rfl) ?_
 refine g_seq ?_
 refine g_region ?_
 refine gl_v rfl (o_move rfl) ?_
 refine gl_v rfl (o_move rfl) ?_
 refine gl_v rfl (o_nil rfl) ?_
 first | refine gl_v rfl (o_fldS rfl) ?_ | refine gl_v rfl (o_fld rfl) ?_
 first | refine gl_v rfl (o_load rfl rfl) ?_ | refine gl_v rfl (o_loadS rfl rfl) ?_ | refine gl_v rfl (o_loadC rfl) ?_
 refine gl_c rfl (o_callV rfl rfl (tLoad_do τ e1 e2 e3 m i L t hi _ false false 0) (by repeat (first | exact .nil | (apply Part.cons; · (repeat (first | exact .head | apply Sel.tail)))))) ?_
 rintro _ R ⟨_, ⟨rfl, rfl⟩, rfl⟩
 try simp only [List.cons_append, List.nil_append]
 refine gl_v rfl (o_nil rfl) ?_
 first | refine gl_v rfl (o_fldS rfl) ?_ | refine gl_v rfl (o_fld rfl) ?_
 first | refine gl_u (o_store rfl rfl rfl rfl) ?_ | refine gl_u (o_storeS rfl rfl rfl (by first | assumption | omega | simp)) ?_
 refine gl_nil ?_
 refine ge_then ?_
 refine g_region ?_
 refine gl_v rfl (o_move rfl) ?_
 refine gl_v rfl (o_nil rfl) ?_
 first | refine gl_v rfl (o_fldS rfl) ?_ | refine gl_v rfl (o_fld rfl) ?_
 first | refine gl_u (o_store rfl rfl rfl rfl) ?_ | refine gl_u (o_storeS rfl rfl rfl (by first | assumption | omega | simp)) ?_
 refine gl_nil ?_
 refine ge_then ?_
 refine g_seq ?_
 refine g_region ?_
 refine gl_v rfl (o_assign rfl) ?_
 refine gl_nil ?_
 refine ge_then ?_
 refine g_ret ?_
 refine ret1 (.inl rfl) rfl rfl [tDone τ (L.getD i 0) (true), memA m (L) (tup t)] (⟨rfl, rfl⟩) (ex_close (fnV 70 [ptr e1 0, ptr e2 0, ptr e3 0]) trivial (To.sat (by repeat (first | exact .nil | exact .done .refl | (apply To.cons; · (repeat (first | exact .head | apply Sel.tail))) | exact .done (by repeat (first | exact .refl | apply Drop.skip))))))

set_option maxRecDepth 8000 in
theorem tStep_store (τ : Nat) (m i : Nat) (L : List Int) (t : Int) (hi : i < L.length) (v : Int) : FnS Tryz.prog 154 [ptr τ 0] [tStore τ m i v, memA m L t] (fun u Bs => u = .bool true ∧ Bs = [tDone τ 0 true, memA m (L.set i v) (tup t)]) := by
 refine fn_body Tryz.func154 rfl rfl rfl ?_
 intro W0 R
 simp only [List.zipIdx_cons, List.zipIdx_nil, List.map_cons, List.map_nil, Nat.zero_add, Nat.reduceAdd, List.cons_append, List.nil_append]
 refine g_open (by repeat (first | exact .head | apply Sel.tail)) ?_
 rintro ⟨e1, e2, e3⟩ -
 simp only [List.cons_append, List.nil_append]
 refine g_seq ?_
 refine g_region ?_
 refine gl_v rfl (o_assign rfl) ?_
 refine gl_nil ?_
 refine ge_then ?_
 refine g_seq ?_
 refine g_seq ?_
 refine g_region ?_
 refine gl_v rfl (o_move rfl) ?_
 refine gl_v rfl (o_nil rfl) ?_
 first | refine gl_v rfl (o_fldS rfl) ?_ | refine gl_v rfl (o_fld rfl) ?_
 first | refine gl_v rfl (o_load rfl rfl) ?_ | refine gl_v rfl (o_loadS rfl rfl) ?_ | refine gl_v rfl (o_loadC rfl) ?_
 refine gl_v rfl (o_not rfl) ?_
 refine gl_nil ?_
 refine ge_then ?_
 refine g_cond_true (rfl) ?_
 refine g_seq ?_
 refine g_region ?_
 refine gl_v rfl (o_move rfl) ?_
 refine gl_v rfl (o_move rfl) ?_
 refine gl_v rfl (o_nil rfl) ?_
 first | refine gl_v rfl (o_fldS rfl) ?_ | refine gl_v rfl (o_fld rfl) ?_
 first | refine gl_v rfl (o_load rfl rfl) ?_ | refine gl_v rfl (o_loadS rfl rfl) ?_ | refine gl_v rfl (o_loadC rfl) ?_
 refine gl_c rfl (o_callV rfl rfl (tStore_do e1 e2 e3 m i L t hi v) (by repeat (first | exact .nil | (apply Part.cons; · (repeat (first | exact .head | apply Sel.tail)))))) ?_
 rintro _ R ⟨_, ⟨rfl, rfl⟩, rfl⟩
 try simp only [List.cons_append, List.nil_append]
 refine gl_v rfl (o_nil rfl) ?_
 first | refine gl_v rfl (o_fldS rfl) ?_ | refine gl_v rfl (o_fld rfl) ?_
 first | refine gl_u (o_store rfl rfl rfl rfl) ?_ | refine gl_u (o_storeS rfl rfl rfl (by first | assumption | omega | simp)) ?_
 refine gl_nil ?_
 refine ge_then ?_
 refine g_region ?_
 refine gl_v rfl (o_move rfl) ?_
 refine gl_v rfl (o_nil rfl) ?_
 first | refine gl_v rfl (o_fldS rfl) ?_ | refine gl_v rfl (o_fld rfl) ?_
 first | refine gl_u (o_store rfl rfl rfl rfl) ?_ | refine gl_u (o_storeS rfl rfl rfl (by first | assumption | omega | simp)) ?_
 refine gl_nil ?_
 refine ge_then ?_
 refine g_seq ?_
 refine g_region ?_
 refine gl_v rfl (o_assign rfl) ?_
 refine gl_nil ?_
 refine ge_then ?_
 refine g_ret ?_
 refine ret1 (.inl rfl) rfl rfl [tDone τ (0) (true), memA m (L.set i v) (tup t)] (⟨rfl, rfl⟩) (ex_close (fnV 99 [ptr e1 0, ptr e2 0, ptr e3 0]) trivial (To.sat (by repeat (first | exact .nil | exact .done .refl | (apply To.cons; · (repeat (first | exact .head | apply Sel.tail))) | exact .done (by repeat (first | exact .refl | apply Drop.skip))))))

set_option maxRecDepth 8000 in
theorem tOver_no (τ : Nat) (f : Value) (v : Int) (won : Bool) : FnS Tryz.prog 153 [ptr τ 0] [tchC τ f false v won] (fun u Bs => u = .bool false ∧ Bs = [tchC τ f false v won]) := by
 refine fn_body Tryz.func153 rfl rfl rfl ?_
 intro W0 R
 simp only [List.zipIdx_cons, List.zipIdx_nil, List.map_cons, List.map_nil, Nat.zero_add, Nat.reduceAdd, List.cons_append, List.nil_append]
 refine g_seq ?_
 refine g_region ?_
 refine gl_v rfl (o_assign rfl) ?_
 refine gl_nil ?_
 refine ge_then ?_
 refine g_seq ?_
 refine g_region ?_
 refine gl_v rfl (o_move rfl) ?_
 refine gl_v rfl (o_nil rfl) ?_
 first | refine gl_v rfl (o_fldS rfl) ?_ | refine gl_v rfl (o_fld rfl) ?_
 first | refine gl_v rfl (o_load rfl rfl) ?_ | refine gl_v rfl (o_loadS rfl rfl) ?_ | refine gl_v rfl (o_loadC rfl) ?_
 refine gl_v rfl (o_assign rfl) ?_
 refine gl_nil ?_
 refine ge_then ?_
 refine g_ret ?_
 refine ret1 (.inl rfl) rfl rfl _ (⟨rfl, rfl⟩) (To.sat (by repeat (first | exact .nil | exact .done .refl | (apply To.cons; · (repeat (first | exact .head | apply Sel.tail))) | exact .done (by repeat (first | exact .refl | apply Drop.skip)))))

set_option maxRecDepth 8000 in
theorem Do_touch (p τ : Nat) (bx : BXT) (x y thn : Value) (hth : thn.oneCell' = true) (out val v : Int) (f : Value) (won : Bool) : FnS Tryz.prog 52 [ptr p 0, iT τ, thn] [opC p x y out val bx, tchC τ f false v won] (fun u Bs => u = .tuple #[] ∧ Bs = [opC p (iT τ) thn out val bx, tchC τ f false v won]) := by
 refine fn_body Tryz.func52 rfl rfl rfl ?_
 intro W0 R
 simp only [List.zipIdx_cons, List.zipIdx_nil, List.map_cons, List.map_nil, Nat.zero_add, Nat.reduceAdd, List.cons_append, List.nil_append]
 refine g_seq ?_
 refine g_seq ?_
 refine g_region ?_
 refine gl_v rfl (o_move rfl) ?_
 refine gl_c rfl (o_inv rfl rfl (tOver_no τ f v won) (by repeat (first | exact .nil | (apply Part.cons; · (repeat (first | exact .head | apply Sel.tail)))))) ?_
 rintro _ R ⟨_, ⟨rfl, rfl⟩, rfl⟩
 try simp only [List.cons_append, List.nil_append]
 refine gl_nil ?_
 refine ge_then ?_
 refine g_cond_false (rfl) ?_
 refine g_skip ?_
 refine ge_then ?_
 refine g_region ?_
 refine gl_v rfl (o_move rfl) ?_
 refine gl_v rfl (o_move rfl) ?_
 refine gl_v rfl (o_move rfl) ?_
 refine gl_v rfl (o_move rfl) ?_
 refine gl_v rfl (o_nil rfl) ?_
 first | refine gl_v rfl (o_fldS rfl) ?_ | refine gl_v rfl (o_fld rfl) ?_
 first | refine gl_u (o_store rfl rfl rfl rfl) ?_ | refine gl_u (o_store rfl rfl hth rfl) ?_
 refine gl_v rfl (o_nil rfl) ?_
 first | refine gl_v rfl (o_fldS rfl) ?_ | refine gl_v rfl (o_fld rfl) ?_
 first | refine gl_u (o_store rfl rfl rfl rfl) ?_ | refine gl_u (o_store rfl rfl hth rfl) ?_
 refine gl_nil ?_
 refine ret0 (.inr rfl) rfl _ (⟨rfl, rfl⟩) (To.sat (by repeat (first | exact .nil | exact .done .refl | (apply To.cons; · (repeat (first | exact .head | apply Sel.tail))) | exact .done (by repeat (first | exact .refl | apply Drop.skip)))))

set_option maxRecDepth 8000 in
theorem Do_ring (p q r : Nat) (bx : BXT) (x y thn : Value) (hth : thn.oneCell' = true) (out val : Int) (o : RO) (ho : o.over = false) : FnS Tryz.prog 52 [ptr p 0, iR q, thn] [opC p x y out val bx, opA q r o] (fun u Bs => u = .tuple #[] ∧ Bs = [opC p (iR q) thn out val bx, opA q r o]) := by
 refine fn_body Tryz.func52 rfl rfl rfl ?_
 intro W0 R
 simp only [List.zipIdx_cons, List.zipIdx_nil, List.map_cons, List.map_nil, Nat.zero_add, Nat.reduceAdd, List.cons_append, List.nil_append]
 refine g_seq ?_
 refine g_seq ?_
 refine g_region ?_
 refine gl_v rfl (o_move rfl) ?_
 refine gl_c rfl (o_inv rfl rfl (Over_spec q r o) (by repeat (first | exact .nil | (apply Part.cons; · (repeat (first | exact .head | apply Sel.tail)))))) ?_
 rintro _ R ⟨_, ⟨rfl, rfl⟩, rfl⟩
 try simp only [List.cons_append, List.nil_append]
 refine gl_nil ?_
 refine ge_then ?_
 refine g_cond_false (by show some (Value.bool o.over) = _; rw [ho]) ?_
 refine g_skip ?_
 refine ge_then ?_
 refine g_region ?_
 refine gl_v rfl (o_move rfl) ?_
 refine gl_v rfl (o_move rfl) ?_
 refine gl_v rfl (o_move rfl) ?_
 refine gl_v rfl (o_move rfl) ?_
 refine gl_v rfl (o_nil rfl) ?_
 first | refine gl_v rfl (o_fldS rfl) ?_ | refine gl_v rfl (o_fld rfl) ?_
 first | refine gl_u (o_store rfl rfl rfl rfl) ?_ | refine gl_u (o_store rfl rfl hth rfl) ?_
 refine gl_v rfl (o_nil rfl) ?_
 first | refine gl_v rfl (o_fldS rfl) ?_ | refine gl_v rfl (o_fld rfl) ?_
 first | refine gl_u (o_store rfl rfl rfl rfl) ?_ | refine gl_u (o_store rfl rfl hth rfl) ?_
 refine gl_nil ?_
 refine ret0 (.inr rfl) rfl _ (⟨rfl, rfl⟩) (To.sat (by repeat (first | exact .nil | exact .done .refl | (apply To.cons; · (repeat (first | exact .head | apply Sel.tail))) | exact .done (by repeat (first | exact .refl | apply Drop.skip)))))

set_option maxRecDepth 8000 in
theorem End_spec (p : Nat) (bx : BXT) (x y : Value) (out val o2 v2 : Int) : FnS Tryz.prog 54 [ptr p 0, I64 o2, U64 v2] [opC p x y out val bx] (fun u Bs => u = .tuple #[] ∧ Bs = [opC p x y o2 v2 bx]) := by
 refine fn_body Tryz.func54 rfl rfl rfl ?_
 intro W0 R
 simp only [List.zipIdx_cons, List.zipIdx_nil, List.map_cons, List.map_nil, Nat.zero_add, Nat.reduceAdd, List.cons_append, List.nil_append]
 refine g_region ?_
 refine gl_v rfl (o_move rfl) ?_
 refine gl_v rfl (o_move rfl) ?_
 refine gl_v rfl (o_move rfl) ?_
 refine gl_v rfl (o_move rfl) ?_
 refine gl_v rfl (o_nil rfl) ?_
 first | refine gl_v rfl (o_fldS rfl) ?_ | refine gl_v rfl (o_fld rfl) ?_
 first | refine gl_u (o_store rfl rfl rfl rfl) ?_ | refine gl_u (o_storeS rfl rfl rfl (by first | assumption | omega | simp)) ?_
 refine gl_v rfl (o_nil rfl) ?_
 first | refine gl_v rfl (o_fldS rfl) ?_ | refine gl_v rfl (o_fld rfl) ?_
 first | refine gl_u (o_store rfl rfl rfl rfl) ?_ | refine gl_u (o_storeS rfl rfl rfl (by first | assumption | omega | simp)) ?_
 refine gl_nil ?_
 refine ret0 (.inr rfl) rfl _ (⟨rfl, rfl⟩) (To.sat (by repeat (first | exact .nil | exact .done .refl | (apply To.cons; · (repeat (first | exact .head | apply Sel.tail))) | exact .done (by repeat (first | exact .refl | apply Drop.skip)))))

set_option maxRecDepth 8000 in
theorem pOver_spec (p : Nat) (bx : BXT) (x y : Value) (out val : Int) : FnS Tryz.prog 34 [ptr p 0] [opC p x y out val bx] (fun u Bs => u = .bool (!decide (out = 0)) ∧ Bs = [opC p x y out val bx]) := by
 refine fn_body Tryz.func34 rfl rfl rfl ?_
 intro W0 R
 simp only [List.zipIdx_cons, List.zipIdx_nil, List.map_cons, List.map_nil, Nat.zero_add, Nat.reduceAdd, List.cons_append, List.nil_append]
 refine g_seq ?_
 refine g_region ?_
 refine gl_v rfl (o_assign rfl) ?_
 refine gl_nil ?_
 refine ge_then ?_
 refine g_seq ?_
 refine g_region ?_
 refine gl_v rfl (o_move rfl) ?_
 refine gl_v rfl (o_nil rfl) ?_
 first | refine gl_v rfl (o_fldS rfl) ?_ | refine gl_v rfl (o_fld rfl) ?_
 first | refine gl_v rfl (o_load rfl rfl) ?_ | refine gl_v rfl (o_loadS rfl rfl) ?_ | refine gl_v rfl (o_loadC rfl) ?_
 refine gl_v rfl (o_neq rfl rfl) ?_
 refine gl_v rfl (o_assign rfl) ?_
 refine gl_nil ?_
 refine ge_then ?_
 refine g_ret ?_
 refine ret1 (.inl rfl) rfl rfl _ (⟨rfl, rfl⟩) (To.sat (by repeat (first | exact .nil | exact .done .refl | (apply To.cons; · (repeat (first | exact .head | apply Sel.tail))) | exact .done (by repeat (first | exact .refl | apply Drop.skip)))))

set_option maxRecDepth 8000 in
theorem pOutcome_spec (p : Nat) (bx : BXT) (x y : Value) (out val : Int) : FnS Tryz.prog 33 [ptr p 0] [opC p x y out val bx] (fun u Bs => u = I64 out ∧ Bs = [opC p x y out val bx]) := by
 refine fn_body Tryz.func33 rfl rfl rfl ?_
 intro W0 R
 simp only [List.zipIdx_cons, List.zipIdx_nil, List.map_cons, List.map_nil, Nat.zero_add, Nat.reduceAdd, List.cons_append, List.nil_append]
 refine g_seq ?_
 refine g_region ?_
 refine gl_v rfl (o_assign rfl) ?_
 refine gl_nil ?_
 refine ge_then ?_
 refine g_seq ?_
 refine g_region ?_
 refine gl_v rfl (o_move rfl) ?_
 refine gl_v rfl (o_nil rfl) ?_
 first | refine gl_v rfl (o_fldS rfl) ?_ | refine gl_v rfl (o_fld rfl) ?_
 first | refine gl_v rfl (o_load rfl rfl) ?_ | refine gl_v rfl (o_loadS rfl rfl) ?_ | refine gl_v rfl (o_loadC rfl) ?_
 refine gl_v rfl (o_assign rfl) ?_
 refine gl_nil ?_
 refine ge_then ?_
 refine g_ret ?_
 refine ret1 (.inl rfl) rfl rfl _ (⟨rfl, rfl⟩) (To.sat (by repeat (first | exact .nil | exact .done .refl | (apply To.cons; · (repeat (first | exact .head | apply Sel.tail))) | exact .done (by repeat (first | exact .refl | apply Drop.skip)))))

set_option maxRecDepth 8000 in
theorem pValue_spec (p : Nat) (bx : BXT) (x y : Value) (out val : Int) : FnS Tryz.prog 31 [ptr p 0] [opC p x y out val bx] (fun u Bs => u = U64 val ∧ Bs = [opC p x y out val bx]) := by
 refine fn_body Tryz.func31 rfl rfl rfl ?_
 intro W0 R
 simp only [List.zipIdx_cons, List.zipIdx_nil, List.map_cons, List.map_nil, Nat.zero_add, Nat.reduceAdd, List.cons_append, List.nil_append]
 refine g_seq ?_
 refine g_region ?_
 refine gl_v rfl (o_assign rfl) ?_
 refine gl_nil ?_
 refine ge_then ?_
 refine g_seq ?_
 refine g_region ?_
 refine gl_v rfl (o_move rfl) ?_
 refine gl_v rfl (o_nil rfl) ?_
 first | refine gl_v rfl (o_fldS rfl) ?_ | refine gl_v rfl (o_fld rfl) ?_
 first | refine gl_v rfl (o_load rfl rfl) ?_ | refine gl_v rfl (o_loadS rfl rfl) ?_ | refine gl_v rfl (o_loadC rfl) ?_
 refine gl_v rfl (o_assign rfl) ?_
 refine gl_nil ?_
 refine ge_then ?_
 refine g_ret ?_
 refine ret1 (.inl rfl) rfl rfl _ (⟨rfl, rfl⟩) (To.sat (by repeat (first | exact .nil | exact .done .refl | (apply To.cons; · (repeat (first | exact .head | apply Sel.tail))) | exact .done (by repeat (first | exact .refl | apply Drop.skip)))))

set_option maxRecDepth 8000 in
theorem pStep_idle (p : Nat) (bx : BXT) (x y : Value) (out val : Int) (ho : out ≠ 0) : FnS Tryz.prog 32 [ptr p 0] [opC p x y out val bx] (fun u Bs => u = .bool true ∧ Bs = [opC p x y out val bx]) := by
 refine fn_body Tryz.func32 rfl rfl rfl ?_
 intro W0 R
 simp only [List.zipIdx_cons, List.zipIdx_nil, List.map_cons, List.map_nil, Nat.zero_add, Nat.reduceAdd, List.cons_append, List.nil_append]
 refine g_seq ?_
 refine g_region ?_
 refine gl_v rfl (o_assign rfl) ?_
 refine gl_nil ?_
 refine ge_then ?_
 refine g_seq ?_
 refine g_seq ?_
 refine g_region ?_
 refine gl_v rfl (o_move rfl) ?_
 refine gl_c rfl (o_call rfl (pOver_spec p bx x y out val) (by repeat (first | exact .nil | (apply Part.cons; · (repeat (first | exact .head | apply Sel.tail)))))) ?_
 rintro _ R ⟨_, ⟨rfl, rfl⟩, rfl⟩
 try simp only [List.cons_append, List.nil_append]
 refine gl_v rfl (o_is (c := false) (by simp [ho]) (o_not rfl)) ?_
 refine gl_v rfl (o_move rfl) ?_
 refine gl_gF rfl rfl rfl rfl ?_
 refine gl_gF rfl rfl rfl rfl ?_
 refine gl_gF rfl rfl rfl rfl ?_
 refine gl_gF rfl rfl rfl rfl ?_
 refine gl_gF rfl rfl rfl rfl ?_
 refine gl_v rfl (o_pickF rfl rfl rfl) ?_
 refine gl_nil ?_
 refine ge_then ?_
 refine g_cond_false rfl ?_
 refine g_skip ?_
 refine ge_then ?_
 refine g_seq ?_
 refine g_region ?_
 refine gl_v rfl (o_move rfl) ?_
 refine gl_c rfl (o_call rfl (pOver_spec p bx x y out val) (by repeat (first | exact .nil | (apply Part.cons; · (repeat (first | exact .head | apply Sel.tail)))))) ?_
 rintro _ R ⟨_, ⟨rfl, rfl⟩, rfl⟩
 try simp only [List.cons_append, List.nil_append]
 refine gl_v rfl (o_assign rfl) ?_
 refine gl_nil ?_
 refine ge_then ?_
 refine g_ret ?_
 refine ret1 (.inl rfl) rfl rfl _ (⟨by simp [ho], rfl⟩) (To.sat (by repeat (first | exact .nil | exact .done .refl | (apply To.cons; · (repeat (first | exact .head | apply Sel.tail))) | exact .done (by repeat (first | exact .refl | apply Drop.skip)))))

section
variable {P : Program} {f : FuncId} {args : List Value}
theorem fns_eq {As As' F Cs Ds : List Assn} {V : Value} (h : FnS P f args As (fun u Bs => u = V ∧ Bs = Cs)) (p : Part As As' F) (k : ∀ R h, Sat (Cs ++ (F ++ R)) h → Sat (Ds ++ R) h) : FnS P f args As' (fun u Bs => u = V ∧ Bs = Ds) :=
  fun W0 R w s => (h W0 (F ++ R) w (s.imp fun h s => by
    obtain ⟨h1, h2, d, rfl, s1, s2⟩ := Sat.split s
    have := Sat.append d (p.to s1) s2
    rwa [List.append_assoc] at this)).mono fun _ _ ⟨v, _, e, ⟨e2, rfl⟩, s⟩ => ⟨v, Ds, e, ⟨e2, rfl⟩, s.imp (k R)⟩
theorem fns_ex {ι : Type} {φ : ι → Prop} {l : ι → List Assn} {As : List Assn} {post : Value → List Assn → Prop} (h : ∀ x, φ x → FnS P f args (l x ++ As) post) : FnS P f args (exA φ l :: As) post :=
  fun W0 R w s => by
    obtain ⟨x, hp, hx⟩ := ex_open s.sat
    exact h x hp W0 R w ⟨s.os, s.tape, s.output, s.size, by rw [List.append_assoc]; exact hx⟩
end

set_option maxRecDepth 8000 in
theorem pStep_go (p : Nat) (bx : BXT) (T fS : Nat) (pv thn : Value) [TMeth Tryz.prog T "Step" fS] [TFunc Tryz.prog fS] (X Y : Assn) (hS : FnS Tryz.prog fS [pv] [X] (fun u Bs => u = .bool false ∧ Bs = [Y])) : FnS Tryz.prog 32 [ptr p 0] [opC p (.iface T pv) thn 0 0 bx, X] (fun u Bs => u = .bool false ∧ Bs = [opC p (.iface T pv) thn 0 0 bx, Y]) := by
 refine fn_body Tryz.func32 rfl rfl rfl ?_
 intro W0 R
 simp only [List.zipIdx_cons, List.zipIdx_nil, List.map_cons, List.map_nil, Nat.zero_add, Nat.reduceAdd, List.cons_append, List.nil_append]
 refine g_seq ?_
 refine g_region ?_
 refine gl_v rfl (o_assign rfl) ?_
 refine gl_nil ?_
 refine ge_then ?_
 refine g_seq ?_
 refine g_seq ?_
 refine g_region ?_
 refine gl_v rfl (o_move rfl) ?_
 refine gl_c rfl (o_call rfl (pOver_spec p bx _ _ 0 0) (by repeat (first | exact .nil | (apply Part.cons; · (repeat (first | exact .head | apply Sel.tail)))))) ?_
 rintro _ R ⟨_, ⟨rfl, rfl⟩, rfl⟩
 try simp only [List.cons_append, List.nil_append]
 refine gl_v rfl (o_is (c := true) (by rfl) (o_not rfl)) ?_
 refine gl_v rfl (o_move rfl) ?_
 refine gl_gT rfl rfl rfl ?_
 refine gl_v rfl (o_move rfl) ?_
 refine gl_gT rfl rfl rfl ?_
 refine gl_v rfl (o_nil rfl) ?_
 refine gl_gT rfl rfl rfl ?_
 first | refine gl_v rfl (o_fldS rfl) ?_ | refine gl_v rfl (o_fld rfl) ?_
 refine gl_gT rfl rfl rfl ?_
 first | refine gl_v rfl (o_load rfl rfl) ?_ | refine gl_v rfl (o_loadS rfl rfl) ?_ | refine gl_v rfl (o_loadC rfl) ?_
 refine gl_gT rfl rfl rfl ?_
 refine gl_c rfl (o_inv rfl rfl (hS) (by repeat (first | exact .nil | (apply Part.cons; · (repeat (first | exact .head | apply Sel.tail)))))) ?_
 rintro _ R ⟨_, ⟨rfl, rfl⟩, rfl⟩
 try simp only [List.cons_append, List.nil_append]
 refine gl_v rfl (o_pickT rfl rfl rfl) ?_
 refine gl_nil ?_
 refine ge_then ?_
 refine g_cond_false (rfl) ?_
 refine g_skip ?_
 refine ge_then ?_
 refine g_seq ?_
 refine g_region ?_
 refine gl_v rfl (o_move rfl) ?_
 refine gl_c rfl (o_call rfl (pOver_spec p bx _ _ 0 0) (by repeat (first | exact .nil | (apply Part.cons; · (repeat (first | exact .head | apply Sel.tail)))))) ?_
 rintro _ R ⟨_, ⟨rfl, rfl⟩, rfl⟩
 try simp only [List.cons_append, List.nil_append]
 refine gl_v rfl (o_assign rfl) ?_
 refine gl_nil ?_
 refine ge_then ?_
 refine g_ret ?_
 refine ret1 (.inl rfl) rfl rfl _ (⟨rfl, rfl⟩) (To.sat (by repeat (first | exact .nil | exact .done .refl | (apply To.cons; · (repeat (first | exact .head | apply Sel.tail))) | exact .done (by repeat (first | exact .refl | apply Drop.skip)))))

set_option maxRecDepth 8000 in
theorem pStep_then (p : Nat) (bx : BXT) (T fS F : Nat) (pv : Value) (caps : List Value) [TMeth Tryz.prog T "Step" fS] [TFunc Tryz.prog fS] [TFunc Tryz.prog F] (X Y K : Assn) (ov : Bool) (hS : FnS Tryz.prog fS [pv] [X] (fun u Bs => u = .bool true ∧ Bs = [Y])) (hT : FnS Tryz.prog F caps [opC p (.iface T pv) (fnV F caps) 0 0 bx, Y] (fun u Bs => u = .tuple #[] ∧ Bs = [K])) (hO : FnS Tryz.prog 34 [ptr p 0] [K] (fun u Bs => u = .bool ov ∧ Bs = [K])) : FnS Tryz.prog 32 [ptr p 0] [opC p (.iface T pv) (fnV F caps) 0 0 bx, X] (fun u Bs => u = .bool ov ∧ Bs = [K]) := by
 refine fn_body Tryz.func32 rfl rfl rfl ?_
 intro W0 R
 simp only [List.zipIdx_cons, List.zipIdx_nil, List.map_cons, List.map_nil, Nat.zero_add, Nat.reduceAdd, List.cons_append, List.nil_append]
 refine g_seq ?_
 refine g_region ?_
 refine gl_v rfl (o_assign rfl) ?_
 refine gl_nil ?_
 refine ge_then ?_
 refine g_seq ?_
 refine g_seq ?_
 refine g_region ?_
 refine gl_v rfl (o_move rfl) ?_
 refine gl_c rfl (o_call rfl (pOver_spec p bx _ _ 0 0) (by repeat (first | exact .nil | (apply Part.cons; · (repeat (first | exact .head | apply Sel.tail)))))) ?_
 rintro _ R ⟨_, ⟨rfl, rfl⟩, rfl⟩
 try simp only [List.cons_append, List.nil_append]
 refine gl_v rfl (o_is (c := true) (by rfl) (o_not rfl)) ?_
 refine gl_v rfl (o_move rfl) ?_
 refine gl_gT rfl rfl rfl ?_
 refine gl_v rfl (o_move rfl) ?_
 refine gl_gT rfl rfl rfl ?_
 refine gl_v rfl (o_nil rfl) ?_
 refine gl_gT rfl rfl rfl ?_
 first | refine gl_v rfl (o_fldS rfl) ?_ | refine gl_v rfl (o_fld rfl) ?_
 refine gl_gT rfl rfl rfl ?_
 first | refine gl_v rfl (o_load rfl rfl) ?_ | refine gl_v rfl (o_loadS rfl rfl) ?_ | refine gl_v rfl (o_loadC rfl) ?_
 refine gl_gT rfl rfl rfl ?_
 refine gl_c rfl (o_inv rfl rfl (hS) (by repeat (first | exact .nil | (apply Part.cons; · (repeat (first | exact .head | apply Sel.tail)))))) ?_
 rintro _ R ⟨_, ⟨rfl, rfl⟩, rfl⟩
 try simp only [List.cons_append, List.nil_append]
 refine gl_v rfl (o_pickT rfl rfl rfl) ?_
 refine gl_nil ?_
 refine ge_then ?_
 refine g_cond_true (rfl) ?_
 refine g_region ?_
 refine gl_v rfl (o_move rfl) ?_
 refine gl_v rfl (o_nil rfl) ?_
 first | refine gl_v rfl (o_fldS rfl) ?_ | refine gl_v rfl (o_fld rfl) ?_
 first | refine gl_v rfl (o_load rfl rfl) ?_ | refine gl_v rfl (o_loadS rfl rfl) ?_ | refine gl_v rfl (o_loadC rfl) ?_
 refine gl_c rfl (o_callV rfl rfl (hT) (by repeat (first | exact .nil | (apply Part.cons; · (repeat (first | exact .head | apply Sel.tail)))))) ?_
 rintro _ R ⟨_, ⟨rfl, rfl⟩, rfl⟩
 try simp only [List.cons_append, List.nil_append]
 refine gl_nil ?_
 refine ge_then ?_
 refine g_seq ?_
 refine g_region ?_
 refine gl_v rfl (o_move rfl) ?_
 refine gl_c rfl (o_call rfl (hO) (by repeat (first | exact .nil | (apply Part.cons; · (repeat (first | exact .head | apply Sel.tail)))))) ?_
 rintro _ R ⟨_, ⟨rfl, rfl⟩, rfl⟩
 try simp only [List.cons_append, List.nil_append]
 refine gl_v rfl (o_assign rfl) ?_
 refine gl_nil ?_
 refine ge_then ?_
 refine g_ret ?_
 refine ret1 (.inl rfl) rfl rfl _ (⟨rfl, rfl⟩) (To.sat (by repeat (first | exact .nil | exact .done .refl | (apply To.cons; · (repeat (first | exact .head | apply Sel.tail))) | exact .done (by repeat (first | exact .refl | apply Drop.skip)))))

theorem Do_load (p τ : Nat) (bx : BXT) (m i : Nat) (x y thn : Value) (hth : thn.oneCell' = true) (out val : Int) : FnS Tryz.prog 52 [ptr p 0, iT τ, thn] [opC p x y out val bx, tLoad τ m i] (fun u Bs => u = .tuple #[] ∧ Bs = [opC p (iT τ) thn out val bx, tLoad τ m i]) := by
  refine fns_eq (As := [tLoad τ m i, opC p x y out val bx]) (F := []) (Cs := [opC p (iT τ) thn out val bx, tLoad τ m i]) (fns_ex (fun e _ => ?_)) (.cons (.tail .head) (.cons .head .nil)) (fun R h s => s)
  simp only [List.cons_append, List.nil_append]
  refine fns_eq (Do_touch p τ bx x y thn hth out val 0 _ false) (by repeat (first | exact .nil | (apply Part.cons; · (repeat (first | exact .head | apply Sel.tail))))) (fun R => ?_)
  simp only [List.cons_append, List.nil_append]
  exact fun h s => Sat.swap (ex_close e trivial (To.sat (by repeat (first | exact .nil | exact .done .refl | (apply To.cons; · (repeat (first | exact .head | apply Sel.tail))) | exact .done (by repeat (first | exact .refl | apply Drop.skip))))) h s)

theorem Do_store (p τ : Nat) (bx : BXT) (m i : Nat) (a : Int) (x y thn : Value) (hth : thn.oneCell' = true) (out val : Int) : FnS Tryz.prog 52 [ptr p 0, iT τ, thn] [opC p x y out val bx, tStore τ m i a] (fun u Bs => u = .tuple #[] ∧ Bs = [opC p (iT τ) thn out val bx, tStore τ m i a]) := by
  refine fns_eq (As := [tStore τ m i a, opC p x y out val bx]) (F := []) (Cs := [opC p (iT τ) thn out val bx, tStore τ m i a]) (fns_ex (fun e _ => ?_)) (.cons (.tail .head) (.cons .head .nil)) (fun R h s => s)
  simp only [List.cons_append, List.nil_append]
  refine fns_eq (Do_touch p τ bx x y thn hth out val 0 _ false) (by repeat (first | exact .nil | (apply Part.cons; · (repeat (first | exact .head | apply Sel.tail))))) (fun R => ?_)
  simp only [List.cons_append, List.nil_append]
  exact fun h s => Sat.swap (ex_close e trivial (To.sat (by repeat (first | exact .nil | exact .done .refl | (apply To.cons; · (repeat (first | exact .head | apply Sel.tail))) | exact .done (by repeat (first | exact .refl | apply Drop.skip))))) h s)

end Go.Proofs.YtmohikdmdmplaaaGreat.L
