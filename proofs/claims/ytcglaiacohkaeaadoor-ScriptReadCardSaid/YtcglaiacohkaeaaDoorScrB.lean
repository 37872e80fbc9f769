/-
  Script: a builder of text; whole texts written and read. Own work, printed in part by a program of its own.
-/
import Derived.Test.YtcglaiacohkaeaaDoorScrWv
import Derived.Test.YtcglaiacohkaeaaDoorApS
import Derived.Lib.Builder
import Derived.Lib.UnsafeStr
set_option linter.unusedSimpArgs false
set_option linter.unusedVariables false
set_option linter.unusedSectionVars false
namespace Go.Proofs.YtcglaiacohkaeaaDoor.L
open Go.L Go.L.Lx Go.L.Pa Go.L.Sc
section
variable {P : Program} {W0 w : World} {n : Nat} {sl : Slots} {As : List Assn} {ty : TypeId}
theorem shape_of {b : Nat} {l : List Value} {e : TypeId} {fz : Nat × Nat} {w : World} (h : w.heap[b]? = some (.cells l.toArray e fz)) : w.shape? b = some (e, l.length) := by simp [World.shape?, h]
theorem o_toU {t t' e e' : TypeId} {x : Operand} {b : Nat} {l : List Value} {fz : Nat × Nat} {u : Obj → List Assn} [i : Owns b As (.cells l.toArray e fz) u] (h1 : P.underlying t = some (.pointer e')) (h2 : P.underlying t' = some .unsafePointer) (h3 : ∃ j, P.info? e' = some j ∧ j.size ≠ 0) (h4 : 0 < l.length) (hx : opv sl x = some (ptr b 0)) : OV P W0 n (.convert t t' x) ty sl As (ptr b 0) := fun a w d pos aft g hs s => by
  obtain ⟨j, g1, g2⟩ := h3
  have hb := s.heap (b := b)
  have e1 := Lib.run_to_unsafe (P := P) w ⟨b, 0, none⟩ h1 h2 g1 g2 (shape_of hb) h4
  simp only [execOp, hs.eval hx]
  simp [e1]
theorem o_fromU {t t' e e' : TypeId} {x : Operand} {b : Nat} {l : List Value} {fz : Nat × Nat} {u : Obj → List Assn} [i : Owns b As (.cells l.toArray e fz) u] (h1 : P.underlying t = some .unsafePointer) (h2 : P.underlying t' = some (.pointer e')) (h3 : ∃ j, P.info? e' = some j) (h4 : liesAt P P.depth e (l.length / P.cellsOf e) 0 e' 1 = true) (hx : opv sl x = some (ptr b 0)) : OV P W0 n (.convert t t' x) ty sl As (ptr b 0) := fun a w d pos aft g hs s => by
  obtain ⟨j, g1⟩ := h3
  have hb := s.heap (b := b)
  have e1 := Lib.run_from_unsafe (P := P) w ⟨b, 0, none⟩ h1 h2 g1 (shape_of hb) h4
  simp only [execOp, hs.eval hx]
  simp [e1]
theorem o_ext {f : FuncId} {fn : Func} {e : Array Value → Sem Value} {ts : Array TypeId} {x : Operand} {v u : Value} (hf : P.funcs[f]? = some fn) (hname : (fn.name == "runtime.NumGoroutine") = false) (hb : fn.body.isNone = true) (hn : Extern.findNext fn = none) (he : Extern.find fn = some e) (hr : ∀ w, (e #[v]).run P w = .ok u w) (hx : opv sl x = some v) : OV P W0 n (.call { callee := .value (.func f), args := #[x], argTypes := ts }) ty sl As u := fun a w d pos aft g hs s => by
  simp only [execOp, resolve, List.map_toArray, List.map_cons, List.map_nil, hs.eval hx]
  simp [Act.eval, Deferred.ofValue, invoke, run_callFunc_extern hf hname hb hn he, hr]
theorem o_neqSame {t te t' : TypeId} {x y : Operand} {p : Addr} (h1 : P.underlying t = some (.pointer te)) (h2 : ∃ i, P.info? te = some i) (hx : opv sl x = some (.pointer (some p))) (hy : opv sl y = some (.pointer (some p))) : OV P W0 n (.binOp .neq t x y t') ty sl As (.bool false) := fun a w d pos aft g hs _ => by
  obtain ⟨j, g1⟩ := h2
  have e1 := Lib.run_neq_ptr_same (P := P) (w := w) p h1 g1
  simp only [execOp, hs.eval hx, hs.eval hy]
  simp [eqGuard, e1]
theorem o_sdat {ts : Array TypeId} {x : Operand} {p : Addr} {k c : Nat} (hc : c ≠ 0) (hx : opv sl x = some (.slice (some p) k c)) : OV P W0 n (.call { callee := .builtin .unsafeSliceData, args := #[x], argTypes := ts }) ty sl As (.pointer (some p)) := fun a w d pos aft g hs _ => by
  have e1 := Lib.run_unsafeSliceData_row (P := P) (w := w) ts ty p k c hc
  simp only [execOp, resolve, List.map_toArray, List.map_cons, List.map_nil, hs.eval hx]
  simp [invoke, builtin, e1]
theorem o_ustr {pt it e : TypeId} {x y : Operand} {g : Nat} {l : By} {sp : List Value} {R : List Assn} (hp : P.underlying pt = some (.pointer e)) (hc : P.cellsOf e = 1) (h0 : l ≠ []) (h63 : l.length ≤ 9223372036854775807) (hx : opv sl x = some (ptr g 0)) (hy : opv sl y = some (I64 l.length)) (hs' : Sel (cel g e (byC l ++ sp)) As R) :
    ON P W0 n (.call { callee := .builtin .unsafeString, args := #[x, y], argTypes := #[pt, it] }) ty sl As (fun v Bs => v = S l ∧ Bs = R) := fun a w d pos aft gg hs s => by
  have s1 := s.imp fun _ => hs'.to
  have hb := s1.heap (b := g)
  have e1 := Lib.run_unsafeString_row (P := P) w pt it ty e hp hc g _ (shape_of hb) l h0 (by simp) h63 (fun j x hj => by
    have hj' := (List.getElem?_eq_some_iff.1 hj).1
    rw [cell_add]
    simp [World.cell?, hb, List.getElem?_append_left, hj']
    rw [List.getElem?_eq_getElem hj'] at hj
    injection hj with hj
    rw [hj])
  have s2 : St W0 R (w.freeze ⟨g, 0, none⟩ l.length) := by
    unfold World.freeze
    rw [if_neg (by simpa using h0)]
    exact (s1.modify (b := g) _).imp fun _ => Sat.drop
  refine ⟨_, _, _, ?_, ⟨rfl, rfl⟩, s2⟩
  simp only [execOp, resolve, List.map_toArray, List.map_cons, List.map_nil, hs.eval hx, hs.eval hy]
  simp [invoke, builtin, e1]
theorem o_sdat0 {ts : Array TypeId} {x : Operand} {k c : Nat} (hx : opv sl x = some (.slice none k c)) : OV P W0 n (.call { callee := .builtin .unsafeSliceData, args := #[x], argTypes := ts }) ty sl As (.pointer none) := fun a w d pos aft g hs _ => by
  have e1 := Lib.run_unsafeSliceData_nil (P := P) (w := w) ts ty k c
  simp only [execOp, resolve, List.map_toArray, List.map_cons, List.map_nil, hs.eval hx]
  simp [invoke, builtin, e1]
theorem o_ustr0 {pt it : TypeId} {x y : Operand} (hx : opv sl x = some (.pointer none)) (hy : opv sl y = some (I64 0)) : OV P W0 n (.call { callee := .builtin .unsafeString, args := #[x, y], argTypes := #[pt, it] }) ty sl As (S []) := fun a w d pos aft g hs _ => by
  have e1 := Lib.run_unsafeString_none (P := P) (w := w) pt it ty none
  simp only [execOp, resolve, List.map_toArray, List.map_cons, List.map_nil, hs.eval hx, hs.eval hy]
  simp [invoke, builtin, e1]
  rfl
theorem own_rip {a : Option Addr} {k c : Nat} {e : TypeId} {xs : List Value} {R : List Assn} (h0 : k ≠ 0) : ∀ h, Sat (own (.slice a k c) e 1 k xs :: R) h → Sat (exA (ι := Nat × List Value) (fun x => a = some ⟨x.1, 0, none⟩ ∧ c ≠ 0) (fun x => [cel x.1 e (xs ++ x.2)]) :: R) h := fun _ => Sat.head fun g hh => by
  obtain ⟨h1, hv⟩ := hh
  rcases hv with ⟨_, hz⟩ | ⟨b, cap, sp, hv, k2, k3, k4, k5⟩
  · exact absurd hz h0
  · simp only [Value.slice.injEq] at hv
    obtain ⟨rfl, -, rfl⟩ := hv
    refine ⟨(b, sp), ⟨rfl, by omega⟩, ?_⟩
    exact Sat.one k5
end
abbrev BT : TypeId := 88
def bld (b : Nat) (l : By) : Assn := exA (ι := Value × Option Addr × Nat) (fun x => (l = [] ∧ x = (.pointer none, none, 0)) ∨ (l ≠ [] ∧ x.1 = ptr b 0)) (fun x => [cel b BT [x.1, .slice x.2.1 l.length x.2.2], own (.slice x.2.1 l.length x.2.2) 5 1 l.length (byC l)])

set_option maxRecDepth 8000 in
set_option maxHeartbeats 1000000 in
theorem cc_fresh (b : Nat) (v : Value) : FnS Tryd.prog 57 [ptr b 0] [cel b 88 [.pointer none, v]] (fun u Bs => u = .tuple #[] ∧ Bs = [cel b 88 [ptr b 0, v]]) := by
 refine fn_body Tryd.func57 rfl rfl rfl ?_
 intro W0 R
 simp only [List.zipIdx_cons, List.zipIdx_nil, List.map_cons, List.map_nil, Nat.zero_add, Nat.reduceAdd, List.cons_append, List.nil_append]
 refine g_seq ?_
 refine g_region ?_
 refine gl_v rfl (o_move rfl) ?_
 refine gl_v rfl (o_nil rfl) ?_
 first | refine gl_v rfl (o_fldS rfl) ?_ | refine gl_v rfl (o_fld rfl) ?_
 first | refine gl_v rfl (o_load rfl rfl) ?_ | refine gl_v rfl (o_loadS rfl rfl) ?_ | refine gl_v rfl (o_loadC rfl) ?_
 refine gl_v rfl (o_is (c := true) (by rfl) (o_eqlnn rfl rfl)) ?_
 refine gl_nil ?_
 refine ge_then ?_
 refine g_cond_true rfl ?_
 refine g_region ?_
 refine gl_v rfl (o_move rfl) ?_
 refine gl_v rfl (o_move rfl) ?_
 refine gl_v rfl (o_toU Tryd.underlying85 Tryd.underlying109 (let ⟨i, a, _, c, _⟩ := info_of inf88; ⟨i, a, by rw [c]; decide⟩) (by simp) rfl) ?_
 refine gl_v rfl (o_ext Tryd.func73 (by kernel_rfl) (by kernel_rfl) (by kernel_rfl) (e := Extern.AbiNoEscape.same) (by kernel_rfl) (fun _ => rfl) rfl) ?_
 refine gl_v rfl (o_fromU Tryd.underlying109 Tryd.underlying85 (let ⟨i, a, _, c, _⟩ := info_of inf88; ⟨i, a⟩) joExtra.liesBuilder rfl) ?_
 refine gl_v rfl (o_nil rfl) ?_
 first | refine gl_v rfl (o_fldS rfl) ?_ | refine gl_v rfl (o_fld rfl) ?_
 first | refine gl_u (o_store rfl rfl rfl rfl) ?_ | refine gl_u (o_storeS rfl rfl rfl (by first | assumption | omega | simp)) ?_
 refine gl_nil ?_
 refine ret0 (.inr rfl) rfl _ (⟨rfl, rfl⟩) (tO)

set_option maxRecDepth 8000 in
set_option maxHeartbeats 1000000 in
theorem cc_used (b : Nat) (v : Value) : FnS Tryd.prog 57 [ptr b 0] [cel b 88 [ptr b 0, v]] (fun u Bs => u = .tuple #[] ∧ Bs = [cel b 88 [ptr b 0, v]]) := by
 refine fn_body Tryd.func57 rfl rfl rfl ?_
 intro W0 R
 simp only [List.zipIdx_cons, List.zipIdx_nil, List.map_cons, List.map_nil, Nat.zero_add, Nat.reduceAdd, List.cons_append, List.nil_append]
 refine g_seq ?_
 refine g_region ?_
 refine gl_v rfl (o_move rfl) ?_
 refine gl_v rfl (o_nil rfl) ?_
 first | refine gl_v rfl (o_fldS rfl) ?_ | refine gl_v rfl (o_fld rfl) ?_
 first | refine gl_v rfl (o_load rfl rfl) ?_ | refine gl_v rfl (o_loadS rfl rfl) ?_ | refine gl_v rfl (o_loadC rfl) ?_
 refine gl_v rfl (o_is (c := false) (by rfl) (o_eqlPn rfl rfl)) ?_
 refine gl_nil ?_
 refine ge_then ?_
 refine g_cond_false rfl ?_
 refine g_seq ?_
 refine g_region ?_
 refine gl_v rfl (o_move rfl) ?_
 refine gl_v rfl (o_nil rfl) ?_
 first | refine gl_v rfl (o_fldS rfl) ?_ | refine gl_v rfl (o_fld rfl) ?_
 first | refine gl_v rfl (o_load rfl rfl) ?_ | refine gl_v rfl (o_loadS rfl rfl) ?_ | refine gl_v rfl (o_loadC rfl) ?_
 refine gl_v rfl (o_move rfl) ?_
 refine gl_v rfl (o_is (c := false) (by rfl) (o_neqSame Tryd.underlying85 (let ⟨i, a, _, c, _⟩ := info_of inf88; ⟨i, a⟩) rfl rfl)) ?_
 refine gl_nil ?_
 refine ge_then ?_
 refine g_cond_false rfl ?_
 refine g_skip ?_
 refine ret0 (.inr rfl) rfl _ (⟨rfl, rfl⟩) (tO)

theorem cc_spec (b : Nat) (v p : Value) (hp : p = .pointer none ∨ p = ptr b 0) : FnS Tryd.prog 57 [ptr b 0] [cel b 88 [p, v]] (fun u Bs => u = .tuple #[] ∧ Bs = [cel b 88 [ptr b 0, v]]) := by
  rcases hp with rfl | rfl
  · exact cc_fresh b v
  · exact cc_used b v

set_option maxRecDepth 8000 in
set_option maxHeartbeats 1000000 in
theorem ws_spec (b : Nat) (l m : By) (p : Value) (hp : p = .pointer none ∨ p = ptr b 0) (a : Option Addr) (c : Nat) (h1 : l.length + m.length ≤ 140737488355328) : FnS Tryd.prog 44 [ptr b 0, S m] [cel b 88 [p, .slice a l.length c], own (.slice a (l).length c) 5 1 (l).length (byC (l))] (fun u Bs => u = .tuple #[I64 m.length, .nilIface] ∧ ∃ a' c', Bs = [cel b 88 [ptr b 0, .slice a' (l ++ m).length c'], own (.slice a' (l ++ m).length c') 5 1 (l ++ m).length (byC (l ++ m))]) := by
 refine fn_body Tryd.func44 rfl rfl rfl ?_
 intro W0 R
 simp only [List.zipIdx_cons, List.zipIdx_nil, List.map_cons, List.map_nil, Nat.zero_add, Nat.reduceAdd, List.cons_append, List.nil_append]
 refine g_seq ?_
 refine g_region ?_
 refine gl_v rfl (o_assign rfl) ?_
 refine gl_v rfl (o_assign rfl) ?_
 refine gl_nil ?_
 refine ge_then ?_
 refine g_seq ?_
 refine g_region ?_
 refine gl_v rfl (o_move rfl) ?_
 refine gl_c rfl (o_call rfl (cc_spec b (.slice a l.length c) p hp) pA) ?_
 rintro _ R ⟨_, ⟨rfl, rfl⟩, rfl⟩
 try simp only [List.cons_append, List.nil_append]
 refine gl_nil ?_
 refine ge_then ?_
 refine g_seq ?_
 refine g_region ?_
 refine gl_v rfl (o_move rfl) ?_
 refine gl_v rfl (o_move rfl) ?_
 refine gl_v rfl (o_nil rfl) ?_
 first | refine gl_v rfl (o_fldS rfl) ?_ | refine gl_v rfl (o_fld rfl) ?_
 first | refine gl_v rfl (o_load rfl rfl) ?_ | refine gl_v rfl (o_loadS rfl rfl) ?_ | refine gl_v rfl (o_loadC rfl) ?_
 refine gl_v rfl (o_move rfl) ?_
 refine gl_n rfl (o_appendT (by kernel_rfl) rfl rfl sE (by omega) (by unfold maxLen; omega)) ?_
 rintro _ _ ⟨a14, c14, rfl, rfl⟩
 refine gl_v rfl (o_nil rfl) ?_
 first | refine gl_v rfl (o_fldS rfl) ?_ | refine gl_v rfl (o_fld rfl) ?_
 first | refine gl_u (o_store rfl rfl rfl rfl) ?_ | refine gl_u (o_storeS rfl rfl rfl (by first | assumption | omega | simp)) ?_
 refine gl_nil ?_
 refine ge_then ?_
 refine g_seq ?_
 refine g_region ?_
 refine gl_v rfl (o_move rfl) ?_
 refine gl_v rfl (o_lens rfl) ?_
 refine gl_v rfl (o_assign rfl) ?_
 refine gl_v rfl (o_assign rfl) ?_
 refine gl_nil ?_
 refine ge_then ?_
 refine g_ret ?_
 refine ret2 (.inl rfl) rfl rfl rfl _ (⟨rfl, a14, c14, rfl⟩) (tO)

theorem bld_new {b : Nat} {R : List Assn} : ∀ h, Sat (cel b 88 [.pointer none, .slice none 0 0] :: R) h → Sat (bld b [] :: R) h := ex_close (ι := Value × Option Addr × Nat) (φ := fun x => (([] : By) = [] ∧ x = (.pointer none, none, 0)) ∨ (([] : By) ≠ [] ∧ x.1 = ptr b 0)) (l := fun x => [cel b BT [x.1, .slice x.2.1 ([] : By).length x.2.2], own (.slice x.2.1 ([] : By).length x.2.2) 5 1 ([] : By).length (byC [])]) (.pointer none, none, 0) (.inl ⟨rfl, rfl⟩) (fun h s => Sat.tail (fun h s => own_nil0 h s) s)
theorem WriteString_spec (b : Nat) (l m : By) (hm : m ≠ []) (h1 : l.length + m.length ≤ 140737488355328) : FnS Tryd.prog 44 [ptr b 0, S m] [bld b l] (fun u Bs => u = .tuple #[I64 m.length, .nilIface] ∧ Bs = [bld b (l ++ m)]) := by
  intro W0 R w s
  obtain ⟨⟨p, a, c⟩, hx, hs⟩ := ex_open (φ := fun x : Value × Option Addr × Nat => (l = [] ∧ x = (.pointer none, none, 0)) ∨ (l ≠ [] ∧ x.1 = ptr b 0)) (l := fun x => [cel b BT [x.1, .slice x.2.1 l.length x.2.2], own (.slice x.2.1 l.length x.2.2) 5 1 l.length (byC l)]) (R := R) s.sat
  have hp : p = .pointer none ∨ p = ptr b 0 := by
    rcases hx with ⟨_, h⟩ | ⟨_, h⟩
    · exact .inl (congrArg Prod.fst h)
    · exact .inr h
  refine (ws_spec b l m p hp a c h1 W0 R w ⟨s.os, s.tape, s.output, s.size, hs⟩).mono fun e w' ⟨u, Bs, he, ⟨hu, a', c', hB⟩, s'⟩ => ⟨u, [bld b (l ++ m)], he, ⟨hu, rfl⟩, ?_⟩
  subst hB
  exact s'.imp (ex_close (ι := Value × Option Addr × Nat) (φ := fun x => (l ++ m = [] ∧ x = (.pointer none, none, 0)) ∨ (l ++ m ≠ [] ∧ x.1 = ptr b 0)) (l := fun x => [cel b BT [x.1, .slice x.2.1 (l ++ m).length x.2.2], own (.slice x.2.1 (l ++ m).length x.2.2) 5 1 (l ++ m).length (byC (l ++ m))]) (ptr b 0, a', c') (.inr ⟨by simp [hm], rfl⟩) (fun h s => s))

set_option maxRecDepth 8000 in
set_option maxHeartbeats 1000000 in
theorem Len_spec (b : Nat) (l : By) : FnS Tryd.prog 45 [ptr b 0] [bld b l] (fun u Bs => u = I64 l.length ∧ Bs = [bld b l]) := by
 refine fn_body Tryd.func45 rfl rfl rfl ?_
 intro W0 R
 simp only [List.zipIdx_cons, List.zipIdx_nil, List.map_cons, List.map_nil, Nat.zero_add, Nat.reduceAdd, List.cons_append, List.nil_append]
 refine g_imp (fun h s => Sel.to (A := bld b (l)) sE s) ?_
 refine g_open .head ?_
 rintro ⟨p, a, c⟩ hx
 simp only [List.cons_append, List.nil_append]
 refine g_seq ?_
 refine g_region ?_
 refine gl_v rfl (o_assign rfl) ?_
 refine gl_nil ?_
 refine ge_then ?_
 refine g_seq ?_
 refine g_region ?_
 refine gl_v rfl (o_move rfl) ?_
 refine gl_v rfl (o_nil rfl) ?_
 first | refine gl_v rfl (o_fldS rfl) ?_ | refine gl_v rfl (o_fld rfl) ?_
 first | refine gl_v rfl (o_load rfl rfl) ?_ | refine gl_v rfl (o_loadS rfl rfl) ?_ | refine gl_v rfl (o_loadC rfl) ?_
 refine gl_v rfl (o_lenL rfl) ?_
 refine gl_v rfl (o_assign rfl) ?_
 refine gl_nil ?_
 refine ge_then ?_
 refine g_ret ?_
 refine ret1 (.inl rfl) rfl rfl [bld b l] (⟨rfl, rfl⟩) (fun h s => ex_close (ι := Value × Option Addr × Nat) (φ := fun x => (l = [] ∧ x = (.pointer none, none, 0)) ∨ (l ≠ [] ∧ x.1 = ptr b 0)) (l := fun x => [cel b BT [x.1, .slice x.2.1 l.length x.2.2], own (.slice x.2.1 l.length x.2.2) 5 1 l.length (byC l)]) (p, a, c) hx (fun h s => (tO) h s) h s)

set_option maxRecDepth 8000 in
set_option maxHeartbeats 1000000 in
theorem Str_some (b : Nat) (l : By) (h0 : l ≠ []) (h63 : l.length ≤ 9223372036854775807) : FnS Tryd.prog 46 [ptr b 0] [bld b l] (fun u Bs => u = S l ∧ Bs = []) := by
 refine fn_body Tryd.func46 rfl rfl rfl ?_
 intro W0 R
 simp only [List.zipIdx_cons, List.zipIdx_nil, List.map_cons, List.map_nil, Nat.zero_add, Nat.reduceAdd, List.cons_append, List.nil_append]
 refine g_imp (fun h s => Sel.to (A := bld b (l)) sE s) ?_
 refine g_open .head ?_
 rintro ⟨p, a, c⟩ hx
 simp only [List.cons_append, List.nil_append]
 refine g_imp (fun h s => Sat.tail (fun h s => own_rip (by simpa using h0) h s) s) ?_
 refine g_open (Sel.tail .head) ?_
 rintro ⟨g, sp⟩ ⟨rfl, hc0⟩
 simp only [List.cons_append, List.nil_append]
 refine g_seq ?_
 refine g_region ?_
 refine gl_v rfl (o_assign rfl) ?_
 refine gl_nil ?_
 refine ge_then ?_
 refine g_seq ?_
 refine g_draw [4, 10] [4] [(0, .loc), (1, .loc), (2, .loc), (3, .loc), (5, .stab), (6, .stab), (7, .stab), (8, .stab), (9, .stab), (4, .eff), (10, .eff), (11, .loc)] [cel b BT [p, .slice (some ⟨g, 0, none⟩) l.length c]] mixed (by kernel_rfl) ?_
 refine go_v rfl .none rfl (o_move rfl) ?_
 refine go_v rfl .none rfl (o_nil rfl) ?_
 first | refine go_v rfl .none rfl (o_fldS rfl) ?_ | refine go_v rfl .none rfl (o_fld rfl) ?_
 first | refine go_v rfl .none rfl (o_load rfl rfl) ?_ | refine go_v rfl .none rfl (o_loadS rfl rfl) ?_ | refine go_v rfl .none rfl (o_loadC rfl) ?_
 refine go_vs rfl .none rfl (o_move rfl) (tO) ?_
 refine go_vs rfl .none rfl (o_nil rfl) (tO) ?_
 first | refine go_vs rfl .none rfl (o_fldS rfl) (tO) ?_ | refine go_vs rfl .none rfl (o_fld rfl) (tO) ?_
 first | refine go_vs rfl .none rfl (o_load rfl rfl) (tO) ?_ | refine go_vs rfl .none rfl (o_loadS rfl rfl) (tO) ?_ | refine go_vs rfl .none rfl (o_loadC rfl) (tO) ?_
 refine go_vs rfl .none rfl (o_lenL rfl) (tO) ?_
 refine go_ve rfl .none rfl (o_sdat hc0 rfl) (fun _ => (tO)) ?_
 refine go_n rfl .none rfl (o_ustr (l := l) (by kernel_rfl) (by kernel_rfl) h0 h63 rfl rfl sE) ?_
 rintro _ _ ⟨rfl, rfl⟩
 refine ⟨(fun hG => absurd hG (by decide)), ?_⟩
 refine go_v rfl .none rfl (o_assign rfl) ?_
 refine go_nil ?_
 refine ge_then ?_
 refine g_ret ?_
 refine ret1 (.inl rfl) rfl rfl [] (⟨rfl, rfl⟩) (tO)

set_option maxRecDepth 8000 in
set_option maxHeartbeats 1000000 in
theorem Str_none (b : Nat) : FnS Tryd.prog 46 [ptr b 0] [cel b 88 [.pointer none, .slice none 0 0]] (fun u Bs => u = S [] ∧ Bs = []) := by
 refine fn_body Tryd.func46 rfl rfl rfl ?_
 intro W0 R
 simp only [List.zipIdx_cons, List.zipIdx_nil, List.map_cons, List.map_nil, Nat.zero_add, Nat.reduceAdd, List.cons_append, List.nil_append]
 refine g_seq ?_
 refine g_region ?_
 refine gl_v rfl (o_assign rfl) ?_
 refine gl_nil ?_
 refine ge_then ?_
 refine g_seq ?_
 refine g_draw [4, 10] [4] [(0, .loc), (1, .loc), (2, .loc), (3, .loc), (5, .stab), (6, .stab), (7, .stab), (8, .stab), (9, .stab), (4, .eff), (10, .eff), (11, .loc)] [cel b 88 [.pointer none, .slice none 0 0]] mixed (by kernel_rfl) ?_
 refine go_v rfl .none rfl (o_move rfl) ?_
 refine go_v rfl .none rfl (o_nil rfl) ?_
 first | refine go_v rfl .none rfl (o_fldS rfl) ?_ | refine go_v rfl .none rfl (o_fld rfl) ?_
 first | refine go_v rfl .none rfl (o_load rfl rfl) ?_ | refine go_v rfl .none rfl (o_loadS rfl rfl) ?_ | refine go_v rfl .none rfl (o_loadC rfl) ?_
 refine go_vs rfl .none rfl (o_move rfl) (tO) ?_
 refine go_vs rfl .none rfl (o_nil rfl) (tO) ?_
 first | refine go_vs rfl .none rfl (o_fldS rfl) (tO) ?_ | refine go_vs rfl .none rfl (o_fld rfl) (tO) ?_
 first | refine go_vs rfl .none rfl (o_load rfl rfl) (tO) ?_ | refine go_vs rfl .none rfl (o_loadS rfl rfl) (tO) ?_ | refine go_vs rfl .none rfl (o_loadC rfl) (tO) ?_
 refine go_vs rfl .none rfl (o_lenL rfl) (tO) ?_
 refine go_ve rfl .none rfl (o_sdat0 rfl) (fun _ => (tO)) ?_
 refine go_ve rfl .none rfl (o_ustr0 rfl rfl) (fun hG => absurd hG (by decide)) ?_
 refine go_v rfl .none rfl (o_assign rfl) ?_
 refine go_nil ?_
 refine ge_then ?_
 refine g_ret ?_
 refine ret1 (.inl rfl) rfl rfl [] (⟨rfl, rfl⟩) (tO)

theorem String_spec (b : Nat) (l : By) (h63 : l.length ≤ 9223372036854775807) : FnS Tryd.prog 46 [ptr b 0] [bld b l] (fun u Bs => u = S l ∧ Bs = []) := by
  by_cases h0 : l = []
  · subst h0
    intro W0 R w s
    obtain ⟨⟨p, a, c⟩, hx, hs⟩ := ex_open (φ := fun x : Value × Option Addr × Nat => (([] : By) = [] ∧ x = (.pointer none, none, 0)) ∨ (([] : By) ≠ [] ∧ x.1 = ptr b 0)) (l := fun x => [cel b BT [x.1, .slice x.2.1 ([] : By).length x.2.2], own (.slice x.2.1 ([] : By).length x.2.2) 5 1 ([] : By).length (byC [])]) (R := R) s.sat
    rcases hx with ⟨_, h⟩ | ⟨h, _⟩
    · simp only [Prod.mk.injEq] at h
      obtain ⟨rfl, rfl, rfl⟩ := h
      exact Str_none b W0 R w ⟨s.os, s.tape, s.output, s.size, Sat.tail (fun h s => Sat.drop s) hs⟩
    · exact absurd rfl h
  · exact Str_some b l h0 h63

theorem split_len {c : UInt8} : ∀ l : By, (splitB c l).length ≤ l.length + 1
  | [] => Nat.le_refl _
  | x :: l => by
    have ih := split_len (c := c) l
    obtain ⟨v, vs, hv⟩ := split_cons (c := c) (l := l)
    by_cases hx : x = c
    · subst hx; rw [split_T]; simp only [List.length_cons]; omega
    · rw [split_F hx]; rw [hv] at ih ⊢; simp only [List.length_cons, List.tail_cons] at ih ⊢; omega
theorem drop_at' {α : Type} {l : List α} {j : Nat} {x : α} (h : l[j]? = some x) : l.drop j = x :: l.drop (j + 1) := by
  obtain ⟨hj, e⟩ := List.getElem?_eq_some_iff.1 h
  rw [List.drop_eq_getElem_cons hj, e]
theorem lines_pass {i : Nat} {x : By} {ls : List By} {acc : List Ent} (h : passed x = true) : linesS i (x :: ls) acc = linesS (i + 1) ls acc := if_pos h
theorem lines_no {i : Nat} {x : By} {ls : List By} {acc : List Ent} (h : passed x = false) (h2 : readE x = none) : linesS i (x :: ls) acc = ([], ((i + 1 : Nat) : Int), 60) := by
  refine (if_neg (by rw [h]; decide)).trans ?_
  rw [h2]
theorem lines_some {i : Nat} {x : By} {ls : List By} {acc : List Ent} {e : Ent} (h : passed x = false) (h2 : readE x = some e) : linesS i (x :: ls) acc = linesS (i + 1) ls (acc ++ [e]) := by
  refine (if_neg (by rw [h]; decide)).trans ?_
  rw [h2]
theorem entC_len (e : Ent) : (entC e).length = 5 := rfl
theorem entC_one (e : Ent) : (entC e).all Value.oneCell' = true := rfl

set_option maxRecDepth 8000 in
set_option maxHeartbeats 2000000 in
theorem Script_spec {W : World} (hG : Gok W) (hm : ∃ m, W.cell? ⟨Tryd.spTm_ren.g 1, 0, none⟩ = some (.int .i64 m)) (l : By) : FnS Tryd.prog 19 [S l] [base W] (fun u Bs => ∃ a c, u = .tuple #[.slice a (scriptS l).1.length c, I64 (scriptS l).2.1, I64 (scriptS l).2.2] ∧ Bs = [own (.slice a ((scriptS l).1).length c) 23 5 ((scriptS l).1).length (((scriptS l).1).flatMap entC), base W]) := by
 refine fn_body Tryd.func19 rfl rfl rfl ?_
 intro W0 R
 simp only [List.zipIdx_cons, List.zipIdx_nil, List.map_cons, List.map_nil, Nat.zero_add, Nat.reduceAdd, List.cons_append, List.nil_append]
 refine g_seq ?_
 refine g_region ?_
 refine gl_v rfl (o_assign rfl) ?_
 refine gl_v rfl (o_assign rfl) ?_
 refine gl_v rfl (o_assign rfl) ?_
 refine gl_nil ?_
 refine ge_then ?_
 refine g_seq ?_
 refine g_seq ?_
 refine g_region ?_
 refine gl_v rfl (o_move rfl) ?_
 refine gl_v rfl (o_lens rfl) ?_
 refine gl_v rfl (o_gtr rfl rfl) ?_
 refine gl_nil ?_
 refine ge_then ?_
 refine g_cond rfl (fun hc1 => ?_) (fun hc1 => ?_)
 ·
  replace hc1 := hs_ hc1
  have hS : scriptS l = ([], 0, 5) := by unfold scriptS; rw [if_pos (by omega)]
  rw [hS]
  refine g_seq ?_
  refine g_region ?_
  refine gl_v rfl (o_assign rfl) ?_
  refine gl_v rfl (o_assign rfl) ?_
  refine gl_v rfl (o_assign rfl) ?_
  refine gl_nil ?_
  refine ge_then ?_
  refine g_ret ?_
  refine ge_then_ret ?_
  refine ret3 (.inl rfl) rfl rfl rfl rfl [own (.slice none ([]).length 0) 23 5 ([]).length (([]).flatMap entC), base W] (⟨none, 0, rfl, rfl⟩) (fun h s => own_nil0 h ((tO) h s))
 ·
  replace hc1 := hs_ hc1
  have hS : scriptS l = linesS 0 (splitB 10 l) [] := by unfold scriptS; rw [if_neg (by omega)]
  rw [hS]
  have hsl := split_len (c := 10) l
  refine g_skip ?_
  refine ge_then ?_
  refine g_seq ?_
  refine g_region ?_
  refine gl_v rfl (o_assign rfl) ?_
  refine gl_nil ?_
  refine ge_then ?_
  refine g_seq ?_
  refine g_seq ?_
  refine g_region ?_
  refine gl_v rfl (o_move rfl) ?_
  refine gl_c rfl (o_call rfl (Split_spec hm l 10 (by omega)) pA) ?_
  rintro _ R ⟨_, ⟨bq, rfl, rfl⟩, rfl⟩
  try simp only [List.cons_append, List.nil_append]
  first | refine gl_v rfl (o_len rfl) ?_ | refine gl_v rfl (o_lenL rfl) ?_
  refine gl_v rfl (o_move rfl) ?_
  refine gl_nil ?_
  refine ge_then ?_
  refine g_block ?_
  refine g_loop (ι := Nat × List Ent × Option Addr × Nat) (fun x => x.1 ≤ (splitB 10 l).length ∧ x.2.1.length ≤ x.1 ∧ linesS x.1 ((splitB 10 l).drop x.1) x.2.1 = linesS 0 (splitB 10 l) []) (fun x => [(16, I64 x.1), (15, I64 (splitB 10 l).length), (14, .slice (some ⟨bq, 0, none⟩) (splitB 10 l).length (splitB 10 l).length), (5, .slice x.2.2.1 x.2.1.length x.2.2.2)]) (fun x => own (.slice x.2.2.1 (x.2.1).length x.2.2.2) 23 5 (x.2.1).length ((x.2.1).flatMap entC) :: cel bq 9 (wsC (splitB 10 l)) :: base W :: R) (fun x => (splitB 10 l).length - x.1) (0, [], none, 0) (⟨Nat.zero_le _, Nat.le_refl _, rfl⟩) (Keep.cons rfl (Keep.cons rfl (Keep.cons rfl (Keep.cons rfl (Keep.nil))))) (fun h s => own_nil0 h ((tO) h s)) ?_
  rintro ⟨i, acc, a, c⟩ ⟨hi, hacc, hI⟩
  replace hi : i ≤ (splitB 10 l).length := hi
  replace hacc : acc.length ≤ i := hacc
  replace hI : linesS i ((splitB 10 l).drop i) acc = linesS 0 (splitB 10 l) [] := hI
  dsimp only
  refine g_seq ?_
  refine g_region ?_
  refine gl_v rfl (o_lss rfl rfl) ?_
  refine gl_nil ?_
  refine ge_then ?_
  refine g_seq ?_
  refine g_cond rfl (fun hc2 => ?_) (fun hc2 => ?_)
  ·
   replace hc2 := hs_ hc2
   have hi1 : i < (splitB 10 l).length := by omega
   obtain ⟨x, hx⟩ : ∃ x, (splitB 10 l)[i]? = some x := ⟨_, List.getElem?_eq_getElem hi1⟩
   rw [drop_at' hx] at hI
   have hxl := split_wlen (c := 10) l x (List.mem_of_getElem? hx)
   refine g_skip ?_
   refine ge_then ?_
   refine g_seq ?_
   refine g_block ?_
   refine g_seq ?_
   refine g_region ?_
   refine gl_v rfl (o_move rfl) ?_
   refine gl_v rfl (o_idxS rfl rfl (by first | assumption | omega)) ?_
   refine gl_v rfl (o_loadS rfl (show (wsC (splitB 10 l))[i * 1]? = some (S x) by rw [Nat.mul_one, List.getElem?_map, hx]; rfl)) ?_
   refine gl_v rfl (o_assign rfl) ?_
   refine gl_v rfl (o_assign rfl) ?_
   refine gl_nil ?_
   refine ge_then ?_
   refine g_seq ?_
   refine g_seq ?_
   rcases x with _ | ⟨ch, r⟩
   ·
    refine g_region ?_
    refine gl_v rfl (o_move rfl) ?_
    refine gl_v rfl (o_is (c := true) (by rfl) (o_eqls rfl rfl)) ?_
    refine gl_v rfl (o_move rfl) ?_
    refine gl_gF rfl rfl rfl rfl ?_
    refine gl_gF rfl rfl rfl rfl ?_
    refine gl_gF rfl rfl rfl rfl ?_
    refine gl_v rfl (o_pickT rfl rfl rfl) ?_
    refine gl_nil ?_
    refine ge_then ?_
    refine g_cond_true rfl ?_
    refine g_exit ?_
    refine ge_then_exit ?_
    refine ge_block_exit ?_
    refine ge_then ?_
    refine g_region ?_
    refine gl_v rfl (o_addR ((i + 1 : Nat) : Int) (by rw [wr_i64 (by omega)]; omega) rfl rfl) ?_
    refine gl_v rfl (o_move rfl) ?_
    refine gl_nil ?_
    refine ge_round (i + 1, acc, a, c) ⟨by show i + 1 ≤ (splitB 10 l).length; omega, by show (acc).length ≤ i + 1; first | omega | (simp; omega), by rw [← hI]; exact (lines_pass rfl).symm⟩ (by show (splitB 10 l).length - (i + 1) < (splitB 10 l).length - i; omega) (Keep.cons rfl (Keep.cons rfl (Keep.cons rfl (Keep.cons rfl (Keep.nil))))) (tO)
   ·
    refine g_region ?_
    refine gl_v rfl (o_move rfl) ?_
    refine gl_v rfl (o_is (c := false) (by rfl) (o_eqls rfl rfl)) ?_
    refine gl_v rfl (o_move rfl) ?_
    refine gl_gT rfl rfl rfl ?_
    refine gl_v rfl (o_move rfl) ?_
    refine gl_gT rfl rfl rfl ?_
    refine gl_v rfl (o_index_string (i := 0) rfl rfl (show (ch :: r)[0]? = some ch from rfl)) ?_
    refine gl_gT rfl rfl rfl ?_
    refine gl_v rfl (o_eql rfl rfl) ?_
    refine gl_v rfl (o_pickF rfl rfl rfl) ?_
    refine gl_nil ?_
    refine ge_then ?_
    refine g_cond rfl (fun hc3 => ?_) (fun hc3 => ?_)
    ·
     replace hc3 := hs_ hc3
     have hc35 : ch.toNat = 35 := by have h9 := hc3; omega
     have hps : passed (ch :: r) = true := by unfold passed; simp [hc35]
     refine g_exit ?_
     refine ge_then_exit ?_
     refine ge_block_exit ?_
     refine ge_then ?_
     refine g_region ?_
     refine gl_v rfl (o_addR ((i + 1 : Nat) : Int) (by rw [wr_i64 (by omega)]; omega) rfl rfl) ?_
     refine gl_v rfl (o_move rfl) ?_
     refine gl_nil ?_
     refine ge_round (i + 1, acc, a, c) ⟨by show i + 1 ≤ (splitB 10 l).length; omega, by show (acc).length ≤ i + 1; first | omega | (simp; omega), by rw [← hI]; exact (lines_pass hps).symm⟩ (by show (splitB 10 l).length - (i + 1) < (splitB 10 l).length - i; omega) (Keep.cons rfl (Keep.cons rfl (Keep.cons rfl (Keep.cons rfl (Keep.nil))))) (tO)
    ·
     replace hc3 := hs_ hc3
     have hc35 : ¬ ch.toNat = 35 := by have h9 := hc3; omega
     have hps : passed (ch :: r) = false := by unfold passed; simp [hc35]
     refine g_skip ?_
     refine ge_then ?_
     refine g_seq ?_
     rcases hrd : readE (ch :: r) with _ | e
     ·
      refine g_region ?_
      refine gl_v rfl (o_move rfl) ?_
      refine gl_c rfl (o_call rfl (Read_spec hG hm (ch :: r) (by omega)) pA) ?_
      rintro _ R ⟨_, ⟨rfl, rfl⟩, rfl⟩
      try simp only [List.cons_append, List.nil_append]
      rw [hrd]; dsimp only
      refine gl_v rfl (o_move rfl) ?_
      refine gl_v rfl (o_extract rfl rfl) ?_
      refine gl_v rfl (o_extract rfl rfl) ?_
      refine gl_n rfl (o_alloc) ?_
      rintro _ _ ⟨b8, rfl, rfl⟩
      first | refine gl_u (o_storeSA rfl rfl rfl rfl (by simp; omega) (by simp)) ?_ | refine gl_u (o_storeA rfl rfl rfl rfl rfl) ?_
      refine gl_v rfl (o_assign rfl) ?_
      refine gl_nil ?_
      refine ge_then ?_
      refine g_seq ?_
      refine g_seq ?_
      refine g_region ?_
      refine gl_v rfl (o_move rfl) ?_
      refine gl_v rfl (o_is (c := true) (by rfl) (o_neq rfl rfl)) ?_
      refine gl_nil ?_
      refine ge_then ?_
      refine g_cond_true rfl ?_
      refine g_seq ?_
      refine g_region ?_
      refine gl_v rfl (o_move rfl) ?_
      refine gl_v rfl (o_addR ((i + 1 : Nat) : Int) (by rw [wr_i64 (by omega)]; omega) rfl rfl) ?_
      refine gl_v rfl (o_move rfl) ?_
      refine gl_v rfl (o_assign rfl) ?_
      refine gl_v rfl (o_assign rfl) ?_
      refine gl_v rfl (o_assign rfl) ?_
      refine gl_nil ?_
      refine ge_then ?_
      refine g_ret ?_
      refine ge_then_ret ?_
      refine ge_block_ret ?_
      refine ge_then_ret ?_
      refine ge_then_ret ?_
      refine ge_block_ret ?_
      refine ge_then_ret ?_
      rw [← hI, lines_no hps hrd]
      refine ret3 (.inl rfl) rfl rfl rfl rfl  [own (.slice none ([]).length 0) 23 5 ([]).length (([]).flatMap entC), base W] ⟨none, 0, rfl, rfl⟩ (fun h s => own_nil0 h ((tO) h s))
     ·
      refine g_region ?_
      refine gl_v rfl (o_move rfl) ?_
      refine gl_c rfl (o_call rfl (Read_spec hG hm (ch :: r) (by omega)) pA) ?_
      rintro _ R ⟨_, ⟨rfl, rfl⟩, rfl⟩
      try simp only [List.cons_append, List.nil_append]
      rw [hrd]; dsimp only
      refine gl_v rfl (o_move rfl) ?_
      refine gl_v rfl (o_extract rfl rfl) ?_
      refine gl_v rfl (o_extract rfl rfl) ?_
      refine gl_n rfl (o_alloc) ?_
      rintro _ _ ⟨b8, rfl, rfl⟩
      first | refine gl_u (o_storeSA rfl rfl rfl rfl (by simp; omega) (by simp)) ?_ | refine gl_u (o_storeA rfl rfl rfl rfl rfl) ?_
      refine gl_v rfl (o_assign rfl) ?_
      refine gl_nil ?_
      refine ge_then ?_
      refine g_seq ?_
      refine g_seq ?_
      refine g_region ?_
      refine gl_v rfl (o_move rfl) ?_
      refine gl_v rfl (o_is (c := false) (by rfl) (o_neq rfl rfl)) ?_
      refine gl_nil ?_
      refine ge_then ?_
      refine g_cond_false rfl ?_
      refine g_skip ?_
      refine ge_then ?_
      refine g_region ?_
      refine gl_v rfl (o_move rfl) ?_
      first | refine gl_v rfl (o_loadSA rfl rfl rfl) ?_ | refine gl_v rfl (o_loadA rfl rfl rfl) ?_
      first | refine gl_n rfl (o_buildS1 rfl rfl rfl) ?_ | refine gl_n rfl (o_buildS1A rfl rfl rfl rfl) ?_ | refine gl_n rfl (o_buildS rfl rfl rfl rfl) ?_
      rintro _ _ ⟨b40, rfl, rfl⟩
      refine gl_n rfl (o_append (sz := 5) (news := entC e) rfl rfl pA rfl rfl (entC_one e) (by omega) (by unfold maxLen; omega)) ?_
      rintro _ _ ⟨a41, c41, rfl, rfl⟩
      rw [show acc.length + 1 = (acc ++ [e]).length by simp, show acc.flatMap entC ++ entC e = (acc ++ [e]).flatMap entC by simp]
      refine gl_v rfl (o_assign rfl) ?_
      refine gl_nil ?_
      refine ge_block ?_
      refine ge_then ?_
      refine g_region ?_
      refine gl_v rfl (o_addR ((i + 1 : Nat) : Int) (by rw [wr_i64 (by omega)]; omega) rfl rfl) ?_
      refine gl_v rfl (o_move rfl) ?_
      refine gl_nil ?_
      refine ge_round (i + 1, acc ++ [e], a41, c41) ⟨by show i + 1 ≤ (splitB 10 l).length; omega, by show (acc ++ [e]).length ≤ i + 1; first | omega | (simp; omega), by rw [← hI]; exact (lines_some hps hrd).symm⟩ (by show (splitB 10 l).length - (i + 1) < (splitB 10 l).length - i; omega) (Keep.cons rfl (Keep.cons rfl (Keep.cons rfl (Keep.cons rfl (Keep.nil))))) (tO)
  ·
   replace hc2 := hs_ hc2
   obtain rfl : i = (splitB 10 l).length := by omega
   rw [List.drop_length] at hI
   have hI2 : (acc, (0 : Int), (0 : Int)) = linesS 0 (splitB 10 l) [] := hI
   rw [← hI2]
   refine g_exit ?_
   refine ge_then_exit ?_
   refine ge_then_exit ?_
   refine ge_block_exit ?_
   refine ge_then ?_
   refine g_seq ?_
   refine g_region ?_
   refine gl_v rfl (o_move rfl) ?_
   refine gl_v rfl (o_assign rfl) ?_
   refine gl_v rfl (o_assign rfl) ?_
   refine gl_v rfl (o_assign rfl) ?_
   refine gl_nil ?_
   refine ge_then ?_
   refine g_ret ?_
   refine ret3 (.inl rfl) rfl rfl rfl rfl [own (.slice a (acc).length c) 23 5 (acc).length ((acc).flatMap entC), base W] (⟨a, c, rfl, rfl⟩) (tO)

theorem entF_take : ∀ {es : List Ent} {i : Nat} {e : Ent}, es[i]? = some e → ((es.flatMap entC).drop (i * 5)).take 5 = entC e
  | x :: es, 0, e, h => by
    simp only [List.getElem?_cons_zero, Option.some.injEq] at h
    subst h; rfl
  | x :: es, i + 1, e, h => by
    rw [List.getElem?_cons_succ] at h
    have ih := entF_take h
    rw [show (i + 1) * 5 = 5 + i * 5 by omega, List.flatMap_cons, ← List.drop_drop]
    exact ih
theorem formE_bad {k : Int} (h : ¬ (1 ≤ k ∧ k ≤ 7)) : formE k = ([], []) := by unfold formE; rw [if_neg (by omega), if_neg (by omega), if_neg (by omega), if_neg (by omega), if_neg (by omega), if_neg (by omega), if_neg (by omega)]
theorem formE_len (k : Int) : (formE k).1.length ≤ 5 ∧ (formE k).2.length ≤ 4 := by
  by_cases h : 1 ≤ k ∧ k ≤ 7
  · obtain ⟨n, rfl⟩ : ∃ n : Nat, k = n := ⟨k.toNat, by omega⟩
    have : ∀ n : Nat, n < 8 → (formE n).1.length ≤ 5 ∧ (formE n).2.length ≤ 4 := by decide
    exact this n (by omega)
  · rw [formE_bad h]; decide
theorem fieldE_len {e : Ent} (h : EntR e) (c : UInt8) : (fieldE e c).length ≤ 1048576 := by
  unfold fieldE
  split
  · exact h.tag
  · have : ∀ n : Int, (-9223372036854775808 ≤ n ∧ n ≤ 9223372036854775807) → (itoaB n).length ≤ 1048576 := fun n hn => by have := itoa_len hn; omega
    split
    · exact this _ h.a
    · split
      · exact this _ h.b
      · exact this _ h.n
theorem candE_len {e : Ent} (h : EntR e) : (candE e).length ≤ 5242885 := by
  unfold candE
  have hf := formE_len e.kind
  refine Nat.le_trans (join_len (m := 1048576) ?_) ?_
  · intro w hw
    rcases List.mem_cons.1 hw with rfl | hw
    · omega
    · obtain ⟨c, _, rfl⟩ := List.mem_map.1 hw; exact fieldE_len h c
  · simp only [List.length_cons, List.length_map]; omega
theorem lineE_len {e : Ent} {s : By} (h : EntR e) (hs : lineE e = some s) : s.length ≤ 5242885 := by
  unfold lineE at hs
  split at hs
  · injection hs with hs; rw [← hs]; exact candE_len h
  · cases hs
theorem text_no {i : Nat} {e : Ent} {es : List Ent} {b : By} (h : lineE e = none) : textG i (e :: es) b = ([], (i : Int), 1) := by rw [textG, h]
theorem text_some {i : Nat} {e : Ent} {es : List Ent} {b s : By} (h : lineE e = some s) : textG i (e :: es) b = textG (i + 1) es (b ++ (s ++ [10])) := by rw [textG, h]

set_option maxRecDepth 8000 in
set_option maxHeartbeats 2000000 in
theorem Text_spec {W : World} (hG : Gok W) (hm : ∃ m, W.cell? ⟨Tryd.spTm_ren.g 1, 0, none⟩ = some (.int .i64 m)) (v : Value) (A : Assn) (es : List Ent) (hes : ∀ e ∈ es, EntR e) (hn : es.length ≤ 20000) [RdA v A es.length (es.flatMap entC)] : FnS Tryd.prog 17 [v] [A, base W] (fun u Bs => u = .tuple #[S (textS es).1, I64 (textS es).2.1, I64 (textS es).2.2] ∧ Bs = [A, base W]) := by
 refine fn_body Tryd.func17 rfl rfl rfl ?_
 intro W0 R
 simp only [List.zipIdx_cons, List.zipIdx_nil, List.map_cons, List.map_nil, Nat.zero_add, Nat.reduceAdd, List.cons_append, List.nil_append]
 refine g_seq ?_
 refine g_region ?_
 refine gl_v rfl (o_assign rfl) ?_
 refine gl_v rfl (o_assign rfl) ?_
 refine gl_v rfl (o_assign rfl) ?_
 refine gl_nil ?_
 refine ge_then ?_
 refine g_seq ?_
 refine g_region ?_
 refine gl_n rfl (o_alloc) ?_
 rintro _ _ ⟨b5, rfl, rfl⟩
 refine gl_nil ?_
 refine ge_then ?_
 refine g_seq ?_
 refine g_seq ?_
 refine g_region ?_
 refine gl_v rfl (o_move rfl) ?_
 first | refine gl_v rfl (o_len rfl) ?_ | refine gl_v rfl (o_lenL rfl) ?_
 refine gl_v rfl (o_move rfl) ?_
 refine gl_nil ?_
 refine ge_then ?_
 refine g_block ?_
 refine g_loop (ι := Nat × By) (fun x => x.1 ≤ es.length ∧ x.2.length ≤ x.1 * 5242886 ∧ textG x.1 (es.drop x.1) x.2 = textS es) (fun x => [(12, I64 x.1), (11, I64 es.length), (10, v), (5, ptr b5 0)]) (fun x => bld b5 x.2 :: A :: base W :: R) (fun x => es.length - x.1) (0, []) (⟨Nat.zero_le _, Nat.zero_le _, rfl⟩) (Keep.cons rfl (Keep.cons rfl (Keep.cons rfl (Keep.cons rfl (Keep.nil))))) (fun h s => bld_new h ((tO) h s)) ?_
 rintro ⟨i, b⟩ ⟨hi, hb, hI⟩
 replace hi : i ≤ es.length := hi
 replace hb : b.length ≤ i * 5242886 := hb
 replace hI : textG i (es.drop i) b = textS es := hI
 dsimp only
 refine g_seq ?_
 refine g_region ?_
 refine gl_v rfl (o_lss rfl rfl) ?_
 refine gl_nil ?_
 refine ge_then ?_
 refine g_seq ?_
 refine g_cond rfl (fun hc1 => ?_) (fun hc1 => ?_)
 ·
  replace hc1 := hs_ hc1
  have hi1 : i < es.length := by omega
  obtain ⟨e, he⟩ : ∃ e, es[i]? = some e := ⟨_, List.getElem?_eq_getElem hi1⟩
  rw [drop_at' he] at hI
  have her := hes e (List.mem_of_getElem? he)
  refine g_skip ?_
  refine ge_then ?_
  refine g_seq ?_
  refine g_block ?_
  refine g_seq ?_
  refine g_region ?_
  refine gl_v rfl (o_move rfl) ?_
  refine gl_v rfl (o_idxS rfl rfl hi1) ?_
  refine gl_v rfl (o_loadSA (vs := entC e) rfl (entF_take he) rfl) ?_
  refine gl_n rfl (o_alloc) ?_
  rintro _ _ ⟨b7, rfl, rfl⟩
  refine gl_v rfl (o_assign rfl) ?_
  first | refine gl_u (o_storeSA rfl rfl rfl rfl (by simp; omega) (by simp)) ?_ | refine gl_u (o_storeA rfl rfl rfl rfl rfl) ?_
  refine gl_nil ?_
  refine ge_then ?_
  refine g_seq ?_
  rcases hle : lineE e with _ | s
  ·
   refine g_region ?_
   first | refine gl_v rfl (o_loadSA rfl rfl rfl) ?_ | refine gl_v rfl (o_loadA rfl rfl rfl) ?_
   refine gl_c rfl (o_call rfl (Line_spec hG hm e her) pA) ?_
   rintro _ R ⟨_, ⟨rfl, rfl⟩, rfl⟩
   try simp only [List.cons_append, List.nil_append]
   rw [hle]; dsimp only
   refine gl_v rfl (o_move rfl) ?_
   refine gl_v rfl (o_extract rfl rfl) ?_
   refine gl_v rfl (o_extract rfl rfl) ?_
   refine gl_v rfl (o_assign rfl) ?_
   refine gl_v rfl (o_assign rfl) ?_
   refine gl_nil ?_
   refine ge_then ?_
   refine g_seq ?_
   refine g_seq ?_
   refine g_region ?_
   refine gl_v rfl (o_move rfl) ?_
   refine gl_v rfl (o_is (c := true) (by rfl) (o_neq rfl rfl)) ?_
   refine gl_nil ?_
   refine ge_then ?_
   refine g_cond_true rfl ?_
   refine g_seq ?_
   refine g_region ?_
   refine gl_v rfl (o_move rfl) ?_
   refine gl_v rfl (o_assign rfl) ?_
   refine gl_v rfl (o_assign rfl) ?_
   refine gl_v rfl (o_assign rfl) ?_
   refine gl_nil ?_
   refine ge_then ?_
   refine g_ret ?_
   refine ge_then_ret ?_
   refine ge_block_ret ?_
   refine ge_then_ret ?_
   refine ge_then_ret ?_
   refine ge_block_ret ?_
   refine ge_then_ret ?_
   rw [← hI, text_no hle]
   refine ret3 (.inl rfl) rfl rfl rfl rfl  [A, base W] ⟨rfl, rfl⟩ (tO)
  ·
   refine g_region ?_
   first | refine gl_v rfl (o_loadSA rfl rfl rfl) ?_ | refine gl_v rfl (o_loadA rfl rfl rfl) ?_
   refine gl_c rfl (o_call rfl (Line_spec hG hm e her) pA) ?_
   rintro _ R ⟨_, ⟨rfl, rfl⟩, rfl⟩
   try simp only [List.cons_append, List.nil_append]
   rw [hle]; dsimp only
   refine gl_v rfl (o_move rfl) ?_
   refine gl_v rfl (o_extract rfl rfl) ?_
   refine gl_v rfl (o_extract rfl rfl) ?_
   refine gl_v rfl (o_assign rfl) ?_
   refine gl_v rfl (o_assign rfl) ?_
   refine gl_nil ?_
   refine ge_then ?_
   refine g_seq ?_
   refine g_seq ?_
   refine g_region ?_
   refine gl_v rfl (o_move rfl) ?_
   refine gl_v rfl (o_is (c := false) (by rfl) (o_neq rfl rfl)) ?_
   refine gl_nil ?_
   refine ge_then ?_
   refine g_cond_false rfl ?_
   refine g_skip ?_
   refine ge_then ?_
   refine g_region ?_
   refine gl_v rfl (o_move rfl) ?_
   refine gl_v rfl (o_adds rfl rfl (by have := lineE_len her hle; simp only [List.length_cons, List.length_nil]; omega)) ?_
   refine gl_c rfl (o_call rfl (WriteString_spec b5 b (s ++ [10]) (by simp) (by have := lineE_len her hle; simp only [List.length_append, List.length_cons, List.length_nil]; omega)) pA) ?_
   rintro _ R ⟨_, ⟨rfl, rfl⟩, rfl⟩
   try simp only [List.cons_append, List.nil_append]
   refine gl_nil ?_
   refine ge_block ?_
   refine ge_then ?_
   refine g_region ?_
   refine gl_v rfl (o_addR ((i + 1 : Nat) : Int) (by rw [wr_i64 (by omega)]; omega) rfl rfl) ?_
   refine gl_v rfl (o_move rfl) ?_
   refine gl_nil ?_
   refine ge_round (i + 1, b ++ (s ++ [10])) ⟨by show i + 1 ≤ es.length; omega, by show (b ++ (s ++ [10])).length ≤ (i + 1) * 5242886; have := lineE_len her hle; simp only [List.length_append, List.length_cons, List.length_nil]; omega, by rw [← hI]; exact (text_some hle).symm⟩ (by show es.length - (i + 1) < es.length - i; omega) (Keep.cons rfl (Keep.cons rfl (Keep.cons rfl (Keep.cons rfl (Keep.nil))))) (tO)
 ·
  replace hc1 := hs_ hc1
  obtain rfl : i = es.length := by omega
  rw [List.drop_length] at hI
  refine g_exit ?_
  refine ge_then_exit ?_
  refine ge_then_exit ?_
  refine ge_block_exit ?_
  refine ge_then ?_
  refine g_seq ?_
  refine g_seq ?_
  refine g_region ?_
  refine gl_c rfl (o_call rfl (Len_spec b5 b) pA) ?_
  rintro _ R ⟨_, ⟨rfl, rfl⟩, rfl⟩
  try simp only [List.cons_append, List.nil_append]
  refine gl_v rfl (o_gtr rfl rfl) ?_
  refine gl_nil ?_
  refine ge_then ?_
  refine g_cond rfl (fun hc2 => ?_) (fun hc2 => ?_)
  ·
   replace hc2 := hs_ hc2
   have hI2 : (([] : By), (0 : Int), (5 : Int)) = textS es := by rw [← hI, textG, if_pos (by omega)]
   refine g_seq ?_
   refine g_region ?_
   refine gl_v rfl (o_assign rfl) ?_
   refine gl_v rfl (o_assign rfl) ?_
   refine gl_v rfl (o_assign rfl) ?_
   refine gl_nil ?_
   refine ge_then ?_
   refine g_ret ?_
   refine ge_then_ret ?_
   rw [← hI2]
   refine ret3 (.inl rfl) rfl rfl rfl rfl  [A, base W] ⟨rfl, rfl⟩ (tO)
  ·
   replace hc2 := hs_ hc2
   have hI2 : (b, (0 : Int), (0 : Int)) = textS es := by rw [← hI, textG, if_neg (by omega)]
   refine g_skip ?_
   refine ge_then ?_
   refine g_seq ?_
   refine g_region ?_
   refine gl_c rfl (o_call rfl (String_spec b5 b (by omega)) pA) ?_
   rintro _ R ⟨_, ⟨rfl, rfl⟩, rfl⟩
   try simp only [List.cons_append, List.nil_append]
   refine gl_v rfl (o_assign rfl) ?_
   refine gl_v rfl (o_assign rfl) ?_
   refine gl_v rfl (o_assign rfl) ?_
   refine gl_nil ?_
   refine ge_then ?_
   refine g_ret ?_
   rw [← hI2]
   refine ret3 (.inl rfl) rfl rfl rfl rfl  [A, base W] ⟨rfl, rfl⟩ (tO)

set_option maxRecDepth 8000 in
set_option maxHeartbeats 2000000 in
theorem TextB_spec {W : World} (hG : Gok W) (hm : ∃ m, W.cell? ⟨Tryd.spTm_ren.g 1, 0, none⟩ = some (.int .i64 m)) (v : Value) (es : List Ent) (hes : ∀ e ∈ es, EntR e) (hn : es.length ≤ 20000) [RdA v (base W) es.length (es.flatMap entC)] : FnS Tryd.prog 17 [v] [base W] (fun u Bs => u = .tuple #[S (textS es).1, I64 (textS es).2.1, I64 (textS es).2.2] ∧ Bs = [base W]) := by
 refine fn_body Tryd.func17 rfl rfl rfl ?_
 intro W0 R
 simp only [List.zipIdx_cons, List.zipIdx_nil, List.map_cons, List.map_nil, Nat.zero_add, Nat.reduceAdd, List.cons_append, List.nil_append]
 refine g_seq ?_
 refine g_region ?_
 refine gl_v rfl (o_assign rfl) ?_
 refine gl_v rfl (o_assign rfl) ?_
 refine gl_v rfl (o_assign rfl) ?_
 refine gl_nil ?_
 refine ge_then ?_
 refine g_seq ?_
 refine g_region ?_
 refine gl_n rfl (o_alloc) ?_
 rintro _ _ ⟨b5, rfl, rfl⟩
 refine gl_nil ?_
 refine ge_then ?_
 refine g_seq ?_
 refine g_seq ?_
 refine g_region ?_
 refine gl_v rfl (o_move rfl) ?_
 first | refine gl_v rfl (o_len rfl) ?_ | refine gl_v rfl (o_lenL rfl) ?_
 refine gl_v rfl (o_move rfl) ?_
 refine gl_nil ?_
 refine ge_then ?_
 refine g_block ?_
 refine g_loop (ι := Nat × By) (fun x => x.1 ≤ es.length ∧ x.2.length ≤ x.1 * 5242886 ∧ textG x.1 (es.drop x.1) x.2 = textS es) (fun x => [(12, I64 x.1), (11, I64 es.length), (10, v), (5, ptr b5 0)]) (fun x => bld b5 x.2 :: base W :: R) (fun x => es.length - x.1) (0, []) (⟨Nat.zero_le _, Nat.zero_le _, rfl⟩) (Keep.cons rfl (Keep.cons rfl (Keep.cons rfl (Keep.cons rfl (Keep.nil))))) (fun h s => bld_new h ((tO) h s)) ?_
 rintro ⟨i, b⟩ ⟨hi, hb, hI⟩
 replace hi : i ≤ es.length := hi
 replace hb : b.length ≤ i * 5242886 := hb
 replace hI : textG i (es.drop i) b = textS es := hI
 dsimp only
 refine g_seq ?_
 refine g_region ?_
 refine gl_v rfl (o_lss rfl rfl) ?_
 refine gl_nil ?_
 refine ge_then ?_
 refine g_seq ?_
 refine g_cond rfl (fun hc1 => ?_) (fun hc1 => ?_)
 ·
  replace hc1 := hs_ hc1
  have hi1 : i < es.length := by omega
  obtain ⟨e, he⟩ : ∃ e, es[i]? = some e := ⟨_, List.getElem?_eq_getElem hi1⟩
  rw [drop_at' he] at hI
  have her := hes e (List.mem_of_getElem? he)
  refine g_skip ?_
  refine ge_then ?_
  refine g_seq ?_
  refine g_block ?_
  refine g_seq ?_
  refine g_region ?_
  refine gl_v rfl (o_move rfl) ?_
  refine gl_v rfl (o_idxS rfl rfl hi1) ?_
  refine gl_v rfl (o_loadSA (vs := entC e) rfl (entF_take he) rfl) ?_
  refine gl_n rfl (o_alloc) ?_
  rintro _ _ ⟨b7, rfl, rfl⟩
  refine gl_v rfl (o_assign rfl) ?_
  first | refine gl_u (o_storeSA rfl rfl rfl rfl (by simp; omega) (by simp)) ?_ | refine gl_u (o_storeA rfl rfl rfl rfl rfl) ?_
  refine gl_nil ?_
  refine ge_then ?_
  refine g_seq ?_
  rcases hle : lineE e with _ | s
  ·
   refine g_region ?_
   first | refine gl_v rfl (o_loadSA rfl rfl rfl) ?_ | refine gl_v rfl (o_loadA rfl rfl rfl) ?_
   refine gl_c rfl (o_call rfl (Line_spec hG hm e her) pA) ?_
   rintro _ R ⟨_, ⟨rfl, rfl⟩, rfl⟩
   try simp only [List.cons_append, List.nil_append]
   rw [hle]; dsimp only
   refine gl_v rfl (o_move rfl) ?_
   refine gl_v rfl (o_extract rfl rfl) ?_
   refine gl_v rfl (o_extract rfl rfl) ?_
   refine gl_v rfl (o_assign rfl) ?_
   refine gl_v rfl (o_assign rfl) ?_
   refine gl_nil ?_
   refine ge_then ?_
   refine g_seq ?_
   refine g_seq ?_
   refine g_region ?_
   refine gl_v rfl (o_move rfl) ?_
   refine gl_v rfl (o_is (c := true) (by rfl) (o_neq rfl rfl)) ?_
   refine gl_nil ?_
   refine ge_then ?_
   refine g_cond_true rfl ?_
   refine g_seq ?_
   refine g_region ?_
   refine gl_v rfl (o_move rfl) ?_
   refine gl_v rfl (o_assign rfl) ?_
   refine gl_v rfl (o_assign rfl) ?_
   refine gl_v rfl (o_assign rfl) ?_
   refine gl_nil ?_
   refine ge_then ?_
   refine g_ret ?_
   refine ge_then_ret ?_
   refine ge_block_ret ?_
   refine ge_then_ret ?_
   refine ge_then_ret ?_
   refine ge_block_ret ?_
   refine ge_then_ret ?_
   rw [← hI, text_no hle]
   refine ret3 (.inl rfl) rfl rfl rfl rfl  [base W] ⟨rfl, rfl⟩ (tO)
  ·
   refine g_region ?_
   first | refine gl_v rfl (o_loadSA rfl rfl rfl) ?_ | refine gl_v rfl (o_loadA rfl rfl rfl) ?_
   refine gl_c rfl (o_call rfl (Line_spec hG hm e her) pA) ?_
   rintro _ R ⟨_, ⟨rfl, rfl⟩, rfl⟩
   try simp only [List.cons_append, List.nil_append]
   rw [hle]; dsimp only
   refine gl_v rfl (o_move rfl) ?_
   refine gl_v rfl (o_extract rfl rfl) ?_
   refine gl_v rfl (o_extract rfl rfl) ?_
   refine gl_v rfl (o_assign rfl) ?_
   refine gl_v rfl (o_assign rfl) ?_
   refine gl_nil ?_
   refine ge_then ?_
   refine g_seq ?_
   refine g_seq ?_
   refine g_region ?_
   refine gl_v rfl (o_move rfl) ?_
   refine gl_v rfl (o_is (c := false) (by rfl) (o_neq rfl rfl)) ?_
   refine gl_nil ?_
   refine ge_then ?_
   refine g_cond_false rfl ?_
   refine g_skip ?_
   refine ge_then ?_
   refine g_region ?_
   refine gl_v rfl (o_move rfl) ?_
   refine gl_v rfl (o_adds rfl rfl (by have := lineE_len her hle; simp only [List.length_cons, List.length_nil]; omega)) ?_
   refine gl_c rfl (o_call rfl (WriteString_spec b5 b (s ++ [10]) (by simp) (by have := lineE_len her hle; simp only [List.length_append, List.length_cons, List.length_nil]; omega)) pA) ?_
   rintro _ R ⟨_, ⟨rfl, rfl⟩, rfl⟩
   try simp only [List.cons_append, List.nil_append]
   refine gl_nil ?_
   refine ge_block ?_
   refine ge_then ?_
   refine g_region ?_
   refine gl_v rfl (o_addR ((i + 1 : Nat) : Int) (by rw [wr_i64 (by omega)]; omega) rfl rfl) ?_
   refine gl_v rfl (o_move rfl) ?_
   refine gl_nil ?_
   refine ge_round (i + 1, b ++ (s ++ [10])) ⟨by show i + 1 ≤ es.length; omega, by show (b ++ (s ++ [10])).length ≤ (i + 1) * 5242886; have := lineE_len her hle; simp only [List.length_append, List.length_cons, List.length_nil]; omega, by rw [← hI]; exact (text_some hle).symm⟩ (by show es.length - (i + 1) < es.length - i; omega) (Keep.cons rfl (Keep.cons rfl (Keep.cons rfl (Keep.cons rfl (Keep.nil))))) (tO)
 ·
  replace hc1 := hs_ hc1
  obtain rfl : i = es.length := by omega
  rw [List.drop_length] at hI
  refine g_exit ?_
  refine ge_then_exit ?_
  refine ge_then_exit ?_
  refine ge_block_exit ?_
  refine ge_then ?_
  refine g_seq ?_
  refine g_seq ?_
  refine g_region ?_
  refine gl_c rfl (o_call rfl (Len_spec b5 b) pA) ?_
  rintro _ R ⟨_, ⟨rfl, rfl⟩, rfl⟩
  try simp only [List.cons_append, List.nil_append]
  refine gl_v rfl (o_gtr rfl rfl) ?_
  refine gl_nil ?_
  refine ge_then ?_
  refine g_cond rfl (fun hc2 => ?_) (fun hc2 => ?_)
  ·
   replace hc2 := hs_ hc2
   have hI2 : (([] : By), (0 : Int), (5 : Int)) = textS es := by rw [← hI, textG, if_pos (by omega)]
   refine g_seq ?_
   refine g_region ?_
   refine gl_v rfl (o_assign rfl) ?_
   refine gl_v rfl (o_assign rfl) ?_
   refine gl_v rfl (o_assign rfl) ?_
   refine gl_nil ?_
   refine ge_then ?_
   refine g_ret ?_
   refine ge_then_ret ?_
   rw [← hI2]
   refine ret3 (.inl rfl) rfl rfl rfl rfl  [base W] ⟨rfl, rfl⟩ (tO)
  ·
   replace hc2 := hs_ hc2
   have hI2 : (b, (0 : Int), (0 : Int)) = textS es := by rw [← hI, textG, if_neg (by omega)]
   refine g_skip ?_
   refine ge_then ?_
   refine g_seq ?_
   refine g_region ?_
   refine gl_c rfl (o_call rfl (String_spec b5 b (by omega)) pA) ?_
   rintro _ R ⟨_, ⟨rfl, rfl⟩, rfl⟩
   try simp only [List.cons_append, List.nil_append]
   refine gl_v rfl (o_assign rfl) ?_
   refine gl_v rfl (o_assign rfl) ?_
   refine gl_v rfl (o_assign rfl) ?_
   refine gl_nil ?_
   refine ge_then ?_
   refine g_ret ?_
   rw [← hI2]
   refine ret3 (.inl rfl) rfl rfl rfl rfl  [base W] ⟨rfl, rfl⟩ (tO)

end Go.Proofs.YtcglaiacohkaeaaDoor.L
