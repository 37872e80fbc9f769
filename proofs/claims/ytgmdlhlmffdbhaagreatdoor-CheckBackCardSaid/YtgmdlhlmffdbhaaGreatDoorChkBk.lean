/-
  Check: the law CheckBack. Own work, printed in part by a program of its own.
-/
import Derived.Test.YtgmdlhlmffdbhaaGreatDoorChkM
import Derived.Test.YtgmdlhlmffdbhaaGreatDoorParK
import Derived.Test.YtgmdlhlmffdbhaaGreatDoorChkW
set_option linter.unusedSimpArgs false
set_option linter.unusedVariables false
set_option linter.unusedSectionVars false
namespace Go.Proofs.YtgmdlhlmffdbhaaGreatDoor.C
open Go.Proofs.YtgmdlhlmffdbhaaGreatDoor.L Go.L Go.L.Lx Go.L.Pg Go.L.Pa
abbrev m63 : Nat := 9223372036854775806
theorem lens_of {h : Hp} {a : Option Addr} {c : Nat} {K : List Knd} (p : PrgOk h a c K) : K.length ≤ 9223372036854775806 ∧ ∀ k ∈ K, k.cases.length ≤ 9223372036854775806 ∧ k.states.length ≤ 9223372036854775806 ∧ ∀ s ∈ k.states, s.rows.length ≤ 9223372036854775806 ∧ ∀ r ∈ s.rows, r.effs.length ≤ 9223372036854775806 := by
  have h0 := p.len; unfold ok63 at h0
  refine ⟨by omega, fun k hk => ?_⟩
  have h1 := (p.kinds k hk).lenc; have h2 := (p.kinds k hk).lens; unfold ok63 at h1 h2
  refine ⟨by omega, by omega, fun s hs => ?_⟩
  have h3 := ((p.kinds k hk).states s hs).len; unfold ok63 at h3
  refine ⟨by omega, fun r hr => ?_⟩
  have h4 := (((p.kinds k hk).states s hs).rows r hr).len; unfold ok63 at h4
  omega
theorem lenK_of' {K : List Knd} (h : ∀ k ∈ K, k.cases.length ≤ 9223372036854775806 ∧ k.states.length ≤ 9223372036854775806 ∧ ∀ s ∈ k.states, s.rows.length ≤ 9223372036854775806 ∧ ∀ r ∈ s.rows, r.effs.length ≤ 9223372036854775806) : ∀ k ∈ K, LenK k := fun k hk => by
  obtain ⟨h1, h2, h3⟩ := h k hk
  refine ⟨by omega, by omega, fun s hs => ?_⟩
  obtain ⟨h4, h5⟩ := h3 s hs
  exact ⟨by omega, fun r hr => by have := h5 r hr; omega⟩
theorem base_prgP {W : World} {a : Option Addr} {c : Nat} {K : List Knd} (p : PrgOk (hpOf W) a c K) : ∀ h, base W h → PrgOk h a c K := fun h hb => p.imp fun b o e => by
  have hlt : b < W.heap.size := by
    rcases Nat.lt_or_ge b W.heap.size with x | x
    · exact x
    · rw [show hpOf W b = W.heap[b]? from rfl, Array.getElem?_eq_none x] at e; cases e
  rw [hb b hlt]; exact e
theorem strip_idem (K : List Knd) : strip (strip K) = strip K := same_eq (by rw [same_stripL]; exact same_refl K)

set_option maxRecDepth 8000 in
set_option maxHeartbeats 1000000 in
theorem CheckBack_bad {W : World} (hG : Gok W) (a1 : Option Addr) (c1 : Nat) (K1 : List Knd) (p1 : PrgOk (hpOf W) a1 c1 K1) (c : Int) (ws : List Int) (hR : prgF K1 = some (c, ws)) : FnS Tryz.prog 3 [.agg #[.slice a1 K1.length c1]] [base W] (fun u Bs => u = .bool true ∧ Bs = [base W]) := by
 refine fn_body Tryz.func3 rfl rfl rfl ?_
 intro W0 R
 simp only [List.zipIdx_cons, List.zipIdx_nil, List.map_cons, List.map_nil, Nat.zero_add, Nat.reduceAdd, List.cons_append, List.nil_append]
 refine g_seq ?_
 refine g_region ?_
 refine gl_n rfl (o_boxA rfl) ?_
 rintro _ _ ⟨b1, rfl, rfl⟩
 refine gl_v rfl (o_assign rfl) ?_
 refine gl_nil ?_
 refine ge_then ?_
 refine g_seq ?_
 refine g_seq ?_
 refine g_region ?_
 refine gl_c rfl (o_call rfl (alive_spec hG) pA) ?_
 rintro _ R ⟨_, ⟨rfl, rfl⟩, rfl⟩
 try simp only [List.cons_append, List.nil_append]
 refine gl_v rfl (o_is (c := false) (by rfl) (o_not rfl)) ?_
 refine gl_nil ?_
 refine ge_then ?_
 refine g_cond_false rfl ?_
 refine g_skip ?_
 refine ge_then ?_
 refine g_seq ?_
 refine g_seq ?_
 refine g_region ?_
 first | refine gl_v rfl (o_loadSA rfl rfl rfl) ?_ | refine gl_v rfl (o_loadA rfl rfl rfl) ?_
 refine gl_c rfl (o_call rfl (ep_some (prog' a1 c1 K1 (base W) (base_prgP p1)) hR) pA) ?_
 rintro _ R ⟨_, ⟨b, a, cp, rfl, rfl⟩, rfl⟩
 try simp only [List.cons_append, List.nil_append]
 refine gl_v rfl (o_neqIn rfl) ?_
 refine gl_nil ?_
 refine ge_then ?_
 refine g_cond_true rfl ?_
 refine g_seq ?_
 refine g_region ?_
 refine gl_v rfl (o_assign rfl) ?_
 refine gl_nil ?_
 refine ge_then ?_
 refine g_ret ?_
 refine ge_then_ret ?_
 refine ret1 (.inl rfl) rfl rfl [base W] (⟨rfl, rfl⟩) (tO)

set_option maxRecDepth 8000 in
set_option maxHeartbeats 1000000 in
theorem CheckBack_long {W : World} (hG : Gok W) (a1 : Option Addr) (c1 : Nat) (K1 : List Knd) (p1 : PrgOk (hpOf W) a1 c1 K1) (hR : prgF K1 = none) (hlg : 16384 < (joinS (prgWs K1)).length) : FnS Tryz.prog 3 [.agg #[.slice a1 K1.length c1]] [base W] (fun u Bs => u = .bool true ∧ Bs = [base W]) := by
 refine fn_body Tryz.func3 rfl rfl rfl ?_
 intro W0 R
 simp only [List.zipIdx_cons, List.zipIdx_nil, List.map_cons, List.map_nil, Nat.zero_add, Nat.reduceAdd, List.cons_append, List.nil_append]
 obtain ⟨hok, hwl⟩ := prg_right hR
 have hjl := joinS_len (prgWs K1)
 have hpp := printP_eq K1
 rw [if_pos hok, if_pos hlg] at hpp
 refine g_seq ?_
 refine g_region ?_
 refine gl_n rfl (o_boxA rfl) ?_
 rintro _ _ ⟨b1, rfl, rfl⟩
 refine gl_v rfl (o_assign rfl) ?_
 refine gl_nil ?_
 refine ge_then ?_
 refine g_seq ?_
 refine g_seq ?_
 refine g_region ?_
 refine gl_c rfl (o_call rfl (alive_spec hG) pA) ?_
 rintro _ R ⟨_, ⟨rfl, rfl⟩, rfl⟩
 try simp only [List.cons_append, List.nil_append]
 refine gl_v rfl (o_is (c := false) (by rfl) (o_not rfl)) ?_
 refine gl_nil ?_
 refine ge_then ?_
 refine g_cond_false rfl ?_
 refine g_skip ?_
 refine ge_then ?_
 refine g_seq ?_
 refine g_seq ?_
 refine g_region ?_
 first | refine gl_v rfl (o_loadSA rfl rfl rfl) ?_ | refine gl_v rfl (o_loadA rfl rfl rfl) ?_
 refine gl_c rfl (o_call rfl (ep_none (prog' a1 c1 K1 (base W) (base_prgP p1)) hR) pA) ?_
 rintro _ R ⟨_, ⟨rfl, rfl⟩, rfl⟩
 try simp only [List.cons_append, List.nil_append]
 refine gl_v rfl (o_neqnI rfl) ?_
 refine gl_nil ?_
 refine ge_then ?_
 refine g_cond_false rfl ?_
 refine g_skip ?_
 refine ge_then ?_
 refine g_seq ?_
 refine g_region ?_
 first | refine gl_v rfl (o_loadSA rfl rfl rfl) ?_ | refine gl_v rfl (o_loadA rfl rfl rfl) ?_
 refine gl_c rfl (o_call rfl (Print_spec hG (base W) K1 a1 c1 (base_prgP p1) (fun k hk => kndOK_R (hok k hk)) (by omega)) pA) ?_
 rintro _ R ⟨_, ⟨rfl, rfl⟩, rfl⟩
 try simp only [List.cons_append, List.nil_append]
 rw [hpp]
 refine gl_v rfl (o_move rfl) ?_
 refine gl_v rfl (o_extract rfl rfl) ?_
 refine gl_v rfl (o_extract rfl rfl) ?_
 refine gl_v rfl (o_assign rfl) ?_
 refine gl_v rfl (o_assign rfl) ?_
 refine gl_nil ?_
 refine ge_then ?_
 refine g_seq ?_
 refine g_seq ?_
 refine g_region ?_
 refine gl_v rfl (o_move rfl) ?_
 refine gl_v rfl (o_is (c := true) (by rfl) (o_neq rfl rfl)) ?_
 refine gl_nil ?_
 refine ge_then ?_
 refine g_cond_true rfl ?_
 refine g_seq ?_
 refine g_region ?_
 refine gl_v rfl (o_move rfl) ?_
 refine gl_v rfl (o_is (c := true) (by rfl) (o_eql rfl rfl)) ?_
 refine gl_v rfl (o_move rfl) ?_
 refine gl_gT rfl rfl rfl ?_
 refine gl_v rfl (o_move rfl) ?_
 refine gl_gT rfl rfl rfl ?_
 refine gl_v rfl (o_is (c := true) (by rfl) (o_eqls rfl rfl)) ?_
 refine gl_v rfl (o_pickT rfl rfl rfl) ?_
 refine gl_v rfl (o_assign rfl) ?_
 refine gl_nil ?_
 refine ge_then ?_
 refine g_ret ?_
 refine ge_then_ret ?_
 refine ret1 (.inl rfl) rfl rfl [base W] (⟨rfl, rfl⟩) (tO)

set_option maxRecDepth 8000 in
set_option maxHeartbeats 1000000 in
theorem CheckBack_ok {W : World} (hG : Gok W) (a1 : Option Addr) (c1 : Nat) (K1 : List Knd) (p1 : PrgOk (hpOf W) a1 c1 K1) (hR : prgF K1 = none) (hlg : ¬ 16384 < (joinS (prgWs K1)).length) : FnS Tryz.prog 3 [.agg #[.slice a1 K1.length c1]] [base W] (fun u Bs => u = .bool true ∧ Bs = [base W]) := by
 refine fn_body Tryz.func3 rfl rfl rfl ?_
 intro W0 R
 simp only [List.zipIdx_cons, List.zipIdx_nil, List.map_cons, List.map_nil, Nat.zero_add, Nat.reduceAdd, List.cons_append, List.nil_append]
 obtain ⟨hok, hwl⟩ := prg_right hR
 have hjl := joinS_len (prgWs K1)
 have hpp := printP_eq K1
 rw [if_pos hok, if_neg hlg] at hpp
 refine g_seq ?_
 refine g_region ?_
 refine gl_n rfl (o_boxA rfl) ?_
 rintro _ _ ⟨b1, rfl, rfl⟩
 refine gl_v rfl (o_assign rfl) ?_
 refine gl_nil ?_
 refine ge_then ?_
 refine g_seq ?_
 refine g_seq ?_
 refine g_region ?_
 refine gl_c rfl (o_call rfl (alive_spec hG) pA) ?_
 rintro _ R ⟨_, ⟨rfl, rfl⟩, rfl⟩
 try simp only [List.cons_append, List.nil_append]
 refine gl_v rfl (o_is (c := false) (by rfl) (o_not rfl)) ?_
 refine gl_nil ?_
 refine ge_then ?_
 refine g_cond_false rfl ?_
 refine g_skip ?_
 refine ge_then ?_
 refine g_seq ?_
 refine g_seq ?_
 refine g_region ?_
 first | refine gl_v rfl (o_loadSA rfl rfl rfl) ?_ | refine gl_v rfl (o_loadA rfl rfl rfl) ?_
 refine gl_c rfl (o_call rfl (ep_none (prog' a1 c1 K1 (base W) (base_prgP p1)) hR) pA) ?_
 rintro _ R ⟨_, ⟨rfl, rfl⟩, rfl⟩
 try simp only [List.cons_append, List.nil_append]
 refine gl_v rfl (o_neqnI rfl) ?_
 refine gl_nil ?_
 refine ge_then ?_
 refine g_cond_false rfl ?_
 refine g_skip ?_
 refine ge_then ?_
 refine g_seq ?_
 refine g_region ?_
 first | refine gl_v rfl (o_loadSA rfl rfl rfl) ?_ | refine gl_v rfl (o_loadA rfl rfl rfl) ?_
 refine gl_c rfl (o_call rfl (Print_spec hG (base W) K1 a1 c1 (base_prgP p1) (fun k hk => kndOK_R (hok k hk)) (by omega)) pA) ?_
 rintro _ R ⟨_, ⟨rfl, rfl⟩, rfl⟩
 try simp only [List.cons_append, List.nil_append]
 rw [hpp]
 refine gl_v rfl (o_move rfl) ?_
 refine gl_v rfl (o_extract rfl rfl) ?_
 refine gl_v rfl (o_extract rfl rfl) ?_
 refine gl_v rfl (o_assign rfl) ?_
 refine gl_v rfl (o_assign rfl) ?_
 refine gl_nil ?_
 refine ge_then ?_
 refine g_seq ?_
 refine g_seq ?_
 refine g_region ?_
 refine gl_v rfl (o_move rfl) ?_
 refine gl_v rfl (o_is (c := false) (by rfl) (o_neq rfl rfl)) ?_
 refine gl_nil ?_
 refine ge_then ?_
 refine g_cond_false rfl ?_
 refine g_skip ?_
 refine ge_then ?_
 refine g_seq ?_
 refine g_region ?_
 refine gl_v rfl (o_move rfl) ?_
 refine gl_c rfl (o_call rfl (Prog_ok hG (base W) (joinS (prgWs K1)) (by omega) (strip K1) (rd_prg hok (by omega))) pA) ?_
 rintro _ R ⟨_, ⟨pa, pc, K2, hK2, rfl, rfl⟩, rfl⟩
 try simp only [List.cons_append, List.nil_append]
 refine gl_v rfl (o_move rfl) ?_
 refine gl_v rfl (o_extract rfl rfl) ?_
 refine gl_v rfl (o_extract rfl rfl) ?_
 refine gl_n rfl (o_alloc) ?_
 rintro _ _ ⟨b5, rfl, rfl⟩
 first | refine gl_u (o_storeSA rfl rfl rfl rfl (by simp; omega) (by simp)) ?_ | refine gl_u (o_storeA rfl rfl rfl rfl rfl) ?_
 refine gl_v rfl (o_assign rfl) ?_
 refine gl_nil ?_
 refine ge_then ?_
 refine g_seq ?_
 refine g_region ?_
 refine gl_v rfl (o_move rfl) ?_
 refine gl_v rfl (o_eqlnI rfl) ?_
 refine gl_v rfl (o_move rfl) ?_
 refine gl_gT rfl rfl rfl ?_
 first | refine gl_v rfl (o_loadSA rfl rfl rfl) ?_ | refine gl_v rfl (o_loadA rfl rfl rfl) ?_
 refine gl_gT rfl rfl rfl ?_
 refine gl_c rfl (o_call rfl (ep_none (prog' pa pc K2 (prgA pa pc K2) (fun _ a => a)) (show prgF K2 = none by rw [← prgF_strip, hK2, prgF_strip]; exact hR)) pA) ?_
 rintro _ R ⟨_, ⟨rfl, rfl⟩, rfl⟩
 try simp only [List.cons_append, List.nil_append]
 refine gl_gT rfl rfl rfl ?_
 refine gl_v rfl (o_eqlnI rfl) ?_
 refine gl_v rfl (o_pickT rfl rfl rfl) ?_
 refine gl_v rfl (o_move rfl) ?_
 refine gl_gT rfl rfl rfl ?_
 first | refine gl_v rfl (o_loadSA rfl rfl rfl) ?_ | refine gl_v rfl (o_loadA rfl rfl rfl) ?_
 refine gl_gT rfl rfl rfl ?_
 first | refine gl_v rfl (o_loadSA rfl rfl rfl) ?_ | refine gl_v rfl (o_loadA rfl rfl rfl) ?_
 refine gl_gT rfl rfl rfl ?_
 refine gl_imp (fun h s => sat_both.2 (Part.to (m := [prgA pa pc K2, base W]) pA s)) ?_
 refine gl_c rfl (o_call rfl (Same_spec (both (prgA pa pc K2) (base W)) K1 K2 a1 pa c1 pc (prg_r (base_prgP p1)) (prg_l fun h a => a) (by have := (lens_of p1).1; omega) (lenK_of' (lens_of p1).2)) pA) ?_
 rintro _ R ⟨_, ⟨rfl, rfl⟩, rfl⟩
 try simp only [List.cons_append, List.nil_append]
 rw [eq_same (show strip K1 = strip K2 by rw [hK2])]
 refine gl_imp (fun h s => sat_both.1 (Sel.to (A := both (prgA pa pc K2) (base W)) sE s)) ?_
 try simp only [List.append_eq, List.nil_append, List.cons_append]
 refine gl_v rfl (o_pickT rfl rfl rfl) ?_
 refine gl_v rfl (o_assign rfl) ?_
 refine gl_nil ?_
 refine ge_then ?_
 refine g_ret ?_
 refine ret1 (.inl rfl) rfl rfl [base W] (⟨rfl, rfl⟩) (tO)

theorem CheckBack_spec {W : World} (hG : Gok W) (a1 : Option Addr) (c1 : Nat) (K1 : List Knd) (p1 : PrgOk (hpOf W) a1 c1 K1) : FnS Tryz.prog 3 [.agg #[.slice a1 K1.length c1]] [base W] (fun u Bs => u = .bool true ∧ Bs = [base W]) := by
  rcases hR : prgF K1 with _ | ⟨c, ws⟩
  · by_cases hlg : 16384 < (joinS (prgWs K1)).length
    · exact CheckBack_long hG a1 c1 K1 p1 hR hlg
    · exact CheckBack_ok hG a1 c1 K1 p1 hR hlg
  · exact CheckBack_bad hG a1 c1 K1 p1 c ws hR

end Go.Proofs.YtgmdlhlmffdbhaaGreatDoor.C
