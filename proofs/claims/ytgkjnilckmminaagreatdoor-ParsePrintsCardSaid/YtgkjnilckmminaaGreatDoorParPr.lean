/-
  Parse: ParsePrints. Own work, printed in part by a program of its own.
-/
import Derived.Test.YtgkjnilckmminaaGreatDoorParO
import Derived.Test.YtgkjnilckmminaaGreatDoorParQ
set_option linter.unusedSimpArgs false
set_option linter.unusedVariables false
set_option linter.unusedSectionVars false
namespace Go.Proofs.YtgkjnilckmminaaGreatDoor.L
open Go.L Go.L.Lx Go.L.Pg Go.L.Pa
abbrev m63 : Nat := 9223372036854775806
theorem lens_of {h : Hp} {a : Option Addr} {c : Nat} {K : List Knd} (p : PrgOk h a c K) : K.length ≤ 9223372036854775806 ∧ ∀ k ∈ K, k.cases.length ≤ 9223372036854775806 ∧ k.states.length ≤ 9223372036854775806 ∧ ∀ s ∈ k.states, s.rows.length ≤ 9223372036854775806 ∧ ∀ r ∈ s.rows, r.effs.length ≤ 9223372036854775806 := by
  have h0 := p.len; unfold ok63 at h0
  refine ⟨by omega, fun k hk => ?_⟩
  have h1 := (p.kinds k hk).lenc; have h2 := (p.kinds k hk).lens; unfold ok63 at h1 h2
  refine ⟨by omega, by omega, fun s hs => ?_⟩
  have h3 := ((p.kinds k hk).states s hs).len; unfold ok63 at h3
  refine ⟨by omega, fun r hr => ?_⟩
  have h4 := (((p.kinds k hk).states s hs).rows r hr).len; unfold ok63 at h4
  omega
theorem lenK_of' {K : List Knd} (h : ∀ k ∈ K, k.cases.length ≤ 9223372036854775806 ∧ k.states.length ≤ 9223372036854775806 ∧ ∀ s ∈ k.states, s.rows.length ≤ 9223372036854775806 ∧ ∀ r ∈ s.rows, r.effs.length ≤ 9223372036854775806) : ∀ k ∈ K, LenK k := fun k hk => by
  obtain ⟨h1, h2, h3⟩ := h k hk
  refine ⟨by omega, by omega, fun s hs => ?_⟩
  obtain ⟨h4, h5⟩ := h3 s hs
  exact ⟨by omega, fun r hr => by have := h5 r hr; omega⟩
theorem base_prgP {W : World} {a : Option Addr} {c : Nat} {K : List Knd} (p : PrgOk (hpOf W) a c K) : ∀ h, base W h → PrgOk h a c K := fun h hb => p.imp fun b o e => by
  have hlt : b < W.heap.size := by
    rcases Nat.lt_or_ge b W.heap.size with x | x
    · exact x
    · rw [show hpOf W b = W.heap[b]? from rfl, Array.getElem?_eq_none x] at e; cases e
  rw [hb b hlt]; exact e

set_option maxRecDepth 8000 in
set_option maxHeartbeats 1000000 in
theorem Prints_no {W : World} (hG : Gok W) (a1 : Option Addr) (c1 : Nat) (K1 : List Knd) (p1 : PrgOk (hpOf W) a1 c1 K1) (r1 : ∀ k ∈ K1, KndR k) (hno : ¬ ∀ k ∈ K1, kndOK k = true) : FnS Tryz.prog 4 [.agg #[.slice a1 K1.length c1]] [base W] (fun u Bs => u = .bool true ∧ Bs = [base W]) := by
 refine fn_body Tryz.func4 rfl rfl rfl ?_
 intro W0 R
 simp only [List.zipIdx_cons, List.zipIdx_nil, List.map_cons, List.map_nil, Nat.zero_add, Nat.reduceAdd, List.cons_append, List.nil_append]
 have hpp := printP_eq K1
 rw [if_neg hno] at hpp
 have hall : K1.all kndOK = false := by rw [Bool.eq_false_iff]; intro h; exact hno (List.all_eq_true.1 h)
 refine g_seq ?_
 refine g_region ?_
 refine gl_n rfl (o_boxA rfl) ?_
 rintro _ _ ⟨b1, rfl, rfl⟩
 refine gl_v rfl (o_assign rfl) ?_
 refine gl_nil ?_
 refine ge_then ?_
 refine g_seq ?_
 refine g_seq ?_
 refine g_region ?_
 refine gl_c rfl (o_call rfl (alive_spec hG) pA) ?_
 rintro _ R ⟨_, ⟨rfl, rfl⟩, rfl⟩
 try simp only [List.cons_append, List.nil_append]
 refine gl_v rfl (o_is (c := false) (by rfl) (o_not rfl)) ?_
 refine gl_nil ?_
 refine ge_then ?_
 refine g_cond_false rfl ?_
 refine g_skip ?_
 refine ge_then ?_
 refine g_seq ?_
 refine g_seq ?_
 refine g_region ?_
 first | refine gl_v rfl (o_loadSA rfl rfl rfl) ?_ | refine gl_v rfl (o_loadA rfl rfl rfl) ?_
 refine gl_c rfl (o_call rfl (Great_spec (base W) K1 a1 c1 (base_prgP p1) (lens_of p1).1 (lenK_of' (lens_of p1).2)) pA) ?_
 rintro _ R ⟨_, ⟨g1, rfl, hg1, rfl⟩, rfl⟩
 try simp only [List.cons_append, List.nil_append]
 refine gl_nil ?_
 refine ge_then ?_
 refine g_cond rfl (fun hc1 => ?_) (fun hc1 => ?_)
 ·
  replace hc1 := hs_ hc1
  refine g_seq ?_
  refine g_region ?_
  refine gl_v rfl (o_assign rfl) ?_
  refine gl_nil ?_
  refine ge_then ?_
  refine g_ret ?_
  refine ge_then_ret ?_
  refine ret1 (.inl rfl) rfl rfl [base W] (⟨rfl, rfl⟩) (tO)
 ·
  replace hc1 := hs_ hc1
  have hz := wl_prg r1 (hg1 hc1)
  have hjl := joinS_len (prgWs K1)
  refine g_skip ?_
  refine ge_then ?_
  refine g_seq ?_
  refine g_region ?_
  first | refine gl_v rfl (o_loadSA rfl rfl rfl) ?_ | refine gl_v rfl (o_loadA rfl rfl rfl) ?_
  refine gl_c rfl (o_call rfl (Print_spec hG (base W) K1 a1 c1 (base_prgP p1) r1 (by omega)) pA) ?_
  rintro _ R ⟨_, ⟨rfl, rfl⟩, rfl⟩
  try simp only [List.cons_append, List.nil_append]
  rw [hpp]
  refine gl_v rfl (o_move rfl) ?_
  refine gl_v rfl (o_extract rfl rfl) ?_
  refine gl_v rfl (o_extract rfl rfl) ?_
  refine gl_v rfl (o_assign rfl) ?_
  refine gl_v rfl (o_assign rfl) ?_
  refine gl_nil ?_
  refine ge_then ?_
  refine g_seq ?_
  refine g_seq ?_
  refine g_region ?_
  first | refine gl_v rfl (o_loadSA rfl rfl rfl) ?_ | refine gl_v rfl (o_loadA rfl rfl rfl) ?_
  refine gl_c rfl (o_call rfl (Writable_spec (base W) K1 a1 c1 (base_prgP p1)) pA) ?_
  rintro _ R ⟨_, ⟨rfl, rfl⟩, rfl⟩
  try simp only [List.cons_append, List.nil_append]
  rw [hall]
  refine gl_v rfl (o_is (c := true) (by rfl) (o_not rfl)) ?_
  refine gl_nil ?_
  refine ge_then ?_
  refine g_cond_true rfl ?_
  refine g_seq ?_
  refine g_region ?_
  refine gl_v rfl (o_move rfl) ?_
  refine gl_v rfl (o_is (c := true) (by rfl) (o_eql rfl rfl)) ?_
  refine gl_v rfl (o_move rfl) ?_
  refine gl_gT rfl rfl rfl ?_
  refine gl_v rfl (o_move rfl) ?_
  refine gl_gT rfl rfl rfl ?_
  refine gl_v rfl (o_is (c := true) (by simp) (o_eqls rfl rfl)) ?_
  refine gl_v rfl (o_pickT rfl rfl rfl) ?_
  refine gl_v rfl (o_assign rfl) ?_
  refine gl_nil ?_
  refine ge_then ?_
  refine g_ret ?_
  refine ge_then_ret ?_
  refine ret1 (.inl rfl) rfl rfl [base W] (⟨rfl, rfl⟩) (tO)

set_option maxRecDepth 8000 in
set_option maxHeartbeats 1000000 in
theorem Prints_long {W : World} (hG : Gok W) (a1 : Option Addr) (c1 : Nat) (K1 : List Knd) (p1 : PrgOk (hpOf W) a1 c1 K1) (r1 : ∀ k ∈ K1, KndR k) (hok : ∀ k ∈ K1, kndOK k = true) (hlg : 16384 < (joinS (prgWs K1)).length) : FnS Tryz.prog 4 [.agg #[.slice a1 K1.length c1]] [base W] (fun u Bs => u = .bool true ∧ Bs = [base W]) := by
 refine fn_body Tryz.func4 rfl rfl rfl ?_
 intro W0 R
 simp only [List.zipIdx_cons, List.zipIdx_nil, List.map_cons, List.map_nil, Nat.zero_add, Nat.reduceAdd, List.cons_append, List.nil_append]
 have hpp := printP_eq K1
 rw [if_pos hok, if_pos hlg] at hpp
 have hall : K1.all kndOK = true := List.all_eq_true.2 hok
 refine g_seq ?_
 refine g_region ?_
 refine gl_n rfl (o_boxA rfl) ?_
 rintro _ _ ⟨b1, rfl, rfl⟩
 refine gl_v rfl (o_assign rfl) ?_
 refine gl_nil ?_
 refine ge_then ?_
 refine g_seq ?_
 refine g_seq ?_
 refine g_region ?_
 refine gl_c rfl (o_call rfl (alive_spec hG) pA) ?_
 rintro _ R ⟨_, ⟨rfl, rfl⟩, rfl⟩
 try simp only [List.cons_append, List.nil_append]
 refine gl_v rfl (o_is (c := false) (by rfl) (o_not rfl)) ?_
 refine gl_nil ?_
 refine ge_then ?_
 refine g_cond_false rfl ?_
 refine g_skip ?_
 refine ge_then ?_
 refine g_seq ?_
 refine g_seq ?_
 refine g_region ?_
 first | refine gl_v rfl (o_loadSA rfl rfl rfl) ?_ | refine gl_v rfl (o_loadA rfl rfl rfl) ?_
 refine gl_c rfl (o_call rfl (Great_spec (base W) K1 a1 c1 (base_prgP p1) (lens_of p1).1 (lenK_of' (lens_of p1).2)) pA) ?_
 rintro _ R ⟨_, ⟨g1, rfl, hg1, rfl⟩, rfl⟩
 try simp only [List.cons_append, List.nil_append]
 refine gl_nil ?_
 refine ge_then ?_
 refine g_cond rfl (fun hc1 => ?_) (fun hc1 => ?_)
 ·
  replace hc1 := hs_ hc1
  refine g_seq ?_
  refine g_region ?_
  refine gl_v rfl (o_assign rfl) ?_
  refine gl_nil ?_
  refine ge_then ?_
  refine g_ret ?_
  refine ge_then_ret ?_
  refine ret1 (.inl rfl) rfl rfl [base W] (⟨rfl, rfl⟩) (tO)
 ·
  replace hc1 := hs_ hc1
  have hz := wl_prg r1 (hg1 hc1)
  have hjl := joinS_len (prgWs K1)
  refine g_skip ?_
  refine ge_then ?_
  refine g_seq ?_
  refine g_region ?_
  first | refine gl_v rfl (o_loadSA rfl rfl rfl) ?_ | refine gl_v rfl (o_loadA rfl rfl rfl) ?_
  refine gl_c rfl (o_call rfl (Print_spec hG (base W) K1 a1 c1 (base_prgP p1) r1 (by omega)) pA) ?_
  rintro _ R ⟨_, ⟨rfl, rfl⟩, rfl⟩
  try simp only [List.cons_append, List.nil_append]
  rw [hpp]
  refine gl_v rfl (o_move rfl) ?_
  refine gl_v rfl (o_extract rfl rfl) ?_
  refine gl_v rfl (o_extract rfl rfl) ?_
  refine gl_v rfl (o_assign rfl) ?_
  refine gl_v rfl (o_assign rfl) ?_
  refine gl_nil ?_
  refine ge_then ?_
  refine g_seq ?_
  refine g_seq ?_
  refine g_region ?_
  first | refine gl_v rfl (o_loadSA rfl rfl rfl) ?_ | refine gl_v rfl (o_loadA rfl rfl rfl) ?_
  refine gl_c rfl (o_call rfl (Writable_spec (base W) K1 a1 c1 (base_prgP p1)) pA) ?_
  rintro _ R ⟨_, ⟨rfl, rfl⟩, rfl⟩
  try simp only [List.cons_append, List.nil_append]
  rw [hall]
  refine gl_v rfl (o_is (c := false) (by rfl) (o_not rfl)) ?_
  refine gl_nil ?_
  refine ge_then ?_
  refine g_cond_false rfl ?_
  refine g_skip ?_
  refine ge_then ?_
  refine g_seq ?_
  refine g_region ?_
  first | refine gl_v rfl (o_loadSA rfl rfl rfl) ?_ | refine gl_v rfl (o_loadA rfl rfl rfl) ?_
  refine gl_c rfl (o_call rfl (Text_spec (base W) K1 a1 c1 hok (base_prgP p1) (by omega)) pA) ?_
  rintro _ R ⟨_, ⟨rfl, rfl⟩, rfl⟩
  try simp only [List.cons_append, List.nil_append]
  refine gl_v rfl (o_assign rfl) ?_
  refine gl_nil ?_
  refine ge_then ?_
  refine g_seq ?_
  refine g_seq ?_
  refine g_region ?_
  refine gl_v rfl (o_move rfl) ?_
  refine gl_v rfl (o_lens rfl) ?_
  refine gl_v rfl (o_is (c := true) (by (simp <;> omega)) (o_gtr rfl rfl)) ?_
  refine gl_nil ?_
  refine ge_then ?_
  refine g_cond_true rfl ?_
  refine g_seq ?_
  refine g_region ?_
  refine gl_v rfl (o_move rfl) ?_
  refine gl_v rfl (o_is (c := true) (by rfl) (o_eql rfl rfl)) ?_
  refine gl_v rfl (o_move rfl) ?_
  refine gl_gT rfl rfl rfl ?_
  refine gl_v rfl (o_move rfl) ?_
  refine gl_gT rfl rfl rfl ?_
  refine gl_v rfl (o_is (c := true) (by simp) (o_eqls rfl rfl)) ?_
  refine gl_v rfl (o_pickT rfl rfl rfl) ?_
  refine gl_v rfl (o_assign rfl) ?_
  refine gl_nil ?_
  refine ge_then ?_
  refine g_ret ?_
  refine ge_then_ret ?_
  refine ret1 (.inl rfl) rfl rfl [base W] (⟨rfl, rfl⟩) (tO)

set_option maxRecDepth 8000 in
set_option maxHeartbeats 1000000 in
theorem Prints_ok {W : World} (hG : Gok W) (a1 : Option Addr) (c1 : Nat) (K1 : List Knd) (p1 : PrgOk (hpOf W) a1 c1 K1) (r1 : ∀ k ∈ K1, KndR k) (hok : ∀ k ∈ K1, kndOK k = true) (hlg : ¬ 16384 < (joinS (prgWs K1)).length) : FnS Tryz.prog 4 [.agg #[.slice a1 K1.length c1]] [base W] (fun u Bs => u = .bool true ∧ Bs = [base W]) := by
 refine fn_body Tryz.func4 rfl rfl rfl ?_
 intro W0 R
 simp only [List.zipIdx_cons, List.zipIdx_nil, List.map_cons, List.map_nil, Nat.zero_add, Nat.reduceAdd, List.cons_append, List.nil_append]
 have hpp := printP_eq K1
 rw [if_pos hok, if_neg hlg] at hpp
 have hall : K1.all kndOK = true := List.all_eq_true.2 hok
 refine g_seq ?_
 refine g_region ?_
 refine gl_n rfl (o_boxA rfl) ?_
 rintro _ _ ⟨b1, rfl, rfl⟩
 refine gl_v rfl (o_assign rfl) ?_
 refine gl_nil ?_
 refine ge_then ?_
 refine g_seq ?_
 refine g_seq ?_
 refine g_region ?_
 refine gl_c rfl (o_call rfl (alive_spec hG) pA) ?_
 rintro _ R ⟨_, ⟨rfl, rfl⟩, rfl⟩
 try simp only [List.cons_append, List.nil_append]
 refine gl_v rfl (o_is (c := false) (by rfl) (o_not rfl)) ?_
 refine gl_nil ?_
 refine ge_then ?_
 refine g_cond_false rfl ?_
 refine g_skip ?_
 refine ge_then ?_
 refine g_seq ?_
 refine g_seq ?_
 refine g_region ?_
 first | refine gl_v rfl (o_loadSA rfl rfl rfl) ?_ | refine gl_v rfl (o_loadA rfl rfl rfl) ?_
 refine gl_c rfl (o_call rfl (Great_spec (base W) K1 a1 c1 (base_prgP p1) (lens_of p1).1 (lenK_of' (lens_of p1).2)) pA) ?_
 rintro _ R ⟨_, ⟨g1, rfl, hg1, rfl⟩, rfl⟩
 try simp only [List.cons_append, List.nil_append]
 refine gl_nil ?_
 refine ge_then ?_
 refine g_cond rfl (fun hc1 => ?_) (fun hc1 => ?_)
 ·
  replace hc1 := hs_ hc1
  refine g_seq ?_
  refine g_region ?_
  refine gl_v rfl (o_assign rfl) ?_
  refine gl_nil ?_
  refine ge_then ?_
  refine g_ret ?_
  refine ge_then_ret ?_
  refine ret1 (.inl rfl) rfl rfl [base W] (⟨rfl, rfl⟩) (tO)
 ·
  replace hc1 := hs_ hc1
  have hz := wl_prg r1 (hg1 hc1)
  have hjl := joinS_len (prgWs K1)
  refine g_skip ?_
  refine ge_then ?_
  refine g_seq ?_
  refine g_region ?_
  first | refine gl_v rfl (o_loadSA rfl rfl rfl) ?_ | refine gl_v rfl (o_loadA rfl rfl rfl) ?_
  refine gl_c rfl (o_call rfl (Print_spec hG (base W) K1 a1 c1 (base_prgP p1) r1 (by omega)) pA) ?_
  rintro _ R ⟨_, ⟨rfl, rfl⟩, rfl⟩
  try simp only [List.cons_append, List.nil_append]
  rw [hpp]
  refine gl_v rfl (o_move rfl) ?_
  refine gl_v rfl (o_extract rfl rfl) ?_
  refine gl_v rfl (o_extract rfl rfl) ?_
  refine gl_v rfl (o_assign rfl) ?_
  refine gl_v rfl (o_assign rfl) ?_
  refine gl_nil ?_
  refine ge_then ?_
  refine g_seq ?_
  refine g_seq ?_
  refine g_region ?_
  first | refine gl_v rfl (o_loadSA rfl rfl rfl) ?_ | refine gl_v rfl (o_loadA rfl rfl rfl) ?_
  refine gl_c rfl (o_call rfl (Writable_spec (base W) K1 a1 c1 (base_prgP p1)) pA) ?_
  rintro _ R ⟨_, ⟨rfl, rfl⟩, rfl⟩
  try simp only [List.cons_append, List.nil_append]
  rw [hall]
  refine gl_v rfl (o_is (c := false) (by rfl) (o_not rfl)) ?_
  refine gl_nil ?_
  refine ge_then ?_
  refine g_cond_false rfl ?_
  refine g_skip ?_
  refine ge_then ?_
  refine g_seq ?_
  refine g_region ?_
  first | refine gl_v rfl (o_loadSA rfl rfl rfl) ?_ | refine gl_v rfl (o_loadA rfl rfl rfl) ?_
  refine gl_c rfl (o_call rfl (Text_spec (base W) K1 a1 c1 hok (base_prgP p1) (by omega)) pA) ?_
  rintro _ R ⟨_, ⟨rfl, rfl⟩, rfl⟩
  try simp only [List.cons_append, List.nil_append]
  refine gl_v rfl (o_assign rfl) ?_
  refine gl_nil ?_
  refine ge_then ?_
  refine g_seq ?_
  refine g_seq ?_
  refine g_region ?_
  refine gl_v rfl (o_move rfl) ?_
  refine gl_v rfl (o_lens rfl) ?_
  refine gl_v rfl (o_is (c := false) (by (simp <;> omega)) (o_gtr rfl rfl)) ?_
  refine gl_nil ?_
  refine ge_then ?_
  refine g_cond_false rfl ?_
  refine g_skip ?_
  refine ge_then ?_
  refine g_seq ?_
  refine g_region ?_
  refine gl_v rfl (o_move rfl) ?_
  refine gl_v rfl (o_is (c := true) (by rfl) (o_eql rfl rfl)) ?_
  refine gl_v rfl (o_move rfl) ?_
  refine gl_gT rfl rfl rfl ?_
  refine gl_v rfl (o_move rfl) ?_
  refine gl_gT rfl rfl rfl ?_
  refine gl_v rfl (o_move rfl) ?_
  refine gl_gT rfl rfl rfl ?_
  refine gl_v rfl (o_is (c := true) (by simp) (o_eqls rfl rfl)) ?_
  refine gl_v rfl (o_pickT rfl rfl rfl) ?_
  refine gl_v rfl (o_assign rfl) ?_
  refine gl_nil ?_
  refine ge_then ?_
  refine g_ret ?_
  refine ret1 (.inl rfl) rfl rfl [base W] (⟨rfl, rfl⟩) (tO)

theorem ParsePrints_spec {W : World} (hG : Gok W) (a1 : Option Addr) (c1 : Nat) (K1 : List Knd) (p1 : PrgOk (hpOf W) a1 c1 K1) (r1 : ∀ k ∈ K1, KndR k) : FnS Tryz.prog 4 [.agg #[.slice a1 K1.length c1]] [base W] (fun u Bs => u = .bool true ∧ Bs = [base W]) := by
  by_cases hok : ∀ k ∈ K1, kndOK k = true
  · by_cases hlg : 16384 < (joinS (prgWs K1)).length
    · exact Prints_long hG a1 c1 K1 p1 r1 hok hlg
    · exact Prints_ok hG a1 c1 K1 p1 r1 hok hlg
  · exact Prints_no hG a1 c1 K1 p1 r1 hok

end Go.Proofs.YtgkjnilckmminaaGreatDoor.L
