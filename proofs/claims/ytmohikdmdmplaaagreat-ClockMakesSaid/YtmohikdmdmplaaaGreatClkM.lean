/-
  ClockMakes. Own work, printed in part by a program of its own.
-/
import Derived.Test.YtmohikdmdmplaaaGreatClkA
set_option linter.unusedSimpArgs false
set_option linter.unusedVariables false
set_option linter.unusedSectionVars false
namespace Go.Proofs.YtmohikdmdmplaaaGreat.L
open Go.L Go.L.Ring Go.L.Post Go.L.Clk Go.L.Whl

set_option maxRecDepth 8000 in
theorem rLay_spec (w b n : Nat) (L : List Int) (t : Int) (I : RI b n L) : FnS Tryz.prog 49 [ptr w 0, .agg #[I64 b, I64 n]] [rmemA w L t] (fun u Bs => u = .tuple #[] ∧ Bs = [rmemA w (zap L b (2 + 2 * n)) t]) := by
  refine fn_body Tryz.func49 rfl rfl rfl ?_
  intro W0 R
  simp only [List.zipIdx_cons, List.zipIdx_nil, List.map_cons, List.map_nil, Nat.zero_add, Nat.reduceAdd, List.cons_append, List.nil_append]
  have hb0 := I.len; have hn1 := I.n1; have hn2 := I.n64; have hL0 := I.top
  refine g_open (by repeat (first | exact .head | apply Sel.tail)) ?_
  rintro ⟨a, c⟩ -
  simp only [List.cons_append, List.nil_append]
  refine g_seq ?_
  refine g_region ?_
  refine gl_n rfl (o_boxA rfl) ?_
  rintro _ _ ⟨b3, rfl, rfl⟩
  refine gl_nil ?_
  refine ge_then ?_
  refine g_seq ?_
  refine g_draw [7] [] [(0, .loc), (1, .loc), (2, .loc), (3, .loc), (4, .loc), (5, .loc), (6, .loc), (7, .eff)] [] mixed (by kernel_rfl) ?_
  refine go_v rfl .none rfl (o_move rfl) ?_
  refine go_v rfl .none rfl (o_nil rfl) ?_
  first | refine go_v rfl .none rfl (o_fldS rfl) ?_ | refine go_v rfl .none rfl (o_fld rfl) ?_
  first | refine go_v rfl .none rfl (o_load rfl rfl) ?_ | refine go_v rfl .none rfl (o_loadS rfl rfl) ?_ | refine go_v rfl .none rfl (o_loadC rfl) ?_
  first | refine go_v rfl .none rfl (o_fldS rfl) ?_ | refine go_v rfl .none rfl (o_fld rfl) ?_
  first | refine go_v rfl .none rfl (o_load rfl rfl) ?_ | refine go_v rfl .none rfl (o_loadS rfl rfl) ?_ | refine go_v rfl .none rfl (o_loadC rfl) ?_
  refine go_v rfl .none rfl (o_idxS (j := b) rfl rfl (by omega)) ?_
  refine go_u rfl .none (o_storeS rfl rfl rfl (by simp; omega)) (fun hG => absurd hG (by decide)) ?_
  rw [map_set1]
  refine go_nil ?_
  refine ge_then ?_
  refine g_seq ?_
  refine g_draw [8] [] [(0, .loc), (1, .loc), (2, .loc), (3, .loc), (4, .loc), (5, .loc), (6, .loc), (7, .loc), (8, .eff)] [] mixed (by kernel_rfl) ?_
  refine go_v rfl .none rfl (o_move rfl) ?_
  refine go_v rfl .none rfl (o_nil rfl) ?_
  first | refine go_v rfl .none rfl (o_fldS rfl) ?_ | refine go_v rfl .none rfl (o_fld rfl) ?_
  first | refine go_v rfl .none rfl (o_load rfl rfl) ?_ | refine go_v rfl .none rfl (o_loadS rfl rfl) ?_ | refine go_v rfl .none rfl (o_loadC rfl) ?_
  first | refine go_v rfl .none rfl (o_fldS rfl) ?_ | refine go_v rfl .none rfl (o_fld rfl) ?_
  first | refine go_v rfl .none rfl (o_load rfl rfl) ?_ | refine go_v rfl .none rfl (o_loadS rfl rfl) ?_ | refine go_v rfl .none rfl (o_loadC rfl) ?_
  refine go_v rfl .none rfl (o_addR ((b + 1 : Nat) : Int) (by rw [wr_i64 (by omega)]; omega) rfl rfl) ?_
  refine go_v rfl .none rfl (o_idxS (j := b + 1) rfl rfl (by omega)) ?_
  refine go_u rfl .none (o_storeS rfl rfl rfl (by simp; omega)) (fun hG => absurd hG (by decide)) ?_
  rw [map_set1]
  refine go_nil ?_
  refine ge_then ?_
  refine g_seq ?_
  refine g_region ?_
  refine gl_v rfl (o_assign rfl) ?_
  refine gl_nil ?_
  refine ge_then ?_
  refine g_block ?_
  refine g_loop (ι := Nat) (fun x => x ≤ n) (fun x => [(4, I64 x), (3, ptr b3 0), (0, ptr w 0)]) (fun x => cel w 54 [.slice a L.length c, I64 t] :: own (.slice a L.length c) 22 1 L.length ((zap L b (2 + 2 * x)).map U64) :: cel b3 99 [I64 b, I64 n] :: R) (fun x => n - x) 0 (Nat.zero_le _) (Keep.cons rfl (Keep.cons rfl (Keep.cons rfl (Keep.nil)))) (To.sat (by repeat (first | exact .nil | exact .done .refl | (apply To.cons; · (repeat (first | exact .head | apply Sel.tail))) | exact .done (by repeat (first | exact .refl | apply Drop.skip))))) ?_
  intro k hk
  refine g_seq ?_
  refine g_seq ?_
  refine g_region ?_
  refine gl_v rfl (o_move rfl) ?_
  first | refine gl_v rfl (o_fldS rfl) ?_ | refine gl_v rfl (o_fld rfl) ?_
  first | refine gl_v rfl (o_load rfl rfl) ?_ | refine gl_v rfl (o_loadS rfl rfl) ?_ | refine gl_v rfl (o_loadC rfl) ?_
  refine gl_v rfl (o_lss rfl rfl) ?_
  refine gl_nil ?_
  refine ge_then ?_
  refine g_cond rfl (fun hc1 => ?_) (fun hc1 => ?_)
  ·
    first | replace hc1 := of_decide_eq_true hc1 | replace hc1 := lt_f hc1 | replace hc1 := le_f hc1 | replace hc1 := dec_f hc1 | replace hc1 := nlt_t hc1 | replace hc1 := nle_t hc1 | replace hc1 := ndec_t hc1 | replace hc1 := ndec_f hc1 | replace hc1 := nn_t hc1 | replace hc1 := nn_f hc1 | skip
    refine g_skip ?_
    refine ge_then ?_
    refine g_seq ?_
    refine g_block ?_
    refine g_seq ?_
    refine g_draw [11] [] [(0, .loc), (1, .loc), (2, .loc), (3, .loc), (4, .loc), (5, .loc), (6, .loc), (7, .loc), (8, .loc), (9, .loc), (10, .loc), (11, .eff)] [] mixed (by kernel_rfl) ?_
    refine go_v rfl .none rfl (o_move rfl) ?_
    refine go_v rfl .none rfl (o_nil rfl) ?_
    first | refine go_v rfl .none rfl (o_fldS rfl) ?_ | refine go_v rfl .none rfl (o_fld rfl) ?_
    first | refine go_v rfl .none rfl (o_load rfl rfl) ?_ | refine go_v rfl .none rfl (o_loadS rfl rfl) ?_ | refine go_v rfl .none rfl (o_loadC rfl) ?_
    first | refine go_v rfl .none rfl (o_fldS rfl) ?_ | refine go_v rfl .none rfl (o_fld rfl) ?_
    first | refine go_v rfl .none rfl (o_load rfl rfl) ?_ | refine go_v rfl .none rfl (o_loadS rfl rfl) ?_ | refine go_v rfl .none rfl (o_loadC rfl) ?_
    refine go_v rfl .none rfl (o_addR _ (by first | exact wr_i64 (by omega) | rfl) rfl rfl) ?_
    refine go_v rfl .none rfl (o_move rfl) ?_
    refine go_v rfl .none rfl (o_mulR _ (by first | exact wr_i64 (by omega) | rfl) rfl rfl) ?_
    refine go_v rfl .none rfl (o_addR ((b + (2 + 2 * k) : Nat) : Int) (by rw [wr_i64 (by omega)]; omega) rfl rfl) ?_
    refine go_v rfl .none rfl (o_idxS (j := b + (2 + 2 * k)) rfl rfl (by omega)) ?_
    refine go_u rfl .none (o_storeS rfl rfl rfl (by simp [zap_len]; omega)) (fun hG => absurd hG (by decide)) ?_
    rw [map_set1]
    refine go_nil ?_
    refine ge_then ?_
    refine g_draw [11] [] [(0, .loc), (1, .loc), (2, .loc), (3, .loc), (4, .loc), (5, .loc), (6, .loc), (7, .loc), (8, .loc), (9, .loc), (10, .loc), (11, .eff)] [] mixed (by kernel_rfl) ?_
    refine go_v rfl .none rfl (o_move rfl) ?_
    refine go_v rfl .none rfl (o_nil rfl) ?_
    first | refine go_v rfl .none rfl (o_fldS rfl) ?_ | refine go_v rfl .none rfl (o_fld rfl) ?_
    first | refine go_v rfl .none rfl (o_load rfl rfl) ?_ | refine go_v rfl .none rfl (o_loadS rfl rfl) ?_ | refine go_v rfl .none rfl (o_loadC rfl) ?_
    first | refine go_v rfl .none rfl (o_fldS rfl) ?_ | refine go_v rfl .none rfl (o_fld rfl) ?_
    first | refine go_v rfl .none rfl (o_load rfl rfl) ?_ | refine go_v rfl .none rfl (o_loadS rfl rfl) ?_ | refine go_v rfl .none rfl (o_loadC rfl) ?_
    refine go_v rfl .none rfl (o_addR _ (by first | exact wr_i64 (by omega) | rfl) rfl rfl) ?_
    refine go_v rfl .none rfl (o_move rfl) ?_
    refine go_v rfl .none rfl (o_mulR _ (by first | exact wr_i64 (by omega) | rfl) rfl rfl) ?_
    refine go_v rfl .none rfl (o_addR ((b + (2 + 2 * k + 1) : Nat) : Int) (by rw [wr_i64 (by omega)]; omega) rfl rfl) ?_
    refine go_v rfl .none rfl (o_idxS (j := b + (2 + 2 * k + 1)) rfl rfl (by omega)) ?_
    refine go_u rfl .none (o_storeS rfl rfl rfl (by simp [zap_len]; omega)) (fun hG => absurd hG (by decide)) ?_
    rw [map_set1]
    refine go_nil ?_
    refine ge_block ?_
    refine ge_then ?_
    refine g_region ?_
    refine gl_v rfl (o_move rfl) ?_
    refine gl_v rfl (o_addR _ (by first | exact wr_i64 (by omega) | rfl) rfl rfl) ?_
    refine gl_v rfl (o_assign rfl) ?_
    refine gl_nil ?_
    refine ge_round (k + 1) (show k + 1 ≤ _ by omega) (by omega) (Keep.cons rfl (Keep.cons rfl (Keep.cons rfl (Keep.nil)))) (To.sat (by repeat (first | exact .nil | exact .done .refl | (apply To.cons; · (repeat (first | exact .head | apply Sel.tail))) | exact .done (by repeat (first | exact .refl | apply Drop.skip)))))
  ·
    first | replace hc1 := of_decide_eq_true hc1 | replace hc1 := lt_f hc1 | replace hc1 := le_f hc1 | replace hc1 := dec_f hc1 | replace hc1 := nlt_t hc1 | replace hc1 := nle_t hc1 | replace hc1 := ndec_t hc1 | replace hc1 := ndec_f hc1 | replace hc1 := nn_t hc1 | replace hc1 := nn_f hc1 | skip
    obtain rfl : k = n := by omega
    refine g_exit ?_
    refine ge_then_exit ?_
    refine ge_then_exit ?_
    refine ge_block_exit ?_
    refine ret0 (.inr rfl) rfl [rmemA w (zap L b (2 + 2 * k)) t] (⟨rfl, rfl⟩) (rmem_close a c rfl rfl (by rw [zap_len]; exact (To.sat (by repeat (first | exact .nil | exact .done .refl | (apply To.cons; · (repeat (first | exact .head | apply Sel.tail))) | exact .done (by repeat (first | exact .refl | apply Drop.skip)))))))

set_option maxRecDepth 8000 in
set_option maxHeartbeats 2000000 in
theorem kcSize_spec (c : Nat) (b s : Int) (zs : List Value) (hs : 1 ≤ s ∧ s ≤ 64) : FnS Tryz.prog 22 [ptr c 0] [cel c 49 (I64 b :: I64 s :: zs)] (fun u Bs => u = I64 (3 + 2 * s) ∧ Bs = [cel c 49 (I64 b :: I64 s :: zs)]) := by
  refine fn_body Tryz.func22 rfl rfl rfl ?_
  intro W0 R
  simp only [List.zipIdx_cons, List.zipIdx_nil, List.map_cons, List.map_nil, Nat.zero_add, Nat.reduceAdd, List.cons_append, List.nil_append]
  refine g_seq ?_
  refine g_region ?_
  refine gl_v rfl (o_assign rfl) ?_
  refine gl_nil ?_
  refine ge_then ?_
  refine g_seq ?_
  refine g_region ?_
  refine gl_v rfl (o_move rfl) ?_
  refine gl_v rfl (o_nil rfl) ?_
  first | refine gl_v rfl (o_fldS rfl) ?_ | refine gl_v rfl (o_fld rfl) ?_
  first | refine gl_v rfl (o_load rfl rfl) ?_ | refine gl_v rfl (o_loadS rfl rfl) ?_ | refine gl_v rfl (o_loadC rfl) ?_
  refine gl_v rfl (o_mulR (2 * s) (wr_i64 (by omega)) rfl rfl) ?_
  refine gl_v rfl (o_addR (3 + 2 * s) (wr_i64 (by omega)) rfl rfl) ?_
  refine gl_v rfl (o_assign rfl) ?_
  refine gl_nil ?_
  refine ge_then ?_
  refine g_ret ?_
  refine ret1 (.inl rfl) rfl rfl _ (⟨rfl, rfl⟩) (To.sat (by repeat (first | exact .nil | exact .done .refl | (apply To.cons; · (repeat (first | exact .head | apply Sel.tail))) | exact .done (by repeat (first | exact .refl | apply Drop.skip)))))

set_option maxRecDepth 8000 in
set_option maxHeartbeats 2000000 in
theorem kcRing_spec (c b n : Nat) (zs : List Value) (hb : b ≤ 65536) (hn : n ≤ 64) : FnS Tryz.prog 50 [ptr c 0] [cel c 49 (I64 b :: I64 n :: zs)] (fun u Bs => u = .agg #[I64 ((b + 1 : Nat) : Int), I64 n] ∧ Bs = [cel c 49 (I64 b :: I64 n :: zs)]) := by
  refine fn_body Tryz.func50 rfl rfl rfl ?_
  intro W0 R
  simp only [List.zipIdx_cons, List.zipIdx_nil, List.map_cons, List.map_nil, Nat.zero_add, Nat.reduceAdd, List.cons_append, List.nil_append]
  refine g_seq ?_
  refine g_region ?_
  refine gl_n rfl (o_alloc) ?_
  rintro _ _ ⟨b2, rfl, rfl⟩
  refine gl_nil ?_
  refine ge_then ?_
  refine g_seq ?_
  refine g_draw [10] [] [(0, .loc), (1, .loc), (2, .loc), (3, .loc), (4, .loc), (5, .loc), (6, .loc), (7, .loc), (8, .loc), (9, .loc), (10, .eff)] [cel c 49 (I64 b :: I64 n :: zs)] mixed (by kernel_rfl) ?_
  refine go_v rfl .none rfl (o_move rfl) ?_
  refine go_v rfl .none rfl (o_nil rfl) ?_
  first | refine go_v rfl .none rfl (o_fldS rfl) ?_ | refine go_v rfl .none rfl (o_fld rfl) ?_
  first | refine go_v rfl .none rfl (o_load rfl rfl) ?_ | refine go_v rfl .none rfl (o_loadS rfl rfl) ?_ | refine go_v rfl .none rfl (o_loadC rfl) ?_
  refine go_v rfl .none rfl (o_addR ((b + 1 : Nat) : Int) (by rw [wr_i64 (by omega)]; omega) rfl rfl) ?_
  refine go_v rfl .none rfl (o_move rfl) ?_
  refine go_v rfl .none rfl (o_nil rfl) ?_
  first | refine go_v rfl .none rfl (o_fldS rfl) ?_ | refine go_v rfl .none rfl (o_fld rfl) ?_
  first | refine go_v rfl .none rfl (o_load rfl rfl) ?_ | refine go_v rfl .none rfl (o_loadS rfl rfl) ?_ | refine go_v rfl .none rfl (o_loadC rfl) ?_
  refine go_v rfl .none rfl (o_build rfl rfl) ?_
  first | refine go_u rfl .none (o_storeSA rfl rfl rfl rfl (by simp; omega) (by simp)) (fun hG => absurd hG (by decide)) ?_ | refine go_u rfl .none (o_storeA rfl rfl rfl rfl rfl) (fun hG => absurd hG (by decide)) ?_
  refine go_nil ?_
  refine ge_then ?_
  refine g_ret ?_
  refine ret1c (.inl rfl) rfl rfl rfl rfl _ (⟨rfl, rfl⟩) (To.sat (by repeat (first | exact .nil | exact .done .refl | (apply To.cons; · (repeat (first | exact .head | apply Sel.tail))) | exact .done (by repeat (first | exact .refl | apply Drop.skip)))))

set_option maxRecDepth 8000 in
set_option maxHeartbeats 2000000 in
theorem kcLay_spec (w c b n : Nat) (L : List Int) (t : Int) (zs : List Value) (I : CI ⟨b, n⟩ L) : FnS Tryz.prog 27 [ptr w 0, ptr c 0] [rmemA w L t, cel c 49 (I64 b :: I64 n :: zs)] (fun u Bs => u = .tuple #[] ∧ Bs = [rmemA w (zap L b (3 + 2 * n)) t, cel c 49 (I64 b :: I64 n :: zs)]) := by
  refine fn_body Tryz.func27 rfl rfl rfl ?_
  intro W0 R
  simp only [List.zipIdx_cons, List.zipIdx_nil, List.map_cons, List.map_nil, Nat.zero_add, Nat.reduceAdd, List.cons_append, List.nil_append]
  have h1 : 1 ≤ n := I.m1
  have h2 : n ≤ 64 := I.m64
  have h5 : b + 3 + 2 * n ≤ L.length := I.len
  have h6 := I.top
  refine g_open (by repeat (first | exact .head | apply Sel.tail)) ?_
  rintro ⟨a, k⟩ -
  simp only [List.cons_append, List.nil_append]
  refine g_seq ?_
  refine g_draw [9] [] [(0, .loc), (1, .loc), (2, .loc), (3, .loc), (4, .loc), (5, .loc), (6, .loc), (7, .loc), (8, .loc), (9, .eff)] [cel c 49 (I64 b :: I64 n :: zs), cel w 54 [.slice a L.length k, I64 t]] mixed (by kernel_rfl) ?_
  refine go_v rfl .none rfl (o_move rfl) ?_
  refine go_v rfl .none rfl (o_nil rfl) ?_
  first | refine go_v rfl .none rfl (o_fldS rfl) ?_ | refine go_v rfl .none rfl (o_fld rfl) ?_
  first | refine go_v rfl .none rfl (o_load rfl rfl) ?_ | refine go_v rfl .none rfl (o_loadS rfl rfl) ?_ | refine go_v rfl .none rfl (o_loadC rfl) ?_
  refine go_v rfl .none rfl (o_move rfl) ?_
  refine go_v rfl .none rfl (o_nil rfl) ?_
  first | refine go_v rfl .none rfl (o_fldS rfl) ?_ | refine go_v rfl .none rfl (o_fld rfl) ?_
  first | refine go_v rfl .none rfl (o_load rfl rfl) ?_ | refine go_v rfl .none rfl (o_loadS rfl rfl) ?_ | refine go_v rfl .none rfl (o_loadC rfl) ?_
  refine go_v rfl .none rfl (o_idxS (j := b) rfl rfl (by omega)) ?_
  refine go_u rfl .none (o_storeS rfl rfl rfl (by simp; omega)) (fun hG => absurd hG (by decide)) ?_
  rw [map_set1]
  refine go_nil ?_
  refine ge_imp (rmem_close (R := cel c 49 (I64 b :: I64 n :: zs) :: R) (p := w) a k (L := L.set b 0) (t := t) rfl rfl (by simp only [List.length_set]; exact (To.sat (by repeat (first | exact .nil | exact .done .refl | (apply To.cons; · (repeat (first | exact .head | apply Sel.tail))) | exact .done (by repeat (first | exact .refl | apply Drop.skip))))))) ?_
  refine ge_then ?_
  refine g_region ?_
  refine gl_v rfl (o_move rfl) ?_
  refine gl_v rfl (o_move rfl) ?_
  refine gl_c rfl (o_call rfl (kcRing_spec c b n zs (by omega) h2) (by repeat (first | exact .nil | (apply Part.cons; · (repeat (first | exact .head | apply Sel.tail)))))) ?_
  rintro _ R ⟨_, ⟨rfl, rfl⟩, rfl⟩
  try simp only [List.cons_append, List.nil_append]
  refine gl_c rfl (o_call rfl (rLay_spec w (b + 1) n (L.set b 0) t ⟨h1, h2, by simp; omega, by simp; omega⟩) (by repeat (first | exact .nil | (apply Part.cons; · (repeat (first | exact .head | apply Sel.tail)))))) ?_
  rintro _ R ⟨_, ⟨rfl, rfl⟩, rfl⟩
  try simp only [List.cons_append, List.nil_append]
  refine gl_nil ?_
  refine ret0 (.inr rfl) rfl [rmemA w (zap L b (3 + 2 * n)) t, cel c 49 (I64 b :: I64 n :: zs)] (⟨rfl, rfl⟩) (by rw [show zap L b (3 + 2 * n) = zap (zap L b 1) (b + 1) (2 + 2 * n) by rw [zap_add, show 1 + (2 + 2 * n) = 3 + 2 * n by omega]]; exact (To.sat (by repeat (first | exact .nil | exact .done .refl | (apply To.cons; · (repeat (first | exact .head | apply Sel.tail))) | exact .done (by repeat (first | exact .refl | apply Drop.skip))))))

attribute [local irreducible] opK
set_option maxRecDepth 8000 in
set_option maxHeartbeats 4000000 in
theorem kmakes_ok (c0 : Int) (b n : Nat) (I : c0 ≤ 1000 → CI ⟨b, n⟩ (List.replicate (cnt c0) 99)) (s1 s2 : Int) (e1 : s1 = b) (e2 : s2 = n) (hm : 1 ≤ n ∧ n ≤ 64) (hb : b ≤ 9223372036854775807) : FnS Tryz.prog 4 [I64 c0, I64 s1, I64 s2] [] (fun u Bs => u = .bool true ∧ Bs = []) := by
  refine fn_body Tryz.func4 rfl rfl rfl ?_
  intro W0 R
  simp only [List.zipIdx_cons, List.zipIdx_nil, List.map_cons, List.map_nil, Nat.zero_add, Nat.reduceAdd, List.cons_append, List.nil_append]
  have hcl := cnt_le c0
  have hrl : (List.replicate (cnt c0) (99 : Int)).length = cnt c0 := List.length_replicate
  subst e1 e2
  refine g_seq ?_
  refine g_region ?_
  refine gl_v rfl (o_assign rfl) ?_
  refine gl_nil ?_
  refine ge_then ?_
  refine g_seq ?_
  refine g_seq ?_
  refine g_region ?_
  refine gl_c rfl (o_call rfl (kalive_spec) (by repeat (first | exact .nil | (apply Part.cons; · (repeat (first | exact .head | apply Sel.tail)))))) ?_
  rintro _ R ⟨_, ⟨rfl, rfl⟩, rfl⟩
  try simp only [List.cons_append, List.nil_append]
  refine gl_v rfl (o_not rfl) ?_
  refine gl_nil ?_
  refine ge_then ?_
  refine g_cond_false (rfl) ?_
  refine g_skip ?_
  refine ge_then ?_
  refine g_seq ?_
  refine g_seq ?_
  refine g_region ?_
  refine gl_v rfl (o_move rfl) ?_
  refine gl_v rfl (o_gtr rfl rfl) ?_
  refine gl_nil ?_
  refine ge_then ?_
  refine g_cond rfl (fun hc1 => ?_) (fun hc1 => ?_)
  ·
    first | replace hc1 := of_decide_eq_true hc1 | replace hc1 := lt_f hc1 | replace hc1 := le_f hc1 | replace hc1 := dec_f hc1 | replace hc1 := nlt_t hc1 | replace hc1 := nle_t hc1 | replace hc1 := ndec_t hc1 | replace hc1 := ndec_f hc1 | replace hc1 := nn_t hc1 | replace hc1 := nn_f hc1 | skip
    refine g_seq ?_
    refine g_region ?_
    refine gl_v rfl (o_assign rfl) ?_
    refine gl_nil ?_
    refine ge_then ?_
    refine g_ret ?_
    refine ge_then_ret ?_
    refine ret1 (.inl rfl) rfl rfl _ (⟨by simp, rfl⟩) (To.sat (by repeat (first | exact .nil | exact .done .refl | (apply To.cons; · (repeat (first | exact .head | apply Sel.tail))) | exact .done (by repeat (first | exact .refl | apply Drop.skip)))))
  ·
    first | replace hc1 := of_decide_eq_true hc1 | replace hc1 := lt_f hc1 | replace hc1 := le_f hc1 | replace hc1 := dec_f hc1 | replace hc1 := nlt_t hc1 | replace hc1 := nle_t hc1 | replace hc1 := ndec_t hc1 | replace hc1 := ndec_f hc1 | replace hc1 := nn_t hc1 | replace hc1 := nn_f hc1 | skip
    have I := I hc1
    have hI5 : b + 3 + 2 * n ≤ _ := I.len
    simp only [List.length_replicate] at hI5
    refine g_skip ?_
    refine ge_then ?_
    refine g_seq ?_
    refine g_region ?_
    refine gl_v rfl (o_move rfl) ?_
    refine gl_c rfl (o_call rfl (New_spec c0) (by repeat (first | exact .nil | (apply Part.cons; · (repeat (first | exact .head | apply Sel.tail)))))) ?_
    rintro _ R ⟨_, ⟨m, rfl, rfl⟩, rfl⟩
    try simp only [List.cons_append, List.nil_append]
    rw [← fil_0 99]
    refine gl_v rfl (o_assign rfl) ?_
    refine gl_nil ?_
    refine ge_then ?_
    refine g_seq ?_
    refine g_seq ?_
    refine g_region ?_
    refine gl_v rfl (o_assign rfl) ?_
    refine gl_nil ?_
    refine ge_then ?_
    refine g_block ?_
    refine g_loop (ι := Nat) (fun x => x ≤ cnt c0) (fun x => [(8, I64 x), (7, ptr m 0), (0, I64 c0), (6, .bool false), (1, I64 b), (2, I64 n)]) (fun x => memA m (fil 99 (cnt c0) x) (tupN x 0) :: R) (fun x => cnt c0 - x) 0 (Nat.zero_le _) (Keep.cons rfl (Keep.cons rfl (Keep.cons rfl (Keep.cons rfl (Keep.cons rfl (Keep.cons rfl (Keep.nil))))))) (To.sat (by repeat (first | exact .nil | exact .done .refl | (apply To.cons; · (repeat (first | exact .head | apply Sel.tail))) | exact .done (by repeat (first | exact .refl | apply Drop.skip))))) ?_
    intro k hk
    refine g_seq ?_
    refine g_seq ?_
    refine g_region ?_
    refine gl_v rfl (o_move rfl) ?_
    refine gl_v rfl (o_move rfl) ?_
    refine gl_c rfl (o_call rfl (Len_spec m (fil 99 (cnt c0) k) _) (by repeat (first | exact .nil | (apply Part.cons; · (repeat (first | exact .head | apply Sel.tail)))))) ?_
    rintro _ R ⟨_, ⟨rfl, rfl⟩, rfl⟩
    try simp only [List.cons_append, List.nil_append]
    rw [fil_len _ hk]
    refine gl_v rfl (o_lss rfl rfl) ?_
    refine gl_nil ?_
    refine ge_then ?_
    refine g_cond rfl (fun hc2 => ?_) (fun hc2 => ?_)
    ·
      first | replace hc2 := of_decide_eq_true hc2 | replace hc2 := lt_f hc2 | replace hc2 := le_f hc2 | replace hc2 := dec_f hc2 | replace hc2 := nlt_t hc2 | replace hc2 := nle_t hc2 | replace hc2 := ndec_t hc2 | replace hc2 := ndec_f hc2 | replace hc2 := nn_t hc2 | replace hc2 := nn_f hc2 | skip
      refine g_skip ?_
      refine ge_then ?_
      refine g_seq ?_
      refine g_block ?_
      refine g_region ?_
      refine gl_v rfl (o_move rfl) ?_
      refine gl_v rfl (o_move rfl) ?_
      refine gl_c rfl (o_call rfl (Store_spec m (fil 99 (cnt c0) k) _ k (by rw [fil_len _ hk]; omega) _) (by repeat (first | exact .nil | (apply Part.cons; · (repeat (first | exact .head | apply Sel.tail)))))) ?_
      rintro _ R ⟨_, ⟨rfl, rfl⟩, rfl⟩
      try simp only [List.cons_append, List.nil_append]
      rw [fil_set _ (by omega)]
      refine gl_nil ?_
      refine ge_block ?_
      refine ge_then ?_
      refine g_region ?_
      refine gl_v rfl (o_move rfl) ?_
      refine gl_v rfl (o_addR _ (by first | exact wr_i64 (by omega) | rfl) rfl rfl) ?_
      refine gl_v rfl (o_assign rfl) ?_
      refine gl_nil ?_
      refine ge_round (k + 1) (show k + 1 ≤ _ by omega) (by omega) (Keep.cons rfl (Keep.cons rfl (Keep.cons rfl (Keep.cons rfl (Keep.cons rfl (Keep.cons rfl (Keep.nil))))))) (To.sat (by repeat (first | exact .nil | exact .done .refl | (apply To.cons; · (repeat (first | exact .head | apply Sel.tail))) | exact .done (by repeat (first | exact .refl | apply Drop.skip)))))
    ·
      first | replace hc2 := of_decide_eq_true hc2 | replace hc2 := lt_f hc2 | replace hc2 := le_f hc2 | replace hc2 := dec_f hc2 | replace hc2 := nlt_t hc2 | replace hc2 := nle_t hc2 | replace hc2 := ndec_t hc2 | replace hc2 := ndec_f hc2 | replace hc2 := nn_t hc2 | replace hc2 := nn_f hc2 | skip
      obtain rfl : k = cnt c0 := by omega
      rw [fil_full]
      refine g_exit ?_
      refine ge_then_exit ?_
      refine ge_then_exit ?_
      refine ge_block_exit ?_
      refine ge_then ?_
      refine g_seq ?_
      refine g_region ?_
      refine gl_v rfl (o_move rfl) ?_
      refine gl_v rfl (o_move rfl) ?_
      refine gl_v rfl (o_move rfl) ?_
      refine gl_c rfl (o_call rfl (kMake_spec m b n (List.replicate (cnt c0) (99 : Int)) _ I) (by repeat (first | exact .nil | (apply Part.cons; · (repeat (first | exact .head | apply Sel.tail)))))) ?_
      rintro _ R ⟨_, ⟨X, rfl, rfl, rfl⟩, rfl⟩
      try simp only [List.cons_append, List.nil_append]
      refine gl_v rfl (o_move rfl) ?_
      refine gl_v rfl (o_extract rfl rfl) ?_
      refine gl_v rfl (o_extract rfl rfl) ?_
      refine gl_v rfl (o_assign rfl) ?_
      refine gl_v rfl (o_assign rfl) ?_
      refine gl_nil ?_
      refine ge_then ?_
      refine g_seq ?_
      refine g_region ?_
      refine gl_v rfl (o_move rfl) ?_
      refine gl_v rfl (o_move rfl) ?_
      refine gl_c rfl (o_call rfl (kMake_nil _ _) (by repeat (first | exact .nil | (apply Part.cons; · (repeat (first | exact .head | apply Sel.tail)))))) ?_
      rintro _ R ⟨_, ⟨rfl, rfl⟩, rfl⟩
      try simp only [List.cons_append, List.nil_append]
      refine gl_v rfl (o_move rfl) ?_
      refine gl_v rfl (o_extract rfl rfl) ?_
      refine gl_v rfl (o_extract rfl rfl) ?_
      refine gl_v rfl (o_assign rfl) ?_
      refine gl_v rfl (o_assign rfl) ?_
      refine gl_nil ?_
      refine ge_then ?_
      refine g_seq ?_
      refine g_region ?_
      refine gl_v rfl (o_move rfl) ?_
      refine gl_v rfl (o_move rfl) ?_
      refine gl_v rfl (o_build rfl rfl) ?_
      refine gl_n rfl (o_boxA rfl) ?_
      rintro _ _ ⟨b48, rfl, rfl⟩
      refine gl_v rfl (o_assign rfl) ?_
      refine gl_nil ?_
      refine ge_then ?_
      refine g_seq ?_
      refine g_region ?_
      refine gl_v rfl (o_assign rfl) ?_
      refine gl_nil ?_
      refine ge_then ?_
      refine g_seq ?_
      refine g_seq ?_
      refine g_region ?_
      refine gl_v rfl (o_move rfl) ?_
      refine gl_v rfl (o_is (c := true) (by first | rfl | exact decide_eq_true (by omega) | (simp; done) | (simp; omega)) (o_geq rfl rfl)) ?_
      refine gl_v rfl (o_move rfl) ?_
      refine gl_gT rfl rfl rfl ?_
      refine gl_v rfl (o_move rfl) ?_
      refine gl_gT rfl rfl rfl ?_
      refine gl_v rfl (o_is (c := true) (by first | rfl | exact decide_eq_true (by omega) | (simp; done) | (simp; omega)) (o_leq rfl rfl)) ?_
      refine gl_v rfl (o_pickT rfl rfl rfl) ?_
      refine gl_nil ?_
      refine ge_then ?_
      refine g_cond_true rfl ?_
      refine g_region ?_
      refine gl_v rfl (o_move rfl) ?_
      refine gl_c rfl (o_call rfl (kcSize_spec b48 (b : Int) (n : Int) [I64 0, .slice none 0 0, .slice none 0 0] (by omega)) (by repeat (first | exact .nil | (apply Part.cons; · (repeat (first | exact .head | apply Sel.tail)))))) ?_
      rintro _ R ⟨_, ⟨rfl, rfl⟩, rfl⟩
      try simp only [List.cons_append, List.nil_append]
      refine gl_v rfl (o_assign rfl) ?_
      refine gl_nil ?_
      refine ge_then ?_
      refine g_seq ?_
      refine g_seq ?_
      refine g_region ?_
      refine gl_v rfl (o_move rfl) ?_
      refine gl_v rfl (o_neqnn rfl rfl) ?_
      refine gl_v rfl (o_move rfl) ?_
      refine gl_gT rfl rfl rfl ?_
      refine gl_v rfl (o_move rfl) ?_
      refine gl_gT rfl rfl rfl ?_
      refine gl_v rfl (o_is (c := false) (by first | rfl | exact decide_eq_false (by omega) | (simp; done) | (simp; omega)) (o_neq rfl rfl)) ?_
      refine gl_v rfl (o_pickF rfl rfl rfl) ?_
      refine gl_v rfl (o_move rfl) ?_
      refine gl_gT rfl rfl rfl ?_
      refine gl_v rfl (o_move rfl) ?_
      refine gl_gT rfl rfl rfl ?_
      refine gl_c rfl (o_call rfl (kSize_ok hm.1 hm.2) (by repeat (first | exact .nil | (apply Part.cons; · (repeat (first | exact .head | apply Sel.tail)))))) ?_
      rintro _ R ⟨_, ⟨rfl, rfl⟩, rfl⟩
      try simp only [List.cons_append, List.nil_append]
      refine gl_gT rfl rfl rfl ?_
      refine gl_v rfl (o_move rfl) ?_
      refine gl_gT rfl rfl rfl ?_
      refine gl_v rfl (o_is (c := false) (by first | (simp; done) | (simp; omega)) (o_neq rfl rfl)) ?_
      refine gl_v rfl (o_pickF rfl rfl rfl) ?_
      refine gl_nil ?_
      refine ge_then ?_
      refine g_cond_false rfl ?_
      refine g_skip ?_
      refine ge_then ?_
      refine g_seq ?_
      refine g_region ?_
      refine gl_v rfl (o_move rfl) ?_
      refine gl_c rfl (o_call rfl (rNew_spec c0) (by repeat (first | exact .nil | (apply Part.cons; · (repeat (first | exact .head | apply Sel.tail)))))) ?_
      rintro _ R ⟨_, ⟨w, rfl, rfl⟩, rfl⟩
      try simp only [List.cons_append, List.nil_append]
      rw [← fil_0 99]
      refine gl_v rfl (o_assign rfl) ?_
      refine gl_nil ?_
      refine ge_then ?_
      refine g_seq ?_
      refine g_seq ?_
      refine g_region ?_
      refine gl_v rfl (o_assign rfl) ?_
      refine gl_nil ?_
      refine ge_then ?_
      refine g_block ?_
      refine g_loop (ι := Nat) (fun x => x ≤ cnt c0) (fun x => [(16, I64 x), (15, ptr w 0), (14, I64 (3 + 2 * (n : Int))), (13, ptr b48 0), (9, ptr X.c 0), (10, I64 0), (0, I64 c0), (7, ptr X.m 0), (6, .bool false), (1, I64 b), (2, I64 n)]) (fun x => rmemA w (fil 99 (cnt c0) x) 0 :: cel b48 49 (I64 b :: I64 n :: [I64 0, .slice none 0 0, .slice none 0 0]) :: envK X ⟨b, n⟩ (zap (List.replicate (cnt c0) (99 : Int)) b (3 + 2 * n)) (tupN (3 + 2 * n) (tupN (cnt c0) 0)) ⟨0, 0, []⟩ :: R) (fun x => cnt c0 - x) 0 (Nat.zero_le _) (Keep.cons rfl (Keep.cons rfl (Keep.cons rfl (Keep.cons rfl (Keep.cons rfl (Keep.cons rfl (Keep.cons rfl (Keep.cons rfl (Keep.cons rfl (Keep.cons rfl (Keep.cons rfl (Keep.nil)))))))))))) (To.sat (by repeat (first | exact .nil | exact .done .refl | (apply To.cons; · (repeat (first | exact .head | apply Sel.tail))) | exact .done (by repeat (first | exact .refl | apply Drop.skip))))) ?_
      intro k hk
      refine g_open (by repeat (first | exact .head | apply Sel.tail)) ?_
      rintro ⟨aw, cw⟩ -
      simp only [List.cons_append, List.nil_append]
      have hfl := fil_len 99 hk
      refine g_seq ?_
      refine g_seq ?_
      refine g_region ?_
      refine gl_v rfl (o_move rfl) ?_
      refine gl_v rfl (o_move rfl) ?_
      refine gl_v rfl (o_nil rfl) ?_
      first | refine gl_v rfl (o_fldS rfl) ?_ | refine gl_v rfl (o_fld rfl) ?_
      first | refine gl_v rfl (o_load rfl rfl) ?_ | refine gl_v rfl (o_loadS rfl rfl) ?_ | refine gl_v rfl (o_loadC rfl) ?_
      refine gl_v rfl (o_lenL rfl) ?_
      refine gl_v rfl (o_lss rfl rfl) ?_
      refine gl_nil ?_
      refine ge_then ?_
      refine g_cond rfl (fun hc3 => ?_) (fun hc3 => ?_)
      ·
        first | replace hc3 := of_decide_eq_true hc3 | replace hc3 := lt_f hc3 | replace hc3 := le_f hc3 | replace hc3 := dec_f hc3 | replace hc3 := nlt_t hc3 | replace hc3 := nle_t hc3 | replace hc3 := ndec_t hc3 | replace hc3 := ndec_f hc3 | replace hc3 := nn_t hc3 | replace hc3 := nn_f hc3 | skip
        refine g_skip ?_
        refine ge_then ?_
        refine g_seq ?_
        refine g_block ?_
        refine g_region ?_
        refine gl_v rfl (o_move rfl) ?_
        refine gl_v rfl (o_nil rfl) ?_
        first | refine gl_v rfl (o_fldS rfl) ?_ | refine gl_v rfl (o_fld rfl) ?_
        first | refine gl_v rfl (o_load rfl rfl) ?_ | refine gl_v rfl (o_loadS rfl rfl) ?_ | refine gl_v rfl (o_loadC rfl) ?_
        refine gl_v rfl (o_move rfl) ?_
        refine gl_v rfl (o_idxS (j := k) rfl rfl (by omega)) ?_
        refine gl_u (o_storeS rfl rfl rfl (by simp; omega)) ?_
        rw [map_set1]
        refine gl_nil ?_
        refine ge_block ?_
        refine ge_then ?_
        refine g_region ?_
        refine gl_v rfl (o_move rfl) ?_
        refine gl_v rfl (o_addR _ (by first | exact wr_i64 (by omega) | rfl) rfl rfl) ?_
        refine gl_v rfl (o_assign rfl) ?_
        refine gl_nil ?_
        refine ge_round (k + 1) (show k + 1 ≤ _ by omega) (by omega) (Keep.cons rfl (Keep.cons rfl (Keep.cons rfl (Keep.cons rfl (Keep.cons rfl (Keep.cons rfl (Keep.cons rfl (Keep.cons rfl (Keep.cons rfl (Keep.cons rfl (Keep.cons rfl (Keep.nil)))))))))))) (rmem_close aw cw (fil_set 99 (by omega)).symm rfl (by simp only [List.length_set]; exact (To.sat (by repeat (first | exact .nil | exact .done .refl | (apply To.cons; · (repeat (first | exact .head | apply Sel.tail))) | exact .done (by repeat (first | exact .refl | apply Drop.skip)))))))
      ·
        first | replace hc3 := of_decide_eq_true hc3 | replace hc3 := lt_f hc3 | replace hc3 := le_f hc3 | replace hc3 := dec_f hc3 | replace hc3 := nlt_t hc3 | replace hc3 := nle_t hc3 | replace hc3 := ndec_t hc3 | replace hc3 := ndec_f hc3 | replace hc3 := nn_t hc3 | replace hc3 := nn_f hc3 | skip
        obtain rfl : k = cnt c0 := by omega
        rw [fil_full]
        refine g_exit ?_
        refine ge_then_exit ?_
        refine ge_then_exit ?_
        refine ge_block_exit ?_
        refine ge_then ?_
        refine g_seq ?_
        refine g_seq ?_
        refine g_region ?_
        refine gl_v rfl (o_move rfl) ?_
        refine gl_v rfl (o_is (c := false) (by first | rfl | exact decide_eq_false (by omega) | (simp; done) | (simp; omega)) (o_eql rfl rfl)) ?_
        refine gl_v rfl (o_move rfl) ?_
        refine gl_gT rfl rfl rfl ?_
        refine gl_v rfl (o_move rfl) ?_
        refine gl_gT rfl rfl rfl ?_
        refine gl_v rfl (o_is (c := false) (by first | rfl | exact decide_eq_false (by omega) | (simp; done) | (simp; omega)) (o_lss rfl rfl)) ?_
        refine gl_v rfl (o_pickF rfl rfl rfl) ?_
        refine gl_v rfl (o_move rfl) ?_
        refine gl_gT rfl rfl rfl ?_
        refine gl_v rfl (o_move rfl) ?_
        refine gl_gT rfl rfl rfl ?_
        refine gl_v rfl (o_move rfl) ?_
        refine gl_gT rfl rfl rfl ?_
        refine gl_v rfl (o_nil rfl) ?_
        refine gl_gT rfl rfl rfl ?_
        first | refine gl_v rfl (o_fldS rfl) ?_ | refine gl_v rfl (o_fld rfl) ?_
        refine gl_gT rfl rfl rfl ?_
        first | refine gl_v rfl (o_load rfl rfl) ?_ | refine gl_v rfl (o_loadS rfl rfl) ?_ | refine gl_v rfl (o_loadC rfl) ?_
        refine gl_gT rfl rfl rfl ?_
        refine gl_v rfl (o_lenL rfl) ?_
        refine gl_gT rfl rfl rfl ?_
        refine gl_v rfl (o_move rfl) ?_
        refine gl_gT rfl rfl rfl ?_
        refine gl_v rfl (o_subR ((cnt c0 : Int) - (3 + 2 * (n : Int))) (by rw [hrl]; exact wr_i64 (by omega)) rfl rfl) ?_
        refine gl_gT rfl rfl rfl ?_
        refine gl_v rfl (o_is (c := false) (by first | rfl | exact decide_eq_false (by omega) | (simp; done) | (simp; omega)) (o_gtr rfl rfl)) ?_
        refine gl_v rfl (o_pickF rfl rfl rfl) ?_
        refine gl_nil ?_
        refine ge_then ?_
        refine g_cond_false rfl ?_
        refine g_skip ?_
        refine ge_then ?_
        refine g_seq ?_
        refine g_imp (rmem_close (p := w) aw cw rfl rfl (To.sat (by repeat (first | exact .nil | exact .done .refl | (apply To.cons; · (repeat (first | exact .head | apply Sel.tail))) | exact .done (by repeat (first | exact .refl | apply Drop.skip)))))) ?_
        refine g_region ?_
        refine gl_v rfl (o_move rfl) ?_
        refine gl_v rfl (o_move rfl) ?_
        refine gl_c rfl (o_call rfl (kcLay_spec w b48 b n (List.replicate (cnt c0) (99 : Int)) 0 [I64 0, .slice none 0 0, .slice none 0 0] I) (by repeat (first | exact .nil | (apply Part.cons; · (repeat (first | exact .head | apply Sel.tail)))))) ?_
        rintro _ R ⟨_, ⟨rfl, rfl⟩, rfl⟩
        try simp only [List.cons_append, List.nil_append]
        refine gl_open (ι := Option Addr × Nat) (by repeat (first | exact .head | apply Sel.tail)) ?_
        rintro ⟨ax, cx⟩ -
        simp only [List.cons_append, List.nil_append]
        refine gl_nil ?_
        refine ge_then ?_
        refine g_seq ?_
        refine g_open (ι := Unit) (by repeat (first | exact .head | apply Sel.tail)) ?_
        rintro _ -
        simp only [List.cons_append, List.nil_append]
        refine g_draw [8, 13] [8] [(0, .loc), (1, .loc), (2, .loc), (3, .loc), (4, .loc), (5, .loc), (6, .loc), (7, .loc), (9, .stab), (10, .stab), (11, .stab), (12, .stab), (8, .eff), (13, .eff), (14, .loc), (15, .loc)] [cel w 54 [.slice ax (zap (List.replicate (cnt c0) (99 : Int)) b (3 + 2 * n)).length cx, I64 0]] mixed (by kernel_rfl) ?_
        refine go_v rfl .none rfl (o_move rfl) ?_
        refine go_v rfl .none rfl (o_neqPn rfl rfl) ?_
        refine go_v rfl .none rfl (o_move rfl) ?_
        refine go_v rfl (.yes rfl rfl rfl) rfl (o_move rfl) ?_
        refine go_v rfl (.yes rfl rfl rfl) rfl (o_is (c := true) (by first | rfl | exact decide_eq_true (by omega) | (simp; done) | (simp; omega)) (o_eql rfl rfl)) ?_
        refine go_v rfl .none rfl (o_pickT rfl rfl rfl) ?_
        refine go_v rfl .none rfl (o_move rfl) ?_
        refine go_v rfl (.yes rfl rfl rfl) rfl (o_move rfl) ?_
        refine go_vs rfl (.yes rfl rfl rfl) rfl (o_move rfl) (To.sat (by repeat (first | exact .nil | exact .done .refl | (apply To.cons; · (repeat (first | exact .head | apply Sel.tail))) | exact .done (by repeat (first | exact .refl | apply Drop.skip))))) ?_
        refine go_vs rfl (.yes rfl rfl rfl) rfl (o_nil rfl) (To.sat (by repeat (first | exact .nil | exact .done .refl | (apply To.cons; · (repeat (first | exact .head | apply Sel.tail))) | exact .done (by repeat (first | exact .refl | apply Drop.skip))))) ?_
        first | refine go_vs rfl (.yes rfl rfl rfl) rfl (o_fldS rfl) (To.sat (by repeat (first | exact .nil | exact .done .refl | (apply To.cons; · (repeat (first | exact .head | apply Sel.tail))) | exact .done (by repeat (first | exact .refl | apply Drop.skip))))) ?_ | refine go_vs rfl (.yes rfl rfl rfl) rfl (o_fld rfl) (To.sat (by repeat (first | exact .nil | exact .done .refl | (apply To.cons; · (repeat (first | exact .head | apply Sel.tail))) | exact .done (by repeat (first | exact .refl | apply Drop.skip))))) ?_
        first | refine go_vs rfl (.yes rfl rfl rfl) rfl (o_load rfl rfl) (To.sat (by repeat (first | exact .nil | exact .done .refl | (apply To.cons; · (repeat (first | exact .head | apply Sel.tail))) | exact .done (by repeat (first | exact .refl | apply Drop.skip))))) ?_ | refine go_vs rfl (.yes rfl rfl rfl) rfl (o_loadS rfl rfl) (To.sat (by repeat (first | exact .nil | exact .done .refl | (apply To.cons; · (repeat (first | exact .head | apply Sel.tail))) | exact .done (by repeat (first | exact .refl | apply Drop.skip))))) ?_ | refine go_vs rfl (.yes rfl rfl rfl) rfl (o_loadC rfl) (To.sat (by repeat (first | exact .nil | exact .done .refl | (apply To.cons; · (repeat (first | exact .head | apply Sel.tail))) | exact .done (by repeat (first | exact .refl | apply Drop.skip))))) ?_
        refine go_c rfl (.yes rfl rfl rfl) rfl (o_call rfl (All_spec X.m (zap (List.replicate (cnt c0) (99 : Int)) b (3 + 2 * n)) _ (by simp [zap_len]; omega)) (by repeat (first | exact .nil | (apply Part.cons; · (repeat (first | exact .head | apply Sel.tail)))))) ?_
        rintro _ R ⟨_, ⟨a', c', rfl, rfl⟩, rfl⟩
        try simp only [List.cons_append, List.nil_append]
        refine ⟨(fun _ => (To.sat (by repeat (first | exact .nil | exact .done .refl | (apply To.cons; · (repeat (first | exact .head | apply Sel.tail))) | exact .done (by repeat (first | exact .refl | apply Drop.skip)))))), ?_⟩
        refine go_c rfl (.yes rfl rfl rfl) rfl (o_call rfl (rSame_spec (.slice a' (zap (List.replicate (cnt c0) (99 : Int)) b (3 + 2 * n)).length c') (.slice ax (zap (List.replicate (cnt c0) (99 : Int)) b (3 + 2 * n)).length cx) (zap (List.replicate (cnt c0) (99 : Int)) b (3 + 2 * n)) (zap (List.replicate (cnt c0) (99 : Int)) b (3 + 2 * n)) (by simp [zap_len]; omega) (by simp [zap_len]; omega) (own (.slice a' (zap (List.replicate (cnt c0) (99 : Int)) b (3 + 2 * n)).length c') 22 1 (zap (List.replicate (cnt c0) (99 : Int)) b (3 + 2 * n)).length ((zap (List.replicate (cnt c0) (99 : Int)) b (3 + 2 * n)).map U64)) (own (.slice ax (zap (List.replicate (cnt c0) (99 : Int)) b (3 + 2 * n)).length cx) 22 1 (zap (List.replicate (cnt c0) (99 : Int)) b (3 + 2 * n)).length ((zap (List.replicate (cnt c0) (99 : Int)) b (3 + 2 * n)).map U64))) (by repeat (first | exact .nil | (apply Part.cons; · (repeat (first | exact .head | apply Sel.tail)))))) ?_
        rintro _ R ⟨_, ⟨rfl, rfl⟩, rfl⟩
        try simp only [List.cons_append, List.nil_append]
        refine ⟨(fun hG => absurd hG (by decide)), ?_⟩
        refine go_v rfl .none rfl (o_pickT rfl rfl rfl) ?_
        refine go_v rfl .none rfl (o_assign rfl) ?_
        refine go_nil ?_
        refine ge_then ?_
        refine g_ret ?_
        refine ret1 (.inl rfl) rfl rfl _ (⟨by simp, rfl⟩) (To.sat (by repeat (first | exact .nil | exact .done .refl | (apply To.cons; · (repeat (first | exact .head | apply Sel.tail))) | exact .done (by repeat (first | exact .refl | apply Drop.skip)))))

set_option maxRecDepth 8000 in
set_option maxHeartbeats 4000000 in
theorem kmakes_no (c0 s1 s2 : Int) (hb : -9223372036854775808 ≤ s1 ∧ s1 ≤ 9223372036854775807) (hb2 : -9223372036854775808 ≤ s2 ∧ s2 ≤ 9223372036854775807) (hno : sizeK s2 = 0 ∨ s1 < 0 ∨ s1 > cnt c0 - sizeK s2) : FnS Tryz.prog 4 [I64 c0, I64 s1, I64 s2] [] (fun u Bs => u = .bool true ∧ Bs = []) := by
  refine fn_body Tryz.func4 rfl rfl rfl ?_
  intro W0 R
  simp only [List.zipIdx_cons, List.zipIdx_nil, List.map_cons, List.map_nil, Nat.zero_add, Nat.reduceAdd, List.cons_append, List.nil_append]
  have hcl := cnt_le c0
  have hrl : (List.replicate (cnt c0) (99 : Int)).length = cnt c0 := List.length_replicate
  have hz := sizeK_val s2
  have hz0 := sizeK_in s2
  refine g_seq ?_
  refine g_region ?_
  refine gl_v rfl (o_assign rfl) ?_
  refine gl_nil ?_
  refine ge_then ?_
  refine g_seq ?_
  refine g_seq ?_
  refine g_region ?_
  refine gl_c rfl (o_call rfl (kalive_spec) (by repeat (first | exact .nil | (apply Part.cons; · (repeat (first | exact .head | apply Sel.tail)))))) ?_
  rintro _ R ⟨_, ⟨rfl, rfl⟩, rfl⟩
  try simp only [List.cons_append, List.nil_append]
  refine gl_v rfl (o_not rfl) ?_
  refine gl_nil ?_
  refine ge_then ?_
  refine g_cond_false (rfl) ?_
  refine g_skip ?_
  refine ge_then ?_
  refine g_seq ?_
  refine g_seq ?_
  refine g_region ?_
  refine gl_v rfl (o_move rfl) ?_
  refine gl_v rfl (o_gtr rfl rfl) ?_
  refine gl_nil ?_
  refine ge_then ?_
  refine g_cond rfl (fun hc1 => ?_) (fun hc1 => ?_)
  ·
    first | replace hc1 := of_decide_eq_true hc1 | replace hc1 := lt_f hc1 | replace hc1 := le_f hc1 | replace hc1 := dec_f hc1 | replace hc1 := nlt_t hc1 | replace hc1 := nle_t hc1 | replace hc1 := ndec_t hc1 | replace hc1 := ndec_f hc1 | replace hc1 := nn_t hc1 | replace hc1 := nn_f hc1 | skip
    refine g_seq ?_
    refine g_region ?_
    refine gl_v rfl (o_assign rfl) ?_
    refine gl_nil ?_
    refine ge_then ?_
    refine g_ret ?_
    refine ge_then_ret ?_
    refine ret1 (.inl rfl) rfl rfl _ (⟨by simp, rfl⟩) (To.sat (by repeat (first | exact .nil | exact .done .refl | (apply To.cons; · (repeat (first | exact .head | apply Sel.tail))) | exact .done (by repeat (first | exact .refl | apply Drop.skip)))))
  ·
    first | replace hc1 := of_decide_eq_true hc1 | replace hc1 := lt_f hc1 | replace hc1 := le_f hc1 | replace hc1 := dec_f hc1 | replace hc1 := nlt_t hc1 | replace hc1 := nle_t hc1 | replace hc1 := ndec_t hc1 | replace hc1 := ndec_f hc1 | replace hc1 := nn_t hc1 | replace hc1 := nn_f hc1 | skip
    refine g_skip ?_
    refine ge_then ?_
    refine g_seq ?_
    refine g_region ?_
    refine gl_v rfl (o_move rfl) ?_
    refine gl_c rfl (o_call rfl (New_spec c0) (by repeat (first | exact .nil | (apply Part.cons; · (repeat (first | exact .head | apply Sel.tail)))))) ?_
    rintro _ R ⟨_, ⟨m, rfl, rfl⟩, rfl⟩
    try simp only [List.cons_append, List.nil_append]
    rw [← fil_0 99]
    refine gl_v rfl (o_assign rfl) ?_
    refine gl_nil ?_
    refine ge_then ?_
    refine g_seq ?_
    refine g_seq ?_
    refine g_region ?_
    refine gl_v rfl (o_assign rfl) ?_
    refine gl_nil ?_
    refine ge_then ?_
    refine g_block ?_
    refine g_loop (ι := Nat) (fun x => x ≤ cnt c0) (fun x => [(8, I64 x), (7, ptr m 0), (0, I64 c0), (6, .bool false), (1, I64 s1), (2, I64 s2)]) (fun x => memA m (fil 99 (cnt c0) x) (tupN x 0) :: R) (fun x => cnt c0 - x) 0 (Nat.zero_le _) (Keep.cons rfl (Keep.cons rfl (Keep.cons rfl (Keep.cons rfl (Keep.cons rfl (Keep.cons rfl (Keep.nil))))))) (To.sat (by repeat (first | exact .nil | exact .done .refl | (apply To.cons; · (repeat (first | exact .head | apply Sel.tail))) | exact .done (by repeat (first | exact .refl | apply Drop.skip))))) ?_
    intro k hk
    refine g_seq ?_
    refine g_seq ?_
    refine g_region ?_
    refine gl_v rfl (o_move rfl) ?_
    refine gl_v rfl (o_move rfl) ?_
    refine gl_c rfl (o_call rfl (Len_spec m (fil 99 (cnt c0) k) _) (by repeat (first | exact .nil | (apply Part.cons; · (repeat (first | exact .head | apply Sel.tail)))))) ?_
    rintro _ R ⟨_, ⟨rfl, rfl⟩, rfl⟩
    try simp only [List.cons_append, List.nil_append]
    rw [fil_len _ hk]
    refine gl_v rfl (o_lss rfl rfl) ?_
    refine gl_nil ?_
    refine ge_then ?_
    refine g_cond rfl (fun hc2 => ?_) (fun hc2 => ?_)
    ·
      first | replace hc2 := of_decide_eq_true hc2 | replace hc2 := lt_f hc2 | replace hc2 := le_f hc2 | replace hc2 := dec_f hc2 | replace hc2 := nlt_t hc2 | replace hc2 := nle_t hc2 | replace hc2 := ndec_t hc2 | replace hc2 := ndec_f hc2 | replace hc2 := nn_t hc2 | replace hc2 := nn_f hc2 | skip
      refine g_skip ?_
      refine ge_then ?_
      refine g_seq ?_
      refine g_block ?_
      refine g_region ?_
      refine gl_v rfl (o_move rfl) ?_
      refine gl_v rfl (o_move rfl) ?_
      refine gl_c rfl (o_call rfl (Store_spec m (fil 99 (cnt c0) k) _ k (by rw [fil_len _ hk]; omega) _) (by repeat (first | exact .nil | (apply Part.cons; · (repeat (first | exact .head | apply Sel.tail)))))) ?_
      rintro _ R ⟨_, ⟨rfl, rfl⟩, rfl⟩
      try simp only [List.cons_append, List.nil_append]
      rw [fil_set _ (by omega)]
      refine gl_nil ?_
      refine ge_block ?_
      refine ge_then ?_
      refine g_region ?_
      refine gl_v rfl (o_move rfl) ?_
      refine gl_v rfl (o_addR _ (by first | exact wr_i64 (by omega) | rfl) rfl rfl) ?_
      refine gl_v rfl (o_assign rfl) ?_
      refine gl_nil ?_
      refine ge_round (k + 1) (show k + 1 ≤ _ by omega) (by omega) (Keep.cons rfl (Keep.cons rfl (Keep.cons rfl (Keep.cons rfl (Keep.cons rfl (Keep.cons rfl (Keep.nil))))))) (To.sat (by repeat (first | exact .nil | exact .done .refl | (apply To.cons; · (repeat (first | exact .head | apply Sel.tail))) | exact .done (by repeat (first | exact .refl | apply Drop.skip)))))
    ·
      first | replace hc2 := of_decide_eq_true hc2 | replace hc2 := lt_f hc2 | replace hc2 := le_f hc2 | replace hc2 := dec_f hc2 | replace hc2 := nlt_t hc2 | replace hc2 := nle_t hc2 | replace hc2 := ndec_t hc2 | replace hc2 := ndec_f hc2 | replace hc2 := nn_t hc2 | replace hc2 := nn_f hc2 | skip
      obtain rfl : k = cnt c0 := by omega
      rw [fil_full]
      refine g_exit ?_
      refine ge_then_exit ?_
      refine ge_then_exit ?_
      refine ge_block_exit ?_
      refine ge_then ?_
      refine g_seq ?_
      refine g_region ?_
      refine gl_v rfl (o_move rfl) ?_
      refine gl_v rfl (o_move rfl) ?_
      refine gl_v rfl (o_move rfl) ?_
      refine gl_c rfl (o_call rfl (kMake_no m s1 s2 (List.replicate (cnt c0) (99 : Int)) _ (by simp; omega) hb (by simpa using hno)) (by repeat (first | exact .nil | (apply Part.cons; · (repeat (first | exact .head | apply Sel.tail)))))) ?_
      rintro _ R ⟨_, ⟨rfl, rfl⟩, rfl⟩
      try simp only [List.cons_append, List.nil_append]
      refine gl_v rfl (o_move rfl) ?_
      refine gl_v rfl (o_extract rfl rfl) ?_
      refine gl_v rfl (o_extract rfl rfl) ?_
      refine gl_v rfl (o_assign rfl) ?_
      refine gl_v rfl (o_assign rfl) ?_
      refine gl_nil ?_
      refine ge_then ?_
      refine g_seq ?_
      refine g_region ?_
      refine gl_v rfl (o_move rfl) ?_
      refine gl_v rfl (o_move rfl) ?_
      refine gl_c rfl (o_call rfl (kMake_nil _ _) (by repeat (first | exact .nil | (apply Part.cons; · (repeat (first | exact .head | apply Sel.tail)))))) ?_
      rintro _ R ⟨_, ⟨rfl, rfl⟩, rfl⟩
      try simp only [List.cons_append, List.nil_append]
      refine gl_v rfl (o_move rfl) ?_
      refine gl_v rfl (o_extract rfl rfl) ?_
      refine gl_v rfl (o_extract rfl rfl) ?_
      refine gl_v rfl (o_assign rfl) ?_
      refine gl_v rfl (o_assign rfl) ?_
      refine gl_nil ?_
      refine ge_then ?_
      refine g_seq ?_
      refine g_region ?_
      refine gl_v rfl (o_move rfl) ?_
      refine gl_v rfl (o_move rfl) ?_
      refine gl_v rfl (o_build rfl rfl) ?_
      refine gl_n rfl (o_boxA rfl) ?_
      rintro _ _ ⟨b48, rfl, rfl⟩
      refine gl_v rfl (o_assign rfl) ?_
      refine gl_nil ?_
      refine ge_then ?_
      refine g_seq ?_
      refine g_region ?_
      refine gl_v rfl (o_assign rfl) ?_
      refine gl_nil ?_
      refine ge_then ?_
      refine g_cut (fun act wo =>  HasSl Tryz.f4.ntmps [(14, I64 (sizeK s2)), (11, .pointer none), (12, I64 1), (13, ptr b48 0), (9, .pointer none), (10, I64 1), (0, I64 c0), (7, ptr m 0), (6, .bool false), (1, I64 s1), (2, I64 s2)] act ∧ St W0 (cel b48 49 (I64 s1 :: I64 s2 :: [I64 0, .slice none 0 0, .slice none 0 0]) :: memA m (List.replicate (cnt c0) (99 : Int)) (tupN (cnt c0) 0) :: R) wo) ?_ ?_
      ·
        refine g_seq ?_
        refine g_region ?_
        refine gl_v rfl (o_move rfl) ?_
        refine gl_v rfl (o_geq rfl rfl) ?_
        refine gl_v rfl (o_move rfl) ?_
        refine gl_g rfl rfl (fun hc3 => ?_) (fun hc3 => ?_) rfl
        ·
          have hc3' := hc3
          first | replace hc3' := of_decide_eq_true hc3' | replace hc3' := lt_f hc3' | replace hc3' := le_f hc3' | replace hc3' := dec_f hc3' | replace hc3' := nlt_t hc3' | replace hc3' := nle_t hc3' | replace hc3' := ndec_t hc3' | replace hc3' := ndec_f hc3' | replace hc3' := nn_t hc3' | replace hc3' := nn_f hc3' | skip
          refine gl_v rfl (o_move rfl) ?_
          refine gl_gT rfl rfl hc3 ?_
          refine gl_v rfl (o_leq rfl rfl) ?_
          refine gl_v rfl (o_pickT hc3 rfl rfl) ?_
          refine gl_nil ?_
          refine ge_then ?_
          refine g_cond rfl (fun hc4 => ?_) (fun hc4 => ?_)
          ·
            first | replace hc4 := of_decide_eq_true hc4 | replace hc4 := lt_f hc4 | replace hc4 := le_f hc4 | replace hc4 := dec_f hc4 | replace hc4 := nlt_t hc4 | replace hc4 := nle_t hc4 | replace hc4 := ndec_t hc4 | replace hc4 := ndec_f hc4 | replace hc4 := nn_t hc4 | replace hc4 := nn_f hc4 | skip
            refine g_region ?_
            refine gl_v rfl (o_move rfl) ?_
            refine gl_c rfl (o_call rfl (kcSize_spec b48 s1 s2 [I64 0, .slice none 0 0, .slice none 0 0] (by omega)) (by repeat (first | exact .nil | (apply Part.cons; · (repeat (first | exact .head | apply Sel.tail)))))) ?_
            rintro _ R ⟨_, ⟨rfl, rfl⟩, rfl⟩
            try simp only [List.cons_append, List.nil_append]
            refine gl_v rfl (o_assign rfl) ?_
            refine gl_nil ?_
            exact fun act wo hsl st => ⟨hsl.keep (Keep.cons (by show some (I64 _) = some (I64 _); first | (rw [hz, if_pos (by omega)]; done) | (rw [hz, if_neg (by omega)]; done)) (Keep.cons rfl (Keep.cons rfl (Keep.cons rfl (Keep.cons rfl (Keep.cons rfl (Keep.cons rfl (Keep.cons rfl (Keep.cons rfl (Keep.cons rfl (Keep.cons rfl (Keep.nil)))))))))))), st.imp (To.sat (by repeat (first | exact .nil | exact .done .refl | (apply To.cons; · (repeat (first | exact .head | apply Sel.tail))) | exact .done (by repeat (first | exact .refl | apply Drop.skip)))))⟩
          ·
            first | replace hc4 := of_decide_eq_true hc4 | replace hc4 := lt_f hc4 | replace hc4 := le_f hc4 | replace hc4 := dec_f hc4 | replace hc4 := nlt_t hc4 | replace hc4 := nle_t hc4 | replace hc4 := ndec_t hc4 | replace hc4 := ndec_f hc4 | replace hc4 := nn_t hc4 | replace hc4 := nn_f hc4 | skip
            refine g_skip ?_
            exact fun act wo hsl st => ⟨hsl.keep (Keep.cons (by show some (I64 _) = some (I64 _); first | (rw [hz, if_pos (by omega)]; done) | (rw [hz, if_neg (by omega)]; done)) (Keep.cons rfl (Keep.cons rfl (Keep.cons rfl (Keep.cons rfl (Keep.cons rfl (Keep.cons rfl (Keep.cons rfl (Keep.cons rfl (Keep.cons rfl (Keep.cons rfl (Keep.nil)))))))))))), st.imp (To.sat (by repeat (first | exact .nil | exact .done .refl | (apply To.cons; · (repeat (first | exact .head | apply Sel.tail))) | exact .done (by repeat (first | exact .refl | apply Drop.skip)))))⟩
        ·
          have hc3' := hc3
          first | replace hc3' := of_decide_eq_true hc3' | replace hc3' := lt_f hc3' | replace hc3' := le_f hc3' | replace hc3' := dec_f hc3' | replace hc3' := nlt_t hc3' | replace hc3' := nle_t hc3' | replace hc3' := ndec_t hc3' | replace hc3' := ndec_f hc3' | replace hc3' := nn_t hc3' | replace hc3' := nn_f hc3' | skip
          simp only [putO]
          refine gl_gF rfl rfl hc3 rfl ?_
          refine gl_v rfl (o_pickF hc3 rfl rfl) ?_
          refine gl_nil ?_
          refine ge_then ?_
          refine g_cond_false rfl ?_
          refine g_skip ?_
          exact fun act wo hsl st => ⟨hsl.keep (Keep.cons (by show some (I64 _) = some (I64 _); first | (rw [hz, if_pos (by omega)]; done) | (rw [hz, if_neg (by omega)]; done)) (Keep.cons rfl (Keep.cons rfl (Keep.cons rfl (Keep.cons rfl (Keep.cons rfl (Keep.cons rfl (Keep.cons rfl (Keep.cons rfl (Keep.cons rfl (Keep.cons rfl (Keep.nil)))))))))))), st.imp (To.sat (by repeat (first | exact .nil | exact .done .refl | (apply To.cons; · (repeat (first | exact .head | apply Sel.tail))) | exact .done (by repeat (first | exact .refl | apply Drop.skip)))))⟩
      ·
        rintro act wo ⟨hsl, st⟩
        refine g_of ?_ hsl st
        clear hsl st act wo
        refine g_seq ?_
        refine g_seq ?_
        refine g_region ?_
        refine gl_v rfl (o_move rfl) ?_
        refine gl_v rfl (o_neqnn rfl rfl) ?_
        refine gl_v rfl (o_move rfl) ?_
        refine gl_gT rfl rfl rfl ?_
        refine gl_v rfl (o_move rfl) ?_
        refine gl_gT rfl rfl rfl ?_
        refine gl_v rfl (o_is (c := false) (by first | rfl | exact decide_eq_false (by omega) | (simp; done) | (simp; omega)) (o_neq rfl rfl)) ?_
        refine gl_v rfl (o_pickF rfl rfl rfl) ?_
        refine gl_v rfl (o_move rfl) ?_
        refine gl_gT rfl rfl rfl ?_
        refine gl_v rfl (o_move rfl) ?_
        refine gl_gT rfl rfl rfl ?_
        refine gl_c rfl (o_call rfl (kSize_spec s2) (by repeat (first | exact .nil | (apply Part.cons; · (repeat (first | exact .head | apply Sel.tail)))))) ?_
        rintro _ R ⟨_, ⟨rfl, rfl⟩, rfl⟩
        try simp only [List.cons_append, List.nil_append]
        refine gl_gT rfl rfl rfl ?_
        refine gl_v rfl (o_move rfl) ?_
        refine gl_gT rfl rfl rfl ?_
        refine gl_v rfl (o_is (c := false) (by simp) (o_neq rfl rfl)) ?_
        refine gl_v rfl (o_pickF rfl rfl rfl) ?_
        refine gl_nil ?_
        refine ge_then ?_
        refine g_cond_false rfl ?_
        refine g_skip ?_
        refine ge_then ?_
        refine g_seq ?_
        refine g_region ?_
        refine gl_v rfl (o_move rfl) ?_
        refine gl_c rfl (o_call rfl (rNew_spec c0) (by repeat (first | exact .nil | (apply Part.cons; · (repeat (first | exact .head | apply Sel.tail)))))) ?_
        rintro _ R ⟨_, ⟨w, rfl, rfl⟩, rfl⟩
        try simp only [List.cons_append, List.nil_append]
        rw [← fil_0 99]
        refine gl_v rfl (o_assign rfl) ?_
        refine gl_nil ?_
        refine ge_then ?_
        refine g_seq ?_
        refine g_seq ?_
        refine g_region ?_
        refine gl_v rfl (o_assign rfl) ?_
        refine gl_nil ?_
        refine ge_then ?_
        refine g_block ?_
        refine g_loop (ι := Nat) (fun x => x ≤ cnt c0) (fun x => [(16, I64 x), (15, ptr w 0), (14, I64 (sizeK s2)), (13, ptr b48 0), (9, .pointer none), (10, I64 1), (0, I64 c0), (7, ptr m 0), (6, .bool false), (1, I64 s1), (2, I64 s2)]) (fun x => rmemA w (fil 99 (cnt c0) x) 0 :: cel b48 49 (I64 s1 :: I64 s2 :: [I64 0, .slice none 0 0, .slice none 0 0]) :: memA m (List.replicate (cnt c0) (99 : Int)) (tupN (cnt c0) 0) :: R) (fun x => cnt c0 - x) 0 (Nat.zero_le _) (Keep.cons rfl (Keep.cons rfl (Keep.cons rfl (Keep.cons rfl (Keep.cons rfl (Keep.cons rfl (Keep.cons rfl (Keep.cons rfl (Keep.cons rfl (Keep.cons rfl (Keep.cons rfl (Keep.nil)))))))))))) (To.sat (by repeat (first | exact .nil | exact .done .refl | (apply To.cons; · (repeat (first | exact .head | apply Sel.tail))) | exact .done (by repeat (first | exact .refl | apply Drop.skip))))) ?_
        intro k hk
        refine g_open (by repeat (first | exact .head | apply Sel.tail)) ?_
        rintro ⟨aw, cw⟩ -
        simp only [List.cons_append, List.nil_append]
        have hfl := fil_len 99 hk
        refine g_seq ?_
        refine g_seq ?_
        refine g_region ?_
        refine gl_v rfl (o_move rfl) ?_
        refine gl_v rfl (o_move rfl) ?_
        refine gl_v rfl (o_nil rfl) ?_
        first | refine gl_v rfl (o_fldS rfl) ?_ | refine gl_v rfl (o_fld rfl) ?_
        first | refine gl_v rfl (o_load rfl rfl) ?_ | refine gl_v rfl (o_loadS rfl rfl) ?_ | refine gl_v rfl (o_loadC rfl) ?_
        refine gl_v rfl (o_lenL rfl) ?_
        refine gl_v rfl (o_lss rfl rfl) ?_
        refine gl_nil ?_
        refine ge_then ?_
        refine g_cond rfl (fun hc5 => ?_) (fun hc5 => ?_)
        ·
          first | replace hc5 := of_decide_eq_true hc5 | replace hc5 := lt_f hc5 | replace hc5 := le_f hc5 | replace hc5 := dec_f hc5 | replace hc5 := nlt_t hc5 | replace hc5 := nle_t hc5 | replace hc5 := ndec_t hc5 | replace hc5 := ndec_f hc5 | replace hc5 := nn_t hc5 | replace hc5 := nn_f hc5 | skip
          refine g_skip ?_
          refine ge_then ?_
          refine g_seq ?_
          refine g_block ?_
          refine g_region ?_
          refine gl_v rfl (o_move rfl) ?_
          refine gl_v rfl (o_nil rfl) ?_
          first | refine gl_v rfl (o_fldS rfl) ?_ | refine gl_v rfl (o_fld rfl) ?_
          first | refine gl_v rfl (o_load rfl rfl) ?_ | refine gl_v rfl (o_loadS rfl rfl) ?_ | refine gl_v rfl (o_loadC rfl) ?_
          refine gl_v rfl (o_move rfl) ?_
          refine gl_v rfl (o_idxS (j := k) rfl rfl (by omega)) ?_
          refine gl_u (o_storeS rfl rfl rfl (by simp; omega)) ?_
          rw [map_set1]
          refine gl_nil ?_
          refine ge_block ?_
          refine ge_then ?_
          refine g_region ?_
          refine gl_v rfl (o_move rfl) ?_
          refine gl_v rfl (o_addR _ (by first | exact wr_i64 (by omega) | rfl) rfl rfl) ?_
          refine gl_v rfl (o_assign rfl) ?_
          refine gl_nil ?_
          refine ge_round (k + 1) (show k + 1 ≤ _ by omega) (by omega) (Keep.cons rfl (Keep.cons rfl (Keep.cons rfl (Keep.cons rfl (Keep.cons rfl (Keep.cons rfl (Keep.cons rfl (Keep.cons rfl (Keep.cons rfl (Keep.cons rfl (Keep.cons rfl (Keep.nil)))))))))))) (rmem_close aw cw (fil_set 99 (by omega)).symm rfl (by simp only [List.length_set]; exact (To.sat (by repeat (first | exact .nil | exact .done .refl | (apply To.cons; · (repeat (first | exact .head | apply Sel.tail))) | exact .done (by repeat (first | exact .refl | apply Drop.skip)))))))
        ·
          first | replace hc5 := of_decide_eq_true hc5 | replace hc5 := lt_f hc5 | replace hc5 := le_f hc5 | replace hc5 := dec_f hc5 | replace hc5 := nlt_t hc5 | replace hc5 := nle_t hc5 | replace hc5 := ndec_t hc5 | replace hc5 := ndec_f hc5 | replace hc5 := nn_t hc5 | replace hc5 := nn_f hc5 | skip
          obtain rfl : k = cnt c0 := by omega
          rw [fil_full]
          refine g_exit ?_
          refine ge_then_exit ?_
          refine ge_then_exit ?_
          refine ge_block_exit ?_
          refine ge_then ?_
          refine g_seq ?_
          refine g_seq ?_
          refine g_region ?_
          refine gl_v rfl (o_move rfl) ?_
          refine gl_v rfl (o_eql rfl rfl) ?_
          refine gl_v rfl (o_move rfl) ?_
          refine gl_g rfl rfl (fun hc6 => ?_) (fun hc6 => ?_) rfl
          ·
            have hc6' := hc6
            first | replace hc6' := of_decide_eq_true hc6' | replace hc6' := lt_f hc6' | replace hc6' := le_f hc6' | replace hc6' := dec_f hc6' | replace hc6' := nlt_t hc6' | replace hc6' := nle_t hc6' | replace hc6' := ndec_t hc6' | replace hc6' := ndec_f hc6' | replace hc6' := nn_t hc6' | replace hc6' := nn_f hc6' | skip
            refine gl_v rfl (o_move rfl) ?_
            refine gl_gT rfl rfl hc6 ?_
            refine gl_v rfl (o_lss rfl rfl) ?_
            refine gl_v rfl (o_pickF hc6 rfl rfl) ?_
            refine gl_v rfl (o_move rfl) ?_
            refine gl_g rfl rfl (fun hc7 => ?_) (fun hc7 => ?_) rfl
            ·
              have hc7' := hc7
              first | replace hc7' := of_decide_eq_true hc7' | replace hc7' := lt_f hc7' | replace hc7' := le_f hc7' | replace hc7' := dec_f hc7' | replace hc7' := nlt_t hc7' | replace hc7' := nle_t hc7' | replace hc7' := ndec_t hc7' | replace hc7' := ndec_f hc7' | replace hc7' := nn_t hc7' | replace hc7' := nn_f hc7' | skip
              refine gl_v rfl (o_move rfl) ?_
              refine gl_gT rfl rfl hc7 ?_
              refine gl_v rfl (o_move rfl) ?_
              refine gl_gT rfl rfl hc7 ?_
              refine gl_v rfl (o_nil rfl) ?_
              refine gl_gT rfl rfl hc7 ?_
              first | refine gl_v rfl (o_fldS rfl) ?_ | refine gl_v rfl (o_fld rfl) ?_
              refine gl_gT rfl rfl hc7 ?_
              first | refine gl_v rfl (o_load rfl rfl) ?_ | refine gl_v rfl (o_loadS rfl rfl) ?_ | refine gl_v rfl (o_loadC rfl) ?_
              refine gl_gT rfl rfl hc7 ?_
              refine gl_v rfl (o_lenL rfl) ?_
              refine gl_gT rfl rfl hc7 ?_
              refine gl_v rfl (o_move rfl) ?_
              refine gl_gT rfl rfl hc7 ?_
              refine gl_v rfl (o_subR ((cnt c0 : Int) - sizeK s2) (by rw [hrl]; exact wr_i64 (by omega)) rfl rfl) ?_
              refine gl_gT rfl rfl hc7 ?_
              refine gl_v rfl (o_gtr rfl rfl) ?_
              refine gl_v rfl (o_pickF hc7 rfl rfl) ?_
              refine gl_nil ?_
              refine ge_then ?_
              refine g_cond rfl (fun hc8 => ?_) (fun hc8 => ?_)
              ·
                first | replace hc8 := of_decide_eq_true hc8 | replace hc8 := lt_f hc8 | replace hc8 := le_f hc8 | replace hc8 := dec_f hc8 | replace hc8 := nlt_t hc8 | replace hc8 := nle_t hc8 | replace hc8 := ndec_t hc8 | replace hc8 := ndec_f hc8 | replace hc8 := nn_t hc8 | replace hc8 := nn_f hc8 | skip
                refine g_seq ?_
                refine g_draw [8, 13] [8] [(0, .loc), (1, .loc), (2, .loc), (3, .loc), (4, .loc), (5, .loc), (6, .loc), (7, .loc), (9, .stab), (10, .stab), (11, .stab), (12, .stab), (8, .eff), (13, .eff), (14, .loc), (15, .loc)] [cel w 54 [.slice aw (List.replicate (cnt c0) (99 : Int)).length cw, I64 0]] mixed (by kernel_rfl) ?_
                refine go_v rfl .none rfl (o_move rfl) ?_
                refine go_v rfl .none rfl (o_eqlnn rfl rfl) ?_
                refine go_v rfl .none rfl (o_move rfl) ?_
                refine go_v rfl (.yes rfl rfl rfl) rfl (o_move rfl) ?_
                refine go_v rfl (.yes rfl rfl rfl) rfl (o_is (c := true) (by first | rfl | exact decide_eq_true (by omega) | (simp; done) | (simp; omega)) (o_eql rfl rfl)) ?_
                refine go_v rfl .none rfl (o_pickT rfl rfl rfl) ?_
                refine go_v rfl .none rfl (o_move rfl) ?_
                refine go_v rfl (.yes rfl rfl rfl) rfl (o_move rfl) ?_
                refine go_vs rfl (.yes rfl rfl rfl) rfl (o_move rfl) (To.sat (by repeat (first | exact .nil | exact .done .refl | (apply To.cons; · (repeat (first | exact .head | apply Sel.tail))) | exact .done (by repeat (first | exact .refl | apply Drop.skip))))) ?_
                refine go_vs rfl (.yes rfl rfl rfl) rfl (o_nil rfl) (To.sat (by repeat (first | exact .nil | exact .done .refl | (apply To.cons; · (repeat (first | exact .head | apply Sel.tail))) | exact .done (by repeat (first | exact .refl | apply Drop.skip))))) ?_
                first | refine go_vs rfl (.yes rfl rfl rfl) rfl (o_fldS rfl) (To.sat (by repeat (first | exact .nil | exact .done .refl | (apply To.cons; · (repeat (first | exact .head | apply Sel.tail))) | exact .done (by repeat (first | exact .refl | apply Drop.skip))))) ?_ | refine go_vs rfl (.yes rfl rfl rfl) rfl (o_fld rfl) (To.sat (by repeat (first | exact .nil | exact .done .refl | (apply To.cons; · (repeat (first | exact .head | apply Sel.tail))) | exact .done (by repeat (first | exact .refl | apply Drop.skip))))) ?_
                first | refine go_vs rfl (.yes rfl rfl rfl) rfl (o_load rfl rfl) (To.sat (by repeat (first | exact .nil | exact .done .refl | (apply To.cons; · (repeat (first | exact .head | apply Sel.tail))) | exact .done (by repeat (first | exact .refl | apply Drop.skip))))) ?_ | refine go_vs rfl (.yes rfl rfl rfl) rfl (o_loadS rfl rfl) (To.sat (by repeat (first | exact .nil | exact .done .refl | (apply To.cons; · (repeat (first | exact .head | apply Sel.tail))) | exact .done (by repeat (first | exact .refl | apply Drop.skip))))) ?_ | refine go_vs rfl (.yes rfl rfl rfl) rfl (o_loadC rfl) (To.sat (by repeat (first | exact .nil | exact .done .refl | (apply To.cons; · (repeat (first | exact .head | apply Sel.tail))) | exact .done (by repeat (first | exact .refl | apply Drop.skip))))) ?_
                refine go_c rfl (.yes rfl rfl rfl) rfl (o_call rfl (All_spec m (List.replicate (cnt c0) (99 : Int)) _ (by simp; omega)) (by repeat (first | exact .nil | (apply Part.cons; · (repeat (first | exact .head | apply Sel.tail)))))) ?_
                rintro _ R ⟨_, ⟨a', c', rfl, rfl⟩, rfl⟩
                try simp only [List.cons_append, List.nil_append]
                refine ⟨(fun _ => (To.sat (by repeat (first | exact .nil | exact .done .refl | (apply To.cons; · (repeat (first | exact .head | apply Sel.tail))) | exact .done (by repeat (first | exact .refl | apply Drop.skip)))))), ?_⟩
                refine go_c rfl (.yes rfl rfl rfl) rfl (o_call rfl (rSame_spec (.slice a' (List.replicate (cnt c0) (99 : Int)).length c') (.slice aw (List.replicate (cnt c0) (99 : Int)).length cw) (List.replicate (cnt c0) (99 : Int)) (List.replicate (cnt c0) (99 : Int)) (by simp [zap_len]; omega) (by simp [zap_len]; omega) (own (.slice a' (List.replicate (cnt c0) (99 : Int)).length c') 22 1 (List.replicate (cnt c0) (99 : Int)).length ((List.replicate (cnt c0) (99 : Int)).map U64)) (own (.slice aw (List.replicate (cnt c0) (99 : Int)).length cw) 22 1 (List.replicate (cnt c0) (99 : Int)).length ((List.replicate (cnt c0) (99 : Int)).map U64))) (by repeat (first | exact .nil | (apply Part.cons; · (repeat (first | exact .head | apply Sel.tail)))))) ?_
                rintro _ R ⟨_, ⟨rfl, rfl⟩, rfl⟩
                try simp only [List.cons_append, List.nil_append]
                refine ⟨(fun hG => absurd hG (by decide)), ?_⟩
                refine go_v rfl .none rfl (o_pickT rfl rfl rfl) ?_
                refine go_v rfl .none rfl (o_assign rfl) ?_
                refine go_nil ?_
                refine ge_then ?_
                refine g_ret ?_
                refine ge_then_ret ?_
                refine ret1 (.inl rfl) rfl rfl _ (⟨by simp, rfl⟩) (To.sat (by repeat (first | exact .nil | exact .done .refl | (apply To.cons; · (repeat (first | exact .head | apply Sel.tail))) | exact .done (by repeat (first | exact .refl | apply Drop.skip)))))
              ·
                first | replace hc8 := of_decide_eq_true hc8 | replace hc8 := lt_f hc8 | replace hc8 := le_f hc8 | replace hc8 := dec_f hc8 | replace hc8 := nlt_t hc8 | replace hc8 := nle_t hc8 | replace hc8 := ndec_t hc8 | replace hc8 := ndec_f hc8 | replace hc8 := nn_t hc8 | replace hc8 := nn_f hc8 | skip
                (rw [hrl] at *; omega)
            ·
              have hc7' := hc7
              first | replace hc7' := of_decide_eq_true hc7' | replace hc7' := lt_f hc7' | replace hc7' := le_f hc7' | replace hc7' := dec_f hc7' | replace hc7' := nlt_t hc7' | replace hc7' := nle_t hc7' | replace hc7' := ndec_t hc7' | replace hc7' := ndec_f hc7' | replace hc7' := nn_t hc7' | replace hc7' := nn_f hc7' | skip
              simp only [putO]
              refine gl_gF rfl rfl hc7 rfl ?_
              refine gl_gF rfl rfl hc7 rfl ?_
              refine gl_gF rfl rfl hc7 rfl ?_
              refine gl_gF rfl rfl hc7 rfl ?_
              refine gl_gF rfl rfl hc7 rfl ?_
              refine gl_gF rfl rfl hc7 rfl ?_
              refine gl_gF rfl rfl hc7 rfl ?_
              refine gl_gF rfl rfl hc7 rfl ?_
              refine gl_v rfl (o_pickT hc7 rfl rfl) ?_
              refine gl_nil ?_
              refine ge_then ?_
              refine g_cond_true rfl ?_
              refine g_seq ?_
              refine g_draw [8, 13] [8] [(0, .loc), (1, .loc), (2, .loc), (3, .loc), (4, .loc), (5, .loc), (6, .loc), (7, .loc), (9, .stab), (10, .stab), (11, .stab), (12, .stab), (8, .eff), (13, .eff), (14, .loc), (15, .loc)] [cel w 54 [.slice aw (List.replicate (cnt c0) (99 : Int)).length cw, I64 0]] mixed (by kernel_rfl) ?_
              refine go_v rfl .none rfl (o_move rfl) ?_
              refine go_v rfl .none rfl (o_eqlnn rfl rfl) ?_
              refine go_v rfl .none rfl (o_move rfl) ?_
              refine go_v rfl (.yes rfl rfl rfl) rfl (o_move rfl) ?_
              refine go_v rfl (.yes rfl rfl rfl) rfl (o_is (c := true) (by first | rfl | exact decide_eq_true (by omega) | (simp; done) | (simp; omega)) (o_eql rfl rfl)) ?_
              refine go_v rfl .none rfl (o_pickT rfl rfl rfl) ?_
              refine go_v rfl .none rfl (o_move rfl) ?_
              refine go_v rfl (.yes rfl rfl rfl) rfl (o_move rfl) ?_
              refine go_vs rfl (.yes rfl rfl rfl) rfl (o_move rfl) (To.sat (by repeat (first | exact .nil | exact .done .refl | (apply To.cons; · (repeat (first | exact .head | apply Sel.tail))) | exact .done (by repeat (first | exact .refl | apply Drop.skip))))) ?_
              refine go_vs rfl (.yes rfl rfl rfl) rfl (o_nil rfl) (To.sat (by repeat (first | exact .nil | exact .done .refl | (apply To.cons; · (repeat (first | exact .head | apply Sel.tail))) | exact .done (by repeat (first | exact .refl | apply Drop.skip))))) ?_
              first | refine go_vs rfl (.yes rfl rfl rfl) rfl (o_fldS rfl) (To.sat (by repeat (first | exact .nil | exact .done .refl | (apply To.cons; · (repeat (first | exact .head | apply Sel.tail))) | exact .done (by repeat (first | exact .refl | apply Drop.skip))))) ?_ | refine go_vs rfl (.yes rfl rfl rfl) rfl (o_fld rfl) (To.sat (by repeat (first | exact .nil | exact .done .refl | (apply To.cons; · (repeat (first | exact .head | apply Sel.tail))) | exact .done (by repeat (first | exact .refl | apply Drop.skip))))) ?_
              first | refine go_vs rfl (.yes rfl rfl rfl) rfl (o_load rfl rfl) (To.sat (by repeat (first | exact .nil | exact .done .refl | (apply To.cons; · (repeat (first | exact .head | apply Sel.tail))) | exact .done (by repeat (first | exact .refl | apply Drop.skip))))) ?_ | refine go_vs rfl (.yes rfl rfl rfl) rfl (o_loadS rfl rfl) (To.sat (by repeat (first | exact .nil | exact .done .refl | (apply To.cons; · (repeat (first | exact .head | apply Sel.tail))) | exact .done (by repeat (first | exact .refl | apply Drop.skip))))) ?_ | refine go_vs rfl (.yes rfl rfl rfl) rfl (o_loadC rfl) (To.sat (by repeat (first | exact .nil | exact .done .refl | (apply To.cons; · (repeat (first | exact .head | apply Sel.tail))) | exact .done (by repeat (first | exact .refl | apply Drop.skip))))) ?_
              refine go_c rfl (.yes rfl rfl rfl) rfl (o_call rfl (All_spec m (List.replicate (cnt c0) (99 : Int)) _ (by simp; omega)) (by repeat (first | exact .nil | (apply Part.cons; · (repeat (first | exact .head | apply Sel.tail)))))) ?_
              rintro _ R ⟨_, ⟨a', c', rfl, rfl⟩, rfl⟩
              try simp only [List.cons_append, List.nil_append]
              refine ⟨(fun _ => (To.sat (by repeat (first | exact .nil | exact .done .refl | (apply To.cons; · (repeat (first | exact .head | apply Sel.tail))) | exact .done (by repeat (first | exact .refl | apply Drop.skip)))))), ?_⟩
              refine go_c rfl (.yes rfl rfl rfl) rfl (o_call rfl (rSame_spec (.slice a' (List.replicate (cnt c0) (99 : Int)).length c') (.slice aw (List.replicate (cnt c0) (99 : Int)).length cw) (List.replicate (cnt c0) (99 : Int)) (List.replicate (cnt c0) (99 : Int)) (by simp [zap_len]; omega) (by simp [zap_len]; omega) (own (.slice a' (List.replicate (cnt c0) (99 : Int)).length c') 22 1 (List.replicate (cnt c0) (99 : Int)).length ((List.replicate (cnt c0) (99 : Int)).map U64)) (own (.slice aw (List.replicate (cnt c0) (99 : Int)).length cw) 22 1 (List.replicate (cnt c0) (99 : Int)).length ((List.replicate (cnt c0) (99 : Int)).map U64))) (by repeat (first | exact .nil | (apply Part.cons; · (repeat (first | exact .head | apply Sel.tail)))))) ?_
              rintro _ R ⟨_, ⟨rfl, rfl⟩, rfl⟩
              try simp only [List.cons_append, List.nil_append]
              refine ⟨(fun hG => absurd hG (by decide)), ?_⟩
              refine go_v rfl .none rfl (o_pickT rfl rfl rfl) ?_
              refine go_v rfl .none rfl (o_assign rfl) ?_
              refine go_nil ?_
              refine ge_then ?_
              refine g_ret ?_
              refine ge_then_ret ?_
              refine ret1 (.inl rfl) rfl rfl _ (⟨by simp, rfl⟩) (To.sat (by repeat (first | exact .nil | exact .done .refl | (apply To.cons; · (repeat (first | exact .head | apply Sel.tail))) | exact .done (by repeat (first | exact .refl | apply Drop.skip)))))
          ·
            have hc6' := hc6
            first | replace hc6' := of_decide_eq_true hc6' | replace hc6' := lt_f hc6' | replace hc6' := le_f hc6' | replace hc6' := dec_f hc6' | replace hc6' := nlt_t hc6' | replace hc6' := nle_t hc6' | replace hc6' := ndec_t hc6' | replace hc6' := ndec_f hc6' | replace hc6' := nn_t hc6' | replace hc6' := nn_f hc6' | skip
            simp only [putO]
            refine gl_gF rfl rfl hc6 rfl ?_
            refine gl_v rfl (o_pickT hc6 rfl rfl) ?_
            refine gl_v rfl (o_move rfl) ?_
            refine gl_gF rfl rfl rfl rfl ?_
            refine gl_gF rfl rfl rfl rfl ?_
            refine gl_gF rfl rfl rfl rfl ?_
            refine gl_gF rfl rfl rfl rfl ?_
            refine gl_gF rfl rfl rfl rfl ?_
            refine gl_gF rfl rfl rfl rfl ?_
            refine gl_gF rfl rfl rfl rfl ?_
            refine gl_gF rfl rfl rfl rfl ?_
            refine gl_gF rfl rfl rfl rfl ?_
            refine gl_v rfl (o_pickT rfl rfl rfl) ?_
            refine gl_nil ?_
            refine ge_then ?_
            refine g_cond_true rfl ?_
            refine g_seq ?_
            refine g_draw [8, 13] [8] [(0, .loc), (1, .loc), (2, .loc), (3, .loc), (4, .loc), (5, .loc), (6, .loc), (7, .loc), (9, .stab), (10, .stab), (11, .stab), (12, .stab), (8, .eff), (13, .eff), (14, .loc), (15, .loc)] [cel w 54 [.slice aw (List.replicate (cnt c0) (99 : Int)).length cw, I64 0]] mixed (by kernel_rfl) ?_
            refine go_v rfl .none rfl (o_move rfl) ?_
            refine go_v rfl .none rfl (o_eqlnn rfl rfl) ?_
            refine go_v rfl .none rfl (o_move rfl) ?_
            refine go_v rfl (.yes rfl rfl rfl) rfl (o_move rfl) ?_
            refine go_v rfl (.yes rfl rfl rfl) rfl (o_is (c := true) (by first | rfl | exact decide_eq_true (by omega) | (simp; done) | (simp; omega)) (o_eql rfl rfl)) ?_
            refine go_v rfl .none rfl (o_pickT rfl rfl rfl) ?_
            refine go_v rfl .none rfl (o_move rfl) ?_
            refine go_v rfl (.yes rfl rfl rfl) rfl (o_move rfl) ?_
            refine go_vs rfl (.yes rfl rfl rfl) rfl (o_move rfl) (To.sat (by repeat (first | exact .nil | exact .done .refl | (apply To.cons; · (repeat (first | exact .head | apply Sel.tail))) | exact .done (by repeat (first | exact .refl | apply Drop.skip))))) ?_
            refine go_vs rfl (.yes rfl rfl rfl) rfl (o_nil rfl) (To.sat (by repeat (first | exact .nil | exact .done .refl | (apply To.cons; · (repeat (first | exact .head | apply Sel.tail))) | exact .done (by repeat (first | exact .refl | apply Drop.skip))))) ?_
            first | refine go_vs rfl (.yes rfl rfl rfl) rfl (o_fldS rfl) (To.sat (by repeat (first | exact .nil | exact .done .refl | (apply To.cons; · (repeat (first | exact .head | apply Sel.tail))) | exact .done (by repeat (first | exact .refl | apply Drop.skip))))) ?_ | refine go_vs rfl (.yes rfl rfl rfl) rfl (o_fld rfl) (To.sat (by repeat (first | exact .nil | exact .done .refl | (apply To.cons; · (repeat (first | exact .head | apply Sel.tail))) | exact .done (by repeat (first | exact .refl | apply Drop.skip))))) ?_
            first | refine go_vs rfl (.yes rfl rfl rfl) rfl (o_load rfl rfl) (To.sat (by repeat (first | exact .nil | exact .done .refl | (apply To.cons; · (repeat (first | exact .head | apply Sel.tail))) | exact .done (by repeat (first | exact .refl | apply Drop.skip))))) ?_ | refine go_vs rfl (.yes rfl rfl rfl) rfl (o_loadS rfl rfl) (To.sat (by repeat (first | exact .nil | exact .done .refl | (apply To.cons; · (repeat (first | exact .head | apply Sel.tail))) | exact .done (by repeat (first | exact .refl | apply Drop.skip))))) ?_ | refine go_vs rfl (.yes rfl rfl rfl) rfl (o_loadC rfl) (To.sat (by repeat (first | exact .nil | exact .done .refl | (apply To.cons; · (repeat (first | exact .head | apply Sel.tail))) | exact .done (by repeat (first | exact .refl | apply Drop.skip))))) ?_
            refine go_c rfl (.yes rfl rfl rfl) rfl (o_call rfl (All_spec m (List.replicate (cnt c0) (99 : Int)) _ (by simp; omega)) (by repeat (first | exact .nil | (apply Part.cons; · (repeat (first | exact .head | apply Sel.tail)))))) ?_
            rintro _ R ⟨_, ⟨a', c', rfl, rfl⟩, rfl⟩
            try simp only [List.cons_append, List.nil_append]
            refine ⟨(fun _ => (To.sat (by repeat (first | exact .nil | exact .done .refl | (apply To.cons; · (repeat (first | exact .head | apply Sel.tail))) | exact .done (by repeat (first | exact .refl | apply Drop.skip)))))), ?_⟩
            refine go_c rfl (.yes rfl rfl rfl) rfl (o_call rfl (rSame_spec (.slice a' (List.replicate (cnt c0) (99 : Int)).length c') (.slice aw (List.replicate (cnt c0) (99 : Int)).length cw) (List.replicate (cnt c0) (99 : Int)) (List.replicate (cnt c0) (99 : Int)) (by simp [zap_len]; omega) (by simp [zap_len]; omega) (own (.slice a' (List.replicate (cnt c0) (99 : Int)).length c') 22 1 (List.replicate (cnt c0) (99 : Int)).length ((List.replicate (cnt c0) (99 : Int)).map U64)) (own (.slice aw (List.replicate (cnt c0) (99 : Int)).length cw) 22 1 (List.replicate (cnt c0) (99 : Int)).length ((List.replicate (cnt c0) (99 : Int)).map U64))) (by repeat (first | exact .nil | (apply Part.cons; · (repeat (first | exact .head | apply Sel.tail)))))) ?_
            rintro _ R ⟨_, ⟨rfl, rfl⟩, rfl⟩
            try simp only [List.cons_append, List.nil_append]
            refine ⟨(fun hG => absurd hG (by decide)), ?_⟩
            refine go_v rfl .none rfl (o_pickT rfl rfl rfl) ?_
            refine go_v rfl .none rfl (o_assign rfl) ?_
            refine go_nil ?_
            refine ge_then ?_
            refine g_ret ?_
            refine ge_then_ret ?_
            refine ret1 (.inl rfl) rfl rfl _ (⟨by simp, rfl⟩) (To.sat (by repeat (first | exact .nil | exact .done .refl | (apply To.cons; · (repeat (first | exact .head | apply Sel.tail))) | exact .done (by repeat (first | exact .refl | apply Drop.skip)))))

theorem kmakes_spec (c0 s1 s2 : Int) (h1 : -9223372036854775808 ≤ s1 ∧ s1 ≤ 9223372036854775807) (h2 : -9223372036854775808 ≤ s2 ∧ s2 ≤ 9223372036854775807) : FnS Tryz.prog 4 [I64 c0, I64 s1, I64 s2] [] (fun u Bs => u = .bool true ∧ Bs = []) := by
  have hz := sizeK_val s2
  have hz0 := sizeK_in s2
  by_cases h : sizeK s2 = 0 ∨ s1 < 0 ∨ s1 > cnt c0 - sizeK s2
  · exact kmakes_no c0 s1 s2 h1 h2 h
  · have hc := cnt_le c0
    have hv : 1 ≤ s2 ∧ s2 ≤ 64 := by split at hz <;> omega
    rw [if_pos hv] at hz
    exact kmakes_ok c0 s1.toNat s2.toNat (fun _ => ⟨by show 1 ≤ s2.toNat; omega, by show s2.toNat ≤ 64; omega, by show s1.toNat + 3 + 2 * s2.toNat ≤ _; simp only [List.length_replicate]; omega, by simp only [List.length_replicate]; exact hc⟩) s1 s2 (by omega) (by omega) (by omega) (by omega)

end Go.Proofs.YtmohikdmdmplaaaGreat.L
