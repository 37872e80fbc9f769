/-
  The document's Lay, Ring, Size. Own work, printed in part by a program of its own.
-/
import Derived.Test.YtmohikdmdmplaaaGreatClkA
set_option linter.unusedSimpArgs false
set_option linter.unusedVariables false
set_option linter.unusedSectionVars false
namespace Go.Proofs.YtmohikdmdmplaaaGreat.L
open Go.L Go.L.Ring Go.L.Post Go.L.Clk Go.L.Whl

set_option maxRecDepth 8000 in
theorem rLay_spec (w b n : Nat) (L : List Int) (t : Int) (I : RI b n L) : FnS Tryz.prog 49 [ptr w 0, .agg #[I64 b, I64 n]] [rmemA w L t] (fun u Bs => u = .tuple #[] ∧ Bs = [rmemA w (zap L b (2 + 2 * n)) t]) := by
 refine fn_body Tryz.func49 rfl rfl rfl ?_
 intro W0 R
 simp only [List.zipIdx_cons, List.zipIdx_nil, List.map_cons, List.map_nil, Nat.zero_add, Nat.reduceAdd, List.cons_append, List.nil_append]
 have hb0 := I.len; have hn1 := I.n1; have hn2 := I.n64; have hL0 := I.top
 refine g_open (by repeat (first | exact .head | apply Sel.tail)) ?_
 rintro ⟨a, c⟩ -
 simp only [List.cons_append, List.nil_append]
 refine g_seq ?_
 refine g_region ?_
 refine gl_n rfl (o_boxA rfl) ?_
 rintro _ _ ⟨b3, rfl, rfl⟩
 refine gl_nil ?_
 refine ge_then ?_
 refine g_seq ?_
 refine g_draw [7] [] [(0, .loc), (1, .loc), (2, .loc), (3, .loc), (4, .loc), (5, .loc), (6, .loc), (7, .eff)] [] mixed (by kernel_rfl) ?_
 refine go_v rfl .none rfl (o_move rfl) ?_
 refine go_v rfl .none rfl (o_nil rfl) ?_
 first | refine go_v rfl .none rfl (o_fldS rfl) ?_ | refine go_v rfl .none rfl (o_fld rfl) ?_
 first | refine go_v rfl .none rfl (o_load rfl rfl) ?_ | refine go_v rfl .none rfl (o_loadS rfl rfl) ?_ | refine go_v rfl .none rfl (o_loadC rfl) ?_
 first | refine go_v rfl .none rfl (o_fldS rfl) ?_ | refine go_v rfl .none rfl (o_fld rfl) ?_
 first | refine go_v rfl .none rfl (o_load rfl rfl) ?_ | refine go_v rfl .none rfl (o_loadS rfl rfl) ?_ | refine go_v rfl .none rfl (o_loadC rfl) ?_
 refine go_v rfl .none rfl (o_idxS (j := b) rfl rfl (by omega)) ?_
 refine go_u rfl .none (o_storeS rfl rfl rfl (by simp; omega)) (fun hG => absurd hG (by decide)) ?_
 rw [map_set1]
 refine go_nil ?_
 refine ge_then ?_
 refine g_seq ?_
 refine g_draw [8] [] [(0, .loc), (1, .loc), (2, .loc), (3, .loc), (4, .loc), (5, .loc), (6, .loc), (7, .loc), (8, .eff)] [] mixed (by kernel_rfl) ?_
 refine go_v rfl .none rfl (o_move rfl) ?_
 refine go_v rfl .none rfl (o_nil rfl) ?_
 first | refine go_v rfl .none rfl (o_fldS rfl) ?_ | refine go_v rfl .none rfl (o_fld rfl) ?_
 first | refine go_v rfl .none rfl (o_load rfl rfl) ?_ | refine go_v rfl .none rfl (o_loadS rfl rfl) ?_ | refine go_v rfl .none rfl (o_loadC rfl) ?_
 first | refine go_v rfl .none rfl (o_fldS rfl) ?_ | refine go_v rfl .none rfl (o_fld rfl) ?_
 first | refine go_v rfl .none rfl (o_load rfl rfl) ?_ | refine go_v rfl .none rfl (o_loadS rfl rfl) ?_ | refine go_v rfl .none rfl (o_loadC rfl) ?_
 refine go_v rfl .none rfl (o_addR ((b + 1 : Nat) : Int) (by rw [wr_i64 (by omega)]; omega) rfl rfl) ?_
 refine go_v rfl .none rfl (o_idxS (j := b + 1) rfl rfl (by omega)) ?_
 refine go_u rfl .none (o_storeS rfl rfl rfl (by simp; omega)) (fun hG => absurd hG (by decide)) ?_
 rw [map_set1]
 refine go_nil ?_
 refine ge_then ?_
 refine g_seq ?_
 refine g_region ?_
 refine gl_v rfl (o_assign rfl) ?_
 refine gl_nil ?_
 refine ge_then ?_
 refine g_block ?_
 refine g_loop (ι := Nat) (fun x => x ≤ n) (fun x => [(4, I64 x), (3, ptr b3 0), (0, ptr w 0)]) (fun x => cel w 54 [.slice a L.length c, I64 t] :: own (.slice a L.length c) 22 1 L.length ((zap L b (2 + 2 * x)).map U64) :: cel b3 99 [I64 b, I64 n] :: R) (fun x => n - x) 0 (Nat.zero_le _) (Keep.cons rfl (Keep.cons rfl (Keep.cons rfl (Keep.nil)))) (To.sat (by repeat (first | exact .nil | exact .done .refl | (apply To.cons; · (repeat (first | exact .head | apply Sel.tail))) | exact .done (by repeat (first | exact .refl | apply Drop.skip))))) ?_
 intro k hk
 refine g_seq ?_
 refine g_seq ?_
 refine g_region ?_
 refine gl_v rfl (o_move rfl) ?_
 first | refine gl_v rfl (o_fldS rfl) ?_ | refine gl_v rfl (o_fld rfl) ?_
 first | refine gl_v rfl (o_load rfl rfl) ?_ | refine gl_v rfl (o_loadS rfl rfl) ?_ | refine gl_v rfl (o_loadC rfl) ?_
 refine gl_v rfl (o_lss rfl rfl) ?_
 refine gl_nil ?_
 refine ge_then ?_
 refine g_cond rfl (fun hc1 => ?_) (fun hc1 => ?_)
 ·
  first | replace hc1 := of_decide_eq_true hc1 | replace hc1 := lt_f hc1 | replace hc1 := le_f hc1 | replace hc1 := dec_f hc1 | replace hc1 := nlt_t hc1 | replace hc1 := nle_t hc1 | replace hc1 := ndec_t hc1 | replace hc1 := ndec_f hc1 | replace hc1 := nn_t hc1 | replace hc1 := nn_f hc1 | skip
  refine g_skip ?_
  refine ge_then ?_
  refine g_seq ?_
  refine g_block ?_
  refine g_seq ?_
  refine g_draw [11] [] [(0, .loc), (1, .loc), (2, .loc), (3, .loc), (4, .loc), (5, .loc), (6, .loc), (7, .loc), (8, .loc), (9, .loc), (10, .loc), (11, .eff)] [] mixed (by kernel_rfl) ?_
  refine go_v rfl .none rfl (o_move rfl) ?_
  refine go_v rfl .none rfl (o_nil rfl) ?_
  first | refine go_v rfl .none rfl (o_fldS rfl) ?_ | refine go_v rfl .none rfl (o_fld rfl) ?_
  first | refine go_v rfl .none rfl (o_load rfl rfl) ?_ | refine go_v rfl .none rfl (o_loadS rfl rfl) ?_ | refine go_v rfl .none rfl (o_loadC rfl) ?_
  first | refine go_v rfl .none rfl (o_fldS rfl) ?_ | refine go_v rfl .none rfl (o_fld rfl) ?_
  first | refine go_v rfl .none rfl (o_load rfl rfl) ?_ | refine go_v rfl .none rfl (o_loadS rfl rfl) ?_ | refine go_v rfl .none rfl (o_loadC rfl) ?_
  refine go_v rfl .none rfl (o_addR _ (by first | exact wr_i64 (by omega) | rfl) rfl rfl) ?_
  refine go_v rfl .none rfl (o_move rfl) ?_
  refine go_v rfl .none rfl (o_mulR _ (by first | exact wr_i64 (by omega) | rfl) rfl rfl) ?_
  refine go_v rfl .none rfl (o_addR ((b + (2 + 2 * k) : Nat) : Int) (by rw [wr_i64 (by omega)]; omega) rfl rfl) ?_
  refine go_v rfl .none rfl (o_idxS (j := b + (2 + 2 * k)) rfl rfl (by omega)) ?_
  refine go_u rfl .none (o_storeS rfl rfl rfl (by simp [zap_len]; omega)) (fun hG => absurd hG (by decide)) ?_
  rw [map_set1]
  refine go_nil ?_
  refine ge_then ?_
  refine g_draw [11] [] [(0, .loc), (1, .loc), (2, .loc), (3, .loc), (4, .loc), (5, .loc), (6, .loc), (7, .loc), (8, .loc), (9, .loc), (10, .loc), (11, .eff)] [] mixed (by kernel_rfl) ?_
  refine go_v rfl .none rfl (o_move rfl) ?_
  refine go_v rfl .none rfl (o_nil rfl) ?_
  first | refine go_v rfl .none rfl (o_fldS rfl) ?_ | refine go_v rfl .none rfl (o_fld rfl) ?_
  first | refine go_v rfl .none rfl (o_load rfl rfl) ?_ | refine go_v rfl .none rfl (o_loadS rfl rfl) ?_ | refine go_v rfl .none rfl (o_loadC rfl) ?_
  first | refine go_v rfl .none rfl (o_fldS rfl) ?_ | refine go_v rfl .none rfl (o_fld rfl) ?_
  first | refine go_v rfl .none rfl (o_load rfl rfl) ?_ | refine go_v rfl .none rfl (o_loadS rfl rfl) ?_ | refine go_v rfl .none rfl (o_loadC rfl) ?_
  refine go_v rfl .none rfl (o_addR _ (by first | exact wr_i64 (by omega) | rfl) rfl rfl) ?_
  refine go_v rfl .none rfl (o_move rfl) ?_
  refine go_v rfl .none rfl (o_mulR _ (by first | exact wr_i64 (by omega) | rfl) rfl rfl) ?_
  refine go_v rfl .none rfl (o_addR ((b + (2 + 2 * k + 1) : Nat) : Int) (by rw [wr_i64 (by omega)]; omega) rfl rfl) ?_
  refine go_v rfl .none rfl (o_idxS (j := b + (2 + 2 * k + 1)) rfl rfl (by omega)) ?_
  refine go_u rfl .none (o_storeS rfl rfl rfl (by simp [zap_len]; omega)) (fun hG => absurd hG (by decide)) ?_
  rw [map_set1]
  refine go_nil ?_
  refine ge_block ?_
  refine ge_then ?_
  refine g_region ?_
  refine gl_v rfl (o_move rfl) ?_
  refine gl_v rfl (o_addR _ (by first | exact wr_i64 (by omega) | rfl) rfl rfl) ?_
  refine gl_v rfl (o_assign rfl) ?_
  refine gl_nil ?_
  refine ge_round (k + 1) (show k + 1 ≤ _ by omega) (by omega) (Keep.cons rfl (Keep.cons rfl (Keep.cons rfl (Keep.nil)))) (To.sat (by repeat (first | exact .nil | exact .done .refl | (apply To.cons; · (repeat (first | exact .head | apply Sel.tail))) | exact .done (by repeat (first | exact .refl | apply Drop.skip)))))
 ·
  first | replace hc1 := of_decide_eq_true hc1 | replace hc1 := lt_f hc1 | replace hc1 := le_f hc1 | replace hc1 := dec_f hc1 | replace hc1 := nlt_t hc1 | replace hc1 := nle_t hc1 | replace hc1 := ndec_t hc1 | replace hc1 := ndec_f hc1 | replace hc1 := nn_t hc1 | replace hc1 := nn_f hc1 | skip
  obtain rfl : k = n := by omega
  refine g_exit ?_
  refine ge_then_exit ?_
  refine ge_then_exit ?_
  refine ge_block_exit ?_
  refine ret0 (.inr rfl) rfl [rmemA w (zap L b (2 + 2 * k)) t] (⟨rfl, rfl⟩) (rmem_close a c rfl rfl (by rw [zap_len]; exact (To.sat (by repeat (first | exact .nil | exact .done .refl | (apply To.cons; · (repeat (first | exact .head | apply Sel.tail))) | exact .done (by repeat (first | exact .refl | apply Drop.skip)))))))

set_option maxRecDepth 8000 in
set_option maxHeartbeats 2000000 in
theorem kcSize_spec (c : Nat) (b s : Int) (zs : List Value) (hs : 1 ≤ s ∧ s ≤ 64) : FnS Tryz.prog 22 [ptr c 0] [cel c 49 (I64 b :: I64 s :: zs)] (fun u Bs => u = I64 (3 + 2 * s) ∧ Bs = [cel c 49 (I64 b :: I64 s :: zs)]) := by
 refine fn_body Tryz.func22 rfl rfl rfl ?_
 intro W0 R
 simp only [List.zipIdx_cons, List.zipIdx_nil, List.map_cons, List.map_nil, Nat.zero_add, Nat.reduceAdd, List.cons_append, List.nil_append]
 refine g_seq ?_
 refine g_region ?_
 refine gl_v rfl (o_assign rfl) ?_
 refine gl_nil ?_
 refine ge_then ?_
 refine g_seq ?_
 refine g_region ?_
 refine gl_v rfl (o_move rfl) ?_
 refine gl_v rfl (o_nil rfl) ?_
 first | refine gl_v rfl (o_fldS rfl) ?_ | refine gl_v rfl (o_fld rfl) ?_
 first | refine gl_v rfl (o_load rfl rfl) ?_ | refine gl_v rfl (o_loadS rfl rfl) ?_ | refine gl_v rfl (o_loadC rfl) ?_
 refine gl_v rfl (o_mulR (2 * s) (wr_i64 (by omega)) rfl rfl) ?_
 refine gl_v rfl (o_addR (3 + 2 * s) (wr_i64 (by omega)) rfl rfl) ?_
 refine gl_v rfl (o_assign rfl) ?_
 refine gl_nil ?_
 refine ge_then ?_
 refine g_ret ?_
 refine ret1 (.inl rfl) rfl rfl _ (⟨rfl, rfl⟩) (To.sat (by repeat (first | exact .nil | exact .done .refl | (apply To.cons; · (repeat (first | exact .head | apply Sel.tail))) | exact .done (by repeat (first | exact .refl | apply Drop.skip)))))

set_option maxRecDepth 8000 in
set_option maxHeartbeats 2000000 in
theorem kcRing_spec (c b n : Nat) (zs : List Value) (hb : b ≤ 65536) (hn : n ≤ 64) : FnS Tryz.prog 50 [ptr c 0] [cel c 49 (I64 b :: I64 n :: zs)] (fun u Bs => u = .agg #[I64 ((b + 1 : Nat) : Int), I64 n] ∧ Bs = [cel c 49 (I64 b :: I64 n :: zs)]) := by
 refine fn_body Tryz.func50 rfl rfl rfl ?_
 intro W0 R
 simp only [List.zipIdx_cons, List.zipIdx_nil, List.map_cons, List.map_nil, Nat.zero_add, Nat.reduceAdd, List.cons_append, List.nil_append]
 refine g_seq ?_
 refine g_region ?_
 refine gl_n rfl (o_alloc) ?_
 rintro _ _ ⟨b2, rfl, rfl⟩
 refine gl_nil ?_
 refine ge_then ?_
 refine g_seq ?_
 refine g_draw [10] [] [(0, .loc), (1, .loc), (2, .loc), (3, .loc), (4, .loc), (5, .loc), (6, .loc), (7, .loc), (8, .loc), (9, .loc), (10, .eff)] [cel c 49 (I64 b :: I64 n :: zs)] mixed (by kernel_rfl) ?_
 refine go_v rfl .none rfl (o_move rfl) ?_
 refine go_v rfl .none rfl (o_nil rfl) ?_
 first | refine go_v rfl .none rfl (o_fldS rfl) ?_ | refine go_v rfl .none rfl (o_fld rfl) ?_
 first | refine go_v rfl .none rfl (o_load rfl rfl) ?_ | refine go_v rfl .none rfl (o_loadS rfl rfl) ?_ | refine go_v rfl .none rfl (o_loadC rfl) ?_
 refine go_v rfl .none rfl (o_addR ((b + 1 : Nat) : Int) (by rw [wr_i64 (by omega)]; omega) rfl rfl) ?_
 refine go_v rfl .none rfl (o_move rfl) ?_
 refine go_v rfl .none rfl (o_nil rfl) ?_
 first | refine go_v rfl .none rfl (o_fldS rfl) ?_ | refine go_v rfl .none rfl (o_fld rfl) ?_
 first | refine go_v rfl .none rfl (o_load rfl rfl) ?_ | refine go_v rfl .none rfl (o_loadS rfl rfl) ?_ | refine go_v rfl .none rfl (o_loadC rfl) ?_
 refine go_v rfl .none rfl (o_build rfl rfl) ?_
 first | refine go_u rfl .none (o_storeSA rfl rfl rfl rfl (by simp; omega) (by simp)) (fun hG => absurd hG (by decide)) ?_ | refine go_u rfl .none (o_storeA rfl rfl rfl rfl rfl) (fun hG => absurd hG (by decide)) ?_
 refine go_nil ?_
 refine ge_then ?_
 refine g_ret ?_
 refine ret1c (.inl rfl) rfl rfl rfl rfl _ (⟨rfl, rfl⟩) (To.sat (by repeat (first | exact .nil | exact .done .refl | (apply To.cons; · (repeat (first | exact .head | apply Sel.tail))) | exact .done (by repeat (first | exact .refl | apply Drop.skip)))))

set_option maxRecDepth 8000 in
set_option maxHeartbeats 2000000 in
theorem kcLay_spec (w c b n : Nat) (L : List Int) (t : Int) (zs : List Value) (I : CI ⟨b, n⟩ L) : FnS Tryz.prog 27 [ptr w 0, ptr c 0] [rmemA w L t, cel c 49 (I64 b :: I64 n :: zs)] (fun u Bs => u = .tuple #[] ∧ Bs = [rmemA w (zap L b (3 + 2 * n)) t, cel c 49 (I64 b :: I64 n :: zs)]) := by
 refine fn_body Tryz.func27 rfl rfl rfl ?_
 intro W0 R
 simp only [List.zipIdx_cons, List.zipIdx_nil, List.map_cons, List.map_nil, Nat.zero_add, Nat.reduceAdd, List.cons_append, List.nil_append]
 have h1 : 1 ≤ n := I.m1
 have h2 : n ≤ 64 := I.m64
 have h5 : b + 3 + 2 * n ≤ L.length := I.len
 have h6 := I.top
 refine g_open (by repeat (first | exact .head | apply Sel.tail)) ?_
 rintro ⟨a, k⟩ -
 simp only [List.cons_append, List.nil_append]
 refine g_seq ?_
 refine g_draw [9] [] [(0, .loc), (1, .loc), (2, .loc), (3, .loc), (4, .loc), (5, .loc), (6, .loc), (7, .loc), (8, .loc), (9, .eff)] [cel c 49 (I64 b :: I64 n :: zs), cel w 54 [.slice a L.length k, I64 t]] mixed (by kernel_rfl) ?_
 refine go_v rfl .none rfl (o_move rfl) ?_
 refine go_v rfl .none rfl (o_nil rfl) ?_
 first | refine go_v rfl .none rfl (o_fldS rfl) ?_ | refine go_v rfl .none rfl (o_fld rfl) ?_
 first | refine go_v rfl .none rfl (o_load rfl rfl) ?_ | refine go_v rfl .none rfl (o_loadS rfl rfl) ?_ | refine go_v rfl .none rfl (o_loadC rfl) ?_
 refine go_v rfl .none rfl (o_move rfl) ?_
 refine go_v rfl .none rfl (o_nil rfl) ?_
 first | refine go_v rfl .none rfl (o_fldS rfl) ?_ | refine go_v rfl .none rfl (o_fld rfl) ?_
 first | refine go_v rfl .none rfl (o_load rfl rfl) ?_ | refine go_v rfl .none rfl (o_loadS rfl rfl) ?_ | refine go_v rfl .none rfl (o_loadC rfl) ?_
 refine go_v rfl .none rfl (o_idxS (j := b) rfl rfl (by omega)) ?_
 refine go_u rfl .none (o_storeS rfl rfl rfl (by simp; omega)) (fun hG => absurd hG (by decide)) ?_
 rw [map_set1]
 refine go_nil ?_
 refine ge_imp (rmem_close (R := cel c 49 (I64 b :: I64 n :: zs) :: R) (p := w) a k (L := L.set b 0) (t := t) rfl rfl (by simp only [List.length_set]; exact (To.sat (by repeat (first | exact .nil | exact .done .refl | (apply To.cons; · (repeat (first | exact .head | apply Sel.tail))) | exact .done (by repeat (first | exact .refl | apply Drop.skip))))))) ?_
 refine ge_then ?_
 refine g_region ?_
 refine gl_v rfl (o_move rfl) ?_
 refine gl_v rfl (o_move rfl) ?_
 refine gl_c rfl (o_call rfl (kcRing_spec c b n zs (by omega) h2) (by repeat (first | exact .nil | (apply Part.cons; · (repeat (first | exact .head | apply Sel.tail)))))) ?_
 rintro _ R ⟨_, ⟨rfl, rfl⟩, rfl⟩
 try simp only [List.cons_append, List.nil_append]
 refine gl_c rfl (o_call rfl (rLay_spec w (b + 1) n (L.set b 0) t ⟨h1, h2, by simp; omega, by simp; omega⟩) (by repeat (first | exact .nil | (apply Part.cons; · (repeat (first | exact .head | apply Sel.tail)))))) ?_
 rintro _ R ⟨_, ⟨rfl, rfl⟩, rfl⟩
 try simp only [List.cons_append, List.nil_append]
 refine gl_nil ?_
 refine ret0 (.inr rfl) rfl [rmemA w (zap L b (3 + 2 * n)) t, cel c 49 (I64 b :: I64 n :: zs)] (⟨rfl, rfl⟩) (by rw [show zap L b (3 + 2 * n) = zap (zap L b 1) (b + 1) (2 + 2 * n) by rw [zap_add, show 1 + (2 + 2 * n) = 3 + 2 * n by omega]]; exact (To.sat (by repeat (first | exact .nil | exact .done .refl | (apply To.cons; · (repeat (first | exact .head | apply Sel.tail))) | exact .done (by repeat (first | exact .refl | apply Drop.skip))))))

end Go.Proofs.YtmohikdmdmplaaaGreat.L
