/-
  PostMakes. Own work, printed in part by a program of its own.
-/
import Derived.Test.YtkpgcdhepfgfaaaPostJ
namespace Go.Proofs.Ytkpgcdhepfgfaaa.L
open Go.L Go.L.Ring Go.L.Post
theorem sizeP_val (s n : Int) : sizeP s n = if 1 ≤ s ∧ s ≤ 64 ∧ 1 ≤ n ∧ n ≤ 64 then 6 + 2 * s + 2 * n else 0 := by
  unfold sizeP sizeR; (repeat' split) <;> omega

set_option maxRecDepth 8000 in
theorem rLay_spec (w b n : Nat) (L : List Int) (t : Int) (I : RI b n L) : FnS Try.prog 56 [ptr w 0, .agg #[I64 b, I64 n]] [rmemA w L t] (fun u Bs => u = .tuple #[] ∧ Bs = [rmemA w (zap L b (2 + 2 * n)) t]) := by
  refine fn_body Try.func56 rfl rfl rfl ?_
  intro W0 R
  simp only [List.zipIdx_cons, List.zipIdx_nil, List.map_cons, List.map_nil, Nat.zero_add, Nat.reduceAdd, List.cons_append, List.nil_append]
  have hb0 := I.len; have hn1 := I.n1; have hn2 := I.n64; have hL0 := I.top
  refine g_open (by repeat (first | exact .head | apply Sel.tail)) ?_
  rintro ⟨a, c⟩ -
  simp only [List.cons_append, List.nil_append]
  refine g_seq ?_
  refine g_region ?_
  refine gl_n rfl (o_boxA rfl) ?_
  rintro _ _ ⟨b3, rfl, rfl⟩
  refine gl_nil ?_
  refine ge_then ?_
  refine g_seq ?_
  refine g_draw [7] [] [(0, .loc), (1, .loc), (2, .loc), (3, .loc), (4, .loc), (5, .loc), (6, .loc), (7, .eff)] [] mixed (by kernel_rfl) ?_
  refine go_v rfl .none rfl (o_move rfl) ?_
  refine go_v rfl .none rfl (o_nil rfl) ?_
  first | refine go_v rfl .none rfl (o_fldS rfl) ?_ | refine go_v rfl .none rfl (o_fld rfl) ?_
  first | refine go_v rfl .none rfl (o_load rfl rfl) ?_ | refine go_v rfl .none rfl (o_loadS rfl rfl) ?_ | refine go_v rfl .none rfl (o_loadC rfl) ?_
  first | refine go_v rfl .none rfl (o_fldS rfl) ?_ | refine go_v rfl .none rfl (o_fld rfl) ?_
  first | refine go_v rfl .none rfl (o_load rfl rfl) ?_ | refine go_v rfl .none rfl (o_loadS rfl rfl) ?_ | refine go_v rfl .none rfl (o_loadC rfl) ?_
  refine go_v rfl .none rfl (o_idxS (j := b) rfl rfl (by omega)) ?_
  refine go_u rfl .none (o_storeS rfl rfl rfl (by simp; omega)) (fun hG => absurd hG (by decide)) ?_
  rw [map_set1]
  refine go_nil ?_
  refine ge_then ?_
  refine g_seq ?_
  refine g_draw [8] [] [(0, .loc), (1, .loc), (2, .loc), (3, .loc), (4, .loc), (5, .loc), (6, .loc), (7, .loc), (8, .eff)] [] mixed (by kernel_rfl) ?_
  refine go_v rfl .none rfl (o_move rfl) ?_
  refine go_v rfl .none rfl (o_nil rfl) ?_
  first | refine go_v rfl .none rfl (o_fldS rfl) ?_ | refine go_v rfl .none rfl (o_fld rfl) ?_
  first | refine go_v rfl .none rfl (o_load rfl rfl) ?_ | refine go_v rfl .none rfl (o_loadS rfl rfl) ?_ | refine go_v rfl .none rfl (o_loadC rfl) ?_
  first | refine go_v rfl .none rfl (o_fldS rfl) ?_ | refine go_v rfl .none rfl (o_fld rfl) ?_
  first | refine go_v rfl .none rfl (o_load rfl rfl) ?_ | refine go_v rfl .none rfl (o_loadS rfl rfl) ?_ | refine go_v rfl .none rfl (o_loadC rfl) ?_
  refine go_v rfl .none rfl (o_addR ((b + 1 : Nat) : Int) (by rw [wr_i64 (by omega)]; omega) rfl rfl) ?_
  refine go_v rfl .none rfl (o_idxS (j := b + 1) rfl rfl (by omega)) ?_
  refine go_u rfl .none (o_storeS rfl rfl rfl (by simp; omega)) (fun hG => absurd hG (by decide)) ?_
  rw [map_set1]
  refine go_nil ?_
  refine ge_then ?_
  refine g_seq ?_
  refine g_region ?_
  refine gl_v rfl (o_assign rfl) ?_
  refine gl_nil ?_
  refine ge_then ?_
  refine g_block ?_
  refine g_loop (ι := Nat) (fun x => x ≤ n) (fun x => [(4, I64 x), (3, ptr b3 0), (0, ptr w 0)]) (fun x => cel w 62 [.slice a L.length c, I64 t] :: own (.slice a L.length c) 31 1 L.length ((zap L b (2 + 2 * x)).map U64) :: cel b3 99 [I64 b, I64 n] :: R) (fun x => n - x) 0 (Nat.zero_le _) (Keep.cons rfl (Keep.cons rfl (Keep.cons rfl (Keep.nil)))) (To.sat (by repeat (first | exact .nil | exact .done .refl | (apply To.cons; · (repeat (first | exact .head | apply Sel.tail))) | exact .done (by repeat (first | exact .refl | apply Drop.skip))))) ?_
  intro k hk
  refine g_seq ?_
  refine g_seq ?_
  refine g_region ?_
  refine gl_v rfl (o_move rfl) ?_
  first | refine gl_v rfl (o_fldS rfl) ?_ | refine gl_v rfl (o_fld rfl) ?_
  first | refine gl_v rfl (o_load rfl rfl) ?_ | refine gl_v rfl (o_loadS rfl rfl) ?_ | refine gl_v rfl (o_loadC rfl) ?_
  refine gl_v rfl (o_lss rfl rfl) ?_
  refine gl_nil ?_
  refine ge_then ?_
  refine g_cond rfl (fun hc1 => ?_) (fun hc1 => ?_)
  ·
    first | replace hc1 := of_decide_eq_true hc1 | replace hc1 := lt_f hc1 | replace hc1 := le_f hc1 | replace hc1 := dec_f hc1 | replace hc1 := nlt_t hc1 | replace hc1 := nle_t hc1 | replace hc1 := ndec_t hc1 | replace hc1 := ndec_f hc1 | replace hc1 := nn_t hc1 | replace hc1 := nn_f hc1 | skip
    refine g_skip ?_
    refine ge_then ?_
    refine g_seq ?_
    refine g_block ?_
    refine g_seq ?_
    refine g_draw [11] [] [(0, .loc), (1, .loc), (2, .loc), (3, .loc), (4, .loc), (5, .loc), (6, .loc), (7, .loc), (8, .loc), (9, .loc), (10, .loc), (11, .eff)] [] mixed (by kernel_rfl) ?_
    refine go_v rfl .none rfl (o_move rfl) ?_
    refine go_v rfl .none rfl (o_nil rfl) ?_
    first | refine go_v rfl .none rfl (o_fldS rfl) ?_ | refine go_v rfl .none rfl (o_fld rfl) ?_
    first | refine go_v rfl .none rfl (o_load rfl rfl) ?_ | refine go_v rfl .none rfl (o_loadS rfl rfl) ?_ | refine go_v rfl .none rfl (o_loadC rfl) ?_
    first | refine go_v rfl .none rfl (o_fldS rfl) ?_ | refine go_v rfl .none rfl (o_fld rfl) ?_
    first | refine go_v rfl .none rfl (o_load rfl rfl) ?_ | refine go_v rfl .none rfl (o_loadS rfl rfl) ?_ | refine go_v rfl .none rfl (o_loadC rfl) ?_
    refine go_v rfl .none rfl (o_addR _ (by first | exact wr_i64 (by omega) | rfl) rfl rfl) ?_
    refine go_v rfl .none rfl (o_move rfl) ?_
    refine go_v rfl .none rfl (o_mulR _ (by first | exact wr_i64 (by omega) | rfl) rfl rfl) ?_
    refine go_v rfl .none rfl (o_addR ((b + (2 + 2 * k) : Nat) : Int) (by rw [wr_i64 (by omega)]; omega) rfl rfl) ?_
    refine go_v rfl .none rfl (o_idxS (j := b + (2 + 2 * k)) rfl rfl (by omega)) ?_
    refine go_u rfl .none (o_storeS rfl rfl rfl (by simp [zap_len]; omega)) (fun hG => absurd hG (by decide)) ?_
    rw [map_set1]
    refine go_nil ?_
    refine ge_then ?_
    refine g_draw [11] [] [(0, .loc), (1, .loc), (2, .loc), (3, .loc), (4, .loc), (5, .loc), (6, .loc), (7, .loc), (8, .loc), (9, .loc), (10, .loc), (11, .eff)] [] mixed (by kernel_rfl) ?_
    refine go_v rfl .none rfl (o_move rfl) ?_
    refine go_v rfl .none rfl (o_nil rfl) ?_
    first | refine go_v rfl .none rfl (o_fldS rfl) ?_ | refine go_v rfl .none rfl (o_fld rfl) ?_
    first | refine go_v rfl .none rfl (o_load rfl rfl) ?_ | refine go_v rfl .none rfl (o_loadS rfl rfl) ?_ | refine go_v rfl .none rfl (o_loadC rfl) ?_
    first | refine go_v rfl .none rfl (o_fldS rfl) ?_ | refine go_v rfl .none rfl (o_fld rfl) ?_
    first | refine go_v rfl .none rfl (o_load rfl rfl) ?_ | refine go_v rfl .none rfl (o_loadS rfl rfl) ?_ | refine go_v rfl .none rfl (o_loadC rfl) ?_
    refine go_v rfl .none rfl (o_addR _ (by first | exact wr_i64 (by omega) | rfl) rfl rfl) ?_
    refine go_v rfl .none rfl (o_move rfl) ?_
    refine go_v rfl .none rfl (o_mulR _ (by first | exact wr_i64 (by omega) | rfl) rfl rfl) ?_
    refine go_v rfl .none rfl (o_addR ((b + (2 + 2 * k + 1) : Nat) : Int) (by rw [wr_i64 (by omega)]; omega) rfl rfl) ?_
    refine go_v rfl .none rfl (o_idxS (j := b + (2 + 2 * k + 1)) rfl rfl (by omega)) ?_
    refine go_u rfl .none (o_storeS rfl rfl rfl (by simp [zap_len]; omega)) (fun hG => absurd hG (by decide)) ?_
    rw [map_set1]
    refine go_nil ?_
    refine ge_block ?_
    refine ge_then ?_
    refine g_region ?_
    refine gl_v rfl (o_move rfl) ?_
    refine gl_v rfl (o_addR _ (by first | exact wr_i64 (by omega) | rfl) rfl rfl) ?_
    refine gl_v rfl (o_assign rfl) ?_
    refine gl_nil ?_
    refine ge_round (k + 1) (show k + 1 ≤ _ by omega) (by omega) (Keep.cons rfl (Keep.cons rfl (Keep.cons rfl (Keep.nil)))) (To.sat (by repeat (first | exact .nil | exact .done .refl | (apply To.cons; · (repeat (first | exact .head | apply Sel.tail))) | exact .done (by repeat (first | exact .refl | apply Drop.skip)))))
  ·
    first | replace hc1 := of_decide_eq_true hc1 | replace hc1 := lt_f hc1 | replace hc1 := le_f hc1 | replace hc1 := dec_f hc1 | replace hc1 := nlt_t hc1 | replace hc1 := nle_t hc1 | replace hc1 := ndec_t hc1 | replace hc1 := ndec_f hc1 | replace hc1 := nn_t hc1 | replace hc1 := nn_f hc1 | skip
    obtain rfl : k = n := by omega
    refine g_exit ?_
    refine ge_then_exit ?_
    refine ge_then_exit ?_
    refine ge_block_exit ?_
    refine ret0 (.inr rfl) rfl [rmemA w (zap L b (2 + 2 * k)) t] (⟨rfl, rfl⟩) (rmem_close a c rfl rfl (by rw [zap_len]; exact (To.sat (by repeat (first | exact .nil | exact .done .refl | (apply To.cons; · (repeat (first | exact .head | apply Sel.tail))) | exact .done (by repeat (first | exact .refl | apply Drop.skip)))))))

set_option maxRecDepth 8000 in
theorem mailRing_spec (b nm nn : Nat) (hb : b ≤ 65536) (hm : nm ≤ 64) : FnS Try.prog 57 [.agg #[I64 b, I64 nm, I64 nn]] [] (fun u Bs => u = .agg #[I64 ((b + 2 : Nat) : Int), I64 nm] ∧ Bs = []) := by
  refine fn_body Try.func57 rfl rfl rfl ?_
  intro W0 R
  simp only [List.zipIdx_cons, List.zipIdx_nil, List.map_cons, List.map_nil, Nat.zero_add, Nat.reduceAdd, List.cons_append, List.nil_append]
  refine g_seq ?_
  refine g_region ?_
  refine gl_n rfl (o_boxA rfl) ?_
  rintro _ _ ⟨b1, rfl, rfl⟩
  refine gl_n rfl (o_alloc) ?_
  rintro _ _ ⟨b2, rfl, rfl⟩
  refine gl_nil ?_
  refine ge_then ?_
  refine g_seq ?_
  refine g_region ?_
  first | refine gl_v rfl (o_fldS rfl) ?_ | refine gl_v rfl (o_fld rfl) ?_
  first | refine gl_v rfl (o_load rfl rfl) ?_ | refine gl_v rfl (o_loadS rfl rfl) ?_ | refine gl_v rfl (o_loadC rfl) ?_
  refine gl_v rfl (o_addR ((b + 2 : Nat) : Int) (by rw [wr_i64 (by omega)]; omega) rfl rfl) ?_
  first | refine gl_v rfl (o_fldS rfl) ?_ | refine gl_v rfl (o_fld rfl) ?_
  first | refine gl_v rfl (o_load rfl rfl) ?_ | refine gl_v rfl (o_loadS rfl rfl) ?_ | refine gl_v rfl (o_loadC rfl) ?_
  refine gl_v rfl (o_build rfl rfl) ?_
  first | refine gl_u (o_storeSA rfl rfl rfl rfl (by simp; omega) (by simp)) ?_ | refine gl_u (o_storeA rfl rfl rfl rfl rfl) ?_
  refine gl_nil ?_
  refine ge_then ?_
  refine g_ret ?_
  refine ret1c (.inl rfl) rfl rfl rfl rfl _ (⟨rfl, rfl⟩) (To.sat (by repeat (first | exact .nil | exact .done .refl | (apply To.cons; · (repeat (first | exact .head | apply Sel.tail))) | exact .done (by repeat (first | exact .refl | apply Drop.skip)))))

set_option maxRecDepth 8000 in
theorem noteRing_spec (b nm nn : Nat) (hb : b ≤ 65536) (hm : nm ≤ 64) : FnS Try.prog 58 [.agg #[I64 b, I64 nm, I64 nn]] [] (fun u Bs => u = .agg #[I64 ((b + 2 + (2 + 2 * nm) : Nat) : Int), I64 nn] ∧ Bs = []) := by
  refine fn_body Try.func58 rfl rfl rfl ?_
  intro W0 R
  simp only [List.zipIdx_cons, List.zipIdx_nil, List.map_cons, List.map_nil, Nat.zero_add, Nat.reduceAdd, List.cons_append, List.nil_append]
  refine g_seq ?_
  refine g_region ?_
  refine gl_n rfl (o_boxA rfl) ?_
  rintro _ _ ⟨b1, rfl, rfl⟩
  refine gl_n rfl (o_alloc) ?_
  rintro _ _ ⟨b2, rfl, rfl⟩
  refine gl_nil ?_
  refine ge_then ?_
  refine g_seq ?_
  refine g_region ?_
  first | refine gl_v rfl (o_fldS rfl) ?_ | refine gl_v rfl (o_fld rfl) ?_
  first | refine gl_v rfl (o_load rfl rfl) ?_ | refine gl_v rfl (o_loadS rfl rfl) ?_ | refine gl_v rfl (o_loadC rfl) ?_
  refine gl_v rfl (o_addR ((b + 4 : Nat) : Int) (by rw [wr_i64 (by omega)]; omega) rfl rfl) ?_
  first | refine gl_v rfl (o_fldS rfl) ?_ | refine gl_v rfl (o_fld rfl) ?_
  first | refine gl_v rfl (o_load rfl rfl) ?_ | refine gl_v rfl (o_loadS rfl rfl) ?_ | refine gl_v rfl (o_loadC rfl) ?_
  refine gl_v rfl (o_mulR ((2 * nm : Nat) : Int) (by rw [wr_i64 (by omega)]; omega) rfl rfl) ?_
  refine gl_v rfl (o_addR ((b + 2 + (2 + 2 * nm) : Nat) : Int) (by rw [wr_i64 (by omega)]; omega) rfl rfl) ?_
  first | refine gl_v rfl (o_fldS rfl) ?_ | refine gl_v rfl (o_fld rfl) ?_
  first | refine gl_v rfl (o_load rfl rfl) ?_ | refine gl_v rfl (o_loadS rfl rfl) ?_ | refine gl_v rfl (o_loadC rfl) ?_
  refine gl_v rfl (o_build rfl rfl) ?_
  first | refine gl_u (o_storeSA rfl rfl rfl rfl (by simp; omega) (by simp)) ?_ | refine gl_u (o_storeA rfl rfl rfl rfl rfl) ?_
  refine gl_nil ?_
  refine ge_then ?_
  refine g_ret ?_
  refine ret1c (.inl rfl) rfl rfl rfl rfl _ (⟨rfl, rfl⟩) (To.sat (by repeat (first | exact .nil | exact .done .refl | (apply To.cons; · (repeat (first | exact .head | apply Sel.tail))) | exact .done (by repeat (first | exact .refl | apply Drop.skip)))))

set_option maxRecDepth 8000 in
theorem pLay_spec (w b nm nn : Nat) (L : List Int) (t : Int) (I : PI ⟨b, nm, nn⟩ L) : FnS Try.prog 31 [ptr w 0, .agg #[I64 b, I64 nm, I64 nn]] [rmemA w L t] (fun u Bs => u = .tuple #[] ∧ Bs = [rmemA w (zap L b (PB.sz ⟨b, nm, nn⟩)) t]) := by
  refine fn_body Try.func31 rfl rfl rfl ?_
  intro W0 R
  simp only [List.zipIdx_cons, List.zipIdx_nil, List.map_cons, List.map_nil, Nat.zero_add, Nat.reduceAdd, List.cons_append, List.nil_append]
  have h1 : 1 ≤ nm := I.m1
  have h2 : nm ≤ 64 := I.m64
  have h3 : 1 ≤ nn := I.n1
  have h4 : nn ≤ 64 := I.n64
  have h5 : b + 6 + 2 * nm + 2 * nn ≤ L.length := I.len
  have h6 := I.top
  refine g_open (by repeat (first | exact .head | apply Sel.tail)) ?_
  rintro ⟨a, c⟩ -
  simp only [List.cons_append, List.nil_append]
  refine g_seq ?_
  refine g_region ?_
  refine gl_n rfl (o_boxA rfl) ?_
  rintro _ _ ⟨b3, rfl, rfl⟩
  refine gl_nil ?_
  refine ge_then ?_
  refine g_seq ?_
  refine g_draw [7] [] [(0, .loc), (1, .loc), (2, .loc), (3, .loc), (4, .loc), (5, .loc), (6, .loc), (7, .eff)] [] mixed (by kernel_rfl) ?_
  refine go_v rfl .none rfl (o_move rfl) ?_
  refine go_v rfl .none rfl (o_nil rfl) ?_
  first | refine go_v rfl .none rfl (o_fldS rfl) ?_ | refine go_v rfl .none rfl (o_fld rfl) ?_
  first | refine go_v rfl .none rfl (o_load rfl rfl) ?_ | refine go_v rfl .none rfl (o_loadS rfl rfl) ?_ | refine go_v rfl .none rfl (o_loadC rfl) ?_
  first | refine go_v rfl .none rfl (o_fldS rfl) ?_ | refine go_v rfl .none rfl (o_fld rfl) ?_
  first | refine go_v rfl .none rfl (o_load rfl rfl) ?_ | refine go_v rfl .none rfl (o_loadS rfl rfl) ?_ | refine go_v rfl .none rfl (o_loadC rfl) ?_
  refine go_v rfl .none rfl (o_idxS (j := b) rfl rfl (by omega)) ?_
  refine go_u rfl .none (o_storeS rfl rfl rfl (by simp; omega)) (fun hG => absurd hG (by decide)) ?_
  rw [map_set1]
  refine go_nil ?_
  refine ge_then ?_
  refine g_seq ?_
  refine g_draw [8] [] [(0, .loc), (1, .loc), (2, .loc), (3, .loc), (4, .loc), (5, .loc), (6, .loc), (7, .loc), (8, .eff)] [] mixed (by kernel_rfl) ?_
  refine go_v rfl .none rfl (o_move rfl) ?_
  refine go_v rfl .none rfl (o_nil rfl) ?_
  first | refine go_v rfl .none rfl (o_fldS rfl) ?_ | refine go_v rfl .none rfl (o_fld rfl) ?_
  first | refine go_v rfl .none rfl (o_load rfl rfl) ?_ | refine go_v rfl .none rfl (o_loadS rfl rfl) ?_ | refine go_v rfl .none rfl (o_loadC rfl) ?_
  first | refine go_v rfl .none rfl (o_fldS rfl) ?_ | refine go_v rfl .none rfl (o_fld rfl) ?_
  first | refine go_v rfl .none rfl (o_load rfl rfl) ?_ | refine go_v rfl .none rfl (o_loadS rfl rfl) ?_ | refine go_v rfl .none rfl (o_loadC rfl) ?_
  refine go_v rfl .none rfl (o_addR ((b + 1 : Nat) : Int) (by rw [wr_i64 (by omega)]; omega) rfl rfl) ?_
  refine go_v rfl .none rfl (o_idxS (j := b + 1) rfl rfl (by omega)) ?_
  refine go_u rfl .none (o_storeS rfl rfl rfl (by simp; omega)) (fun hG => absurd hG (by decide)) ?_
  rw [map_set1]
  refine go_nil ?_
  refine ge_imp (rmem_close (R := cel b3 67 [I64 b, I64 nm, I64 nn] :: R) (p := w) a c (L := (L.set b 0).set (b + 1) 0) (t := t) rfl rfl (by simp only [List.length_set, zap_len]; exact (To.sat (by repeat (first | exact .nil | exact .done .refl | (apply To.cons; · (repeat (first | exact .head | apply Sel.tail))) | exact .done (by repeat (first | exact .refl | apply Drop.skip))))))) ?_
  refine ge_then ?_
  refine g_seq ?_
  refine g_region ?_
  refine gl_v rfl (o_move rfl) ?_
  first | refine gl_v rfl (o_loadSA rfl rfl rfl) ?_ | refine gl_v rfl (o_loadA rfl rfl rfl) ?_
  refine gl_c rfl (o_call rfl (mailRing_spec b nm nn (by omega) h2) (by repeat (first | exact .nil | (apply Part.cons; · (repeat (first | exact .head | apply Sel.tail)))))) ?_
  rintro _ R ⟨_, ⟨rfl, rfl⟩, rfl⟩
  try simp only [List.cons_append, List.nil_append]
  refine gl_c rfl (o_call rfl (rLay_spec w (b + 2) nm ((L.set b 0).set (b + 1) 0) t ⟨h1, h2, by simp; omega, by simp; omega⟩) (by repeat (first | exact .nil | (apply Part.cons; · (repeat (first | exact .head | apply Sel.tail)))))) ?_
  rintro _ R ⟨_, ⟨rfl, rfl⟩, rfl⟩
  try simp only [List.cons_append, List.nil_append]
  refine gl_nil ?_
  refine ge_then ?_
  refine g_region ?_
  refine gl_v rfl (o_move rfl) ?_
  first | refine gl_v rfl (o_loadSA rfl rfl rfl) ?_ | refine gl_v rfl (o_loadA rfl rfl rfl) ?_
  refine gl_c rfl (o_call rfl (noteRing_spec b nm nn (by omega) h2) (by repeat (first | exact .nil | (apply Part.cons; · (repeat (first | exact .head | apply Sel.tail)))))) ?_
  rintro _ R ⟨_, ⟨rfl, rfl⟩, rfl⟩
  try simp only [List.cons_append, List.nil_append]
  refine gl_c rfl (o_call rfl (rLay_spec w (b + 2 + (2 + 2 * nm)) nn (zap ((L.set b 0).set (b + 1) 0) (b + 2) (2 + 2 * nm)) t ⟨h3, h4, by rw [zap_len]; simp; omega, by rw [zap_len]; simp; omega⟩) (by repeat (first | exact .nil | (apply Part.cons; · (repeat (first | exact .head | apply Sel.tail)))))) ?_
  rintro _ R ⟨_, ⟨rfl, rfl⟩, rfl⟩
  try simp only [List.cons_append, List.nil_append]
  refine gl_nil ?_
  refine ret0 (.inr rfl) rfl [rmemA w (zap L b (PB.sz ⟨b, nm, nn⟩)) t] (⟨rfl, rfl⟩) (by rw [show zap L b (PB.sz ⟨b, nm, nn⟩) = zap (zap (zap L b 2) (b + 2) (2 + 2 * nm)) (b + 2 + (2 + 2 * nm)) (2 + 2 * nn) by rw [zap_add, zap_add, ← Nat.add_assoc]; rfl]; exact (To.sat (by repeat (first | exact .nil | exact .done .refl | (apply To.cons; · (repeat (first | exact .head | apply Sel.tail))) | exact .done (by repeat (first | exact .refl | apply Drop.skip))))))

set_option maxRecDepth 8000 in
theorem pmakes_ok (c0 : Int) (b nm nn : Nat) (I : c0 ≤ 1000 → PI ⟨b, nm, nn⟩ (List.replicate (cnt c0) 99)) (s1 s2 s3 : Int) (e1 : s1 = b) (e2 : s2 = nm) (e3 : s3 = nn) (hm : 1 ≤ nm ∧ nm ≤ 64) (hn : 1 ≤ nn ∧ nn ≤ 64) (hb : b ≤ 9223372036854775807) : FnS Try.prog 6 [I64 c0, I64 s1, I64 s2, I64 s3] [] (fun u Bs => u = .bool true ∧ Bs = []) := by
  refine fn_body Try.func6 rfl rfl rfl ?_
  intro W0 R
  simp only [List.zipIdx_cons, List.zipIdx_nil, List.map_cons, List.map_nil, Nat.zero_add, Nat.reduceAdd, List.cons_append, List.nil_append]
  have hcl := cnt_le c0
  have hrl : (List.replicate (cnt c0) (99 : Int)).length = cnt c0 := List.length_replicate
  subst e1 e2 e3
  refine g_seq ?_
  refine g_region ?_
  refine gl_v rfl (o_assign rfl) ?_
  refine gl_nil ?_
  refine ge_then ?_
  refine g_seq ?_
  refine g_seq ?_
  refine g_region ?_
  refine gl_c rfl (o_call rfl (palive_spec) (by repeat (first | exact .nil | (apply Part.cons; · (repeat (first | exact .head | apply Sel.tail)))))) ?_
  rintro _ R ⟨_, ⟨rfl, rfl⟩, rfl⟩
  try simp only [List.cons_append, List.nil_append]
  refine gl_v rfl (o_not rfl) ?_
  refine gl_nil ?_
  refine ge_then ?_
  refine g_cond_false (rfl) ?_
  refine g_skip ?_
  refine ge_then ?_
  refine g_seq ?_
  refine g_seq ?_
  refine g_region ?_
  refine gl_v rfl (o_move rfl) ?_
  refine gl_v rfl (o_gtr rfl rfl) ?_
  refine gl_nil ?_
  refine ge_then ?_
  refine g_cond rfl (fun hc1 => ?_) (fun hc1 => ?_)
  ·
    first | replace hc1 := of_decide_eq_true hc1 | replace hc1 := lt_f hc1 | replace hc1 := le_f hc1 | replace hc1 := dec_f hc1 | replace hc1 := nlt_t hc1 | replace hc1 := nle_t hc1 | replace hc1 := ndec_t hc1 | replace hc1 := ndec_f hc1 | replace hc1 := nn_t hc1 | replace hc1 := nn_f hc1 | skip
    refine g_seq ?_
    refine g_region ?_
    refine gl_v rfl (o_assign rfl) ?_
    refine gl_nil ?_
    refine ge_then ?_
    refine g_ret ?_
    refine ge_then_ret ?_
    refine ret1 (.inl rfl) rfl rfl _ (⟨by simp, rfl⟩) (To.sat (by repeat (first | exact .nil | exact .done .refl | (apply To.cons; · (repeat (first | exact .head | apply Sel.tail))) | exact .done (by repeat (first | exact .refl | apply Drop.skip)))))
  ·
    first | replace hc1 := of_decide_eq_true hc1 | replace hc1 := lt_f hc1 | replace hc1 := le_f hc1 | replace hc1 := dec_f hc1 | replace hc1 := nlt_t hc1 | replace hc1 := nle_t hc1 | replace hc1 := ndec_t hc1 | replace hc1 := ndec_f hc1 | replace hc1 := nn_t hc1 | replace hc1 := nn_f hc1 | skip
    have I := I hc1
    have hI5 := I.len
    simp only [List.length_replicate] at hI5
    refine g_skip ?_
    refine ge_then ?_
    refine g_seq ?_
    refine g_region ?_
    refine gl_v rfl (o_move rfl) ?_
    refine gl_c rfl (o_call rfl (New_spec c0) (by repeat (first | exact .nil | (apply Part.cons; · (repeat (first | exact .head | apply Sel.tail)))))) ?_
    rintro _ R ⟨_, ⟨m, rfl, rfl⟩, rfl⟩
    try simp only [List.cons_append, List.nil_append]
    rw [← fil_0 99]
    refine gl_v rfl (o_assign rfl) ?_
    refine gl_nil ?_
    refine ge_then ?_
    refine g_seq ?_
    refine g_seq ?_
    refine g_region ?_
    refine gl_v rfl (o_assign rfl) ?_
    refine gl_nil ?_
    refine ge_then ?_
    refine g_block ?_
    refine g_loop (ι := Nat) (fun x => x ≤ cnt c0) (fun x => [(10, I64 x), (9, ptr m 0), (0, I64 c0), (8, .bool false), (1, I64 b), (2, I64 nm), (3, I64 nn)]) (fun x => memA m (fil 99 (cnt c0) x) (tupN x 0) :: R) (fun x => cnt c0 - x) 0 (Nat.zero_le _) (Keep.cons rfl (Keep.cons rfl (Keep.cons rfl (Keep.cons rfl (Keep.cons rfl (Keep.cons rfl (Keep.cons rfl (Keep.nil)))))))) (To.sat (by repeat (first | exact .nil | exact .done .refl | (apply To.cons; · (repeat (first | exact .head | apply Sel.tail))) | exact .done (by repeat (first | exact .refl | apply Drop.skip))))) ?_
    intro k hk
    refine g_seq ?_
    refine g_seq ?_
    refine g_region ?_
    refine gl_v rfl (o_move rfl) ?_
    refine gl_v rfl (o_move rfl) ?_
    refine gl_c rfl (o_call rfl (Len_spec m (fil 99 (cnt c0) k) _) (by repeat (first | exact .nil | (apply Part.cons; · (repeat (first | exact .head | apply Sel.tail)))))) ?_
    rintro _ R ⟨_, ⟨rfl, rfl⟩, rfl⟩
    try simp only [List.cons_append, List.nil_append]
    rw [fil_len _ hk]
    refine gl_v rfl (o_lss rfl rfl) ?_
    refine gl_nil ?_
    refine ge_then ?_
    refine g_cond rfl (fun hc2 => ?_) (fun hc2 => ?_)
    ·
      first | replace hc2 := of_decide_eq_true hc2 | replace hc2 := lt_f hc2 | replace hc2 := le_f hc2 | replace hc2 := dec_f hc2 | replace hc2 := nlt_t hc2 | replace hc2 := nle_t hc2 | replace hc2 := ndec_t hc2 | replace hc2 := ndec_f hc2 | replace hc2 := nn_t hc2 | replace hc2 := nn_f hc2 | skip
      refine g_skip ?_
      refine ge_then ?_
      refine g_seq ?_
      refine g_block ?_
      refine g_region ?_
      refine gl_v rfl (o_move rfl) ?_
      refine gl_v rfl (o_move rfl) ?_
      refine gl_c rfl (o_call rfl (Store_spec m (fil 99 (cnt c0) k) _ k (by rw [fil_len _ hk]; omega) _) (by repeat (first | exact .nil | (apply Part.cons; · (repeat (first | exact .head | apply Sel.tail)))))) ?_
      rintro _ R ⟨_, ⟨rfl, rfl⟩, rfl⟩
      try simp only [List.cons_append, List.nil_append]
      rw [fil_set _ (by omega)]
      refine gl_nil ?_
      refine ge_block ?_
      refine ge_then ?_
      refine g_region ?_
      refine gl_v rfl (o_move rfl) ?_
      refine gl_v rfl (o_addR _ (by first | exact wr_i64 (by omega) | rfl) rfl rfl) ?_
      refine gl_v rfl (o_assign rfl) ?_
      refine gl_nil ?_
      refine ge_round (k + 1) (show k + 1 ≤ _ by omega) (by omega) (Keep.cons rfl (Keep.cons rfl (Keep.cons rfl (Keep.cons rfl (Keep.cons rfl (Keep.cons rfl (Keep.cons rfl (Keep.nil)))))))) (To.sat (by repeat (first | exact .nil | exact .done .refl | (apply To.cons; · (repeat (first | exact .head | apply Sel.tail))) | exact .done (by repeat (first | exact .refl | apply Drop.skip)))))
    ·
      first | replace hc2 := of_decide_eq_true hc2 | replace hc2 := lt_f hc2 | replace hc2 := le_f hc2 | replace hc2 := dec_f hc2 | replace hc2 := nlt_t hc2 | replace hc2 := nle_t hc2 | replace hc2 := ndec_t hc2 | replace hc2 := ndec_f hc2 | replace hc2 := nn_t hc2 | replace hc2 := nn_f hc2 | skip
      obtain rfl : k = cnt c0 := by omega
      rw [fil_full]
      refine g_exit ?_
      refine ge_then_exit ?_
      refine ge_then_exit ?_
      refine ge_block_exit ?_
      refine ge_then ?_
      refine g_seq ?_
      refine g_region ?_
      refine gl_v rfl (o_move rfl) ?_
      refine gl_v rfl (o_move rfl) ?_
      refine gl_v rfl (o_move rfl) ?_
      refine gl_v rfl (o_move rfl) ?_
      refine gl_c rfl (o_call rfl (pMake_spec m b nm nn (List.replicate (cnt c0) (99 : Int)) _ I) (by repeat (first | exact .nil | (apply Part.cons; · (repeat (first | exact .head | apply Sel.tail)))))) ?_
      rintro _ R ⟨_, ⟨X, rfl, rfl, rfl⟩, rfl⟩
      try simp only [List.cons_append, List.nil_append]
      refine gl_v rfl (o_move rfl) ?_
      refine gl_v rfl (o_extract rfl rfl) ?_
      refine gl_v rfl (o_extract rfl rfl) ?_
      refine gl_v rfl (o_assign rfl) ?_
      refine gl_v rfl (o_assign rfl) ?_
      refine gl_nil ?_
      refine ge_then ?_
      refine g_seq ?_
      refine g_region ?_
      refine gl_v rfl (o_move rfl) ?_
      refine gl_v rfl (o_move rfl) ?_
      refine gl_v rfl (o_move rfl) ?_
      refine gl_c rfl (o_call rfl (pMake_nil _ _ _) (by repeat (first | exact .nil | (apply Part.cons; · (repeat (first | exact .head | apply Sel.tail)))))) ?_
      rintro _ R ⟨_, ⟨rfl, rfl⟩, rfl⟩
      try simp only [List.cons_append, List.nil_append]
      refine gl_v rfl (o_move rfl) ?_
      refine gl_v rfl (o_extract rfl rfl) ?_
      refine gl_v rfl (o_extract rfl rfl) ?_
      refine gl_v rfl (o_assign rfl) ?_
      refine gl_v rfl (o_assign rfl) ?_
      refine gl_nil ?_
      refine ge_then ?_
      refine g_seq ?_
      refine g_region ?_
      refine gl_v rfl (o_assign rfl) ?_
      refine gl_nil ?_
      refine ge_then ?_
      refine g_seq ?_
      refine g_seq ?_
      refine g_region ?_
      refine gl_v rfl (o_move rfl) ?_
      refine gl_v rfl (o_geq rfl rfl) ?_
      refine gl_v rfl (o_move rfl) ?_
      refine gl_gT rfl rfl (by simp; omega) ?_
      refine gl_v rfl (o_move rfl) ?_
      refine gl_gT rfl rfl (by simp; omega) ?_
      refine gl_v rfl (o_leq rfl rfl) ?_
      refine gl_v rfl (o_pickT (by simp; omega) rfl rfl) ?_
      refine gl_v rfl (o_move rfl) ?_
      refine gl_gT rfl rfl (by simp; omega) ?_
      refine gl_v rfl (o_move rfl) ?_
      refine gl_gT rfl rfl (by simp; omega) ?_
      refine gl_v rfl (o_geq rfl rfl) ?_
      refine gl_v rfl (o_pickT (by simp; omega) rfl rfl) ?_
      refine gl_v rfl (o_move rfl) ?_
      refine gl_gT rfl rfl (by simp; omega) ?_
      refine gl_v rfl (o_move rfl) ?_
      refine gl_gT rfl rfl (by simp; omega) ?_
      refine gl_v rfl (o_leq rfl rfl) ?_
      refine gl_v rfl (o_pickT (by simp; omega) rfl rfl) ?_
      refine gl_nil ?_
      refine ge_then ?_
      refine g_cond_true (by simp [opv, slk]; omega) ?_
      refine g_region ?_
      refine gl_v rfl (o_move rfl) ?_
      refine gl_v rfl (o_mulR ((2 * nm : Nat) : Int) (by rw [wr_i64 (by omega)]; omega) rfl rfl) ?_
      refine gl_v rfl (o_addR ((6 + 2 * nm : Nat) : Int) (by rw [wr_i64 (by omega)]; omega) rfl rfl) ?_
      refine gl_v rfl (o_move rfl) ?_
      refine gl_v rfl (o_mulR ((2 * nn : Nat) : Int) (by rw [wr_i64 (by omega)]; omega) rfl rfl) ?_
      refine gl_v rfl (o_addR ((2 + (2 + 2 * nm) + (2 + 2 * nn) : Nat) : Int) (by rw [wr_i64 (by omega)]; omega) rfl rfl) ?_
      refine gl_v rfl (o_assign rfl) ?_
      refine gl_nil ?_
      refine ge_then ?_
      refine g_seq ?_
      refine g_seq ?_
      refine g_region ?_
      refine gl_v rfl (o_move rfl) ?_
      first | refine gl_v rfl (o_neqPn rfl rfl) ?_ | refine gl_v rfl (o_neqnn rfl rfl) ?_
      refine gl_v rfl (o_move rfl) ?_
      refine gl_gT rfl rfl rfl ?_
      refine gl_v rfl (o_move rfl) ?_
      refine gl_gT rfl rfl rfl ?_
      refine gl_v rfl (o_neq rfl rfl) ?_
      refine gl_v rfl (o_pickF rfl rfl rfl) ?_
      refine gl_v rfl (o_move rfl) ?_
      refine gl_gT rfl rfl rfl ?_
      refine gl_v rfl (o_move rfl) ?_
      refine gl_gT rfl rfl rfl ?_
      refine gl_v rfl (o_move rfl) ?_
      refine gl_gT rfl rfl rfl ?_
      refine gl_c rfl (o_call rfl (pSize_ok hm hn) (by repeat (first | exact .nil | (apply Part.cons; · (repeat (first | exact .head | apply Sel.tail)))))) ?_
      rintro _ R ⟨_, ⟨rfl, rfl⟩, rfl⟩
      try simp only [List.cons_append, List.nil_append]
      refine gl_gT rfl rfl rfl ?_
      refine gl_v rfl (o_move rfl) ?_
      refine gl_gT rfl rfl rfl ?_
      refine gl_v rfl (o_neq rfl rfl) ?_
      refine gl_v rfl (o_pickF rfl rfl rfl) ?_
      refine gl_nil ?_
      refine ge_then ?_
      refine g_cond_false (by simp [opv, slk]) ?_
      refine g_skip ?_
      refine ge_then ?_
      refine g_seq ?_
      refine g_region ?_
      refine gl_v rfl (o_move rfl) ?_
      refine gl_c rfl (o_call rfl (rNew_spec c0) (by repeat (first | exact .nil | (apply Part.cons; · (repeat (first | exact .head | apply Sel.tail)))))) ?_
      rintro _ R ⟨_, ⟨w, rfl, rfl⟩, rfl⟩
      try simp only [List.cons_append, List.nil_append]
      rw [← fil_0 99]
      refine gl_v rfl (o_assign rfl) ?_
      refine gl_nil ?_
      refine ge_then ?_
      refine g_seq ?_
      refine g_seq ?_
      refine g_region ?_
      refine gl_v rfl (o_assign rfl) ?_
      refine gl_nil ?_
      refine ge_then ?_
      refine g_block ?_
      refine g_loop (ι := Nat) (fun x => x ≤ cnt c0) (fun x => [(17, I64 x), (16, ptr w 0), (15, I64 ((2 + (2 + 2 * nm) + (2 + 2 * nn) : Nat) : Int)), (11, ptr X.bx 0), (12, I64 0), (0, I64 c0), (9, ptr X.m 0), (8, .bool false), (1, I64 b), (2, I64 nm), (3, I64 nn)]) (fun x => rmemA w (fil 99 (cnt c0) x) 0 :: envA X ⟨b, nm, nn⟩ (zap (List.replicate (cnt c0) (99 : Int)) b (PB.sz ⟨b, nm, nn⟩)) (tupN (PB.sz ⟨b, nm, nn⟩) (tupN (cnt c0) 0)) :: R) (fun x => cnt c0 - x) 0 (Nat.zero_le _) (Keep.cons rfl (Keep.cons rfl (Keep.cons rfl (Keep.cons rfl (Keep.cons rfl (Keep.cons rfl (Keep.cons rfl (Keep.cons rfl (Keep.cons rfl (Keep.cons rfl (Keep.cons rfl (Keep.nil)))))))))))) (To.sat (by repeat (first | exact .nil | exact .done .refl | (apply To.cons; · (repeat (first | exact .head | apply Sel.tail))) | exact .done (by repeat (first | exact .refl | apply Drop.skip))))) ?_
      intro k hk
      refine g_open (by repeat (first | exact .head | apply Sel.tail)) ?_
      rintro ⟨aw, cw⟩ -
      simp only [List.cons_append, List.nil_append]
      have hfl := fil_len 99 hk
      refine g_seq ?_
      refine g_seq ?_
      refine g_region ?_
      refine gl_v rfl (o_move rfl) ?_
      refine gl_v rfl (o_move rfl) ?_
      refine gl_v rfl (o_nil rfl) ?_
      first | refine gl_v rfl (o_fldS rfl) ?_ | refine gl_v rfl (o_fld rfl) ?_
      first | refine gl_v rfl (o_load rfl rfl) ?_ | refine gl_v rfl (o_loadS rfl rfl) ?_ | refine gl_v rfl (o_loadC rfl) ?_
      first | refine gl_v rfl (o_len rfl) ?_ | refine gl_v rfl (o_lenL rfl) ?_
      refine gl_v rfl (o_lss rfl rfl) ?_
      refine gl_nil ?_
      refine ge_then ?_
      refine g_cond rfl (fun hc3 => ?_) (fun hc3 => ?_)
      ·
        first | replace hc3 := of_decide_eq_true hc3 | replace hc3 := lt_f hc3 | replace hc3 := le_f hc3 | replace hc3 := dec_f hc3 | replace hc3 := nlt_t hc3 | replace hc3 := nle_t hc3 | replace hc3 := ndec_t hc3 | replace hc3 := ndec_f hc3 | replace hc3 := nn_t hc3 | replace hc3 := nn_f hc3 | skip
        refine g_skip ?_
        refine ge_then ?_
        refine g_seq ?_
        refine g_block ?_
        refine g_region ?_
        refine gl_v rfl (o_move rfl) ?_
        refine gl_v rfl (o_nil rfl) ?_
        first | refine gl_v rfl (o_fldS rfl) ?_ | refine gl_v rfl (o_fld rfl) ?_
        first | refine gl_v rfl (o_load rfl rfl) ?_ | refine gl_v rfl (o_loadS rfl rfl) ?_ | refine gl_v rfl (o_loadC rfl) ?_
        refine gl_v rfl (o_move rfl) ?_
        refine gl_v rfl (o_idxS (j := k) rfl rfl (by omega)) ?_
        refine gl_u (o_storeS rfl rfl rfl (by simp; omega)) ?_
        rw [map_set1]
        refine gl_nil ?_
        refine ge_block ?_
        refine ge_then ?_
        refine g_region ?_
        refine gl_v rfl (o_move rfl) ?_
        refine gl_v rfl (o_addR _ (by first | exact wr_i64 (by omega) | rfl) rfl rfl) ?_
        refine gl_v rfl (o_assign rfl) ?_
        refine gl_nil ?_
        refine ge_round (k + 1) (show k + 1 ≤ _ by omega) (by omega) (Keep.cons rfl (Keep.cons rfl (Keep.cons rfl (Keep.cons rfl (Keep.cons rfl (Keep.cons rfl (Keep.cons rfl (Keep.cons rfl (Keep.cons rfl (Keep.cons rfl (Keep.cons rfl (Keep.nil)))))))))))) (rmem_close aw cw (fil_set 99 (by omega)).symm rfl (by simp only [List.length_set]; exact (To.sat (by repeat (first | exact .nil | exact .done .refl | (apply To.cons; · (repeat (first | exact .head | apply Sel.tail))) | exact .done (by repeat (first | exact .refl | apply Drop.skip)))))))
      ·
        first | replace hc3 := of_decide_eq_true hc3 | replace hc3 := lt_f hc3 | replace hc3 := le_f hc3 | replace hc3 := dec_f hc3 | replace hc3 := nlt_t hc3 | replace hc3 := nle_t hc3 | replace hc3 := ndec_t hc3 | replace hc3 := ndec_f hc3 | replace hc3 := nn_t hc3 | replace hc3 := nn_f hc3 | skip
        obtain rfl : k = cnt c0 := by omega
        rw [fil_full]
        refine g_exit ?_
        refine ge_then_exit ?_
        refine ge_then_exit ?_
        refine ge_block_exit ?_
        refine ge_then ?_
        refine g_seq ?_
        refine g_seq ?_
        refine g_region ?_
        refine gl_v rfl (o_move rfl) ?_
        refine gl_v rfl (o_eql rfl rfl) ?_
        refine gl_v rfl (o_move rfl) ?_
        refine gl_gT rfl rfl (by simp; try omega) ?_
        refine gl_v rfl (o_move rfl) ?_
        refine gl_gT rfl rfl (by simp; try omega) ?_
        refine gl_v rfl (o_lss rfl rfl) ?_
        refine gl_v rfl (o_pickF (by simp; try omega) rfl rfl) ?_
        refine gl_v rfl (o_move rfl) ?_
        refine gl_gT rfl rfl (by simp) ?_
        refine gl_v rfl (o_move rfl) ?_
        refine gl_gT rfl rfl (by simp) ?_
        refine gl_v rfl (o_move rfl) ?_
        refine gl_gT rfl rfl (by simp) ?_
        refine gl_v rfl (o_nil rfl) ?_
        refine gl_gT rfl rfl (by simp) ?_
        first | refine gl_v rfl (o_fldS rfl) ?_ | refine gl_v rfl (o_fld rfl) ?_
        refine gl_gT rfl rfl (by simp) ?_
        first | refine gl_v rfl (o_load rfl rfl) ?_ | refine gl_v rfl (o_loadS rfl rfl) ?_ | refine gl_v rfl (o_loadC rfl) ?_
        refine gl_gT rfl rfl (by simp) ?_
        first | refine gl_v rfl (o_len rfl) ?_ | refine gl_v rfl (o_lenL rfl) ?_
        refine gl_gT rfl rfl (by simp) ?_
        refine gl_v rfl (o_move rfl) ?_
        refine gl_gT rfl rfl (by simp) ?_
        refine gl_v rfl (o_subR ((cnt c0 : Int) - ((2 + (2 + 2 * nm) + (2 + 2 * nn) : Nat) : Int)) (by rw [hrl]; exact wr_i64 (by omega)) rfl rfl) ?_
        refine gl_gT rfl rfl (by simp) ?_
        refine gl_v rfl (o_gtr rfl rfl) ?_
        refine gl_v rfl (o_pickF (by simp) rfl rfl) ?_
        refine gl_nil ?_
        refine ge_then ?_
        refine g_cond_false (by simp [opv, slk]; omega) ?_
        refine g_skip ?_
        refine ge_then ?_
        refine g_seq ?_
        refine g_imp (rmem_close (p := w) aw cw rfl rfl (To.sat (by repeat (first | exact .nil | exact .done .refl | (apply To.cons; · (repeat (first | exact .head | apply Sel.tail))) | exact .done (by repeat (first | exact .refl | apply Drop.skip)))))) ?_
        refine g_region ?_
        refine gl_v rfl (o_move rfl) ?_
        refine gl_v rfl (o_move rfl) ?_
        refine gl_v rfl (o_move rfl) ?_
        refine gl_v rfl (o_move rfl) ?_
        refine gl_v rfl (o_build rfl rfl) ?_
        refine gl_c rfl (o_call rfl (pLay_spec w b nm nn (List.replicate (cnt c0) (99 : Int)) 0 I) (by repeat (first | exact .nil | (apply Part.cons; · (repeat (first | exact .head | apply Sel.tail)))))) ?_
        rintro _ R ⟨_, ⟨rfl, rfl⟩, rfl⟩
        try simp only [List.cons_append, List.nil_append]
        refine gl_open (ι := Option Addr × Nat) (by repeat (first | exact .head | apply Sel.tail)) ?_
        rintro ⟨ax, cx⟩ -
        simp only [List.cons_append, List.nil_append]
        refine gl_nil ?_
        refine ge_then ?_
        refine g_seq ?_
        refine g_open (ι := Unit) (by repeat (first | exact .head | apply Sel.tail)) ?_
        rintro _ -
        simp only [List.cons_append, List.nil_append]
        refine g_draw [8, 13] [8] [(0, .loc), (1, .loc), (2, .loc), (3, .loc), (4, .loc), (5, .loc), (6, .loc), (7, .loc), (9, .stab), (10, .stab), (11, .stab), (12, .stab), (8, .eff), (13, .eff), (14, .loc), (15, .loc)] [cel w 62 [.slice ax (zap (List.replicate (cnt c0) (99 : Int)) b (PB.sz ⟨b, nm, nn⟩)).length cx, I64 0]] mixed (by kernel_rfl) ?_
        refine go_v rfl .none rfl (o_move rfl) ?_
        first | refine go_v rfl .none rfl (o_neqPn rfl rfl) ?_ | refine go_v rfl .none rfl (o_neqnn rfl rfl) ?_
        refine go_v rfl .none rfl (o_move rfl) ?_
        refine go_v rfl (.yes rfl rfl rfl) rfl (o_move rfl) ?_
        refine go_v rfl (.yes rfl rfl rfl) rfl (o_eql rfl rfl) ?_
        refine go_v rfl .none rfl (o_pickT rfl rfl rfl) ?_
        refine go_v rfl .none rfl (o_move rfl) ?_
        refine go_v rfl (.yes rfl rfl rfl) rfl (o_move rfl) ?_
        refine go_vs rfl (.yes rfl rfl rfl) rfl (o_move rfl) (To.sat (by repeat (first | exact .nil | exact .done .refl | (apply To.cons; · (repeat (first | exact .head | apply Sel.tail))) | exact .done (by repeat (first | exact .refl | apply Drop.skip))))) ?_
        refine go_vs rfl (.yes rfl rfl rfl) rfl (o_nil rfl) (To.sat (by repeat (first | exact .nil | exact .done .refl | (apply To.cons; · (repeat (first | exact .head | apply Sel.tail))) | exact .done (by repeat (first | exact .refl | apply Drop.skip))))) ?_
        first | refine go_vs rfl (.yes rfl rfl rfl) rfl (o_fldS rfl) (To.sat (by repeat (first | exact .nil | exact .done .refl | (apply To.cons; · (repeat (first | exact .head | apply Sel.tail))) | exact .done (by repeat (first | exact .refl | apply Drop.skip))))) ?_ | refine go_vs rfl (.yes rfl rfl rfl) rfl (o_fld rfl) (To.sat (by repeat (first | exact .nil | exact .done .refl | (apply To.cons; · (repeat (first | exact .head | apply Sel.tail))) | exact .done (by repeat (first | exact .refl | apply Drop.skip))))) ?_
        first | refine go_vs rfl (.yes rfl rfl rfl) rfl (o_load rfl rfl) (To.sat (by repeat (first | exact .nil | exact .done .refl | (apply To.cons; · (repeat (first | exact .head | apply Sel.tail))) | exact .done (by repeat (first | exact .refl | apply Drop.skip))))) ?_ | refine go_vs rfl (.yes rfl rfl rfl) rfl (o_loadS rfl rfl) (To.sat (by repeat (first | exact .nil | exact .done .refl | (apply To.cons; · (repeat (first | exact .head | apply Sel.tail))) | exact .done (by repeat (first | exact .refl | apply Drop.skip))))) ?_ | refine go_vs rfl (.yes rfl rfl rfl) rfl (o_loadC rfl) (To.sat (by repeat (first | exact .nil | exact .done .refl | (apply To.cons; · (repeat (first | exact .head | apply Sel.tail))) | exact .done (by repeat (first | exact .refl | apply Drop.skip))))) ?_
        refine go_c rfl (.yes rfl rfl rfl) rfl (o_call rfl (All_spec X.m (zap (List.replicate (cnt c0) (99 : Int)) b (PB.sz ⟨b, nm, nn⟩)) _ (by simp [zap_len]; omega)) (by repeat (first | exact .nil | (apply Part.cons; · (repeat (first | exact .head | apply Sel.tail)))))) ?_
        rintro _ R ⟨_, ⟨a', c', rfl, rfl⟩, rfl⟩
        try simp only [List.cons_append, List.nil_append]
        refine ⟨(fun _ => (To.sat (by repeat (first | exact .nil | exact .done .refl | (apply To.cons; · (repeat (first | exact .head | apply Sel.tail))) | exact .done (by repeat (first | exact .refl | apply Drop.skip)))))), ?_⟩
        refine go_c rfl (.yes rfl rfl rfl) rfl (o_call rfl (rSame_spec (.slice a' (zap (List.replicate (cnt c0) (99 : Int)) b (PB.sz ⟨b, nm, nn⟩)).length c') (.slice ax (zap (List.replicate (cnt c0) (99 : Int)) b (PB.sz ⟨b, nm, nn⟩)).length cx) (zap (List.replicate (cnt c0) (99 : Int)) b (PB.sz ⟨b, nm, nn⟩)) (zap (List.replicate (cnt c0) (99 : Int)) b (PB.sz ⟨b, nm, nn⟩)) (by simp [zap_len]; omega) (by simp [zap_len]; omega) (own (.slice a' (zap (List.replicate (cnt c0) (99 : Int)) b (PB.sz ⟨b, nm, nn⟩)).length c') 31 1 (zap (List.replicate (cnt c0) (99 : Int)) b (PB.sz ⟨b, nm, nn⟩)).length ((zap (List.replicate (cnt c0) (99 : Int)) b (PB.sz ⟨b, nm, nn⟩)).map U64)) (own (.slice ax (zap (List.replicate (cnt c0) (99 : Int)) b (PB.sz ⟨b, nm, nn⟩)).length cx) 31 1 (zap (List.replicate (cnt c0) (99 : Int)) b (PB.sz ⟨b, nm, nn⟩)).length ((zap (List.replicate (cnt c0) (99 : Int)) b (PB.sz ⟨b, nm, nn⟩)).map U64))) (by repeat (first | exact .nil | (apply Part.cons; · (repeat (first | exact .head | apply Sel.tail)))))) ?_
        rintro _ R ⟨_, ⟨rfl, rfl⟩, rfl⟩
        try simp only [List.cons_append, List.nil_append]
        refine ⟨(fun hG => absurd hG (by decide)), ?_⟩
        refine go_v rfl .none rfl (o_pickT rfl rfl rfl) ?_
        refine go_v rfl .none rfl (o_assign rfl) ?_
        refine go_nil ?_
        refine ge_then ?_
        refine g_ret ?_
        refine ret1 (.inl rfl) rfl rfl _ (⟨by simp, rfl⟩) (To.sat (by repeat (first | exact .nil | exact .done .refl | (apply To.cons; · (repeat (first | exact .head | apply Sel.tail))) | exact .done (by repeat (first | exact .refl | apply Drop.skip)))))

set_option maxRecDepth 8000 in
theorem pmakes_no (c0 s1 s2 s3 : Int) (hb : -9223372036854775808 ≤ s1 ∧ s1 ≤ 9223372036854775807) (hno : sizeP s2 s3 = 0 ∨ s1 < 0 ∨ s1 > cnt c0 - sizeP s2 s3) : FnS Try.prog 6 [I64 c0, I64 s1, I64 s2, I64 s3] [] (fun u Bs => u = .bool true ∧ Bs = []) := by
  refine fn_body Try.func6 rfl rfl rfl ?_
  intro W0 R
  simp only [List.zipIdx_cons, List.zipIdx_nil, List.map_cons, List.map_nil, Nat.zero_add, Nat.reduceAdd, List.cons_append, List.nil_append]
  have hcl := cnt_le c0
  have hrl : (List.replicate (cnt c0) (99 : Int)).length = cnt c0 := List.length_replicate
  have hz := sizeP_val s2 s3
  have hz0 := sizeP_in s2 s3
  refine g_seq ?_
  refine g_region ?_
  refine gl_v rfl (o_assign rfl) ?_
  refine gl_nil ?_
  refine ge_then ?_
  refine g_seq ?_
  refine g_seq ?_
  refine g_region ?_
  refine gl_c rfl (o_call rfl (palive_spec) (by repeat (first | exact .nil | (apply Part.cons; · (repeat (first | exact .head | apply Sel.tail)))))) ?_
  rintro _ R ⟨_, ⟨rfl, rfl⟩, rfl⟩
  try simp only [List.cons_append, List.nil_append]
  refine gl_v rfl (o_not rfl) ?_
  refine gl_nil ?_
  refine ge_then ?_
  refine g_cond_false (rfl) ?_
  refine g_skip ?_
  refine ge_then ?_
  refine g_seq ?_
  refine g_seq ?_
  refine g_region ?_
  refine gl_v rfl (o_move rfl) ?_
  refine gl_v rfl (o_gtr rfl rfl) ?_
  refine gl_nil ?_
  refine ge_then ?_
  refine g_cond rfl (fun hc1 => ?_) (fun hc1 => ?_)
  ·
    first | replace hc1 := of_decide_eq_true hc1 | replace hc1 := lt_f hc1 | replace hc1 := le_f hc1 | replace hc1 := dec_f hc1 | replace hc1 := nlt_t hc1 | replace hc1 := nle_t hc1 | replace hc1 := ndec_t hc1 | replace hc1 := ndec_f hc1 | replace hc1 := nn_t hc1 | replace hc1 := nn_f hc1 | skip
    refine g_seq ?_
    refine g_region ?_
    refine gl_v rfl (o_assign rfl) ?_
    refine gl_nil ?_
    refine ge_then ?_
    refine g_ret ?_
    refine ge_then_ret ?_
    refine ret1 (.inl rfl) rfl rfl _ (⟨by simp, rfl⟩) (To.sat (by repeat (first | exact .nil | exact .done .refl | (apply To.cons; · (repeat (first | exact .head | apply Sel.tail))) | exact .done (by repeat (first | exact .refl | apply Drop.skip)))))
  ·
    first | replace hc1 := of_decide_eq_true hc1 | replace hc1 := lt_f hc1 | replace hc1 := le_f hc1 | replace hc1 := dec_f hc1 | replace hc1 := nlt_t hc1 | replace hc1 := nle_t hc1 | replace hc1 := ndec_t hc1 | replace hc1 := ndec_f hc1 | replace hc1 := nn_t hc1 | replace hc1 := nn_f hc1 | skip
    refine g_skip ?_
    refine ge_then ?_
    refine g_seq ?_
    refine g_region ?_
    refine gl_v rfl (o_move rfl) ?_
    refine gl_c rfl (o_call rfl (New_spec c0) (by repeat (first | exact .nil | (apply Part.cons; · (repeat (first | exact .head | apply Sel.tail)))))) ?_
    rintro _ R ⟨_, ⟨m, rfl, rfl⟩, rfl⟩
    try simp only [List.cons_append, List.nil_append]
    rw [← fil_0 99]
    refine gl_v rfl (o_assign rfl) ?_
    refine gl_nil ?_
    refine ge_then ?_
    refine g_seq ?_
    refine g_seq ?_
    refine g_region ?_
    refine gl_v rfl (o_assign rfl) ?_
    refine gl_nil ?_
    refine ge_then ?_
    refine g_block ?_
    refine g_loop (ι := Nat) (fun x => x ≤ cnt c0) (fun x => [(10, I64 x), (9, ptr m 0), (0, I64 c0), (8, .bool false), (1, I64 s1), (2, I64 s2), (3, I64 s3)]) (fun x => memA m (fil 99 (cnt c0) x) (tupN x 0) :: R) (fun x => cnt c0 - x) 0 (Nat.zero_le _) (Keep.cons rfl (Keep.cons rfl (Keep.cons rfl (Keep.cons rfl (Keep.cons rfl (Keep.cons rfl (Keep.cons rfl (Keep.nil)))))))) (To.sat (by repeat (first | exact .nil | exact .done .refl | (apply To.cons; · (repeat (first | exact .head | apply Sel.tail))) | exact .done (by repeat (first | exact .refl | apply Drop.skip))))) ?_
    intro k hk
    refine g_seq ?_
    refine g_seq ?_
    refine g_region ?_
    refine gl_v rfl (o_move rfl) ?_
    refine gl_v rfl (o_move rfl) ?_
    refine gl_c rfl (o_call rfl (Len_spec m (fil 99 (cnt c0) k) _) (by repeat (first | exact .nil | (apply Part.cons; · (repeat (first | exact .head | apply Sel.tail)))))) ?_
    rintro _ R ⟨_, ⟨rfl, rfl⟩, rfl⟩
    try simp only [List.cons_append, List.nil_append]
    rw [fil_len _ hk]
    refine gl_v rfl (o_lss rfl rfl) ?_
    refine gl_nil ?_
    refine ge_then ?_
    refine g_cond rfl (fun hc2 => ?_) (fun hc2 => ?_)
    ·
      first | replace hc2 := of_decide_eq_true hc2 | replace hc2 := lt_f hc2 | replace hc2 := le_f hc2 | replace hc2 := dec_f hc2 | replace hc2 := nlt_t hc2 | replace hc2 := nle_t hc2 | replace hc2 := ndec_t hc2 | replace hc2 := ndec_f hc2 | replace hc2 := nn_t hc2 | replace hc2 := nn_f hc2 | skip
      refine g_skip ?_
      refine ge_then ?_
      refine g_seq ?_
      refine g_block ?_
      refine g_region ?_
      refine gl_v rfl (o_move rfl) ?_
      refine gl_v rfl (o_move rfl) ?_
      refine gl_c rfl (o_call rfl (Store_spec m (fil 99 (cnt c0) k) _ k (by rw [fil_len _ hk]; omega) _) (by repeat (first | exact .nil | (apply Part.cons; · (repeat (first | exact .head | apply Sel.tail)))))) ?_
      rintro _ R ⟨_, ⟨rfl, rfl⟩, rfl⟩
      try simp only [List.cons_append, List.nil_append]
      rw [fil_set _ (by omega)]
      refine gl_nil ?_
      refine ge_block ?_
      refine ge_then ?_
      refine g_region ?_
      refine gl_v rfl (o_move rfl) ?_
      refine gl_v rfl (o_addR _ (by first | exact wr_i64 (by omega) | rfl) rfl rfl) ?_
      refine gl_v rfl (o_assign rfl) ?_
      refine gl_nil ?_
      refine ge_round (k + 1) (show k + 1 ≤ _ by omega) (by omega) (Keep.cons rfl (Keep.cons rfl (Keep.cons rfl (Keep.cons rfl (Keep.cons rfl (Keep.cons rfl (Keep.cons rfl (Keep.nil)))))))) (To.sat (by repeat (first | exact .nil | exact .done .refl | (apply To.cons; · (repeat (first | exact .head | apply Sel.tail))) | exact .done (by repeat (first | exact .refl | apply Drop.skip)))))
    ·
      first | replace hc2 := of_decide_eq_true hc2 | replace hc2 := lt_f hc2 | replace hc2 := le_f hc2 | replace hc2 := dec_f hc2 | replace hc2 := nlt_t hc2 | replace hc2 := nle_t hc2 | replace hc2 := ndec_t hc2 | replace hc2 := ndec_f hc2 | replace hc2 := nn_t hc2 | replace hc2 := nn_f hc2 | skip
      obtain rfl : k = cnt c0 := by omega
      rw [fil_full]
      refine g_exit ?_
      refine ge_then_exit ?_
      refine ge_then_exit ?_
      refine ge_block_exit ?_
      refine ge_then ?_
      refine g_seq ?_
      refine g_region ?_
      refine gl_v rfl (o_move rfl) ?_
      refine gl_v rfl (o_move rfl) ?_
      refine gl_v rfl (o_move rfl) ?_
      refine gl_v rfl (o_move rfl) ?_
      refine gl_c rfl (o_call rfl (pMake_no m s1 s2 s3 (List.replicate (cnt c0) (99 : Int)) _ (by simp; omega) hb (by simpa using hno)) (by repeat (first | exact .nil | (apply Part.cons; · (repeat (first | exact .head | apply Sel.tail)))))) ?_
      rintro _ R ⟨_, ⟨rfl, rfl⟩, rfl⟩
      try simp only [List.cons_append, List.nil_append]
      refine gl_v rfl (o_move rfl) ?_
      refine gl_v rfl (o_extract rfl rfl) ?_
      refine gl_v rfl (o_extract rfl rfl) ?_
      refine gl_v rfl (o_assign rfl) ?_
      refine gl_v rfl (o_assign rfl) ?_
      refine gl_nil ?_
      refine ge_then ?_
      refine g_seq ?_
      refine g_region ?_
      refine gl_v rfl (o_move rfl) ?_
      refine gl_v rfl (o_move rfl) ?_
      refine gl_v rfl (o_move rfl) ?_
      refine gl_c rfl (o_call rfl (pMake_nil _ _ _) (by repeat (first | exact .nil | (apply Part.cons; · (repeat (first | exact .head | apply Sel.tail)))))) ?_
      rintro _ R ⟨_, ⟨rfl, rfl⟩, rfl⟩
      try simp only [List.cons_append, List.nil_append]
      refine gl_v rfl (o_move rfl) ?_
      refine gl_v rfl (o_extract rfl rfl) ?_
      refine gl_v rfl (o_extract rfl rfl) ?_
      refine gl_v rfl (o_assign rfl) ?_
      refine gl_v rfl (o_assign rfl) ?_
      refine gl_nil ?_
      refine ge_then ?_
      refine g_seq ?_
      refine g_region ?_
      refine gl_v rfl (o_assign rfl) ?_
      refine gl_nil ?_
      refine ge_then ?_
      refine g_cut (fun act wo =>  HasSl Try.f6.ntmps [(15, I64 (sizeP s2 s3)), (13, .pointer none), (14, I64 1), (11, .pointer none), (12, I64 1), (0, I64 c0), (9, ptr m 0), (8, .bool false), (1, I64 s1), (2, I64 s2), (3, I64 s3)] act ∧ St W0 (memA m (List.replicate (cnt c0) (99 : Int)) (tupN (cnt c0) 0) :: R) wo) ?_ ?_
      ·
        refine g_seq ?_
        refine g_region ?_
        refine gl_v rfl (o_move rfl) ?_
        refine gl_v rfl (o_geq rfl rfl) ?_
        refine gl_v rfl (o_move rfl) ?_
        refine gl_g rfl rfl (fun hc3 => ?_) (fun hc3 => ?_) rfl
        ·
          have hc3' := hc3
          first | replace hc3' := of_decide_eq_true hc3' | replace hc3' := lt_f hc3' | replace hc3' := le_f hc3' | replace hc3' := dec_f hc3' | replace hc3' := nlt_t hc3' | replace hc3' := nle_t hc3' | replace hc3' := ndec_t hc3' | replace hc3' := ndec_f hc3' | replace hc3' := nn_t hc3' | replace hc3' := nn_f hc3' | skip
          refine gl_v rfl (o_move rfl) ?_
          refine gl_gT rfl rfl hc3 ?_
          refine gl_v rfl (o_leq rfl rfl) ?_
          refine gl_v rfl (o_pickT hc3 rfl rfl) ?_
          refine gl_v rfl (o_move rfl) ?_
          refine gl_g rfl rfl (fun hc4 => ?_) (fun hc4 => ?_) rfl
          ·
            have hc4' := hc4
            first | replace hc4' := of_decide_eq_true hc4' | replace hc4' := lt_f hc4' | replace hc4' := le_f hc4' | replace hc4' := dec_f hc4' | replace hc4' := nlt_t hc4' | replace hc4' := nle_t hc4' | replace hc4' := ndec_t hc4' | replace hc4' := ndec_f hc4' | replace hc4' := nn_t hc4' | replace hc4' := nn_f hc4' | skip
            refine gl_v rfl (o_move rfl) ?_
            refine gl_gT rfl rfl hc4 ?_
            refine gl_v rfl (o_geq rfl rfl) ?_
            refine gl_v rfl (o_pickT hc4 rfl rfl) ?_
            refine gl_v rfl (o_move rfl) ?_
            refine gl_g rfl rfl (fun hc5 => ?_) (fun hc5 => ?_) rfl
            ·
              have hc5' := hc5
              first | replace hc5' := of_decide_eq_true hc5' | replace hc5' := lt_f hc5' | replace hc5' := le_f hc5' | replace hc5' := dec_f hc5' | replace hc5' := nlt_t hc5' | replace hc5' := nle_t hc5' | replace hc5' := ndec_t hc5' | replace hc5' := ndec_f hc5' | replace hc5' := nn_t hc5' | replace hc5' := nn_f hc5' | skip
              refine gl_v rfl (o_move rfl) ?_
              refine gl_gT rfl rfl hc5 ?_
              refine gl_v rfl (o_leq rfl rfl) ?_
              refine gl_v rfl (o_pickT hc5 rfl rfl) ?_
              refine gl_nil ?_
              refine ge_then ?_
              refine g_cond rfl (fun hc6 => ?_) (fun hc6 => ?_)
              ·
                first | replace hc6 := of_decide_eq_true hc6 | replace hc6 := lt_f hc6 | replace hc6 := le_f hc6 | replace hc6 := dec_f hc6 | replace hc6 := nlt_t hc6 | replace hc6 := nle_t hc6 | replace hc6 := ndec_t hc6 | replace hc6 := ndec_f hc6 | replace hc6 := nn_t hc6 | replace hc6 := nn_f hc6 | skip
                refine g_region ?_
                refine gl_v rfl (o_move rfl) ?_
                refine gl_v rfl (o_mulR (2 * s2) (wr_i64 (by omega)) rfl rfl) ?_
                refine gl_v rfl (o_addR (6 + 2 * s2) (wr_i64 (by omega)) rfl rfl) ?_
                refine gl_v rfl (o_move rfl) ?_
                refine gl_v rfl (o_mulR (2 * s3) (wr_i64 (by omega)) rfl rfl) ?_
                refine gl_v rfl (o_addR (sizeP s2 s3) (by rw [hz, if_pos (by omega)]; exact wr_i64 (by omega)) rfl rfl) ?_
                refine gl_v rfl (o_assign rfl) ?_
                refine gl_nil ?_
                exact fun act wo hsl st => ⟨hsl.keep (Keep.cons rfl (Keep.cons rfl (Keep.cons rfl (Keep.cons rfl (Keep.cons rfl (Keep.cons rfl (Keep.cons rfl (Keep.cons rfl (Keep.cons rfl (Keep.cons rfl (Keep.cons rfl (Keep.nil)))))))))))), st.imp (To.sat (by repeat (first | exact .nil | exact .done .refl | (apply To.cons; · (repeat (first | exact .head | apply Sel.tail))) | exact .done (by repeat (first | exact .refl | apply Drop.skip)))))⟩
              ·
                first | replace hc6 := of_decide_eq_true hc6 | replace hc6 := lt_f hc6 | replace hc6 := le_f hc6 | replace hc6 := dec_f hc6 | replace hc6 := nlt_t hc6 | replace hc6 := nle_t hc6 | replace hc6 := ndec_t hc6 | replace hc6 := ndec_f hc6 | replace hc6 := nn_t hc6 | replace hc6 := nn_f hc6 | skip
                refine g_skip ?_
                exact fun act wo hsl st => ⟨hsl.keep (Keep.cons (by show some (I64 _) = some (I64 _); rw [hz, if_neg (by omega)]) (Keep.cons rfl (Keep.cons rfl (Keep.cons rfl (Keep.cons rfl (Keep.cons rfl (Keep.cons rfl (Keep.cons rfl (Keep.cons rfl (Keep.cons rfl (Keep.cons rfl (Keep.nil)))))))))))), st.imp (To.sat (by repeat (first | exact .nil | exact .done .refl | (apply To.cons; · (repeat (first | exact .head | apply Sel.tail))) | exact .done (by repeat (first | exact .refl | apply Drop.skip)))))⟩
            ·
              have hc5' := hc5
              first | replace hc5' := of_decide_eq_true hc5' | replace hc5' := lt_f hc5' | replace hc5' := le_f hc5' | replace hc5' := dec_f hc5' | replace hc5' := nlt_t hc5' | replace hc5' := nle_t hc5' | replace hc5' := ndec_t hc5' | replace hc5' := ndec_f hc5' | replace hc5' := nn_t hc5' | replace hc5' := nn_f hc5' | skip
              simp only [putO]
              refine gl_gF rfl rfl hc5 rfl ?_
              refine gl_v rfl (o_pickF hc5 rfl rfl) ?_
              refine gl_nil ?_
              refine ge_then ?_
              refine g_cond_false rfl ?_
              refine g_skip ?_
              exact fun act wo hsl st => ⟨hsl.keep (Keep.cons (by show some (I64 _) = some (I64 _); rw [hz, if_neg (by omega)]) (Keep.cons rfl (Keep.cons rfl (Keep.cons rfl (Keep.cons rfl (Keep.cons rfl (Keep.cons rfl (Keep.cons rfl (Keep.cons rfl (Keep.cons rfl (Keep.cons rfl (Keep.nil)))))))))))), st.imp (To.sat (by repeat (first | exact .nil | exact .done .refl | (apply To.cons; · (repeat (first | exact .head | apply Sel.tail))) | exact .done (by repeat (first | exact .refl | apply Drop.skip)))))⟩
          ·
            have hc4' := hc4
            first | replace hc4' := of_decide_eq_true hc4' | replace hc4' := lt_f hc4' | replace hc4' := le_f hc4' | replace hc4' := dec_f hc4' | replace hc4' := nlt_t hc4' | replace hc4' := nle_t hc4' | replace hc4' := ndec_t hc4' | replace hc4' := ndec_f hc4' | replace hc4' := nn_t hc4' | replace hc4' := nn_f hc4' | skip
            simp only [putO]
            refine gl_gF rfl rfl hc4 rfl ?_
            refine gl_v rfl (o_pickF hc4 rfl rfl) ?_
            refine gl_v rfl (o_move rfl) ?_
            refine gl_gF rfl rfl rfl rfl ?_
            refine gl_gF rfl rfl rfl rfl ?_
            refine gl_v rfl (o_pickF rfl rfl rfl) ?_
            refine gl_nil ?_
            refine ge_then ?_
            refine g_cond_false rfl ?_
            refine g_skip ?_
            exact fun act wo hsl st => ⟨hsl.keep (Keep.cons (by show some (I64 _) = some (I64 _); rw [hz, if_neg (by omega)]) (Keep.cons rfl (Keep.cons rfl (Keep.cons rfl (Keep.cons rfl (Keep.cons rfl (Keep.cons rfl (Keep.cons rfl (Keep.cons rfl (Keep.cons rfl (Keep.cons rfl (Keep.nil)))))))))))), st.imp (To.sat (by repeat (first | exact .nil | exact .done .refl | (apply To.cons; · (repeat (first | exact .head | apply Sel.tail))) | exact .done (by repeat (first | exact .refl | apply Drop.skip)))))⟩
        ·
          have hc3' := hc3
          first | replace hc3' := of_decide_eq_true hc3' | replace hc3' := lt_f hc3' | replace hc3' := le_f hc3' | replace hc3' := dec_f hc3' | replace hc3' := nlt_t hc3' | replace hc3' := nle_t hc3' | replace hc3' := ndec_t hc3' | replace hc3' := ndec_f hc3' | replace hc3' := nn_t hc3' | replace hc3' := nn_f hc3' | skip
          simp only [putO]
          refine gl_gF rfl rfl hc3 rfl ?_
          refine gl_v rfl (o_pickF hc3 rfl rfl) ?_
          refine gl_v rfl (o_move rfl) ?_
          refine gl_gF rfl rfl rfl rfl ?_
          refine gl_gF rfl rfl rfl rfl ?_
          refine gl_v rfl (o_pickF rfl rfl rfl) ?_
          refine gl_v rfl (o_move rfl) ?_
          refine gl_gF rfl rfl rfl rfl ?_
          refine gl_gF rfl rfl rfl rfl ?_
          refine gl_v rfl (o_pickF rfl rfl rfl) ?_
          refine gl_nil ?_
          refine ge_then ?_
          refine g_cond_false rfl ?_
          refine g_skip ?_
          exact fun act wo hsl st => ⟨hsl.keep (Keep.cons (by show some (I64 _) = some (I64 _); rw [hz, if_neg (by omega)]) (Keep.cons rfl (Keep.cons rfl (Keep.cons rfl (Keep.cons rfl (Keep.cons rfl (Keep.cons rfl (Keep.cons rfl (Keep.cons rfl (Keep.cons rfl (Keep.cons rfl (Keep.nil)))))))))))), st.imp (To.sat (by repeat (first | exact .nil | exact .done .refl | (apply To.cons; · (repeat (first | exact .head | apply Sel.tail))) | exact .done (by repeat (first | exact .refl | apply Drop.skip)))))⟩
      ·
        rintro act wo ⟨hsl, st⟩
        refine g_of ?_ hsl st
        clear hsl st act wo
        refine g_seq ?_
        refine g_seq ?_
        refine g_region ?_
        refine gl_v rfl (o_move rfl) ?_
        first | refine gl_v rfl (o_neqPn rfl rfl) ?_ | refine gl_v rfl (o_neqnn rfl rfl) ?_
        refine gl_v rfl (o_move rfl) ?_
        refine gl_gT rfl rfl rfl ?_
        refine gl_v rfl (o_move rfl) ?_
        refine gl_gT rfl rfl rfl ?_
        refine gl_v rfl (o_neq rfl rfl) ?_
        refine gl_v rfl (o_pickF rfl rfl rfl) ?_
        refine gl_v rfl (o_move rfl) ?_
        refine gl_gT rfl rfl rfl ?_
        refine gl_v rfl (o_move rfl) ?_
        refine gl_gT rfl rfl rfl ?_
        refine gl_v rfl (o_move rfl) ?_
        refine gl_gT rfl rfl rfl ?_
        refine gl_c rfl (o_call rfl (pSize_spec s2 s3) (by repeat (first | exact .nil | (apply Part.cons; · (repeat (first | exact .head | apply Sel.tail)))))) ?_
        rintro _ R ⟨_, ⟨rfl, rfl⟩, rfl⟩
        try simp only [List.cons_append, List.nil_append]
        refine gl_gT rfl rfl rfl ?_
        refine gl_v rfl (o_move rfl) ?_
        refine gl_gT rfl rfl rfl ?_
        refine gl_v rfl (o_neq rfl rfl) ?_
        refine gl_v rfl (o_pickF rfl rfl rfl) ?_
        refine gl_nil ?_
        refine ge_then ?_
        refine g_cond_false (by simp [opv, slk]) ?_
        refine g_skip ?_
        refine ge_then ?_
        refine g_seq ?_
        refine g_region ?_
        refine gl_v rfl (o_move rfl) ?_
        refine gl_c rfl (o_call rfl (rNew_spec c0) (by repeat (first | exact .nil | (apply Part.cons; · (repeat (first | exact .head | apply Sel.tail)))))) ?_
        rintro _ R ⟨_, ⟨w, rfl, rfl⟩, rfl⟩
        try simp only [List.cons_append, List.nil_append]
        rw [← fil_0 99]
        refine gl_v rfl (o_assign rfl) ?_
        refine gl_nil ?_
        refine ge_then ?_
        refine g_seq ?_
        refine g_seq ?_
        refine g_region ?_
        refine gl_v rfl (o_assign rfl) ?_
        refine gl_nil ?_
        refine ge_then ?_
        refine g_block ?_
        refine g_loop (ι := Nat) (fun x => x ≤ cnt c0) (fun x => [(17, I64 x), (16, ptr w 0), (15, I64 (sizeP s2 s3)), (11, .pointer none), (12, I64 1), (0, I64 c0), (9, ptr m 0), (8, .bool false), (1, I64 s1), (2, I64 s2), (3, I64 s3)]) (fun x => rmemA w (fil 99 (cnt c0) x) 0 :: memA m (List.replicate (cnt c0) (99 : Int)) (tupN (cnt c0) 0) :: R) (fun x => cnt c0 - x) 0 (Nat.zero_le _) (Keep.cons rfl (Keep.cons rfl (Keep.cons rfl (Keep.cons rfl (Keep.cons rfl (Keep.cons rfl (Keep.cons rfl (Keep.cons rfl (Keep.cons rfl (Keep.cons rfl (Keep.cons rfl (Keep.nil)))))))))))) (To.sat (by repeat (first | exact .nil | exact .done .refl | (apply To.cons; · (repeat (first | exact .head | apply Sel.tail))) | exact .done (by repeat (first | exact .refl | apply Drop.skip))))) ?_
        intro k hk
        refine g_open (by repeat (first | exact .head | apply Sel.tail)) ?_
        rintro ⟨aw, cw⟩ -
        simp only [List.cons_append, List.nil_append]
        have hfl := fil_len 99 hk
        refine g_seq ?_
        refine g_seq ?_
        refine g_region ?_
        refine gl_v rfl (o_move rfl) ?_
        refine gl_v rfl (o_move rfl) ?_
        refine gl_v rfl (o_nil rfl) ?_
        first | refine gl_v rfl (o_fldS rfl) ?_ | refine gl_v rfl (o_fld rfl) ?_
        first | refine gl_v rfl (o_load rfl rfl) ?_ | refine gl_v rfl (o_loadS rfl rfl) ?_ | refine gl_v rfl (o_loadC rfl) ?_
        first | refine gl_v rfl (o_len rfl) ?_ | refine gl_v rfl (o_lenL rfl) ?_
        refine gl_v rfl (o_lss rfl rfl) ?_
        refine gl_nil ?_
        refine ge_then ?_
        refine g_cond rfl (fun hc7 => ?_) (fun hc7 => ?_)
        ·
          first | replace hc7 := of_decide_eq_true hc7 | replace hc7 := lt_f hc7 | replace hc7 := le_f hc7 | replace hc7 := dec_f hc7 | replace hc7 := nlt_t hc7 | replace hc7 := nle_t hc7 | replace hc7 := ndec_t hc7 | replace hc7 := ndec_f hc7 | replace hc7 := nn_t hc7 | replace hc7 := nn_f hc7 | skip
          refine g_skip ?_
          refine ge_then ?_
          refine g_seq ?_
          refine g_block ?_
          refine g_region ?_
          refine gl_v rfl (o_move rfl) ?_
          refine gl_v rfl (o_nil rfl) ?_
          first | refine gl_v rfl (o_fldS rfl) ?_ | refine gl_v rfl (o_fld rfl) ?_
          first | refine gl_v rfl (o_load rfl rfl) ?_ | refine gl_v rfl (o_loadS rfl rfl) ?_ | refine gl_v rfl (o_loadC rfl) ?_
          refine gl_v rfl (o_move rfl) ?_
          refine gl_v rfl (o_idxS (j := k) rfl rfl (by omega)) ?_
          refine gl_u (o_storeS rfl rfl rfl (by simp; omega)) ?_
          rw [map_set1]
          refine gl_nil ?_
          refine ge_block ?_
          refine ge_then ?_
          refine g_region ?_
          refine gl_v rfl (o_move rfl) ?_
          refine gl_v rfl (o_addR _ (by first | exact wr_i64 (by omega) | rfl) rfl rfl) ?_
          refine gl_v rfl (o_assign rfl) ?_
          refine gl_nil ?_
          refine ge_round (k + 1) (show k + 1 ≤ _ by omega) (by omega) (Keep.cons rfl (Keep.cons rfl (Keep.cons rfl (Keep.cons rfl (Keep.cons rfl (Keep.cons rfl (Keep.cons rfl (Keep.cons rfl (Keep.cons rfl (Keep.cons rfl (Keep.cons rfl (Keep.nil)))))))))))) (rmem_close aw cw (fil_set 99 (by omega)).symm rfl (by simp only [List.length_set]; exact (To.sat (by repeat (first | exact .nil | exact .done .refl | (apply To.cons; · (repeat (first | exact .head | apply Sel.tail))) | exact .done (by repeat (first | exact .refl | apply Drop.skip)))))))
        ·
          first | replace hc7 := of_decide_eq_true hc7 | replace hc7 := lt_f hc7 | replace hc7 := le_f hc7 | replace hc7 := dec_f hc7 | replace hc7 := nlt_t hc7 | replace hc7 := nle_t hc7 | replace hc7 := ndec_t hc7 | replace hc7 := ndec_f hc7 | replace hc7 := nn_t hc7 | replace hc7 := nn_f hc7 | skip
          obtain rfl : k = cnt c0 := by omega
          rw [fil_full]
          refine g_exit ?_
          refine ge_then_exit ?_
          refine ge_then_exit ?_
          refine ge_block_exit ?_
          refine ge_then ?_
          refine g_seq ?_
          refine g_seq ?_
          refine g_region ?_
          refine gl_v rfl (o_move rfl) ?_
          refine gl_v rfl (o_eql rfl rfl) ?_
          refine gl_v rfl (o_move rfl) ?_
          refine gl_g rfl rfl (fun hc8 => ?_) (fun hc8 => ?_) rfl
          ·
            have hc8' := hc8
            first | replace hc8' := of_decide_eq_true hc8' | replace hc8' := lt_f hc8' | replace hc8' := le_f hc8' | replace hc8' := dec_f hc8' | replace hc8' := nlt_t hc8' | replace hc8' := nle_t hc8' | replace hc8' := ndec_t hc8' | replace hc8' := ndec_f hc8' | replace hc8' := nn_t hc8' | replace hc8' := nn_f hc8' | skip
            refine gl_v rfl (o_move rfl) ?_
            refine gl_gT rfl rfl hc8 ?_
            refine gl_v rfl (o_lss rfl rfl) ?_
            refine gl_v rfl (o_pickF hc8 rfl rfl) ?_
            refine gl_v rfl (o_move rfl) ?_
            refine gl_g rfl rfl (fun hc9 => ?_) (fun hc9 => ?_) rfl
            ·
              have hc9' := hc9
              first | replace hc9' := of_decide_eq_true hc9' | replace hc9' := lt_f hc9' | replace hc9' := le_f hc9' | replace hc9' := dec_f hc9' | replace hc9' := nlt_t hc9' | replace hc9' := nle_t hc9' | replace hc9' := ndec_t hc9' | replace hc9' := ndec_f hc9' | replace hc9' := nn_t hc9' | replace hc9' := nn_f hc9' | skip
              refine gl_v rfl (o_move rfl) ?_
              refine gl_gT rfl rfl hc9 ?_
              refine gl_v rfl (o_move rfl) ?_
              refine gl_gT rfl rfl hc9 ?_
              refine gl_v rfl (o_nil rfl) ?_
              refine gl_gT rfl rfl hc9 ?_
              first | refine gl_v rfl (o_fldS rfl) ?_ | refine gl_v rfl (o_fld rfl) ?_
              refine gl_gT rfl rfl hc9 ?_
              first | refine gl_v rfl (o_load rfl rfl) ?_ | refine gl_v rfl (o_loadS rfl rfl) ?_ | refine gl_v rfl (o_loadC rfl) ?_
              refine gl_gT rfl rfl hc9 ?_
              first | refine gl_v rfl (o_len rfl) ?_ | refine gl_v rfl (o_lenL rfl) ?_
              refine gl_gT rfl rfl hc9 ?_
              refine gl_v rfl (o_move rfl) ?_
              refine gl_gT rfl rfl hc9 ?_
              refine gl_v rfl (o_subR ((cnt c0 : Int) - sizeP s2 s3) (by rw [hrl]; exact wr_i64 (by omega)) rfl rfl) ?_
              refine gl_gT rfl rfl hc9 ?_
              refine gl_v rfl (o_gtr rfl rfl) ?_
              refine gl_v rfl (o_pickF hc9 rfl rfl) ?_
              refine gl_nil ?_
              refine ge_then ?_
              refine g_cond rfl (fun hc10 => ?_) (fun hc10 => ?_)
              ·
                first | replace hc10 := of_decide_eq_true hc10 | replace hc10 := lt_f hc10 | replace hc10 := le_f hc10 | replace hc10 := dec_f hc10 | replace hc10 := nlt_t hc10 | replace hc10 := nle_t hc10 | replace hc10 := ndec_t hc10 | replace hc10 := ndec_f hc10 | replace hc10 := nn_t hc10 | replace hc10 := nn_f hc10 | skip
                refine g_seq ?_
                refine g_draw [8, 13] [8] [(0, .loc), (1, .loc), (2, .loc), (3, .loc), (4, .loc), (5, .loc), (6, .loc), (7, .loc), (9, .stab), (10, .stab), (11, .stab), (12, .stab), (8, .eff), (13, .eff), (14, .loc), (15, .loc)] [cel w 62 [.slice aw (List.replicate (cnt c0) (99 : Int)).length cw, I64 0]] mixed (by kernel_rfl) ?_
                refine go_v rfl .none rfl (o_move rfl) ?_
                first | refine go_v rfl .none rfl (o_eqlPn rfl rfl) ?_ | refine go_v rfl .none rfl (o_eqlnn rfl rfl) ?_
                refine go_v rfl .none rfl (o_move rfl) ?_
                refine go_v rfl (.yes rfl rfl rfl) rfl (o_move rfl) ?_
                refine go_v rfl (.yes rfl rfl rfl) rfl (o_eql rfl rfl) ?_
                refine go_v rfl .none rfl (o_pickT rfl rfl rfl) ?_
                refine go_v rfl .none rfl (o_move rfl) ?_
                refine go_v rfl (.yes rfl rfl rfl) rfl (o_move rfl) ?_
                refine go_vs rfl (.yes rfl rfl rfl) rfl (o_move rfl) (To.sat (by repeat (first | exact .nil | exact .done .refl | (apply To.cons; · (repeat (first | exact .head | apply Sel.tail))) | exact .done (by repeat (first | exact .refl | apply Drop.skip))))) ?_
                refine go_vs rfl (.yes rfl rfl rfl) rfl (o_nil rfl) (To.sat (by repeat (first | exact .nil | exact .done .refl | (apply To.cons; · (repeat (first | exact .head | apply Sel.tail))) | exact .done (by repeat (first | exact .refl | apply Drop.skip))))) ?_
                first | refine go_vs rfl (.yes rfl rfl rfl) rfl (o_fldS rfl) (To.sat (by repeat (first | exact .nil | exact .done .refl | (apply To.cons; · (repeat (first | exact .head | apply Sel.tail))) | exact .done (by repeat (first | exact .refl | apply Drop.skip))))) ?_ | refine go_vs rfl (.yes rfl rfl rfl) rfl (o_fld rfl) (To.sat (by repeat (first | exact .nil | exact .done .refl | (apply To.cons; · (repeat (first | exact .head | apply Sel.tail))) | exact .done (by repeat (first | exact .refl | apply Drop.skip))))) ?_
                first | refine go_vs rfl (.yes rfl rfl rfl) rfl (o_load rfl rfl) (To.sat (by repeat (first | exact .nil | exact .done .refl | (apply To.cons; · (repeat (first | exact .head | apply Sel.tail))) | exact .done (by repeat (first | exact .refl | apply Drop.skip))))) ?_ | refine go_vs rfl (.yes rfl rfl rfl) rfl (o_loadS rfl rfl) (To.sat (by repeat (first | exact .nil | exact .done .refl | (apply To.cons; · (repeat (first | exact .head | apply Sel.tail))) | exact .done (by repeat (first | exact .refl | apply Drop.skip))))) ?_ | refine go_vs rfl (.yes rfl rfl rfl) rfl (o_loadC rfl) (To.sat (by repeat (first | exact .nil | exact .done .refl | (apply To.cons; · (repeat (first | exact .head | apply Sel.tail))) | exact .done (by repeat (first | exact .refl | apply Drop.skip))))) ?_
                refine go_c rfl (.yes rfl rfl rfl) rfl (o_call rfl (All_spec m (List.replicate (cnt c0) (99 : Int)) _ (by simp; omega)) (by repeat (first | exact .nil | (apply Part.cons; · (repeat (first | exact .head | apply Sel.tail)))))) ?_
                rintro _ R ⟨_, ⟨a', c', rfl, rfl⟩, rfl⟩
                try simp only [List.cons_append, List.nil_append]
                refine ⟨(fun _ => (To.sat (by repeat (first | exact .nil | exact .done .refl | (apply To.cons; · (repeat (first | exact .head | apply Sel.tail))) | exact .done (by repeat (first | exact .refl | apply Drop.skip)))))), ?_⟩
                refine go_c rfl (.yes rfl rfl rfl) rfl (o_call rfl (rSame_spec (.slice a' (List.replicate (cnt c0) (99 : Int)).length c') (.slice aw (List.replicate (cnt c0) (99 : Int)).length cw) (List.replicate (cnt c0) (99 : Int)) (List.replicate (cnt c0) (99 : Int)) (by simp [zap_len]; omega) (by simp [zap_len]; omega) (own (.slice a' (List.replicate (cnt c0) (99 : Int)).length c') 31 1 (List.replicate (cnt c0) (99 : Int)).length ((List.replicate (cnt c0) (99 : Int)).map U64)) (own (.slice aw (List.replicate (cnt c0) (99 : Int)).length cw) 31 1 (List.replicate (cnt c0) (99 : Int)).length ((List.replicate (cnt c0) (99 : Int)).map U64))) (by repeat (first | exact .nil | (apply Part.cons; · (repeat (first | exact .head | apply Sel.tail)))))) ?_
                rintro _ R ⟨_, ⟨rfl, rfl⟩, rfl⟩
                try simp only [List.cons_append, List.nil_append]
                refine ⟨(fun hG => absurd hG (by decide)), ?_⟩
                refine go_v rfl .none rfl (o_pickT rfl rfl rfl) ?_
                refine go_v rfl .none rfl (o_assign rfl) ?_
                refine go_nil ?_
                refine ge_then ?_
                refine g_ret ?_
                refine ge_then_ret ?_
                refine ret1 (.inl rfl) rfl rfl _ (⟨by simp, rfl⟩) (To.sat (by repeat (first | exact .nil | exact .done .refl | (apply To.cons; · (repeat (first | exact .head | apply Sel.tail))) | exact .done (by repeat (first | exact .refl | apply Drop.skip)))))
              ·
                first | replace hc10 := of_decide_eq_true hc10 | replace hc10 := lt_f hc10 | replace hc10 := le_f hc10 | replace hc10 := dec_f hc10 | replace hc10 := nlt_t hc10 | replace hc10 := nle_t hc10 | replace hc10 := ndec_t hc10 | replace hc10 := ndec_f hc10 | replace hc10 := nn_t hc10 | replace hc10 := nn_f hc10 | skip
                omega
            ·
              have hc9' := hc9
              first | replace hc9' := of_decide_eq_true hc9' | replace hc9' := lt_f hc9' | replace hc9' := le_f hc9' | replace hc9' := dec_f hc9' | replace hc9' := nlt_t hc9' | replace hc9' := nle_t hc9' | replace hc9' := ndec_t hc9' | replace hc9' := ndec_f hc9' | replace hc9' := nn_t hc9' | replace hc9' := nn_f hc9' | skip
              simp only [putO]
              refine gl_gF rfl rfl hc9 rfl ?_
              refine gl_gF rfl rfl hc9 rfl ?_
              refine gl_gF rfl rfl hc9 rfl ?_
              refine gl_gF rfl rfl hc9 rfl ?_
              refine gl_gF rfl rfl hc9 rfl ?_
              refine gl_gF rfl rfl hc9 rfl ?_
              refine gl_gF rfl rfl hc9 rfl ?_
              refine gl_gF rfl rfl hc9 rfl ?_
              refine gl_v rfl (o_pickT hc9 rfl rfl) ?_
              refine gl_nil ?_
              refine ge_then ?_
              refine g_cond_true rfl ?_
              refine g_seq ?_
              refine g_draw [8, 13] [8] [(0, .loc), (1, .loc), (2, .loc), (3, .loc), (4, .loc), (5, .loc), (6, .loc), (7, .loc), (9, .stab), (10, .stab), (11, .stab), (12, .stab), (8, .eff), (13, .eff), (14, .loc), (15, .loc)] [cel w 62 [.slice aw (List.replicate (cnt c0) (99 : Int)).length cw, I64 0]] mixed (by kernel_rfl) ?_
              refine go_v rfl .none rfl (o_move rfl) ?_
              first | refine go_v rfl .none rfl (o_eqlPn rfl rfl) ?_ | refine go_v rfl .none rfl (o_eqlnn rfl rfl) ?_
              refine go_v rfl .none rfl (o_move rfl) ?_
              refine go_v rfl (.yes rfl rfl rfl) rfl (o_move rfl) ?_
              refine go_v rfl (.yes rfl rfl rfl) rfl (o_eql rfl rfl) ?_
              refine go_v rfl .none rfl (o_pickT rfl rfl rfl) ?_
              refine go_v rfl .none rfl (o_move rfl) ?_
              refine go_v rfl (.yes rfl rfl rfl) rfl (o_move rfl) ?_
              refine go_vs rfl (.yes rfl rfl rfl) rfl (o_move rfl) (To.sat (by repeat (first | exact .nil | exact .done .refl | (apply To.cons; · (repeat (first | exact .head | apply Sel.tail))) | exact .done (by repeat (first | exact .refl | apply Drop.skip))))) ?_
              refine go_vs rfl (.yes rfl rfl rfl) rfl (o_nil rfl) (To.sat (by repeat (first | exact .nil | exact .done .refl | (apply To.cons; · (repeat (first | exact .head | apply Sel.tail))) | exact .done (by repeat (first | exact .refl | apply Drop.skip))))) ?_
              first | refine go_vs rfl (.yes rfl rfl rfl) rfl (o_fldS rfl) (To.sat (by repeat (first | exact .nil | exact .done .refl | (apply To.cons; · (repeat (first | exact .head | apply Sel.tail))) | exact .done (by repeat (first | exact .refl | apply Drop.skip))))) ?_ | refine go_vs rfl (.yes rfl rfl rfl) rfl (o_fld rfl) (To.sat (by repeat (first | exact .nil | exact .done .refl | (apply To.cons; · (repeat (first | exact .head | apply Sel.tail))) | exact .done (by repeat (first | exact .refl | apply Drop.skip))))) ?_
              first | refine go_vs rfl (.yes rfl rfl rfl) rfl (o_load rfl rfl) (To.sat (by repeat (first | exact .nil | exact .done .refl | (apply To.cons; · (repeat (first | exact .head | apply Sel.tail))) | exact .done (by repeat (first | exact .refl | apply Drop.skip))))) ?_ | refine go_vs rfl (.yes rfl rfl rfl) rfl (o_loadS rfl rfl) (To.sat (by repeat (first | exact .nil | exact .done .refl | (apply To.cons; · (repeat (first | exact .head | apply Sel.tail))) | exact .done (by repeat (first | exact .refl | apply Drop.skip))))) ?_ | refine go_vs rfl (.yes rfl rfl rfl) rfl (o_loadC rfl) (To.sat (by repeat (first | exact .nil | exact .done .refl | (apply To.cons; · (repeat (first | exact .head | apply Sel.tail))) | exact .done (by repeat (first | exact .refl | apply Drop.skip))))) ?_
              refine go_c rfl (.yes rfl rfl rfl) rfl (o_call rfl (All_spec m (List.replicate (cnt c0) (99 : Int)) _ (by simp; omega)) (by repeat (first | exact .nil | (apply Part.cons; · (repeat (first | exact .head | apply Sel.tail)))))) ?_
              rintro _ R ⟨_, ⟨a', c', rfl, rfl⟩, rfl⟩
              try simp only [List.cons_append, List.nil_append]
              refine ⟨(fun _ => (To.sat (by repeat (first | exact .nil | exact .done .refl | (apply To.cons; · (repeat (first | exact .head | apply Sel.tail))) | exact .done (by repeat (first | exact .refl | apply Drop.skip)))))), ?_⟩
              refine go_c rfl (.yes rfl rfl rfl) rfl (o_call rfl (rSame_spec (.slice a' (List.replicate (cnt c0) (99 : Int)).length c') (.slice aw (List.replicate (cnt c0) (99 : Int)).length cw) (List.replicate (cnt c0) (99 : Int)) (List.replicate (cnt c0) (99 : Int)) (by simp [zap_len]; omega) (by simp [zap_len]; omega) (own (.slice a' (List.replicate (cnt c0) (99 : Int)).length c') 31 1 (List.replicate (cnt c0) (99 : Int)).length ((List.replicate (cnt c0) (99 : Int)).map U64)) (own (.slice aw (List.replicate (cnt c0) (99 : Int)).length cw) 31 1 (List.replicate (cnt c0) (99 : Int)).length ((List.replicate (cnt c0) (99 : Int)).map U64))) (by repeat (first | exact .nil | (apply Part.cons; · (repeat (first | exact .head | apply Sel.tail)))))) ?_
              rintro _ R ⟨_, ⟨rfl, rfl⟩, rfl⟩
              try simp only [List.cons_append, List.nil_append]
              refine ⟨(fun hG => absurd hG (by decide)), ?_⟩
              refine go_v rfl .none rfl (o_pickT rfl rfl rfl) ?_
              refine go_v rfl .none rfl (o_assign rfl) ?_
              refine go_nil ?_
              refine ge_then ?_
              refine g_ret ?_
              refine ge_then_ret ?_
              refine ret1 (.inl rfl) rfl rfl _ (⟨by simp, rfl⟩) (To.sat (by repeat (first | exact .nil | exact .done .refl | (apply To.cons; · (repeat (first | exact .head | apply Sel.tail))) | exact .done (by repeat (first | exact .refl | apply Drop.skip)))))
          ·
            have hc8' := hc8
            first | replace hc8' := of_decide_eq_true hc8' | replace hc8' := lt_f hc8' | replace hc8' := le_f hc8' | replace hc8' := dec_f hc8' | replace hc8' := nlt_t hc8' | replace hc8' := nle_t hc8' | replace hc8' := ndec_t hc8' | replace hc8' := ndec_f hc8' | replace hc8' := nn_t hc8' | replace hc8' := nn_f hc8' | skip
            simp only [putO]
            refine gl_gF rfl rfl hc8 rfl ?_
            refine gl_v rfl (o_pickT hc8 rfl rfl) ?_
            refine gl_v rfl (o_move rfl) ?_
            refine gl_gF rfl rfl rfl rfl ?_
            refine gl_gF rfl rfl rfl rfl ?_
            refine gl_gF rfl rfl rfl rfl ?_
            refine gl_gF rfl rfl rfl rfl ?_
            refine gl_gF rfl rfl rfl rfl ?_
            refine gl_gF rfl rfl rfl rfl ?_
            refine gl_gF rfl rfl rfl rfl ?_
            refine gl_gF rfl rfl rfl rfl ?_
            refine gl_gF rfl rfl rfl rfl ?_
            refine gl_v rfl (o_pickT rfl rfl rfl) ?_
            refine gl_nil ?_
            refine ge_then ?_
            refine g_cond_true rfl ?_
            refine g_seq ?_
            refine g_draw [8, 13] [8] [(0, .loc), (1, .loc), (2, .loc), (3, .loc), (4, .loc), (5, .loc), (6, .loc), (7, .loc), (9, .stab), (10, .stab), (11, .stab), (12, .stab), (8, .eff), (13, .eff), (14, .loc), (15, .loc)] [cel w 62 [.slice aw (List.replicate (cnt c0) (99 : Int)).length cw, I64 0]] mixed (by kernel_rfl) ?_
            refine go_v rfl .none rfl (o_move rfl) ?_
            first | refine go_v rfl .none rfl (o_eqlPn rfl rfl) ?_ | refine go_v rfl .none rfl (o_eqlnn rfl rfl) ?_
            refine go_v rfl .none rfl (o_move rfl) ?_
            refine go_v rfl (.yes rfl rfl rfl) rfl (o_move rfl) ?_
            refine go_v rfl (.yes rfl rfl rfl) rfl (o_eql rfl rfl) ?_
            refine go_v rfl .none rfl (o_pickT rfl rfl rfl) ?_
            refine go_v rfl .none rfl (o_move rfl) ?_
            refine go_v rfl (.yes rfl rfl rfl) rfl (o_move rfl) ?_
            refine go_vs rfl (.yes rfl rfl rfl) rfl (o_move rfl) (To.sat (by repeat (first | exact .nil | exact .done .refl | (apply To.cons; · (repeat (first | exact .head | apply Sel.tail))) | exact .done (by repeat (first | exact .refl | apply Drop.skip))))) ?_
            refine go_vs rfl (.yes rfl rfl rfl) rfl (o_nil rfl) (To.sat (by repeat (first | exact .nil | exact .done .refl | (apply To.cons; · (repeat (first | exact .head | apply Sel.tail))) | exact .done (by repeat (first | exact .refl | apply Drop.skip))))) ?_
            first | refine go_vs rfl (.yes rfl rfl rfl) rfl (o_fldS rfl) (To.sat (by repeat (first | exact .nil | exact .done .refl | (apply To.cons; · (repeat (first | exact .head | apply Sel.tail))) | exact .done (by repeat (first | exact .refl | apply Drop.skip))))) ?_ | refine go_vs rfl (.yes rfl rfl rfl) rfl (o_fld rfl) (To.sat (by repeat (first | exact .nil | exact .done .refl | (apply To.cons; · (repeat (first | exact .head | apply Sel.tail))) | exact .done (by repeat (first | exact .refl | apply Drop.skip))))) ?_
            first | refine go_vs rfl (.yes rfl rfl rfl) rfl (o_load rfl rfl) (To.sat (by repeat (first | exact .nil | exact .done .refl | (apply To.cons; · (repeat (first | exact .head | apply Sel.tail))) | exact .done (by repeat (first | exact .refl | apply Drop.skip))))) ?_ | refine go_vs rfl (.yes rfl rfl rfl) rfl (o_loadS rfl rfl) (To.sat (by repeat (first | exact .nil | exact .done .refl | (apply To.cons; · (repeat (first | exact .head | apply Sel.tail))) | exact .done (by repeat (first | exact .refl | apply Drop.skip))))) ?_ | refine go_vs rfl (.yes rfl rfl rfl) rfl (o_loadC rfl) (To.sat (by repeat (first | exact .nil | exact .done .refl | (apply To.cons; · (repeat (first | exact .head | apply Sel.tail))) | exact .done (by repeat (first | exact .refl | apply Drop.skip))))) ?_
            refine go_c rfl (.yes rfl rfl rfl) rfl (o_call rfl (All_spec m (List.replicate (cnt c0) (99 : Int)) _ (by simp; omega)) (by repeat (first | exact .nil | (apply Part.cons; · (repeat (first | exact .head | apply Sel.tail)))))) ?_
            rintro _ R ⟨_, ⟨a', c', rfl, rfl⟩, rfl⟩
            try simp only [List.cons_append, List.nil_append]
            refine ⟨(fun _ => (To.sat (by repeat (first | exact .nil | exact .done .refl | (apply To.cons; · (repeat (first | exact .head | apply Sel.tail))) | exact .done (by repeat (first | exact .refl | apply Drop.skip)))))), ?_⟩
            refine go_c rfl (.yes rfl rfl rfl) rfl (o_call rfl (rSame_spec (.slice a' (List.replicate (cnt c0) (99 : Int)).length c') (.slice aw (List.replicate (cnt c0) (99 : Int)).length cw) (List.replicate (cnt c0) (99 : Int)) (List.replicate (cnt c0) (99 : Int)) (by simp [zap_len]; omega) (by simp [zap_len]; omega) (own (.slice a' (List.replicate (cnt c0) (99 : Int)).length c') 31 1 (List.replicate (cnt c0) (99 : Int)).length ((List.replicate (cnt c0) (99 : Int)).map U64)) (own (.slice aw (List.replicate (cnt c0) (99 : Int)).length cw) 31 1 (List.replicate (cnt c0) (99 : Int)).length ((List.replicate (cnt c0) (99 : Int)).map U64))) (by repeat (first | exact .nil | (apply Part.cons; · (repeat (first | exact .head | apply Sel.tail)))))) ?_
            rintro _ R ⟨_, ⟨rfl, rfl⟩, rfl⟩
            try simp only [List.cons_append, List.nil_append]
            refine ⟨(fun hG => absurd hG (by decide)), ?_⟩
            refine go_v rfl .none rfl (o_pickT rfl rfl rfl) ?_
            refine go_v rfl .none rfl (o_assign rfl) ?_
            refine go_nil ?_
            refine ge_then ?_
            refine g_ret ?_
            refine ge_then_ret ?_
            refine ret1 (.inl rfl) rfl rfl _ (⟨by simp, rfl⟩) (To.sat (by repeat (first | exact .nil | exact .done .refl | (apply To.cons; · (repeat (first | exact .head | apply Sel.tail))) | exact .done (by repeat (first | exact .refl | apply Drop.skip)))))

theorem pmakes_spec (c0 s1 s2 s3 : Int) (h1 : -9223372036854775808 ≤ s1 ∧ s1 ≤ 9223372036854775807) : FnS Try.prog 6 [I64 c0, I64 s1, I64 s2, I64 s3] [] (fun u Bs => u = .bool true ∧ Bs = []) := by
  have hz := sizeP_val s2 s3
  have hz0 := sizeP_in s2 s3
  by_cases h : sizeP s2 s3 = 0 ∨ s1 < 0 ∨ s1 > cnt c0 - sizeP s2 s3
  · exact pmakes_no c0 s1 s2 s3 h1 h
  · have hc := cnt_le c0
    have hv : 1 ≤ s2 ∧ s2 ≤ 64 ∧ 1 ≤ s3 ∧ s3 ≤ 64 := by split at hz <;> omega
    rw [if_pos hv] at hz
    exact pmakes_ok c0 s1.toNat s2.toNat s3.toNat (fun _ => ⟨by show 1 ≤ s2.toNat; omega, by show s2.toNat ≤ 64; omega, by show 1 ≤ s3.toNat; omega, by show s3.toNat ≤ 64; omega, by show s1.toNat + 6 + 2 * s2.toNat + 2 * s3.toNat ≤ _; simp only [List.length_replicate]; omega, by simp only [List.length_replicate]; exact hc⟩) s1 s2 s3 (by omega) (by omega) (by omega) (by omega) (by omega) (by omega)

end Go.Proofs.Ytkpgcdhepfgfaaa.L
