/-
  Making rings. Own work, printed in part by a program of its own.
-/
import Derived.Test.YtmohikdmdmplaaaGreatRingG
set_option linter.unusedSimpArgs false
set_option linter.unusedVariables false
set_option linter.unusedSectionVars false
namespace Go.Proofs.YtmohikdmdmplaaaGreat.L
open Go.L Go.L.Ring
theorem Size_ok (n : Nat) (h1 : 1 ≤ n) (h2 : n ≤ 64) : FnS Tryz.prog 46 [I64 n] [] (fun u Bs => u = I64 ((2 + 2 * n : Nat) : Int) ∧ Bs = []) := by
  have h := Size_spec (n : Int); rw [sizeR_ok h1 h2] at h; exact h
def tupN : Nat → Int → Int
  | 0, t => t
  | k + 1, t => tup (tupN k t)

set_option maxRecDepth 8000 in
theorem Make_spec (m b n : Nat) (L : List Int) (t : Int) (I : RI b n L) : FnS Tryz.prog 44 [ptr m 0, I64 b, I64 n] [memA m L t]
      (fun u Bs => ∃ r, u = .tuple #[ptr r 0, I64 0] ∧ Bs = [memA m (zap L b (2 + 2 * n)) (tupN (2 + 2 * n) t), ringA r m b n]) := by
 refine fn_body Tryz.func44 rfl rfl rfl ?_
 intro W0 R
 simp only [List.zipIdx_cons, List.zipIdx_nil, List.map_cons, List.map_nil, Nat.zero_add, Nat.reduceAdd, List.cons_append, List.nil_append]
 have hb0 := I.len; have hn1 := I.n1; have hn2 := I.n64; have hL0 := I.top
 refine g_seq ?_
 refine g_region ?_
 refine gl_v rfl (o_assign rfl) ?_
 refine gl_v rfl (o_assign rfl) ?_
 refine gl_nil ?_
 refine ge_then ?_
 refine g_seq ?_
 refine g_region ?_
 refine gl_v rfl (o_move rfl) ?_
 refine gl_c rfl (o_call rfl (Size_ok n hn1 hn2) (by repeat (first | exact .nil | (apply Part.cons; · (repeat (first | exact .head | apply Sel.tail)))))) ?_
 rintro _ R ⟨_, ⟨rfl, rfl⟩, rfl⟩
 try simp only [List.cons_append, List.nil_append]
 refine gl_v rfl (o_assign rfl) ?_
 refine gl_nil ?_
 refine ge_then ?_
 refine g_seq ?_
 refine g_seq ?_
 refine g_region ?_
 refine gl_v rfl (o_move rfl) ?_
 first | refine gl_v rfl (o_eqlPn rfl rfl) ?_ | refine gl_v rfl (o_eqlnn rfl rfl) ?_
 refine gl_v rfl (o_move rfl) ?_
 refine gl_gT rfl rfl rfl ?_
 refine gl_v rfl (o_move rfl) ?_
 refine gl_gT rfl rfl rfl ?_
 refine gl_v rfl (o_eql rfl rfl) ?_
 refine gl_v rfl (o_pickF rfl rfl rfl) ?_
 refine gl_v rfl (o_move rfl) ?_
 refine gl_gT rfl rfl (by simp; omega) ?_
 refine gl_v rfl (o_move rfl) ?_
 refine gl_gT rfl rfl (by simp; omega) ?_
 refine gl_v rfl (o_lss rfl rfl) ?_
 refine gl_v rfl (o_pickF (by simp; omega) rfl rfl) ?_
 refine gl_v rfl (o_move rfl) ?_
 refine gl_gT rfl rfl (by simp) ?_
 refine gl_v rfl (o_move rfl) ?_
 refine gl_gT rfl rfl (by simp) ?_
 refine gl_v rfl (o_move rfl) ?_
 refine gl_gT rfl rfl (by simp) ?_
 refine gl_c rfl (o_call rfl (Len_spec _ _ _) (by repeat (first | exact .nil | (apply Part.cons; · (repeat (first | exact .head | apply Sel.tail)))))) ?_
 rintro _ R ⟨_, ⟨rfl, rfl⟩, rfl⟩
 try simp only [List.cons_append, List.nil_append]
 refine gl_gT rfl rfl (by simp) ?_
 refine gl_v rfl (o_move rfl) ?_
 refine gl_gT rfl rfl (by simp) ?_
 refine gl_v rfl (o_subR _ (by first | exact wr_i64 (by omega) | rfl) rfl rfl) ?_
 refine gl_gT rfl rfl (by simp) ?_
 refine gl_v rfl (o_gtr rfl rfl) ?_
 refine gl_v rfl (o_pickF (by simp) rfl rfl) ?_
 refine gl_nil ?_
 refine ge_then ?_
 refine g_cond_false (by simp [opv, slk]; omega) ?_
 refine g_skip ?_
 refine ge_then ?_
 refine g_seq ?_
 refine g_seq ?_
 refine g_region ?_
 refine gl_v rfl (o_move rfl) ?_
 refine gl_v rfl (o_move rfl) ?_
 refine gl_nil ?_
 refine ge_then ?_
 refine g_block ?_
 refine g_loop (ι := Nat) (fun x => x ≤ 2 + 2 * n) (fun x => [(31, I64 x), (30, I64 ((2 + 2 * n : Nat) : Int)), (0, ptr m 0), (1, I64 b), (2, I64 n)]) (fun x => memA m (zap L b x) (tupN x t) :: R) (fun x => 2 + 2 * n - x) 0 (Nat.zero_le _) (Keep.cons rfl (Keep.cons rfl (Keep.cons rfl (Keep.cons rfl (Keep.cons rfl (Keep.nil)))))) (To.sat (by repeat (first | exact .nil | exact .done .refl | (apply To.cons; · (repeat (first | exact .head | apply Sel.tail))) | exact .done (by repeat (first | exact .refl | apply Drop.skip))))) ?_
 intro k hk
 refine g_seq ?_
 refine g_region ?_
 refine gl_v rfl (o_lss rfl rfl) ?_
 refine gl_nil ?_
 refine ge_then ?_
 refine g_seq ?_
 refine g_cond rfl (fun hc1 => ?_) (fun hc1 => ?_)
 ·
  first | replace hc1 := of_decide_eq_true hc1 | replace hc1 := lt_f hc1 | replace hc1 := le_f hc1 | replace hc1 := dec_f hc1 | replace hc1 := nlt_t hc1 | replace hc1 := nle_t hc1 | replace hc1 := ndec_t hc1 | replace hc1 := ndec_f hc1 | replace hc1 := nn_t hc1 | replace hc1 := nn_f hc1 | skip
  refine g_skip ?_
  refine ge_then ?_
  refine g_seq ?_
  refine g_block ?_
  refine g_seq ?_
  refine g_region ?_
  refine gl_v rfl (o_move rfl) ?_
  refine gl_v rfl (o_assign rfl) ?_
  refine gl_nil ?_
  refine ge_then ?_
  refine g_region ?_
  refine gl_v rfl (o_move rfl) ?_
  refine gl_v rfl (o_move rfl) ?_
  refine gl_v rfl (o_move rfl) ?_
  refine gl_v rfl (o_addR _ (by first | exact wr_i64 (by omega) | rfl) rfl rfl) ?_
  refine gl_c rfl (o_call rfl (Store_spec m (zap L b k) _ (b + k) (by rw [zap_len]; omega) _) (by repeat (first | exact .nil | (apply Part.cons; · (repeat (first | exact .head | apply Sel.tail)))))) ?_
  rintro _ R ⟨_, ⟨rfl, rfl⟩, rfl⟩
  try simp only [List.cons_append, List.nil_append]
  refine gl_nil ?_
  refine ge_block ?_
  refine ge_then ?_
  refine g_region ?_
  refine gl_v rfl (o_addR _ (by first | exact wr_i64 (by omega) | rfl) rfl rfl) ?_
  refine gl_v rfl (o_move rfl) ?_
  refine gl_nil ?_
  refine ge_round (k + 1) (show k + 1 ≤ _ by omega) (by omega) (Keep.cons rfl (Keep.cons rfl (Keep.cons rfl (Keep.cons rfl (Keep.cons rfl (Keep.nil)))))) (To.sat (by repeat (first | exact .nil | exact .done .refl | (apply To.cons; · (repeat (first | exact .head | apply Sel.tail))) | exact .done (by repeat (first | exact .refl | apply Drop.skip)))))
 ·
  first | replace hc1 := of_decide_eq_true hc1 | replace hc1 := lt_f hc1 | replace hc1 := le_f hc1 | replace hc1 := dec_f hc1 | replace hc1 := nlt_t hc1 | replace hc1 := nle_t hc1 | replace hc1 := ndec_t hc1 | replace hc1 := ndec_f hc1 | replace hc1 := nn_t hc1 | replace hc1 := nn_f hc1 | skip
  obtain rfl : k = 2 + 2 * n := by omega
  refine g_exit ?_
  refine ge_then_exit ?_
  refine ge_then_exit ?_
  refine ge_block_exit ?_
  refine ge_then ?_
  refine g_seq ?_
  refine g_region ?_
  refine gl_v rfl (o_move rfl) ?_
  refine gl_v rfl (o_move rfl) ?_
  refine gl_v rfl (o_move rfl) ?_
  refine gl_v rfl (o_convR _ (by first | exact wr_u64 (by omega) | rfl) rfl) ?_
  refine gl_v rfl (o_build rfl rfl) ?_
  refine gl_n rfl (o_boxA rfl) ?_
  rintro _ _ ⟨b45, rfl, rfl⟩
  refine gl_v rfl (o_assign rfl) ?_
  refine gl_v rfl (o_assign rfl) ?_
  refine gl_nil ?_
  refine ge_then ?_
  refine g_ret ?_
  refine ret2 (.inl rfl) rfl rfl rfl _ (⟨_, rfl, rfl⟩) (To.sat (by repeat (first | exact .nil | exact .done .refl | (apply To.cons; · (repeat (first | exact .head | apply Sel.tail))) | exact .done (by repeat (first | exact .refl | apply Drop.skip)))))

set_option maxRecDepth 8000 in
theorem Make_no (m : Nat) (b s : Int) (L : List Int) (t : Int) (hL : L.length ≤ 65536) (hb : -9223372036854775808 ≤ b ∧ b ≤ 9223372036854775807) (hno : ¬ (1 ≤ s ∧ s ≤ 64 ∧ 0 ≤ b ∧ b + (2 + 2 * s) ≤ L.length)) : FnS Tryz.prog 44 [ptr m 0, I64 b, I64 s] [memA m L t]
      (fun u Bs => u = .tuple #[.pointer none, I64 1] ∧ Bs = [memA m L t]) := by
 refine fn_body Tryz.func44 rfl rfl rfl ?_
 intro W0 R
 simp only [List.zipIdx_cons, List.zipIdx_nil, List.map_cons, List.map_nil, Nat.zero_add, Nat.reduceAdd, List.cons_append, List.nil_append]
 have hz : sizeR s = if 1 ≤ s ∧ s ≤ 64 then 2 + 2 * s else 0 := rfl
 have hz0 : 0 ≤ sizeR s ∧ sizeR s ≤ 130 := by rw [hz]; split <;> omega
 refine g_seq ?_
 refine g_region ?_
 refine gl_v rfl (o_assign rfl) ?_
 refine gl_v rfl (o_assign rfl) ?_
 refine gl_nil ?_
 refine ge_then ?_
 refine g_seq ?_
 refine g_region ?_
 refine gl_v rfl (o_move rfl) ?_
 refine gl_c rfl (o_call rfl (Size_spec _) (by repeat (first | exact .nil | (apply Part.cons; · (repeat (first | exact .head | apply Sel.tail)))))) ?_
 rintro _ R ⟨_, ⟨rfl, rfl⟩, rfl⟩
 try simp only [List.cons_append, List.nil_append]
 refine gl_v rfl (o_assign rfl) ?_
 refine gl_nil ?_
 refine ge_then ?_
 refine g_seq ?_
 refine g_seq ?_
 refine g_region ?_
 refine gl_v rfl (o_move rfl) ?_
 first | refine gl_v rfl (o_eqlPn rfl rfl) ?_ | refine gl_v rfl (o_eqlnn rfl rfl) ?_
 refine gl_v rfl (o_move rfl) ?_
 refine gl_gT rfl rfl rfl ?_
 refine gl_v rfl (o_move rfl) ?_
 refine gl_gT rfl rfl rfl ?_
 refine gl_v rfl (o_eql rfl rfl) ?_
 refine gl_v rfl (o_pickF rfl rfl rfl) ?_
 refine gl_v rfl (o_move rfl) ?_
 refine gl_g rfl rfl (fun hc1 => ?_) (fun hc1 => ?_) rfl
 ·
  have hc1' := hc1
  first | replace hc1' := of_decide_eq_true hc1' | replace hc1' := lt_f hc1' | replace hc1' := le_f hc1' | replace hc1' := dec_f hc1' | replace hc1' := nlt_t hc1' | replace hc1' := nle_t hc1' | replace hc1' := ndec_t hc1' | replace hc1' := ndec_f hc1' | replace hc1' := nn_t hc1' | replace hc1' := nn_f hc1' | skip
  refine gl_v rfl (o_move rfl) ?_
  refine gl_gT rfl rfl hc1 ?_
  refine gl_v rfl (o_lss rfl rfl) ?_
  refine gl_v rfl (o_pickF hc1 rfl rfl) ?_
  refine gl_v rfl (o_move rfl) ?_
  refine gl_g rfl rfl (fun hc2 => ?_) (fun hc2 => ?_) rfl
  ·
   have hc2' := hc2
   first | replace hc2' := of_decide_eq_true hc2' | replace hc2' := lt_f hc2' | replace hc2' := le_f hc2' | replace hc2' := dec_f hc2' | replace hc2' := nlt_t hc2' | replace hc2' := nle_t hc2' | replace hc2' := ndec_t hc2' | replace hc2' := ndec_f hc2' | replace hc2' := nn_t hc2' | replace hc2' := nn_f hc2' | skip
   refine gl_v rfl (o_move rfl) ?_
   refine gl_gT rfl rfl hc2 ?_
   refine gl_v rfl (o_move rfl) ?_
   refine gl_gT rfl rfl hc2 ?_
   refine gl_c rfl (o_call rfl (Len_spec _ _ _) (by repeat (first | exact .nil | (apply Part.cons; · (repeat (first | exact .head | apply Sel.tail)))))) ?_
   rintro _ R ⟨_, ⟨rfl, rfl⟩, rfl⟩
   try simp only [List.cons_append, List.nil_append]
   refine gl_gT rfl rfl hc2 ?_
   refine gl_v rfl (o_move rfl) ?_
   refine gl_gT rfl rfl hc2 ?_
   refine gl_v rfl (o_subR _ (by first | exact wr_i64 (by omega) | rfl) rfl rfl) ?_
   refine gl_gT rfl rfl hc2 ?_
   refine gl_v rfl (o_gtr rfl rfl) ?_
   refine gl_v rfl (o_pickF hc2 rfl rfl) ?_
   refine gl_nil ?_
   refine ge_then ?_
   refine g_cond rfl (fun hc3 => ?_) (fun hc3 => ?_)
   ·
    first | replace hc3 := of_decide_eq_true hc3 | replace hc3 := lt_f hc3 | replace hc3 := le_f hc3 | replace hc3 := dec_f hc3 | replace hc3 := nlt_t hc3 | replace hc3 := nle_t hc3 | replace hc3 := ndec_t hc3 | replace hc3 := ndec_f hc3 | replace hc3 := nn_t hc3 | replace hc3 := nn_f hc3 | skip
    refine g_seq ?_
    refine g_region ?_
    refine gl_v rfl (o_assign rfl) ?_
    refine gl_v rfl (o_assign rfl) ?_
    refine gl_nil ?_
    refine ge_then ?_
    refine g_ret ?_
    refine ge_then_ret ?_
    refine ret2 (.inl rfl) rfl rfl rfl _ (⟨rfl, rfl⟩) (To.sat (by repeat (first | exact .nil | exact .done .refl | (apply To.cons; · (repeat (first | exact .head | apply Sel.tail))) | exact .done (by repeat (first | exact .refl | apply Drop.skip)))))
   ·
    first | replace hc3 := of_decide_eq_true hc3 | replace hc3 := lt_f hc3 | replace hc3 := le_f hc3 | replace hc3 := dec_f hc3 | replace hc3 := nlt_t hc3 | replace hc3 := nle_t hc3 | replace hc3 := ndec_t hc3 | replace hc3 := ndec_f hc3 | replace hc3 := nn_t hc3 | replace hc3 := nn_f hc3 | skip
    exact (hno (by split at hz <;> omega)).elim
  ·
   have hc2' := hc2
   first | replace hc2' := of_decide_eq_true hc2' | replace hc2' := lt_f hc2' | replace hc2' := le_f hc2' | replace hc2' := dec_f hc2' | replace hc2' := nlt_t hc2' | replace hc2' := nle_t hc2' | replace hc2' := ndec_t hc2' | replace hc2' := ndec_f hc2' | replace hc2' := nn_t hc2' | replace hc2' := nn_f hc2' | skip
   simp only [putO]
   refine gl_gF rfl rfl hc2 rfl ?_
   refine gl_gF rfl rfl hc2 rfl ?_
   refine gl_gF rfl rfl hc2 rfl ?_
   refine gl_gF rfl rfl hc2 rfl ?_
   refine gl_gF rfl rfl hc2 rfl ?_
   refine gl_v rfl (o_pickT hc2 rfl rfl) ?_
   refine gl_nil ?_
   refine ge_then ?_
   refine g_cond_true rfl ?_
   refine g_seq ?_
   refine g_region ?_
   refine gl_v rfl (o_assign rfl) ?_
   refine gl_v rfl (o_assign rfl) ?_
   refine gl_nil ?_
   refine ge_then ?_
   refine g_ret ?_
   refine ge_then_ret ?_
   refine ret2 (.inl rfl) rfl rfl rfl _ (⟨rfl, rfl⟩) (To.sat (by repeat (first | exact .nil | exact .done .refl | (apply To.cons; · (repeat (first | exact .head | apply Sel.tail))) | exact .done (by repeat (first | exact .refl | apply Drop.skip)))))
 ·
  have hc1' := hc1
  first | replace hc1' := of_decide_eq_true hc1' | replace hc1' := lt_f hc1' | replace hc1' := le_f hc1' | replace hc1' := dec_f hc1' | replace hc1' := nlt_t hc1' | replace hc1' := nle_t hc1' | replace hc1' := ndec_t hc1' | replace hc1' := ndec_f hc1' | replace hc1' := nn_t hc1' | replace hc1' := nn_f hc1' | skip
  simp only [putO]
  refine gl_gF rfl rfl hc1 rfl ?_
  refine gl_v rfl (o_pickT hc1 rfl rfl) ?_
  refine gl_v rfl (o_move rfl) ?_
  refine gl_gF rfl rfl rfl rfl ?_
  refine gl_gF rfl rfl rfl rfl ?_
  refine gl_gF rfl rfl rfl rfl ?_
  refine gl_gF rfl rfl rfl rfl ?_
  refine gl_gF rfl rfl rfl rfl ?_
  refine gl_gF rfl rfl rfl rfl ?_
  refine gl_v rfl (o_pickT rfl rfl rfl) ?_
  refine gl_nil ?_
  refine ge_then ?_
  refine g_cond_true rfl ?_
  refine g_seq ?_
  refine g_region ?_
  refine gl_v rfl (o_assign rfl) ?_
  refine gl_v rfl (o_assign rfl) ?_
  refine gl_nil ?_
  refine ge_then ?_
  refine g_ret ?_
  refine ge_then_ret ?_
  refine ret2 (.inl rfl) rfl rfl rfl _ (⟨rfl, rfl⟩) (To.sat (by repeat (first | exact .nil | exact .done .refl | (apply To.cons; · (repeat (first | exact .head | apply Sel.tail))) | exact .done (by repeat (first | exact .refl | apply Drop.skip)))))

set_option maxRecDepth 8000 in
theorem Make_nil (b s : Int) : FnS Tryz.prog 44 [.pointer none, I64 b, I64 s] [] (fun u Bs => u = .tuple #[.pointer none, I64 1] ∧ Bs = []) := by
 refine fn_body Tryz.func44 rfl rfl rfl ?_
 intro W0 R
 simp only [List.zipIdx_cons, List.zipIdx_nil, List.map_cons, List.map_nil, Nat.zero_add, Nat.reduceAdd, List.cons_append, List.nil_append]
 refine g_seq ?_
 refine g_region ?_
 refine gl_v rfl (o_assign rfl) ?_
 refine gl_v rfl (o_assign rfl) ?_
 refine gl_nil ?_
 refine ge_then ?_
 refine g_seq ?_
 refine g_region ?_
 refine gl_v rfl (o_move rfl) ?_
 refine gl_c rfl (o_call rfl (Size_spec _) (by repeat (first | exact .nil | (apply Part.cons; · (repeat (first | exact .head | apply Sel.tail)))))) ?_
 rintro _ R ⟨_, ⟨rfl, rfl⟩, rfl⟩
 try simp only [List.cons_append, List.nil_append]
 refine gl_v rfl (o_assign rfl) ?_
 refine gl_nil ?_
 refine ge_then ?_
 refine g_seq ?_
 refine g_seq ?_
 refine g_region ?_
 refine gl_v rfl (o_move rfl) ?_
 first | refine gl_v rfl (o_eqlPn rfl rfl) ?_ | refine gl_v rfl (o_eqlnn rfl rfl) ?_
 refine gl_v rfl (o_move rfl) ?_
 refine gl_gF rfl rfl rfl rfl ?_
 refine gl_gF rfl rfl rfl rfl ?_
 refine gl_v rfl (o_pickT rfl rfl rfl) ?_
 refine gl_v rfl (o_move rfl) ?_
 refine gl_gF rfl rfl rfl rfl ?_
 refine gl_gF rfl rfl rfl rfl ?_
 refine gl_v rfl (o_pickT rfl rfl rfl) ?_
 refine gl_v rfl (o_move rfl) ?_
 refine gl_gF rfl rfl rfl rfl ?_
 refine gl_gF rfl rfl rfl rfl ?_
 refine gl_gF rfl rfl rfl rfl ?_
 refine gl_gF rfl rfl rfl rfl ?_
 refine gl_gF rfl rfl rfl rfl ?_
 refine gl_gF rfl rfl rfl rfl ?_
 refine gl_v rfl (o_pickT rfl rfl rfl) ?_
 refine gl_nil ?_
 refine ge_then ?_
 refine g_cond_true rfl ?_
 refine g_seq ?_
 refine g_region ?_
 refine gl_v rfl (o_assign rfl) ?_
 refine gl_v rfl (o_assign rfl) ?_
 refine gl_nil ?_
 refine ge_then ?_
 refine g_ret ?_
 refine ge_then_ret ?_
 refine ret2 (.inl rfl) rfl rfl rfl _ (⟨rfl, rfl⟩) (To.sat (by repeat (first | exact .nil | exact .done .refl | (apply To.cons; · (repeat (first | exact .head | apply Sel.tail))) | exact .done (by repeat (first | exact .refl | apply Drop.skip)))))

end Go.Proofs.YtmohikdmdmplaaaGreat.L
