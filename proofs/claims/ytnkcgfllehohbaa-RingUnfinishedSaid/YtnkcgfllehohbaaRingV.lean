/-
  RingUnfinished. Own work, printed in part by a program of its own.
-/
import Derived.Test.YtnkcgfllehohbaaRingI
import Derived.Test.YtnkcgfllehohbaaRingU
namespace Go.Proofs.Ytnkcgfllehohbaa.L
open Go.L Go.L.Ring
theorem RI6 {n : Nat} (h : 2 ≤ n) (h7 : n ≤ 64) (a b c d e f : Int) : RI 0 n (mk6 n a b c d e f) := ⟨by omega, by omega, by rw [mk6_len h]; omega, by rw [mk6_len h]; omega⟩
theorem uL_RI {n : Nat} (h : 2 ≤ n) (h7 : n ≤ 64) (v : Int) (i : Nat) : RI 0 n (uL n v i) := by unfold uL; split; exact RI6 h h7 ..; split <;> exact RI6 h h7 ..
theorem wL_RI {n : Nat} (h : 2 ≤ n) (h7 : n ≤ 64) (v w : Int) (i : Nat) : RI 0 n (wL n v w i) := by unfold wL; split; exact RI6 h h7 ..; split <;> exact RI6 h h7 ..
theorem OI0 {pc : Nat} {v : Int} (h : pc ≤ 15) (hv : In64u v) : OI ⟨pc, 0, v, 0, 0⟩ := ⟨h, hv.1, hv.2, Int.le_refl 0, (show (0 : Int) ≤ 18446744073709551615 by decide), Int.le_refl 0, (show (0 : Int) ≤ 18446744073709551615 by decide)⟩
theorem uO_OI {v : Int} (hv : In64u v) {i : Nat} (h : i ≤ 4) : OI (uO v i) := OI0 (by omega) hv
theorem wO_OI {v : Int} (hv : In64u v) {i : Nat} : OI (wO v i) := by unfold wO; split; exact OI0 (by omega) hv; exact ⟨by decide, by decide, by decide, by decide, by decide, by decide, by decide⟩
theorem wO_le {v : Int} {j : Nat} (h : (wO v j).over = false) : j ≤ 4 := by
  unfold wO at h; split at h
  · assumption
  · simp [RO.over] at h
theorem wO_ge {v : Int} {j : Nat} (h : (wO v j).over = true) : 5 ≤ j := by
  unfold wO at h; split at h
  · simp [RO.over] at h
  · omega
theorem tm6 (s : Nat) : (s : Int).tmod 6 = ((s % 6 : Nat) : Int) := by rw [Int.tmod_eq_emod_of_nonneg (by omega)]; omega
theorem tm2 (s : Nat) : (s : Int).tmod 2 = ((s % 2 : Nat) : Int) := by rw [Int.tmod_eq_emod_of_nonneg (by omega)]; omega
theorem tm8 (s : Nat) : (s : Int).tmod 8 = ((s % 8 : Nat) : Int) := by rw [Int.tmod_eq_emod_of_nonneg (by omega)]; omega
theorem wL5 (n : Nat) (v w : Int) : wL n v w 5 = mk6 n CC 0 1 v 1 w := rfl
theorem wO5 (v : Int) : wO v 5 = ⟨4, 1, 0, 0, 0⟩ := rfl
theorem cU {x : Int} (h : 0 ≤ x ∧ x ≤ 18446744073709551615) : In64u x := h

theorem unf_spec (s s2 : Nat) (hs : s ≤ 255) (hs2 : s2 ≤ 255) (v w : Int) (hv : In64u v) (hw : In64u w) : FnS Try.prog 8 [.int .u8 s, U64 v, U64 w, .int .u8 s2] [] (fun u Bs => u = .bool true ∧ Bs = []) := by
  refine fn_body Try.func8 rfl rfl rfl ?_
  intro W0 R
  simp only [List.zipIdx_cons, List.zipIdx_nil, List.map_cons, List.map_nil, Nat.zero_add, Nat.reduceAdd, List.cons_append, List.nil_append]
  obtain ⟨n, hn⟩ : ∃ n, n = 2 + s % 6 := ⟨_, rfl⟩
  obtain ⟨J, hJd⟩ : ∃ J, J = 3 + s2 % 2 := ⟨_, rfl⟩
  have h2 : 2 ≤ n := by omega
  have h7 : n ≤ 64 := by omega
  have hJ : J = 3 ∨ J = 4 := by omega
  have hx : In64u (xv J v) := by unfold xv; split; exact (by decide); exact hv
  refine g_seq ?_
  refine g_region ?_
  refine gl_v rfl (o_assign rfl) ?_
  refine gl_nil ?_
  refine ge_then ?_
  refine g_seq ?_
  refine g_seq ?_
  refine g_region ?_
  refine gl_c rfl (o_call rfl (alive_spec) (by repeat (first | exact .nil | (apply Part.cons; · (first | exact .head | exact .tail .head | exact .tail (.tail .head) | exact .tail (.tail (.tail .head)) | exact .tail (.tail (.tail (.tail .head))) | exact .tail (.tail (.tail (.tail (.tail .head)))) | exact .tail (.tail (.tail (.tail (.tail (.tail .head))))) | exact .tail (.tail (.tail (.tail (.tail (.tail (.tail .head))))))))))) ?_
  rintro _ R ⟨_, ⟨rfl, rfl⟩, rfl⟩
  try simp only [List.cons_append, List.nil_append]
  refine gl_v rfl (o_not rfl) ?_
  refine gl_nil ?_
  refine ge_then ?_
  refine g_cond_false (rfl) ?_
  refine g_skip ?_
  refine ge_then ?_
  refine g_seq ?_
  refine g_region ?_
  refine gl_v rfl (o_move rfl) ?_
  refine gl_v rfl (o_convR (s : Int) (wr_i64 (by omega)) rfl) ?_
  refine gl_v rfl (o_remR _ (tm6 s) rfl rfl (by decide)) ?_
  refine gl_v rfl (o_addR (n : Int) (by rw [wr_i64 (by omega)]; omega) rfl rfl) ?_
  refine gl_c rfl (o_call rfl (made_spec n (by omega) h7) (by repeat (first | exact .nil | (apply Part.cons; · (first | exact .head | exact .tail .head | exact .tail (.tail .head) | exact .tail (.tail (.tail .head)) | exact .tail (.tail (.tail (.tail .head))) | exact .tail (.tail (.tail (.tail (.tail .head)))) | exact .tail (.tail (.tail (.tail (.tail (.tail .head))))) | exact .tail (.tail (.tail (.tail (.tail (.tail (.tail .head))))))))))) ?_
  rintro _ R ⟨_, ⟨r, m, t, rfl, rfl⟩, rfl⟩
  try simp only [List.cons_append, List.nil_append]
  rw [mk6_0 h2]
  refine gl_v rfl (o_assign rfl) ?_
  refine gl_nil ?_
  refine ge_then ?_
  refine g_seq ?_
  refine g_seq ?_
  refine g_region ?_
  refine gl_v rfl (o_move rfl) ?_
  first | refine gl_v rfl (o_eqlPn rfl rfl) ?_ | refine gl_v rfl (o_eqlnn rfl rfl) ?_
  refine gl_nil ?_
  refine ge_then ?_
  refine g_cond_false (rfl) ?_
  refine g_skip ?_
  refine ge_then ?_
  refine g_seq ?_
  refine g_region ?_
  refine gl_v rfl (o_move rfl) ?_
  refine gl_v rfl (o_move rfl) ?_
  refine gl_c rfl (o_call rfl (Put_spec r v) (by repeat (first | exact .nil | (apply Part.cons; · (first | exact .head | exact .tail .head | exact .tail (.tail .head) | exact .tail (.tail (.tail .head)) | exact .tail (.tail (.tail (.tail .head))) | exact .tail (.tail (.tail (.tail (.tail .head)))) | exact .tail (.tail (.tail (.tail (.tail (.tail .head))))) | exact .tail (.tail (.tail (.tail (.tail (.tail (.tail .head))))))))))) ?_
  rintro _ R ⟨_, ⟨p, rfl, rfl⟩, rfl⟩
  try simp only [List.cons_append, List.nil_append]
  refine gl_v rfl (o_assign rfl) ?_
  refine gl_nil ?_
  refine ge_then ?_
  refine g_seq ?_
  refine g_seq ?_
  refine g_region ?_
  refine gl_v rfl (o_assign rfl) ?_
  refine gl_nil ?_
  refine ge_then ?_
  refine g_block ?_
  refine g_loop (ι := Nat × Int) (fun x => x.1 ≤ J) (fun x => [(11, I64 x.1), (3, .int .u8 s2), (9, ptr r 0), (10, ptr p 0), (8, .bool false), (1, U64 v), (2, U64 w)]) (fun x => memA m (uL n v x.1) x.2 :: ringA r m 0 n :: opA p r (uO v x.1) :: R) (fun x => J - x.1) (0, t) (Nat.zero_le _) (Keep.cons rfl (Keep.cons rfl (Keep.cons rfl (Keep.cons rfl (Keep.cons rfl (Keep.cons rfl (Keep.cons rfl (Keep.nil)))))))) (To.sat (by repeat (first | exact .nil | exact .done .refl | (apply To.cons; · (first | exact .head | exact .tail .head | exact .tail (.tail .head) | exact .tail (.tail (.tail .head)) | exact .tail (.tail (.tail (.tail .head))) | exact .tail (.tail (.tail (.tail (.tail .head)))) | exact .tail (.tail (.tail (.tail (.tail (.tail .head))))) | exact .tail (.tail (.tail (.tail (.tail (.tail (.tail .head)))))))) | exact .done (by repeat (first | exact .refl | apply Drop.skip))))) ?_
  rintro ⟨k, tk⟩ hk
  have hk : k ≤ J := hk
  dsimp only
  refine g_seq ?_
  refine g_seq ?_
  refine g_region ?_
  refine gl_v rfl (o_move rfl) ?_
  refine gl_v rfl (o_move rfl) ?_
  refine gl_v rfl (o_convR (s2 : Int) (wr_i64 (by omega)) rfl) ?_
  refine gl_v rfl (o_remR _ (tm2 s2) rfl rfl (by decide)) ?_
  refine gl_v rfl (o_addR (J : Int) (by rw [wr_i64 (by omega)]; omega) rfl rfl) ?_
  refine gl_v rfl (o_lss rfl rfl) ?_
  refine gl_nil ?_
  refine ge_then ?_
  refine g_cond rfl (fun hc1 => ?_) (fun hc1 => ?_)
  ·
    first | replace hc1 := of_decide_eq_true hc1 | replace hc1 := lt_f hc1 | replace hc1 := le_f hc1 | replace hc1 := dec_f hc1 | replace hc1 := nlt_t hc1 | replace hc1 := nle_t hc1 | replace hc1 := ndec_t hc1 | replace hc1 := ndec_f hc1 | replace hc1 := nn_t hc1 | replace hc1 := nn_f hc1 | skip
    refine g_skip ?_
    refine ge_then ?_
    refine g_seq ?_
    refine g_block ?_
    refine g_seq ?_
    refine g_region ?_
    refine gl_v rfl (o_move rfl) ?_
    refine gl_c rfl (o_call rfl (Step_spec p r m 0 n (uL n v k) tk (uO v k) (uL_RI h2 h7 ..) (uO_OI hv (by omega))) (by repeat (first | exact .nil | (apply Part.cons; · (first | exact .head | exact .tail .head | exact .tail (.tail .head) | exact .tail (.tail (.tail .head)) | exact .tail (.tail (.tail (.tail .head))) | exact .tail (.tail (.tail (.tail (.tail .head)))) | exact .tail (.tail (.tail (.tail (.tail (.tail .head))))) | exact .tail (.tail (.tail (.tail (.tail (.tail (.tail .head))))))))))) ?_
    rintro _ R ⟨_, ⟨rfl, rfl⟩, rfl⟩
    try simp only [List.cons_append, List.nil_append]
    rw [(uStep h2 v k (by omega)).1, (uStep h2 v k (by omega)).2]
    refine gl_nil ?_
    refine ge_then ?_
    refine g_cond_false (rfl) ?_
    refine g_skip ?_
    refine ge_block ?_
    refine ge_then ?_
    refine g_region ?_
    refine gl_v rfl (o_move rfl) ?_
    refine gl_v rfl (o_addR _ (by first | exact wr_i64 (by omega) | rfl) rfl rfl) ?_
    refine gl_v rfl (o_assign rfl) ?_
    refine gl_nil ?_
    refine ge_round (k + 1, _) (show k + 1 ≤ J by omega) (by show J - (k + 1) < J - k; omega) (Keep.cons rfl (Keep.cons rfl (Keep.cons rfl (Keep.cons rfl (Keep.cons rfl (Keep.cons rfl (Keep.cons rfl (Keep.nil)))))))) (To.sat (by repeat (first | exact .nil | exact .done .refl | (apply To.cons; · (first | exact .head | exact .tail .head | exact .tail (.tail .head) | exact .tail (.tail (.tail .head)) | exact .tail (.tail (.tail (.tail .head))) | exact .tail (.tail (.tail (.tail (.tail .head)))) | exact .tail (.tail (.tail (.tail (.tail (.tail .head))))) | exact .tail (.tail (.tail (.tail (.tail (.tail (.tail .head)))))))) | exact .done (by repeat (first | exact .refl | apply Drop.skip)))))
  ·
    first | replace hc1 := of_decide_eq_true hc1 | replace hc1 := lt_f hc1 | replace hc1 := le_f hc1 | replace hc1 := dec_f hc1 | replace hc1 := nlt_t hc1 | replace hc1 := nle_t hc1 | replace hc1 := ndec_t hc1 | replace hc1 := ndec_f hc1 | replace hc1 := nn_t hc1 | replace hc1 := nn_f hc1 | skip
    obtain rfl : J = k := by omega
    rw [uL_J n v hJ]
    refine g_exit ?_
    refine ge_then_exit ?_
    refine ge_then_exit ?_
    refine ge_block_exit ?_
    refine ge_then ?_
    refine g_seq ?_
    refine g_region ?_
    refine gl_v rfl (o_move rfl) ?_
    refine gl_v rfl (o_move rfl) ?_
    refine gl_c rfl (o_call rfl (Put_spec r w) (by repeat (first | exact .nil | (apply Part.cons; · (first | exact .head | exact .tail .head | exact .tail (.tail .head) | exact .tail (.tail (.tail .head)) | exact .tail (.tail (.tail (.tail .head))) | exact .tail (.tail (.tail (.tail (.tail .head)))) | exact .tail (.tail (.tail (.tail (.tail (.tail .head))))) | exact .tail (.tail (.tail (.tail (.tail (.tail (.tail .head))))))))))) ?_
    rintro _ R ⟨_, ⟨p2, rfl, rfl⟩, rfl⟩
    try simp only [List.cons_append, List.nil_append]
    refine gl_c rfl (o_call rfl (done_spec p2 r m 0 n (mk6 n 1 0 0 (xv J v) 0 0) _ ⟨0, 0, w, 0, 0⟩ (RI6 h2 h7 ..) (mk6_LI (by decide) (by decide) (by decide) hx (by decide) (by decide)) (OI0 (by decide) hw) 5 (mk6 n 2 0 0 (xv J v) 1 w) ⟨4, 1, 0, 1, 0⟩ (run1 h2 _ _)) (by repeat (first | exact .nil | (apply Part.cons; · (first | exact .head | exact .tail .head | exact .tail (.tail .head) | exact .tail (.tail (.tail .head)) | exact .tail (.tail (.tail (.tail .head))) | exact .tail (.tail (.tail (.tail (.tail .head)))) | exact .tail (.tail (.tail (.tail (.tail (.tail .head))))) | exact .tail (.tail (.tail (.tail (.tail (.tail (.tail .head))))))))))) ?_
    rintro _ R ⟨_, ⟨t', rfl, rfl⟩, rfl⟩
    try simp only [List.cons_append, List.nil_append]
    refine gl_v rfl (o_move rfl) ?_
    refine gl_v rfl (o_extract rfl rfl) ?_
    refine gl_v rfl (o_extract rfl rfl) ?_
    refine gl_v rfl (o_extract rfl rfl) ?_
    refine gl_v rfl (o_assign rfl) ?_
    refine gl_v rfl (o_assign rfl) ?_
    refine gl_v rfl (o_assign rfl) ?_
    refine gl_nil ?_
    refine ge_then ?_
    refine g_seq ?_
    refine g_region ?_
    refine gl_v rfl (o_move rfl) ?_
    refine gl_c rfl (o_call rfl (Close_spec r) (by repeat (first | exact .nil | (apply Part.cons; · (first | exact .head | exact .tail .head | exact .tail (.tail .head) | exact .tail (.tail (.tail .head)) | exact .tail (.tail (.tail (.tail .head))) | exact .tail (.tail (.tail (.tail (.tail .head)))) | exact .tail (.tail (.tail (.tail (.tail (.tail .head))))) | exact .tail (.tail (.tail (.tail (.tail (.tail (.tail .head))))))))))) ?_
    rintro _ R ⟨_, ⟨p3, rfl, rfl⟩, rfl⟩
    try simp only [List.cons_append, List.nil_append]
    refine gl_c rfl (o_call rfl (done_spec p3 r m 0 n (mk6 n 2 0 0 (xv J v) 1 w) _ ⟨14, 0, 0, 0, 0⟩ (RI6 h2 h7 ..) (mk6_LI (by decide) (by decide) (by decide) hx (by decide) hw) ((OI0 (by decide) (by decide))) 2 (mk6 n CC 0 0 (xv J v) 1 w) ⟨14, 1, 0, 0, 0⟩ (run2 _ _)) (by repeat (first | exact .nil | (apply Part.cons; · (first | exact .head | exact .tail .head | exact .tail (.tail .head) | exact .tail (.tail (.tail .head)) | exact .tail (.tail (.tail (.tail .head))) | exact .tail (.tail (.tail (.tail (.tail .head)))) | exact .tail (.tail (.tail (.tail (.tail (.tail .head))))) | exact .tail (.tail (.tail (.tail (.tail (.tail (.tail .head))))))))))) ?_
    rintro _ R ⟨_, ⟨t', rfl, rfl⟩, rfl⟩
    try simp only [List.cons_append, List.nil_append]
    refine gl_v rfl (o_move rfl) ?_
    refine gl_v rfl (o_extract rfl rfl) ?_
    refine gl_v rfl (o_extract rfl rfl) ?_
    refine gl_v rfl (o_extract rfl rfl) ?_
    refine gl_v rfl (o_assign rfl) ?_
    refine gl_v rfl (o_assign rfl) ?_
    refine gl_v rfl (o_assign rfl) ?_
    refine gl_nil ?_
    refine ge_then ?_
    refine g_seq ?_
    refine g_region ?_
    refine gl_v rfl (o_move rfl) ?_
    refine gl_c rfl (o_call rfl (Drain_spec r) (by repeat (first | exact .nil | (apply Part.cons; · (first | exact .head | exact .tail .head | exact .tail (.tail .head) | exact .tail (.tail (.tail .head)) | exact .tail (.tail (.tail (.tail .head))) | exact .tail (.tail (.tail (.tail (.tail .head)))) | exact .tail (.tail (.tail (.tail (.tail (.tail .head))))) | exact .tail (.tail (.tail (.tail (.tail (.tail (.tail .head))))))))))) ?_
    rintro _ R ⟨_, ⟨p4, rfl, rfl⟩, rfl⟩
    try simp only [List.cons_append, List.nil_append]
    refine gl_c rfl (o_call rfl (done_spec p4 r m 0 n (mk6 n CC 0 0 (xv J v) 1 w) _ ⟨10, 0, 0, 0, 0⟩ (RI6 h2 h7 ..) (mk6_LI (by decide) (by decide) (by decide) hx (by decide) hw) ((OI0 (by decide) (by decide))) 3 (mk6 n CC 0 0 (xv J v) 1 w) ⟨7, 4, CC, 0, 0⟩ (run3 h2 _ _)) (by repeat (first | exact .nil | (apply Part.cons; · (first | exact .head | exact .tail .head | exact .tail (.tail .head) | exact .tail (.tail (.tail .head)) | exact .tail (.tail (.tail (.tail .head))) | exact .tail (.tail (.tail (.tail (.tail .head)))) | exact .tail (.tail (.tail (.tail (.tail (.tail .head))))) | exact .tail (.tail (.tail (.tail (.tail (.tail (.tail .head))))))))))) ?_
    rintro _ R ⟨_, ⟨t', rfl, rfl⟩, rfl⟩
    try simp only [List.cons_append, List.nil_append]
    refine gl_v rfl (o_move rfl) ?_
    refine gl_v rfl (o_extract rfl rfl) ?_
    refine gl_v rfl (o_extract rfl rfl) ?_
    refine gl_v rfl (o_extract rfl rfl) ?_
    refine gl_v rfl (o_assign rfl) ?_
    refine gl_v rfl (o_assign rfl) ?_
    refine gl_v rfl (o_assign rfl) ?_
    refine gl_nil ?_
    refine ge_then ?_
    refine g_seq ?_
    refine g_region ?_
    refine gl_v rfl (o_move rfl) ?_
    refine gl_c rfl (o_call rfl (Take_spec r) (by repeat (first | exact .nil | (apply Part.cons; · (first | exact .head | exact .tail .head | exact .tail (.tail .head) | exact .tail (.tail (.tail .head)) | exact .tail (.tail (.tail (.tail .head))) | exact .tail (.tail (.tail (.tail (.tail .head)))) | exact .tail (.tail (.tail (.tail (.tail (.tail .head))))) | exact .tail (.tail (.tail (.tail (.tail (.tail (.tail .head))))))))))) ?_
    rintro _ R ⟨_, ⟨p5, rfl, rfl⟩, rfl⟩
    try simp only [List.cons_append, List.nil_append]
    refine gl_c rfl (o_call rfl (done_spec p5 r m 0 n (mk6 n CC 0 0 (xv J v) 1 w) _ ⟨5, 0, 0, 0, 0⟩ (RI6 h2 h7 ..) (mk6_LI (by decide) (by decide) (by decide) hx (by decide) hw) ((OI0 (by decide) (by decide))) 2 (mk6 n CC 0 0 (xv J v) 1 w) ⟨7, 4, 0, 0, 0⟩ (run4 h2 _ _)) (by repeat (first | exact .nil | (apply Part.cons; · (first | exact .head | exact .tail .head | exact .tail (.tail .head) | exact .tail (.tail (.tail .head)) | exact .tail (.tail (.tail (.tail .head))) | exact .tail (.tail (.tail (.tail (.tail .head)))) | exact .tail (.tail (.tail (.tail (.tail (.tail .head))))) | exact .tail (.tail (.tail (.tail (.tail (.tail (.tail .head))))))))))) ?_
    rintro _ R ⟨_, ⟨t', rfl, rfl⟩, rfl⟩
    try simp only [List.cons_append, List.nil_append]
    refine gl_v rfl (o_move rfl) ?_
    refine gl_v rfl (o_extract rfl rfl) ?_
    refine gl_v rfl (o_extract rfl rfl) ?_
    refine gl_v rfl (o_extract rfl rfl) ?_
    refine gl_v rfl (o_assign rfl) ?_
    refine gl_v rfl (o_assign rfl) ?_
    refine gl_v rfl (o_assign rfl) ?_
    refine gl_nil ?_
    refine ge_then ?_
    refine g_seq ?_
    refine g_region ?_
    refine gl_v rfl (o_move rfl) ?_
    refine gl_c rfl (o_call rfl (Look_spec r) (by repeat (first | exact .nil | (apply Part.cons; · (first | exact .head | exact .tail .head | exact .tail (.tail .head) | exact .tail (.tail (.tail .head)) | exact .tail (.tail (.tail (.tail .head))) | exact .tail (.tail (.tail (.tail (.tail .head)))) | exact .tail (.tail (.tail (.tail (.tail (.tail .head))))) | exact .tail (.tail (.tail (.tail (.tail (.tail (.tail .head))))))))))) ?_
    rintro _ R ⟨_, ⟨p6, rfl, rfl⟩, rfl⟩
    try simp only [List.cons_append, List.nil_append]
    refine gl_c rfl (o_call rfl (done_spec p6 r m 0 n (mk6 n CC 0 0 (xv J v) 1 w) _ ⟨12, 0, 0, 0, 0⟩ (RI6 h2 h7 ..) (mk6_LI (by decide) (by decide) (by decide) hx (by decide) hw) ((OI0 (by decide) (by decide))) 2 (mk6 n CC 0 0 (xv J v) 1 w) ⟨7, 4, 0, 0, 0⟩ (run5 h2 _ _)) (by repeat (first | exact .nil | (apply Part.cons; · (first | exact .head | exact .tail .head | exact .tail (.tail .head) | exact .tail (.tail (.tail .head)) | exact .tail (.tail (.tail (.tail .head))) | exact .tail (.tail (.tail (.tail (.tail .head)))) | exact .tail (.tail (.tail (.tail (.tail (.tail .head))))) | exact .tail (.tail (.tail (.tail (.tail (.tail (.tail .head))))))))))) ?_
    rintro _ R ⟨_, ⟨t', rfl, rfl⟩, rfl⟩
    try simp only [List.cons_append, List.nil_append]
    refine gl_v rfl (o_move rfl) ?_
    refine gl_v rfl (o_extract rfl rfl) ?_
    refine gl_v rfl (o_extract rfl rfl) ?_
    refine gl_v rfl (o_extract rfl rfl) ?_
    refine gl_v rfl (o_assign rfl) ?_
    refine gl_v rfl (o_assign rfl) ?_
    refine gl_v rfl (o_assign rfl) ?_
    refine gl_nil ?_
    refine ge_then ?_
    refine g_seq ?_
    refine g_seq ?_
    refine g_region ?_
    refine gl_v rfl (o_move rfl) ?_
    refine gl_v rfl (o_neq rfl rfl) ?_
    refine gl_v rfl (o_move rfl) ?_
    refine gl_gT rfl rfl rfl ?_
    refine gl_v rfl (o_move rfl) ?_
    refine gl_gT rfl rfl rfl ?_
    refine gl_v rfl (o_neq rfl rfl) ?_
    refine gl_v rfl (o_pickF rfl rfl rfl) ?_
    refine gl_v rfl (o_move rfl) ?_
    refine gl_gT rfl rfl rfl ?_
    refine gl_v rfl (o_move rfl) ?_
    refine gl_gT rfl rfl rfl ?_
    refine gl_v rfl (o_neq rfl rfl) ?_
    refine gl_v rfl (o_pickF rfl rfl rfl) ?_
    refine gl_v rfl (o_move rfl) ?_
    refine gl_gT rfl rfl rfl ?_
    refine gl_v rfl (o_move rfl) ?_
    refine gl_gT rfl rfl rfl ?_
    refine gl_v rfl (o_neq rfl rfl) ?_
    refine gl_v rfl (o_pickF rfl rfl rfl) ?_
    refine gl_v rfl (o_move rfl) ?_
    refine gl_gT rfl rfl rfl ?_
    refine gl_v rfl (o_move rfl) ?_
    refine gl_gT rfl rfl rfl ?_
    refine gl_v rfl (o_neq rfl rfl) ?_
    refine gl_v rfl (o_pickF rfl rfl rfl) ?_
    refine gl_nil ?_
    refine ge_then ?_
    refine g_cond_false (rfl) ?_
    refine g_skip ?_
    refine ge_then ?_
    refine g_seq ?_
    refine g_seq ?_
    rw [wL_J n v w hJ, wO_J v hJ]
    refine g_region ?_
    refine gl_v rfl (o_assign rfl) ?_
    refine gl_nil ?_
    refine ge_then ?_
    refine g_block ?_
    refine g_loop (ι := Nat × Int) (fun x => x.1 ≤ 2 ∧ J + x.1 ≤ 5) (fun x => [(27, I64 x.1), (9, ptr r 0), (10, ptr p 0), (8, .bool false), (1, U64 v), (2, U64 w)]) (fun x => memA m (wL n v w (J + x.1)) x.2 :: ringA r m 0 n :: opA p r (wO v (J + x.1)) :: R) (fun x => 2 - x.1) (0, _) (⟨Nat.zero_le _, by show J + 0 ≤ 5; omega⟩) (Keep.cons rfl (Keep.cons rfl (Keep.cons rfl (Keep.cons rfl (Keep.cons rfl (Keep.cons rfl (Keep.nil))))))) (To.sat (by repeat (first | exact .nil | exact .done .refl | (apply To.cons; · (first | exact .head | exact .tail .head | exact .tail (.tail .head) | exact .tail (.tail (.tail .head)) | exact .tail (.tail (.tail (.tail .head))) | exact .tail (.tail (.tail (.tail (.tail .head)))) | exact .tail (.tail (.tail (.tail (.tail (.tail .head))))) | exact .tail (.tail (.tail (.tail (.tail (.tail (.tail .head)))))))) | exact .done (by repeat (first | exact .refl | apply Drop.skip))))) ?_
    rintro ⟨i, ti⟩ ⟨hi, hi2⟩
    have hi : i ≤ 2 := hi
    have hi2 : J + i ≤ 5 := hi2
    dsimp only
    refine g_seq ?_
    refine g_seq ?_
    refine g_region ?_
    refine gl_v rfl (o_move rfl) ?_
    refine gl_v rfl (o_lss rfl rfl) ?_
    refine gl_v rfl (o_move rfl) ?_
    refine gl_g rfl rfl (fun hc2 => ?_) (fun hc2 => ?_) rfl
    ·
      have hc2' := hc2
      first | replace hc2' := of_decide_eq_true hc2' | replace hc2' := lt_f hc2' | replace hc2' := le_f hc2' | replace hc2' := dec_f hc2' | replace hc2' := nlt_t hc2' | replace hc2' := nle_t hc2' | replace hc2' := ndec_t hc2' | replace hc2' := ndec_f hc2' | replace hc2' := nn_t hc2' | replace hc2' := nn_f hc2' | skip
      refine gl_v rfl (o_move rfl) ?_
      refine gl_gT rfl rfl hc2 ?_
      refine gl_c rfl (o_call rfl (Over_spec p r (wO v (J + i))) (by repeat (first | exact .nil | (apply Part.cons; · (first | exact .head | exact .tail .head | exact .tail (.tail .head) | exact .tail (.tail (.tail .head)) | exact .tail (.tail (.tail (.tail .head))) | exact .tail (.tail (.tail (.tail (.tail .head)))) | exact .tail (.tail (.tail (.tail (.tail (.tail .head))))) | exact .tail (.tail (.tail (.tail (.tail (.tail (.tail .head))))))))))) ?_
      rintro _ R ⟨_, ⟨rfl, rfl⟩, rfl⟩
      try simp only [List.cons_append, List.nil_append]
      refine gl_gT rfl rfl hc2 ?_
      refine gl_v rfl (o_not rfl) ?_
      refine gl_v rfl (o_pickT hc2 rfl rfl) ?_
      refine gl_nil ?_
      refine ge_then ?_
      refine g_cond rfl (fun hc3 => ?_) (fun hc3 => ?_)
      ·
        first | replace hc3 := of_decide_eq_true hc3 | replace hc3 := lt_f hc3 | replace hc3 := le_f hc3 | replace hc3 := dec_f hc3 | replace hc3 := nlt_t hc3 | replace hc3 := nle_t hc3 | replace hc3 := ndec_t hc3 | replace hc3 := ndec_f hc3 | replace hc3 := nn_t hc3 | replace hc3 := nn_f hc3 | skip
        have hov : (wO v (J + i)).over = false := hc3
        refine g_skip ?_
        refine ge_then ?_
        refine g_seq ?_
        refine g_block ?_
        refine g_region ?_
        refine gl_v rfl (o_move rfl) ?_
        refine gl_c rfl (o_call rfl (Step_spec p r m 0 n (wL n v w (J + i)) ti (wO v (J + i)) (wL_RI h2 h7 ..) (wO_OI hv)) (by repeat (first | exact .nil | (apply Part.cons; · (first | exact .head | exact .tail .head | exact .tail (.tail .head) | exact .tail (.tail (.tail .head)) | exact .tail (.tail (.tail (.tail .head))) | exact .tail (.tail (.tail (.tail (.tail .head)))) | exact .tail (.tail (.tail (.tail (.tail (.tail .head))))) | exact .tail (.tail (.tail (.tail (.tail (.tail (.tail .head))))))))))) ?_
        rintro _ R ⟨_, ⟨rfl, rfl⟩, rfl⟩
        try simp only [List.cons_append, List.nil_append]
        rw [(wStep h2 v w (j := J + i) (by have := wO_le hov; omega)).1, (wStep h2 v w (j := J + i) (by have := wO_le hov; omega)).2]
        refine gl_nil ?_
        refine ge_block ?_
        refine ge_then ?_
        refine g_region ?_
        refine gl_v rfl (o_move rfl) ?_
        refine gl_v rfl (o_addR _ (by first | exact wr_i64 (by omega) | rfl) rfl rfl) ?_
        refine gl_v rfl (o_assign rfl) ?_
        refine gl_nil ?_
        refine ge_round (i + 1, _) ⟨show i + 1 ≤ 2 by omega, by have := wO_le hov; show J + (i + 1) ≤ 5; omega⟩ (by show 2 - (i + 1) < 2 - i; omega) (Keep.cons rfl (Keep.cons rfl (Keep.cons rfl (Keep.cons rfl (Keep.cons rfl (Keep.cons rfl (Keep.nil))))))) (To.sat (by repeat (first | exact .nil | exact .done .refl | (apply To.cons; · (first | exact .head | exact .tail .head | exact .tail (.tail .head) | exact .tail (.tail (.tail .head)) | exact .tail (.tail (.tail (.tail .head))) | exact .tail (.tail (.tail (.tail (.tail .head)))) | exact .tail (.tail (.tail (.tail (.tail (.tail .head))))) | exact .tail (.tail (.tail (.tail (.tail (.tail (.tail .head)))))))) | exact .done (by repeat (first | exact .refl | apply Drop.skip)))))
      ·
        first | replace hc3 := of_decide_eq_true hc3 | replace hc3 := lt_f hc3 | replace hc3 := le_f hc3 | replace hc3 := dec_f hc3 | replace hc3 := nlt_t hc3 | replace hc3 := nle_t hc3 | replace hc3 := ndec_t hc3 | replace hc3 := ndec_f hc3 | replace hc3 := nn_t hc3 | replace hc3 := nn_f hc3 | skip
        have hov : (wO v (J + i)).over = true := hc3
        refine g_exit ?_
        refine ge_then_exit ?_
        refine ge_then_exit ?_
        refine ge_block_exit ?_
        refine ge_then ?_
        refine g_seq ?_
        have hj5 : J + i = 5 := by first | (have := wO_ge hov; omega) | omega
        rw [hj5, wL5, wO5]
        refine g_region ?_
        refine gl_v rfl (o_move rfl) ?_
        refine gl_c rfl (o_call rfl (Look_spec r) (by repeat (first | exact .nil | (apply Part.cons; · (first | exact .head | exact .tail .head | exact .tail (.tail .head) | exact .tail (.tail (.tail .head)) | exact .tail (.tail (.tail (.tail .head))) | exact .tail (.tail (.tail (.tail (.tail .head)))) | exact .tail (.tail (.tail (.tail (.tail (.tail .head))))) | exact .tail (.tail (.tail (.tail (.tail (.tail (.tail .head))))))))))) ?_
        rintro _ R ⟨_, ⟨p7, rfl, rfl⟩, rfl⟩
        try simp only [List.cons_append, List.nil_append]
        refine gl_c rfl (o_call rfl (done_spec p7 r m 0 n (mk6 n CC 0 1 v 1 w) _ ⟨12, 0, 0, 0, 0⟩ (RI6 h2 h7 ..) (mk6_LI (by decide) (by decide) (by decide) hv (by decide) hw) ((OI0 (by decide) (by decide))) 2 (mk6 n CC 0 1 v 1 w) ⟨7, 1, 0, 0, 0⟩ (run6 h2 _ _)) (by repeat (first | exact .nil | (apply Part.cons; · (first | exact .head | exact .tail .head | exact .tail (.tail .head) | exact .tail (.tail (.tail .head)) | exact .tail (.tail (.tail (.tail .head))) | exact .tail (.tail (.tail (.tail (.tail .head)))) | exact .tail (.tail (.tail (.tail (.tail (.tail .head))))) | exact .tail (.tail (.tail (.tail (.tail (.tail (.tail .head))))))))))) ?_
        rintro _ R ⟨_, ⟨t', rfl, rfl⟩, rfl⟩
        try simp only [List.cons_append, List.nil_append]
        refine gl_v rfl (o_move rfl) ?_
        refine gl_v rfl (o_extract rfl rfl) ?_
        refine gl_v rfl (o_extract rfl rfl) ?_
        refine gl_v rfl (o_extract rfl rfl) ?_
        refine gl_v rfl (o_assign rfl) ?_
        refine gl_v rfl (o_assign rfl) ?_
        refine gl_v rfl (o_assign rfl) ?_
        refine gl_nil ?_
        refine ge_then ?_
        refine g_seq ?_
        refine g_region ?_
        refine gl_v rfl (o_move rfl) ?_
        refine gl_c rfl (o_call rfl (Drain_spec r) (by repeat (first | exact .nil | (apply Part.cons; · (first | exact .head | exact .tail .head | exact .tail (.tail .head) | exact .tail (.tail (.tail .head)) | exact .tail (.tail (.tail (.tail .head))) | exact .tail (.tail (.tail (.tail (.tail .head)))) | exact .tail (.tail (.tail (.tail (.tail (.tail .head))))) | exact .tail (.tail (.tail (.tail (.tail (.tail (.tail .head))))))))))) ?_
        rintro _ R ⟨_, ⟨p8, rfl, rfl⟩, rfl⟩
        try simp only [List.cons_append, List.nil_append]
        refine gl_c rfl (o_call rfl (done_spec p8 r m 0 n (mk6 n CC 0 1 v 1 w) _ ⟨10, 0, 0, 0, 0⟩ (RI6 h2 h7 ..) (mk6_LI (by decide) (by decide) (by decide) hv (by decide) hw) ((OI0 (by decide) (by decide))) 6 (mk6 n CC 1 2 v 1 w) ⟨9, 1, v, 0, 0⟩ (run7 h2 _ _)) (by repeat (first | exact .nil | (apply Part.cons; · (first | exact .head | exact .tail .head | exact .tail (.tail .head) | exact .tail (.tail (.tail .head)) | exact .tail (.tail (.tail (.tail .head))) | exact .tail (.tail (.tail (.tail (.tail .head)))) | exact .tail (.tail (.tail (.tail (.tail (.tail .head))))) | exact .tail (.tail (.tail (.tail (.tail (.tail (.tail .head))))))))))) ?_
        rintro _ R ⟨_, ⟨t', rfl, rfl⟩, rfl⟩
        try simp only [List.cons_append, List.nil_append]
        refine gl_v rfl (o_move rfl) ?_
        refine gl_v rfl (o_extract rfl rfl) ?_
        refine gl_v rfl (o_extract rfl rfl) ?_
        refine gl_v rfl (o_extract rfl rfl) ?_
        refine gl_v rfl (o_assign rfl) ?_
        refine gl_v rfl (o_assign rfl) ?_
        refine gl_v rfl (o_assign rfl) ?_
        refine gl_nil ?_
        refine ge_then ?_
        refine g_seq ?_
        refine g_region ?_
        refine gl_v rfl (o_move rfl) ?_
        refine gl_c rfl (o_call rfl (Drain_spec r) (by repeat (first | exact .nil | (apply Part.cons; · (first | exact .head | exact .tail .head | exact .tail (.tail .head) | exact .tail (.tail (.tail .head)) | exact .tail (.tail (.tail (.tail .head))) | exact .tail (.tail (.tail (.tail (.tail .head)))) | exact .tail (.tail (.tail (.tail (.tail (.tail .head))))) | exact .tail (.tail (.tail (.tail (.tail (.tail (.tail .head))))))))))) ?_
        rintro _ R ⟨_, ⟨p9, rfl, rfl⟩, rfl⟩
        try simp only [List.cons_append, List.nil_append]
        refine gl_c rfl (o_call rfl (done_spec p9 r m 0 n (mk6 n CC 1 2 v 1 w) _ ⟨10, 0, 0, 0, 0⟩ (RI6 h2 h7 ..) (mk6_LI (by decide) (by decide) (by decide) hv (by decide) hw) ((OI0 (by decide) (by decide))) 6 (mk6 n CC 2 2 v 2 w) ⟨9, 1, w, 0, 1⟩ (run8 h2 _ _)) (by repeat (first | exact .nil | (apply Part.cons; · (first | exact .head | exact .tail .head | exact .tail (.tail .head) | exact .tail (.tail (.tail .head)) | exact .tail (.tail (.tail (.tail .head))) | exact .tail (.tail (.tail (.tail (.tail .head)))) | exact .tail (.tail (.tail (.tail (.tail (.tail .head))))) | exact .tail (.tail (.tail (.tail (.tail (.tail (.tail .head))))))))))) ?_
        rintro _ R ⟨_, ⟨t', rfl, rfl⟩, rfl⟩
        try simp only [List.cons_append, List.nil_append]
        refine gl_v rfl (o_move rfl) ?_
        refine gl_v rfl (o_extract rfl rfl) ?_
        refine gl_v rfl (o_extract rfl rfl) ?_
        refine gl_v rfl (o_extract rfl rfl) ?_
        refine gl_v rfl (o_assign rfl) ?_
        refine gl_v rfl (o_assign rfl) ?_
        refine gl_v rfl (o_assign rfl) ?_
        refine gl_nil ?_
        refine ge_then ?_
        refine g_seq ?_
        refine g_region ?_
        refine gl_v rfl (o_move rfl) ?_
        refine gl_c rfl (o_call rfl (Drain_spec r) (by repeat (first | exact .nil | (apply Part.cons; · (first | exact .head | exact .tail .head | exact .tail (.tail .head) | exact .tail (.tail (.tail .head)) | exact .tail (.tail (.tail (.tail .head))) | exact .tail (.tail (.tail (.tail (.tail .head)))) | exact .tail (.tail (.tail (.tail (.tail (.tail .head))))) | exact .tail (.tail (.tail (.tail (.tail (.tail (.tail .head))))))))))) ?_
        rintro _ R ⟨_, ⟨p10, rfl, rfl⟩, rfl⟩
        try simp only [List.cons_append, List.nil_append]
        refine gl_c rfl (o_call rfl (done_spec p10 r m 0 n (mk6 n CC 2 2 v 2 w) _ ⟨10, 0, 0, 0, 0⟩ (RI6 h2 h7 ..) (mk6_LI (by decide) (by decide) (by decide) hv (by decide) hw) ((OI0 (by decide) (by decide))) 2 (mk6 n CC 2 2 v 2 w) ⟨6, 5, CC, 0, 2⟩ (run9 _ _)) (by repeat (first | exact .nil | (apply Part.cons; · (first | exact .head | exact .tail .head | exact .tail (.tail .head) | exact .tail (.tail (.tail .head)) | exact .tail (.tail (.tail (.tail .head))) | exact .tail (.tail (.tail (.tail (.tail .head)))) | exact .tail (.tail (.tail (.tail (.tail (.tail .head))))) | exact .tail (.tail (.tail (.tail (.tail (.tail (.tail .head))))))))))) ?_
        rintro _ R ⟨_, ⟨t', rfl, rfl⟩, rfl⟩
        try simp only [List.cons_append, List.nil_append]
        refine gl_v rfl (o_move rfl) ?_
        refine gl_v rfl (o_extract rfl rfl) ?_
        refine gl_v rfl (o_extract rfl rfl) ?_
        refine gl_v rfl (o_extract rfl rfl) ?_
        refine gl_v rfl (o_assign rfl) ?_
        refine gl_v rfl (o_assign rfl) ?_
        refine gl_v rfl (o_assign rfl) ?_
        refine gl_nil ?_
        refine ge_then ?_
        refine g_seq ?_
        refine g_region ?_
        refine gl_v rfl (o_move rfl) ?_
        refine gl_c rfl (o_call rfl (Outcome_spec p r ⟨4, 1, 0, 0, 0⟩) (by repeat (first | exact .nil | (apply Part.cons; · (first | exact .head | exact .tail .head | exact .tail (.tail .head) | exact .tail (.tail (.tail .head)) | exact .tail (.tail (.tail (.tail .head))) | exact .tail (.tail (.tail (.tail (.tail .head)))) | exact .tail (.tail (.tail (.tail (.tail (.tail .head))))) | exact .tail (.tail (.tail (.tail (.tail (.tail (.tail .head))))))))))) ?_
        rintro _ R ⟨_, ⟨rfl, rfl⟩, rfl⟩
        try simp only [List.cons_append, List.nil_append]
        refine gl_v rfl (o_eql rfl rfl) ?_
        refine gl_v rfl (o_move rfl) ?_
        refine gl_gT rfl rfl (by first | rfl | simp [RO.value, RO.ticket]) ?_
        refine gl_v rfl (o_move rfl) ?_
        refine gl_gT rfl rfl (by first | rfl | simp [RO.value, RO.ticket]) ?_
        refine gl_c rfl (o_call rfl (Ticket_spec p r ⟨4, 1, 0, 0, 0⟩) (by repeat (first | exact .nil | (apply Part.cons; · (first | exact .head | exact .tail .head | exact .tail (.tail .head) | exact .tail (.tail (.tail .head)) | exact .tail (.tail (.tail (.tail .head))) | exact .tail (.tail (.tail (.tail (.tail .head)))) | exact .tail (.tail (.tail (.tail (.tail (.tail .head))))) | exact .tail (.tail (.tail (.tail (.tail (.tail (.tail .head))))))))))) ?_
        rintro _ R ⟨_, ⟨rfl, rfl⟩, rfl⟩
        try simp only [List.cons_append, List.nil_append]
        refine gl_gT rfl rfl (by first | rfl | simp [RO.value, RO.ticket]) ?_
        refine gl_v rfl (o_eql rfl rfl) ?_
        refine gl_v rfl (o_pickT (by first | rfl | simp [RO.value, RO.ticket]) rfl rfl) ?_
        refine gl_v rfl (o_move rfl) ?_
        refine gl_gT rfl rfl (by first | rfl | simp [RO.value, RO.ticket]) ?_
        refine gl_v rfl (o_move rfl) ?_
        refine gl_gT rfl rfl (by first | rfl | simp [RO.value, RO.ticket]) ?_
        refine gl_v rfl (o_eql rfl rfl) ?_
        refine gl_v rfl (o_pickT (by first | rfl | simp [RO.value, RO.ticket]) rfl rfl) ?_
        refine gl_v rfl (o_move rfl) ?_
        refine gl_gT rfl rfl (by first | rfl | simp [RO.value, RO.ticket]) ?_
        refine gl_v rfl (o_move rfl) ?_
        refine gl_gT rfl rfl (by first | rfl | simp [RO.value, RO.ticket]) ?_
        refine gl_v rfl (o_eql rfl rfl) ?_
        refine gl_v rfl (o_pickT (by first | rfl | simp [RO.value, RO.ticket]) rfl rfl) ?_
        refine gl_v rfl (o_move rfl) ?_
        refine gl_gT rfl rfl (by first | rfl | simp [RO.value, RO.ticket]) ?_
        refine gl_v rfl (o_move rfl) ?_
        refine gl_gT rfl rfl (by first | rfl | simp [RO.value, RO.ticket]) ?_
        refine gl_v rfl (o_move rfl) ?_
        refine gl_gT rfl rfl (by first | rfl | simp [RO.value, RO.ticket]) ?_
        refine gl_v rfl (o_eql rfl rfl) ?_
        refine gl_v rfl (o_pickT (by first | rfl | simp [RO.value, RO.ticket]) rfl rfl) ?_
        refine gl_v rfl (o_move rfl) ?_
        refine gl_gT rfl rfl (by first | rfl | simp [RO.value, RO.ticket]) ?_
        refine gl_v rfl (o_move rfl) ?_
        refine gl_gT rfl rfl (by first | rfl | simp [RO.value, RO.ticket]) ?_
        refine gl_v rfl (o_eql rfl rfl) ?_
        refine gl_v rfl (o_pickT (by first | rfl | simp [RO.value, RO.ticket]) rfl rfl) ?_
        refine gl_v rfl (o_move rfl) ?_
        refine gl_gT rfl rfl (by first | rfl | simp [RO.value, RO.ticket]) ?_
        refine gl_v rfl (o_move rfl) ?_
        refine gl_gT rfl rfl (by first | rfl | simp [RO.value, RO.ticket]) ?_
        refine gl_v rfl (o_move rfl) ?_
        refine gl_gT rfl rfl (by first | rfl | simp [RO.value, RO.ticket]) ?_
        refine gl_v rfl (o_eql rfl rfl) ?_
        refine gl_v rfl (o_pickT (by first | rfl | simp [RO.value, RO.ticket]) rfl rfl) ?_
        refine gl_v rfl (o_move rfl) ?_
        refine gl_gT rfl rfl (by first | rfl | simp [RO.value, RO.ticket]) ?_
        refine gl_v rfl (o_move rfl) ?_
        refine gl_gT rfl rfl (by first | rfl | simp [RO.value, RO.ticket]) ?_
        refine gl_v rfl (o_eql rfl rfl) ?_
        refine gl_v rfl (o_pickT (by first | rfl | simp [RO.value, RO.ticket]) rfl rfl) ?_
        refine gl_v rfl (o_assign rfl) ?_
        refine gl_nil ?_
        refine ge_then ?_
        refine g_ret ?_
        refine ret1 (.inl rfl) rfl rfl _ (⟨by first | rfl | simp [RO.value], rfl⟩) (To.sat (by repeat (first | exact .nil | exact .done .refl | (apply To.cons; · (first | exact .head | exact .tail .head | exact .tail (.tail .head) | exact .tail (.tail (.tail .head)) | exact .tail (.tail (.tail (.tail .head))) | exact .tail (.tail (.tail (.tail (.tail .head)))) | exact .tail (.tail (.tail (.tail (.tail (.tail .head))))) | exact .tail (.tail (.tail (.tail (.tail (.tail (.tail .head)))))))) | exact .done (by repeat (first | exact .refl | apply Drop.skip)))))
    ·
      have hc2' := hc2
      first | replace hc2' := of_decide_eq_true hc2' | replace hc2' := lt_f hc2' | replace hc2' := le_f hc2' | replace hc2' := dec_f hc2' | replace hc2' := nlt_t hc2' | replace hc2' := nle_t hc2' | replace hc2' := ndec_t hc2' | replace hc2' := ndec_f hc2' | replace hc2' := nn_t hc2' | replace hc2' := nn_f hc2' | skip
      simp only [putO]
      refine gl_gF rfl rfl hc2 rfl ?_
      refine gl_gF rfl rfl hc2 rfl ?_
      refine gl_v rfl (o_pickF hc2 rfl rfl) ?_
      refine gl_nil ?_
      refine ge_then ?_
      refine g_cond_false rfl ?_
      refine g_exit ?_
      refine ge_then_exit ?_
      refine ge_then_exit ?_
      refine ge_block_exit ?_
      refine ge_then ?_
      refine g_seq ?_
      have hj5 : J + i = 5 := by first | (have := wO_ge hov; omega) | omega
      rw [hj5, wL5, wO5]
      refine g_region ?_
      refine gl_v rfl (o_move rfl) ?_
      refine gl_c rfl (o_call rfl (Look_spec r) (by repeat (first | exact .nil | (apply Part.cons; · (first | exact .head | exact .tail .head | exact .tail (.tail .head) | exact .tail (.tail (.tail .head)) | exact .tail (.tail (.tail (.tail .head))) | exact .tail (.tail (.tail (.tail (.tail .head)))) | exact .tail (.tail (.tail (.tail (.tail (.tail .head))))) | exact .tail (.tail (.tail (.tail (.tail (.tail (.tail .head))))))))))) ?_
      rintro _ R ⟨_, ⟨p7, rfl, rfl⟩, rfl⟩
      try simp only [List.cons_append, List.nil_append]
      refine gl_c rfl (o_call rfl (done_spec p7 r m 0 n (mk6 n CC 0 1 v 1 w) _ ⟨12, 0, 0, 0, 0⟩ (RI6 h2 h7 ..) (mk6_LI (by decide) (by decide) (by decide) hv (by decide) hw) ((OI0 (by decide) (by decide))) 2 (mk6 n CC 0 1 v 1 w) ⟨7, 1, 0, 0, 0⟩ (run6 h2 _ _)) (by repeat (first | exact .nil | (apply Part.cons; · (first | exact .head | exact .tail .head | exact .tail (.tail .head) | exact .tail (.tail (.tail .head)) | exact .tail (.tail (.tail (.tail .head))) | exact .tail (.tail (.tail (.tail (.tail .head)))) | exact .tail (.tail (.tail (.tail (.tail (.tail .head))))) | exact .tail (.tail (.tail (.tail (.tail (.tail (.tail .head))))))))))) ?_
      rintro _ R ⟨_, ⟨t', rfl, rfl⟩, rfl⟩
      try simp only [List.cons_append, List.nil_append]
      refine gl_v rfl (o_move rfl) ?_
      refine gl_v rfl (o_extract rfl rfl) ?_
      refine gl_v rfl (o_extract rfl rfl) ?_
      refine gl_v rfl (o_extract rfl rfl) ?_
      refine gl_v rfl (o_assign rfl) ?_
      refine gl_v rfl (o_assign rfl) ?_
      refine gl_v rfl (o_assign rfl) ?_
      refine gl_nil ?_
      refine ge_then ?_
      refine g_seq ?_
      refine g_region ?_
      refine gl_v rfl (o_move rfl) ?_
      refine gl_c rfl (o_call rfl (Drain_spec r) (by repeat (first | exact .nil | (apply Part.cons; · (first | exact .head | exact .tail .head | exact .tail (.tail .head) | exact .tail (.tail (.tail .head)) | exact .tail (.tail (.tail (.tail .head))) | exact .tail (.tail (.tail (.tail (.tail .head)))) | exact .tail (.tail (.tail (.tail (.tail (.tail .head))))) | exact .tail (.tail (.tail (.tail (.tail (.tail (.tail .head))))))))))) ?_
      rintro _ R ⟨_, ⟨p8, rfl, rfl⟩, rfl⟩
      try simp only [List.cons_append, List.nil_append]
      refine gl_c rfl (o_call rfl (done_spec p8 r m 0 n (mk6 n CC 0 1 v 1 w) _ ⟨10, 0, 0, 0, 0⟩ (RI6 h2 h7 ..) (mk6_LI (by decide) (by decide) (by decide) hv (by decide) hw) ((OI0 (by decide) (by decide))) 6 (mk6 n CC 1 2 v 1 w) ⟨9, 1, v, 0, 0⟩ (run7 h2 _ _)) (by repeat (first | exact .nil | (apply Part.cons; · (first | exact .head | exact .tail .head | exact .tail (.tail .head) | exact .tail (.tail (.tail .head)) | exact .tail (.tail (.tail (.tail .head))) | exact .tail (.tail (.tail (.tail (.tail .head)))) | exact .tail (.tail (.tail (.tail (.tail (.tail .head))))) | exact .tail (.tail (.tail (.tail (.tail (.tail (.tail .head))))))))))) ?_
      rintro _ R ⟨_, ⟨t', rfl, rfl⟩, rfl⟩
      try simp only [List.cons_append, List.nil_append]
      refine gl_v rfl (o_move rfl) ?_
      refine gl_v rfl (o_extract rfl rfl) ?_
      refine gl_v rfl (o_extract rfl rfl) ?_
      refine gl_v rfl (o_extract rfl rfl) ?_
      refine gl_v rfl (o_assign rfl) ?_
      refine gl_v rfl (o_assign rfl) ?_
      refine gl_v rfl (o_assign rfl) ?_
      refine gl_nil ?_
      refine ge_then ?_
      refine g_seq ?_
      refine g_region ?_
      refine gl_v rfl (o_move rfl) ?_
      refine gl_c rfl (o_call rfl (Drain_spec r) (by repeat (first | exact .nil | (apply Part.cons; · (first | exact .head | exact .tail .head | exact .tail (.tail .head) | exact .tail (.tail (.tail .head)) | exact .tail (.tail (.tail (.tail .head))) | exact .tail (.tail (.tail (.tail (.tail .head)))) | exact .tail (.tail (.tail (.tail (.tail (.tail .head))))) | exact .tail (.tail (.tail (.tail (.tail (.tail (.tail .head))))))))))) ?_
      rintro _ R ⟨_, ⟨p9, rfl, rfl⟩, rfl⟩
      try simp only [List.cons_append, List.nil_append]
      refine gl_c rfl (o_call rfl (done_spec p9 r m 0 n (mk6 n CC 1 2 v 1 w) _ ⟨10, 0, 0, 0, 0⟩ (RI6 h2 h7 ..) (mk6_LI (by decide) (by decide) (by decide) hv (by decide) hw) ((OI0 (by decide) (by decide))) 6 (mk6 n CC 2 2 v 2 w) ⟨9, 1, w, 0, 1⟩ (run8 h2 _ _)) (by repeat (first | exact .nil | (apply Part.cons; · (first | exact .head | exact .tail .head | exact .tail (.tail .head) | exact .tail (.tail (.tail .head)) | exact .tail (.tail (.tail (.tail .head))) | exact .tail (.tail (.tail (.tail (.tail .head)))) | exact .tail (.tail (.tail (.tail (.tail (.tail .head))))) | exact .tail (.tail (.tail (.tail (.tail (.tail (.tail .head))))))))))) ?_
      rintro _ R ⟨_, ⟨t', rfl, rfl⟩, rfl⟩
      try simp only [List.cons_append, List.nil_append]
      refine gl_v rfl (o_move rfl) ?_
      refine gl_v rfl (o_extract rfl rfl) ?_
      refine gl_v rfl (o_extract rfl rfl) ?_
      refine gl_v rfl (o_extract rfl rfl) ?_
      refine gl_v rfl (o_assign rfl) ?_
      refine gl_v rfl (o_assign rfl) ?_
      refine gl_v rfl (o_assign rfl) ?_
      refine gl_nil ?_
      refine ge_then ?_
      refine g_seq ?_
      refine g_region ?_
      refine gl_v rfl (o_move rfl) ?_
      refine gl_c rfl (o_call rfl (Drain_spec r) (by repeat (first | exact .nil | (apply Part.cons; · (first | exact .head | exact .tail .head | exact .tail (.tail .head) | exact .tail (.tail (.tail .head)) | exact .tail (.tail (.tail (.tail .head))) | exact .tail (.tail (.tail (.tail (.tail .head)))) | exact .tail (.tail (.tail (.tail (.tail (.tail .head))))) | exact .tail (.tail (.tail (.tail (.tail (.tail (.tail .head))))))))))) ?_
      rintro _ R ⟨_, ⟨p10, rfl, rfl⟩, rfl⟩
      try simp only [List.cons_append, List.nil_append]
      refine gl_c rfl (o_call rfl (done_spec p10 r m 0 n (mk6 n CC 2 2 v 2 w) _ ⟨10, 0, 0, 0, 0⟩ (RI6 h2 h7 ..) (mk6_LI (by decide) (by decide) (by decide) hv (by decide) hw) ((OI0 (by decide) (by decide))) 2 (mk6 n CC 2 2 v 2 w) ⟨6, 5, CC, 0, 2⟩ (run9 _ _)) (by repeat (first | exact .nil | (apply Part.cons; · (first | exact .head | exact .tail .head | exact .tail (.tail .head) | exact .tail (.tail (.tail .head)) | exact .tail (.tail (.tail (.tail .head))) | exact .tail (.tail (.tail (.tail (.tail .head)))) | exact .tail (.tail (.tail (.tail (.tail (.tail .head))))) | exact .tail (.tail (.tail (.tail (.tail (.tail (.tail .head))))))))))) ?_
      rintro _ R ⟨_, ⟨t', rfl, rfl⟩, rfl⟩
      try simp only [List.cons_append, List.nil_append]
      refine gl_v rfl (o_move rfl) ?_
      refine gl_v rfl (o_extract rfl rfl) ?_
      refine gl_v rfl (o_extract rfl rfl) ?_
      refine gl_v rfl (o_extract rfl rfl) ?_
      refine gl_v rfl (o_assign rfl) ?_
      refine gl_v rfl (o_assign rfl) ?_
      refine gl_v rfl (o_assign rfl) ?_
      refine gl_nil ?_
      refine ge_then ?_
      refine g_seq ?_
      refine g_region ?_
      refine gl_v rfl (o_move rfl) ?_
      refine gl_c rfl (o_call rfl (Outcome_spec p r ⟨4, 1, 0, 0, 0⟩) (by repeat (first | exact .nil | (apply Part.cons; · (first | exact .head | exact .tail .head | exact .tail (.tail .head) | exact .tail (.tail (.tail .head)) | exact .tail (.tail (.tail (.tail .head))) | exact .tail (.tail (.tail (.tail (.tail .head)))) | exact .tail (.tail (.tail (.tail (.tail (.tail .head))))) | exact .tail (.tail (.tail (.tail (.tail (.tail (.tail .head))))))))))) ?_
      rintro _ R ⟨_, ⟨rfl, rfl⟩, rfl⟩
      try simp only [List.cons_append, List.nil_append]
      refine gl_v rfl (o_eql rfl rfl) ?_
      refine gl_v rfl (o_move rfl) ?_
      refine gl_gT rfl rfl (by first | rfl | simp [RO.value, RO.ticket]) ?_
      refine gl_v rfl (o_move rfl) ?_
      refine gl_gT rfl rfl (by first | rfl | simp [RO.value, RO.ticket]) ?_
      refine gl_c rfl (o_call rfl (Ticket_spec p r ⟨4, 1, 0, 0, 0⟩) (by repeat (first | exact .nil | (apply Part.cons; · (first | exact .head | exact .tail .head | exact .tail (.tail .head) | exact .tail (.tail (.tail .head)) | exact .tail (.tail (.tail (.tail .head))) | exact .tail (.tail (.tail (.tail (.tail .head)))) | exact .tail (.tail (.tail (.tail (.tail (.tail .head))))) | exact .tail (.tail (.tail (.tail (.tail (.tail (.tail .head))))))))))) ?_
      rintro _ R ⟨_, ⟨rfl, rfl⟩, rfl⟩
      try simp only [List.cons_append, List.nil_append]
      refine gl_gT rfl rfl (by first | rfl | simp [RO.value, RO.ticket]) ?_
      refine gl_v rfl (o_eql rfl rfl) ?_
      refine gl_v rfl (o_pickT (by first | rfl | simp [RO.value, RO.ticket]) rfl rfl) ?_
      refine gl_v rfl (o_move rfl) ?_
      refine gl_gT rfl rfl (by first | rfl | simp [RO.value, RO.ticket]) ?_
      refine gl_v rfl (o_move rfl) ?_
      refine gl_gT rfl rfl (by first | rfl | simp [RO.value, RO.ticket]) ?_
      refine gl_v rfl (o_eql rfl rfl) ?_
      refine gl_v rfl (o_pickT (by first | rfl | simp [RO.value, RO.ticket]) rfl rfl) ?_
      refine gl_v rfl (o_move rfl) ?_
      refine gl_gT rfl rfl (by first | rfl | simp [RO.value, RO.ticket]) ?_
      refine gl_v rfl (o_move rfl) ?_
      refine gl_gT rfl rfl (by first | rfl | simp [RO.value, RO.ticket]) ?_
      refine gl_v rfl (o_eql rfl rfl) ?_
      refine gl_v rfl (o_pickT (by first | rfl | simp [RO.value, RO.ticket]) rfl rfl) ?_
      refine gl_v rfl (o_move rfl) ?_
      refine gl_gT rfl rfl (by first | rfl | simp [RO.value, RO.ticket]) ?_
      refine gl_v rfl (o_move rfl) ?_
      refine gl_gT rfl rfl (by first | rfl | simp [RO.value, RO.ticket]) ?_
      refine gl_v rfl (o_move rfl) ?_
      refine gl_gT rfl rfl (by first | rfl | simp [RO.value, RO.ticket]) ?_
      refine gl_v rfl (o_eql rfl rfl) ?_
      refine gl_v rfl (o_pickT (by first | rfl | simp [RO.value, RO.ticket]) rfl rfl) ?_
      refine gl_v rfl (o_move rfl) ?_
      refine gl_gT rfl rfl (by first | rfl | simp [RO.value, RO.ticket]) ?_
      refine gl_v rfl (o_move rfl) ?_
      refine gl_gT rfl rfl (by first | rfl | simp [RO.value, RO.ticket]) ?_
      refine gl_v rfl (o_eql rfl rfl) ?_
      refine gl_v rfl (o_pickT (by first | rfl | simp [RO.value, RO.ticket]) rfl rfl) ?_
      refine gl_v rfl (o_move rfl) ?_
      refine gl_gT rfl rfl (by first | rfl | simp [RO.value, RO.ticket]) ?_
      refine gl_v rfl (o_move rfl) ?_
      refine gl_gT rfl rfl (by first | rfl | simp [RO.value, RO.ticket]) ?_
      refine gl_v rfl (o_move rfl) ?_
      refine gl_gT rfl rfl (by first | rfl | simp [RO.value, RO.ticket]) ?_
      refine gl_v rfl (o_eql rfl rfl) ?_
      refine gl_v rfl (o_pickT (by first | rfl | simp [RO.value, RO.ticket]) rfl rfl) ?_
      refine gl_v rfl (o_move rfl) ?_
      refine gl_gT rfl rfl (by first | rfl | simp [RO.value, RO.ticket]) ?_
      refine gl_v rfl (o_move rfl) ?_
      refine gl_gT rfl rfl (by first | rfl | simp [RO.value, RO.ticket]) ?_
      refine gl_v rfl (o_eql rfl rfl) ?_
      refine gl_v rfl (o_pickT (by first | rfl | simp [RO.value, RO.ticket]) rfl rfl) ?_
      refine gl_v rfl (o_assign rfl) ?_
      refine gl_nil ?_
      refine ge_then ?_
      refine g_ret ?_
      refine ret1 (.inl rfl) rfl rfl _ (⟨by first | rfl | simp [RO.value], rfl⟩) (To.sat (by repeat (first | exact .nil | exact .done .refl | (apply To.cons; · (first | exact .head | exact .tail .head | exact .tail (.tail .head) | exact .tail (.tail (.tail .head)) | exact .tail (.tail (.tail (.tail .head))) | exact .tail (.tail (.tail (.tail (.tail .head)))) | exact .tail (.tail (.tail (.tail (.tail (.tail .head))))) | exact .tail (.tail (.tail (.tail (.tail (.tail (.tail .head)))))))) | exact .done (by repeat (first | exact .refl | apply Drop.skip)))))

end Go.Proofs.Ytnkcgfllehohbaa.L
