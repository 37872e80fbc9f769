/-
  The ledger's law on sums. Own work.
-/
import Derived.Test.YtdfmflccmnniaaaLedgerL
namespace Go.Proofs.Ytdfmflccmnniaaa.L
open Go.L Go.L.Led

theorem Count_spec' (p : Nat) (r : List (Int × Int)) (w : Nat) (h1 : 1 ≤ w) (h8 : w ≤ 8) :
    FnS Try.prog 12 [ptr p 0, I64 w] [ledger p r] (fun u Bs => u = I64 (cnt r w) ∧ Bs = [ledger p r]) :=
  (Count_spec p r w).mono fun u Bs h => by rw [show cntZ r w = cnt r w by unfold cntZ; rw [if_neg (by omega)]] at h; exact h

theorem sums_spec (a : Option Addr) (c : Nat) (s : List (Int × Int × Int)) (hs : SOk s) (hs63 : s.length ≤ 9223372036854775807) (A : Assn) [RdA (.slice a s.length c) A s.length (s.flatMap oe)] : FnS Try.prog 5 [.slice a s.length c] [A] (fun u Bs => u = .bool true ∧ Bs = [A]) := by
  refine fn_body Try.func5 rfl rfl rfl ?_
  intro W0 R
  simp only [List.zipIdx_cons, List.zipIdx_nil, List.map_cons, List.map_nil, Nat.zero_add, Nat.reduceAdd, List.cons_append, List.nil_append]
  refine g_seq ?_
  refine g_region ?_
  refine gl_v rfl (o_assign rfl) ?_
  refine gl_nil ?_
  refine ge_then ?_
  refine g_seq ?_
  refine g_seq ?_
  refine g_region ?_
  refine gl_c rfl (o_call rfl (alive_spec) (by repeat (first | exact .nil | (apply Part.cons; · (first | exact .head | exact .tail .head | exact .tail (.tail .head) | exact .tail (.tail (.tail .head)) | exact .tail (.tail (.tail (.tail .head))) | exact .tail (.tail (.tail (.tail (.tail .head)))) | exact .tail (.tail (.tail (.tail (.tail (.tail .head))))) | exact .tail (.tail (.tail (.tail (.tail (.tail (.tail .head))))))))))) ?_
  rintro _ _ ⟨_, ⟨rfl, rfl⟩, rfl⟩
  simp only [List.cons_append, List.nil_append]
  refine gl_v rfl (o_not rfl) ?_
  refine gl_nil ?_
  refine ge_then ?_
  refine g_cond_false (rfl) ?_
  refine g_skip ?_
  refine ge_then ?_
  refine g_seq ?_
  refine g_region ?_
  refine gl_c rfl (o_call rfl (New_spec) (by repeat (first | exact .nil | (apply Part.cons; · (first | exact .head | exact .tail .head | exact .tail (.tail .head) | exact .tail (.tail (.tail .head)) | exact .tail (.tail (.tail (.tail .head))) | exact .tail (.tail (.tail (.tail (.tail .head)))) | exact .tail (.tail (.tail (.tail (.tail (.tail .head))))) | exact .tail (.tail (.tail (.tail (.tail (.tail (.tail .head))))))))))) ?_
  rintro _ _ ⟨_, ⟨p, rfl, rfl⟩, rfl⟩
  simp only [List.cons_append, List.nil_append]
  refine gl_v rfl (o_assign rfl) ?_
  refine gl_nil ?_
  refine ge_then ?_
  refine g_seq ?_
  refine g_region ?_
  refine gl_v rfl (o_assign rfl) ?_
  refine gl_nil ?_
  refine ge_then ?_
  refine g_cut (fun act wo => ∃ k, k ≤ s.length ∧ k ≤ 300 ∧ HasSl Try.f5.ntmps [(4, I64 (rrC s k).length), (3, ptr p 0), (0, .slice a s.length c)] act ∧ St W0 (ledger p (rrC s k) :: A :: R) wo) ?_ ?_
  ·
    refine g_seq ?_
    refine g_region ?_
    refine gl_v rfl (o_assign rfl) ?_
    refine gl_nil ?_
    refine ge_then ?_
    refine g_block ?_
    refine g_loop (ι := Nat) (fun x => x ≤ s.length ∧ x ≤ 300) (fun x => [(5, I64 x), (4, I64 (rrC s x).length), (3, ptr p 0), (0, .slice a s.length c)]) (fun x => ledger p (rrC s x) :: A :: R) (fun x => s.length - x) 0 (⟨Nat.zero_le _, Nat.zero_le _⟩) (Keep.cons rfl (Keep.cons rfl (Keep.cons rfl (Keep.cons rfl (Keep.nil))))) (To.sat (by repeat (first | exact .nil | exact .done .refl | (apply To.cons; · (first | exact .head | exact .tail .head | exact .tail (.tail .head) | exact .tail (.tail (.tail .head)) | exact .tail (.tail (.tail (.tail .head))) | exact .tail (.tail (.tail (.tail (.tail .head)))) | exact .tail (.tail (.tail (.tail (.tail (.tail .head))))) | exact .tail (.tail (.tail (.tail (.tail (.tail (.tail .head)))))))) | exact .done (by repeat (first | exact .refl | apply Drop.skip))))) ?_
    rintro k ⟨hk1, hk4⟩
    obtain ⟨hk, hrl⟩ := rrC_ok s k hk1
    have hr : (rrC s k).length ≤ 1000000 := by omega
    refine g_seq ?_
    refine g_seq ?_
    refine g_region ?_
    refine gl_v rfl (o_move rfl) ?_
    refine gl_v rfl (o_move rfl) ?_
    refine gl_v rfl (o_len rfl) ?_
    refine gl_v rfl (o_lss rfl rfl) ?_
    refine gl_v rfl (o_move rfl) ?_
    refine gl_g rfl rfl (fun hc1 => ?_) (fun hc1 => ?_) rfl
    ·
      have hc1' := hc1
      first | replace hc1' := of_decide_eq_true hc1' | replace hc1' := lt_f hc1' | replace hc1' := le_f hc1' | replace hc1' := dec_f hc1' | replace hc1' := nlt_t hc1' | replace hc1' := nle_t hc1' | replace hc1' := ndec_t hc1' | replace hc1' := ndec_f hc1' | replace hc1' := nn_t hc1' | replace hc1' := nn_f hc1' | skip
      refine gl_v rfl (o_move rfl) ?_
      refine gl_gT rfl rfl hc1 ?_
      refine gl_v rfl (o_lss rfl rfl) ?_
      refine gl_v rfl (o_pickT hc1 rfl rfl) ?_
      refine gl_nil ?_
      refine ge_then ?_
      refine g_cond rfl (fun hc2 => ?_) (fun hc2 => ?_)
      ·
        first | replace hc2 := of_decide_eq_true hc2 | replace hc2 := lt_f hc2 | replace hc2 := le_f hc2 | replace hc2 := dec_f hc2 | replace hc2 := nlt_t hc2 | replace hc2 := nle_t hc2 | replace hc2 := ndec_t hc2 | replace hc2 := ndec_f hc2 | replace hc2 := nn_t hc2 | replace hc2 := nn_f hc2 | skip
        obtain ⟨q, hq⟩ : ∃ q, s[k]? = some q := ⟨_, List.getElem?_eq_getElem (by omega)⟩
        have hq0 := (hs q (List.mem_of_getElem? hq)).1
        have h0 := flat_get oe 3 oe_len hq (j := 0) rfl
        have h1 := flat_get oe 3 oe_len hq (j := 1) rfl
        have h2 := flat_get oe 3 oe_len hq (j := 2) rfl
        refine g_skip ?_
        refine ge_then ?_
        refine g_seq ?_
        refine g_block ?_
        refine g_seq ?_
        refine g_region ?_
        refine gl_v rfl (o_move rfl) ?_
        refine gl_v rfl (o_move rfl) ?_
        refine gl_v rfl (o_move rfl) ?_
        refine gl_v rfl (o_idxS rfl rfl (by first | assumption | omega)) ?_
        refine gl_v rfl (o_loadSA rfl (flat_take oe 3 oe_len hq) rfl) ?_
        refine gl_c rfl (o_call rfl (call_spec _ _ q hq0 hr hk) (by repeat (first | exact .nil | (apply Part.cons; · (first | exact .head | exact .tail .head | exact .tail (.tail .head) | exact .tail (.tail (.tail .head)) | exact .tail (.tail (.tail (.tail .head))) | exact .tail (.tail (.tail (.tail (.tail .head)))) | exact .tail (.tail (.tail (.tail (.tail (.tail .head))))) | exact .tail (.tail (.tail (.tail (.tail (.tail (.tail .head))))))))))) ?_
        rintro _ _ ⟨_, ⟨rfl, rfl⟩, rfl⟩
        simp only [List.cons_append, List.nil_append]
        refine gl_v rfl (o_eql rfl rfl) ?_
        refine gl_v rfl (o_move rfl) ?_
        refine gl_g rfl rfl (fun hc3 => ?_) (fun hc3 => ?_) rfl
        ·
          have hc3' := hc3
          first | replace hc3' := of_decide_eq_true hc3' | replace hc3' := lt_f hc3' | replace hc3' := le_f hc3' | replace hc3' := dec_f hc3' | replace hc3' := nlt_t hc3' | replace hc3' := nle_t hc3' | replace hc3' := ndec_t hc3' | replace hc3' := ndec_f hc3' | replace hc3' := nn_t hc3' | replace hc3' := nn_f hc3' | skip
          refine gl_v rfl (o_move rfl) ?_
          refine gl_gT rfl rfl hc3 ?_
          refine gl_v rfl (o_move rfl) ?_
          refine gl_gT rfl rfl hc3 ?_
          refine gl_v rfl (o_idxS rfl rfl (by first | assumption | omega)) ?_
          refine gl_gT rfl rfl hc3 ?_
          first | refine gl_v rfl (o_fldS rfl) ?_ | refine gl_v rfl (o_fld rfl) ?_
          refine gl_gT rfl rfl hc3 ?_
          refine gl_v rfl (o_loadS rfl h0) ?_
          refine gl_gT rfl rfl hc3 ?_
          refine gl_v rfl (o_remR (q.1 % 4) (Int.tmod_eq_emod_of_nonneg hq0) rfl rfl (by decide)) ?_
          refine gl_gT rfl rfl hc3 ?_
          refine gl_v rfl (o_eql rfl rfl) ?_
          refine gl_v rfl (o_pickT hc3 rfl rfl) ?_
          refine gl_nil ?_
          refine ge_then ?_
          refine g_cond rfl (fun hc4 => ?_) (fun hc4 => ?_)
          ·
            first | replace hc4 := of_decide_eq_true hc4 | replace hc4 := lt_f hc4 | replace hc4 := le_f hc4 | replace hc4 := dec_f hc4 | replace hc4 := nlt_t hc4 | replace hc4 := nle_t hc4 | replace hc4 := ndec_t hc4 | replace hc4 := ndec_f hc4 | replace hc4 := nn_t hc4 | replace hc4 := nn_f hc4 | skip
            refine g_region ?_
            refine gl_v rfl (o_move rfl) ?_
            refine gl_v rfl (o_addR _ (by first | exact wr_i64 (by omega) | rfl) rfl rfl) ?_
            refine gl_v rfl (o_assign rfl) ?_
            refine gl_nil ?_
            refine ge_block ?_
            refine ge_then ?_
            refine g_region ?_
            refine gl_v rfl (o_move rfl) ?_
            refine gl_v rfl (o_addR _ (by first | exact wr_i64 (by omega) | rfl) rfl rfl) ?_
            refine gl_v rfl (o_assign rfl) ?_
            refine gl_nil ?_
            have hlen := callR_len0 (rrC s k) q hk
            rw [if_pos ⟨hc3', hc4⟩] at hlen
            refine ge_round (k + 1) ⟨by omega, by omega⟩ (by omega) (by rw [rrC_succ hq, hlen]; exact (Keep.cons rfl (Keep.cons rfl (Keep.cons rfl (Keep.cons rfl (Keep.nil)))))) (by rw [rrC_succ hq]; exact (To.sat (by repeat (first | exact .nil | exact .done .refl | (apply To.cons; · (first | exact .head | exact .tail .head | exact .tail (.tail .head) | exact .tail (.tail (.tail .head)) | exact .tail (.tail (.tail (.tail .head))) | exact .tail (.tail (.tail (.tail (.tail .head)))) | exact .tail (.tail (.tail (.tail (.tail (.tail .head))))) | exact .tail (.tail (.tail (.tail (.tail (.tail (.tail .head)))))))) | exact .done (by repeat (first | exact .refl | apply Drop.skip))))))
          ·
            first | replace hc4 := of_decide_eq_true hc4 | replace hc4 := lt_f hc4 | replace hc4 := le_f hc4 | replace hc4 := dec_f hc4 | replace hc4 := nlt_t hc4 | replace hc4 := nle_t hc4 | replace hc4 := ndec_t hc4 | replace hc4 := ndec_f hc4 | replace hc4 := nn_t hc4 | replace hc4 := nn_f hc4 | skip
            refine g_skip ?_
            refine ge_block ?_
            refine ge_then ?_
            refine g_region ?_
            refine gl_v rfl (o_move rfl) ?_
            refine gl_v rfl (o_addR _ (by first | exact wr_i64 (by omega) | rfl) rfl rfl) ?_
            refine gl_v rfl (o_assign rfl) ?_
            refine gl_nil ?_
            have hlen := callR_len0 (rrC s k) q hk
            rw [if_neg (fun h => hc4 h.2)] at hlen
            refine ge_round (k + 1) ⟨by omega, by omega⟩ (by omega) (by rw [rrC_succ hq, hlen]; exact (Keep.cons rfl (Keep.cons rfl (Keep.cons rfl (Keep.cons rfl (Keep.nil)))))) (by rw [rrC_succ hq]; exact (To.sat (by repeat (first | exact .nil | exact .done .refl | (apply To.cons; · (first | exact .head | exact .tail .head | exact .tail (.tail .head) | exact .tail (.tail (.tail .head)) | exact .tail (.tail (.tail (.tail .head))) | exact .tail (.tail (.tail (.tail (.tail .head)))) | exact .tail (.tail (.tail (.tail (.tail (.tail .head))))) | exact .tail (.tail (.tail (.tail (.tail (.tail (.tail .head)))))))) | exact .done (by repeat (first | exact .refl | apply Drop.skip))))))
        ·
          have hc3' := hc3
          first | replace hc3' := of_decide_eq_true hc3' | replace hc3' := lt_f hc3' | replace hc3' := le_f hc3' | replace hc3' := dec_f hc3' | replace hc3' := nlt_t hc3' | replace hc3' := nle_t hc3' | replace hc3' := ndec_t hc3' | replace hc3' := ndec_f hc3' | replace hc3' := nn_t hc3' | replace hc3' := nn_f hc3' | skip
          simp only [putO]
          refine gl_gF rfl rfl hc3 rfl ?_
          refine gl_gF rfl rfl hc3 rfl ?_
          refine gl_gF rfl rfl hc3 rfl ?_
          refine gl_gF rfl rfl hc3 rfl ?_
          refine gl_gF rfl rfl hc3 rfl ?_
          refine gl_gF rfl rfl hc3 rfl ?_
          refine gl_v rfl (o_pickF hc3 rfl rfl) ?_
          refine gl_nil ?_
          refine ge_then ?_
          refine g_cond_false rfl ?_
          refine g_skip ?_
          refine ge_block ?_
          refine ge_then ?_
          refine g_region ?_
          refine gl_v rfl (o_move rfl) ?_
          refine gl_v rfl (o_addR _ (by first | exact wr_i64 (by omega) | rfl) rfl rfl) ?_
          refine gl_v rfl (o_assign rfl) ?_
          refine gl_nil ?_
          have hlen := callR_len0 (rrC s k) q hk
          rw [if_neg (fun h => hc3' h.1)] at hlen
          refine ge_round (k + 1) ⟨by omega, by omega⟩ (by omega) (by rw [rrC_succ hq, hlen]; exact (Keep.cons rfl (Keep.cons rfl (Keep.cons rfl (Keep.cons rfl (Keep.nil)))))) (by rw [rrC_succ hq]; exact (To.sat (by repeat (first | exact .nil | exact .done .refl | (apply To.cons; · (first | exact .head | exact .tail .head | exact .tail (.tail .head) | exact .tail (.tail (.tail .head)) | exact .tail (.tail (.tail (.tail .head))) | exact .tail (.tail (.tail (.tail (.tail .head)))) | exact .tail (.tail (.tail (.tail (.tail (.tail .head))))) | exact .tail (.tail (.tail (.tail (.tail (.tail (.tail .head)))))))) | exact .done (by repeat (first | exact .refl | apply Drop.skip))))))
      ·
        first | replace hc2 := of_decide_eq_true hc2 | replace hc2 := lt_f hc2 | replace hc2 := le_f hc2 | replace hc2 := dec_f hc2 | replace hc2 := nlt_t hc2 | replace hc2 := nle_t hc2 | replace hc2 := ndec_t hc2 | replace hc2 := ndec_f hc2 | replace hc2 := nn_t hc2 | replace hc2 := nn_f hc2 | skip
        refine g_exit ?_
        refine ge_then_exit ?_
        refine ge_then_exit ?_
        refine ge_block_exit ?_
        exact fun act wo hsl st => ⟨k, hk1, hk4, hsl.keep (Keep.cons rfl (Keep.cons rfl (Keep.cons rfl (Keep.nil)))), st.imp (To.sat (by repeat (first | exact .nil | exact .done .refl | (apply To.cons; · (first | exact .head | exact .tail .head | exact .tail (.tail .head) | exact .tail (.tail (.tail .head)) | exact .tail (.tail (.tail (.tail .head))) | exact .tail (.tail (.tail (.tail (.tail .head)))) | exact .tail (.tail (.tail (.tail (.tail (.tail .head))))) | exact .tail (.tail (.tail (.tail (.tail (.tail (.tail .head)))))))) | exact .done (by repeat (first | exact .refl | apply Drop.skip)))))⟩
    ·
      have hc1' := hc1
      first | replace hc1' := of_decide_eq_true hc1' | replace hc1' := lt_f hc1' | replace hc1' := le_f hc1' | replace hc1' := dec_f hc1' | replace hc1' := nlt_t hc1' | replace hc1' := nle_t hc1' | replace hc1' := ndec_t hc1' | replace hc1' := ndec_f hc1' | replace hc1' := nn_t hc1' | replace hc1' := nn_f hc1' | skip
      simp only [putO]
      refine gl_gF rfl rfl hc1 rfl ?_
      refine gl_v rfl (o_pickF hc1 rfl rfl) ?_
      refine gl_nil ?_
      refine ge_then ?_
      refine g_cond_false rfl ?_
      refine g_exit ?_
      refine ge_then_exit ?_
      refine ge_then_exit ?_
      refine ge_block_exit ?_
      exact fun act wo hsl st => ⟨k, hk1, hk4, hsl.keep (Keep.cons rfl (Keep.cons rfl (Keep.cons rfl (Keep.nil)))), st.imp (To.sat (by repeat (first | exact .nil | exact .done .refl | (apply To.cons; · (first | exact .head | exact .tail .head | exact .tail (.tail .head) | exact .tail (.tail (.tail .head)) | exact .tail (.tail (.tail (.tail .head))) | exact .tail (.tail (.tail (.tail (.tail .head)))) | exact .tail (.tail (.tail (.tail (.tail (.tail .head))))) | exact .tail (.tail (.tail (.tail (.tail (.tail (.tail .head)))))))) | exact .done (by repeat (first | exact .refl | apply Drop.skip)))))⟩
  ·
    rintro act wo ⟨k, hk1, hk4, hsl, st⟩
    refine g_of ?_ hsl st
    clear hsl st act wo
    obtain ⟨hk, hrl⟩ := rrC_ok s k hk1
    have hr : (rrC s k).length ≤ 1000000 := by omega
    refine g_seq ?_
    refine g_region ?_
    refine gl_v rfl (o_assign rfl) ?_
    refine gl_v rfl (o_assign rfl) ?_
    refine gl_nil ?_
    refine ge_then ?_
    refine g_seq ?_
    refine g_seq ?_
    refine g_region ?_
    refine gl_v rfl (o_assign rfl) ?_
    refine gl_nil ?_
    refine ge_then ?_
    refine g_block ?_
    refine g_loop (ι := Nat) (fun x => 1 ≤ x ∧ x ≤ 9) (fun x => [(8, I64 x), (6, I64 (sumC (rrC s k) (x - 1))), (7, I64 (sumC (rrC s k) (min (x - 1) 6))), (4, I64 (rrC s k).length), (3, ptr p 0), (0, .slice a s.length c)]) (fun x => ledger p (rrC s k) :: A :: R) (fun x => 9 - x) 1 (by omega) (Keep.cons rfl (Keep.cons rfl (Keep.cons rfl (Keep.cons rfl (Keep.cons rfl (Keep.cons rfl (Keep.nil))))))) (To.sat (by repeat (first | exact .nil | exact .done .refl | (apply To.cons; · (first | exact .head | exact .tail .head | exact .tail (.tail .head) | exact .tail (.tail (.tail .head)) | exact .tail (.tail (.tail (.tail .head))) | exact .tail (.tail (.tail (.tail (.tail .head)))) | exact .tail (.tail (.tail (.tail (.tail (.tail .head))))) | exact .tail (.tail (.tail (.tail (.tail (.tail (.tail .head)))))))) | exact .done (by repeat (first | exact .refl | apply Drop.skip))))) ?_
    rintro x ⟨hx1, hx9⟩
    have hsum := sumC_len hk (x - 1)
    have hsum2 := sumC_len hk (min (x - 1) 6)
    refine g_seq ?_
    refine g_seq ?_
    refine g_region ?_
    refine gl_v rfl (o_move rfl) ?_
    refine gl_v rfl (o_leq rfl rfl) ?_
    refine gl_nil ?_
    refine ge_then ?_
    refine g_cond rfl (fun hc5 => ?_) (fun hc5 => ?_)
    ·
      first | replace hc5 := of_decide_eq_true hc5 | replace hc5 := lt_f hc5 | replace hc5 := le_f hc5 | replace hc5 := dec_f hc5 | replace hc5 := nlt_t hc5 | replace hc5 := nle_t hc5 | replace hc5 := ndec_t hc5 | replace hc5 := ndec_f hc5 | replace hc5 := nn_t hc5 | replace hc5 := nn_f hc5 | skip
      have hcx := cnt_le (rrC s k) x
      refine g_skip ?_
      refine ge_then ?_
      refine g_seq ?_
      refine g_block ?_
      refine g_seq ?_
      refine g_region ?_
      refine gl_v rfl (o_move rfl) ?_
      refine gl_v rfl (o_move rfl) ?_
      refine gl_v rfl (o_move rfl) ?_
      refine gl_c rfl (o_call rfl (Count_spec' _ _ x hx1 (by omega)) (by repeat (first | exact .nil | (apply Part.cons; · (first | exact .head | exact .tail .head | exact .tail (.tail .head) | exact .tail (.tail (.tail .head)) | exact .tail (.tail (.tail (.tail .head))) | exact .tail (.tail (.tail (.tail (.tail .head)))) | exact .tail (.tail (.tail (.tail (.tail (.tail .head))))) | exact .tail (.tail (.tail (.tail (.tail (.tail (.tail .head))))))))))) ?_
      rintro _ _ ⟨_, ⟨rfl, rfl⟩, rfl⟩
      simp only [List.cons_append, List.nil_append]
      refine gl_v rfl (o_addR _ (by first | exact wr_i64 (by omega) | rfl) rfl rfl) ?_
      refine gl_v rfl (o_assign rfl) ?_
      refine gl_nil ?_
      refine ge_then ?_
      refine g_seq ?_
      refine g_region ?_
      refine gl_v rfl (o_move rfl) ?_
      refine gl_v rfl (o_leq rfl rfl) ?_
      refine gl_nil ?_
      refine ge_then ?_
      refine g_cond rfl (fun hc6 => ?_) (fun hc6 => ?_)
      ·
        first | replace hc6 := of_decide_eq_true hc6 | replace hc6 := lt_f hc6 | replace hc6 := le_f hc6 | replace hc6 := dec_f hc6 | replace hc6 := nlt_t hc6 | replace hc6 := nle_t hc6 | replace hc6 := ndec_t hc6 | replace hc6 := ndec_f hc6 | replace hc6 := nn_t hc6 | replace hc6 := nn_f hc6 | skip
        refine g_region ?_
        refine gl_v rfl (o_move rfl) ?_
        refine gl_v rfl (o_move rfl) ?_
        refine gl_v rfl (o_move rfl) ?_
        refine gl_c rfl (o_call rfl (Count_spec' _ _ x hx1 (by omega)) (by repeat (first | exact .nil | (apply Part.cons; · (first | exact .head | exact .tail .head | exact .tail (.tail .head) | exact .tail (.tail (.tail .head)) | exact .tail (.tail (.tail (.tail .head))) | exact .tail (.tail (.tail (.tail (.tail .head)))) | exact .tail (.tail (.tail (.tail (.tail (.tail .head))))) | exact .tail (.tail (.tail (.tail (.tail (.tail (.tail .head))))))))))) ?_
        rintro _ _ ⟨_, ⟨rfl, rfl⟩, rfl⟩
        simp only [List.cons_append, List.nil_append]
        refine gl_v rfl (o_addR _ (by first | exact wr_i64 (by omega) | rfl) rfl rfl) ?_
        refine gl_v rfl (o_assign rfl) ?_
        refine gl_nil ?_
        refine ge_block ?_
        refine ge_then ?_
        refine g_region ?_
        refine gl_v rfl (o_move rfl) ?_
        refine gl_v rfl (o_addR _ (by first | exact wr_i64 (by omega) | rfl) rfl rfl) ?_
        refine gl_v rfl (o_assign rfl) ?_
        refine gl_nil ?_
        refine ge_round (x + 1) ⟨by omega, by omega⟩ (by omega) (by rw [show x + 1 - 1 = (x - 1) + 1 by omega, show min ((x - 1) + 1) 6 = min (x - 1) 6 + 1 by omega, sumC_succ, sumC_succ, show min (x - 1) 6 + 1 = x by omega, show x - 1 + 1 = x by omega]; exact (Keep.cons rfl (Keep.cons rfl (Keep.cons rfl (Keep.cons rfl (Keep.cons rfl (Keep.cons rfl (Keep.nil)))))))) (To.sat (by repeat (first | exact .nil | exact .done .refl | (apply To.cons; · (first | exact .head | exact .tail .head | exact .tail (.tail .head) | exact .tail (.tail (.tail .head)) | exact .tail (.tail (.tail (.tail .head))) | exact .tail (.tail (.tail (.tail (.tail .head)))) | exact .tail (.tail (.tail (.tail (.tail (.tail .head))))) | exact .tail (.tail (.tail (.tail (.tail (.tail (.tail .head)))))))) | exact .done (by repeat (first | exact .refl | apply Drop.skip)))))
      ·
        first | replace hc6 := of_decide_eq_true hc6 | replace hc6 := lt_f hc6 | replace hc6 := le_f hc6 | replace hc6 := dec_f hc6 | replace hc6 := nlt_t hc6 | replace hc6 := nle_t hc6 | replace hc6 := ndec_t hc6 | replace hc6 := ndec_f hc6 | replace hc6 := nn_t hc6 | replace hc6 := nn_f hc6 | skip
        refine g_skip ?_
        refine ge_block ?_
        refine ge_then ?_
        refine g_region ?_
        refine gl_v rfl (o_move rfl) ?_
        refine gl_v rfl (o_addR _ (by first | exact wr_i64 (by omega) | rfl) rfl rfl) ?_
        refine gl_v rfl (o_assign rfl) ?_
        refine gl_nil ?_
        refine ge_round (x + 1) ⟨by omega, by omega⟩ (by omega) (by rw [show x + 1 - 1 = (x - 1) + 1 by omega, show min ((x - 1) + 1) 6 = min (x - 1) 6 by omega, sumC_succ, show x - 1 + 1 = x by omega]; exact (Keep.cons rfl (Keep.cons rfl (Keep.cons rfl (Keep.cons rfl (Keep.cons rfl (Keep.cons rfl (Keep.nil)))))))) (To.sat (by repeat (first | exact .nil | exact .done .refl | (apply To.cons; · (first | exact .head | exact .tail .head | exact .tail (.tail .head) | exact .tail (.tail (.tail .head)) | exact .tail (.tail (.tail (.tail .head))) | exact .tail (.tail (.tail (.tail (.tail .head)))) | exact .tail (.tail (.tail (.tail (.tail (.tail .head))))) | exact .tail (.tail (.tail (.tail (.tail (.tail (.tail .head)))))))) | exact .done (by repeat (first | exact .refl | apply Drop.skip)))))
    ·
      first | replace hc5 := of_decide_eq_true hc5 | replace hc5 := lt_f hc5 | replace hc5 := le_f hc5 | replace hc5 := dec_f hc5 | replace hc5 := nlt_t hc5 | replace hc5 := nle_t hc5 | replace hc5 := ndec_t hc5 | replace hc5 := ndec_f hc5 | replace hc5 := nn_t hc5 | replace hc5 := nn_f hc5 | skip
      refine g_exit ?_
      refine ge_then_exit ?_
      refine ge_then_exit ?_
      refine ge_block_exit ?_
      refine ge_then ?_
      refine g_seq ?_
      refine g_region ?_
      refine gl_v rfl (o_move rfl) ?_
      refine gl_c rfl (o_call rfl (Held_spec _ _ hr hk) (by repeat (first | exact .nil | (apply Part.cons; · (first | exact .head | exact .tail .head | exact .tail (.tail .head) | exact .tail (.tail (.tail .head)) | exact .tail (.tail (.tail (.tail .head))) | exact .tail (.tail (.tail (.tail (.tail .head)))) | exact .tail (.tail (.tail (.tail (.tail (.tail .head))))) | exact .tail (.tail (.tail (.tail (.tail (.tail (.tail .head))))))))))) ?_
      rintro _ _ ⟨_, ⟨a3, c3, rfl, rfl⟩, rfl⟩
      simp only [List.cons_append, List.nil_append]
      refine gl_v rfl (o_assign rfl) ?_
      refine gl_nil ?_
      refine ge_then ?_
      refine g_seq ?_
      refine g_seq ?_
      refine g_region ?_
      refine gl_v rfl (o_assign rfl) ?_
      refine gl_nil ?_
      refine ge_then ?_
      refine g_block ?_
      refine g_loop (ι := Nat) (fun x => x ≤ (held (rrC s k)).length) (fun x => [(10, I64 x), (9, .slice a3 (held (rrC s k)).length c3), (6, I64 (rrC s k).length), (7, I64 (held (rrC s k)).length), (4, I64 (rrC s k).length), (3, ptr p 0), (0, .slice a s.length c)]) (fun x => places (.slice a3 (held (rrC s k)).length c3) (held (rrC s k)) :: ledger p (rrC s k) :: A :: R) (fun x => (held (rrC s k)).length - x) 0 (Nat.zero_le _) (Keep.cons rfl (Keep.cons rfl (Keep.cons (by rw [← sumC_all hk]; exact congrArg some (congrArg I64 (by congr 2; omega))) (Keep.cons (by rw [← sumC_held hk]; exact congrArg some (congrArg I64 (by congr 2; omega))) (Keep.cons rfl (Keep.cons rfl (Keep.cons rfl Keep.nil))))))) (To.sat (by repeat (first | exact .nil | exact .done .refl | (apply To.cons; · (first | exact .head | exact .tail .head | exact .tail (.tail .head) | exact .tail (.tail (.tail .head)) | exact .tail (.tail (.tail (.tail .head))) | exact .tail (.tail (.tail (.tail (.tail .head)))) | exact .tail (.tail (.tail (.tail (.tail (.tail .head))))) | exact .tail (.tail (.tail (.tail (.tail (.tail (.tail .head)))))))) | exact .done (by repeat (first | exact .refl | apply Drop.skip))))) ?_
      intro k2 hk2
      have hhl := held_len (rrC s k)
      refine g_seq ?_
      refine g_seq ?_
      refine g_region ?_
      refine gl_v rfl (o_move rfl) ?_
      refine gl_v rfl (o_move rfl) ?_
      refine gl_v rfl (o_len rfl) ?_
      refine gl_v rfl (o_lss rfl rfl) ?_
      refine gl_nil ?_
      refine ge_then ?_
      refine g_cond rfl (fun hc7 => ?_) (fun hc7 => ?_)
      ·
        first | replace hc7 := of_decide_eq_true hc7 | replace hc7 := lt_f hc7 | replace hc7 := le_f hc7 | replace hc7 := dec_f hc7 | replace hc7 := nlt_t hc7 | replace hc7 := nle_t hc7 | replace hc7 := ndec_t hc7 | replace hc7 := ndec_f hc7 | replace hc7 := nn_t hc7 | replace hc7 := nn_f hc7 | skip
        obtain ⟨q1, hq1⟩ : ∃ q, (held (rrC s k))[k2]? = some q := ⟨_, List.getElem?_eq_getElem (by omega)⟩
        have hqh := held_at hk hq1
        refine g_skip ?_
        refine ge_then ?_
        refine g_seq ?_
        refine g_block ?_
        refine g_seq ?_
        refine g_seq ?_
        refine g_region ?_
        refine gl_v rfl (o_assign rfl) ?_
        refine gl_nil ?_
        refine ge_then ?_
        refine g_block ?_
        refine g_loop (ι := Nat) (fun x => x ≤ k2) (fun x => [(11, I64 x), (10, I64 k2), (9, .slice a3 (held (rrC s k)).length c3), (6, I64 (rrC s k).length), (7, I64 (held (rrC s k)).length), (4, I64 (rrC s k).length), (3, ptr p 0), (0, .slice a s.length c)]) (fun x => places (.slice a3 (held (rrC s k)).length c3) (held (rrC s k)) :: ledger p (rrC s k) :: A :: R) (fun x => k2 - x) 0 (Nat.zero_le _) (Keep.cons rfl (Keep.cons rfl (Keep.cons rfl (Keep.cons rfl (Keep.cons rfl (Keep.cons rfl (Keep.cons rfl (Keep.cons rfl (Keep.nil))))))))) (To.sat (by repeat (first | exact .nil | exact .done .refl | (apply To.cons; · (first | exact .head | exact .tail .head | exact .tail (.tail .head) | exact .tail (.tail (.tail .head)) | exact .tail (.tail (.tail (.tail .head))) | exact .tail (.tail (.tail (.tail (.tail .head)))) | exact .tail (.tail (.tail (.tail (.tail (.tail .head))))) | exact .tail (.tail (.tail (.tail (.tail (.tail (.tail .head)))))))) | exact .done (by repeat (first | exact .refl | apply Drop.skip))))) ?_
        intro k3 hk3
        refine g_seq ?_
        refine g_seq ?_
        refine g_region ?_
        refine gl_v rfl (o_move rfl) ?_
        refine gl_v rfl (o_move rfl) ?_
        refine gl_v rfl (o_lss rfl rfl) ?_
        refine gl_nil ?_
        refine ge_then ?_
        refine g_cond rfl (fun hc8 => ?_) (fun hc8 => ?_)
        ·
          first | replace hc8 := of_decide_eq_true hc8 | replace hc8 := lt_f hc8 | replace hc8 := le_f hc8 | replace hc8 := dec_f hc8 | replace hc8 := nlt_t hc8 | replace hc8 := nle_t hc8 | replace hc8 := ndec_t hc8 | replace hc8 := ndec_f hc8 | replace hc8 := nn_t hc8 | replace hc8 := nn_f hc8 | skip
          obtain ⟨q2, hq2⟩ : ∃ q, (held (rrC s k))[k3]? = some q := ⟨_, List.getElem?_eq_getElem (by omega)⟩
          refine g_skip ?_
          refine ge_then ?_
          refine g_seq ?_
          refine g_block ?_
          refine g_seq ?_
          refine g_draw [] [(0, .loc), (1, .loc), (2, .loc), (3, .loc), (4, .loc), (5, .loc), (6, .loc), (7, .loc), (8, .loc), (9, .loc), (10, .loc)] [] mixed (by kernel_rfl) ?_
          refine go_v rfl .none rfl (o_move rfl) ?_
          refine go_v rfl .none rfl (o_move rfl) ?_
          refine go_v rfl .none rfl (o_idxS rfl rfl (by first | assumption | omega)) ?_
          first | refine go_v rfl .none rfl (o_fldS rfl) ?_ | refine go_v rfl .none rfl (o_fld rfl) ?_
          refine go_v rfl .none rfl (o_loadS rfl (pl_0 hq2)) ?_
          refine go_v rfl .none rfl (o_move rfl) ?_
          refine go_v rfl .none rfl (o_move rfl) ?_
          refine go_v rfl .none rfl (o_idxS rfl rfl (by first | assumption | omega)) ?_
          first | refine go_v rfl .none rfl (o_fldS rfl) ?_ | refine go_v rfl .none rfl (o_fld rfl) ?_
          refine go_v rfl .none rfl (o_loadS rfl (pl_0 hq1)) ?_
          refine go_v rfl .none rfl (o_eql rfl rfl) ?_
          refine go_nil ?_
          refine ge_then ?_
          refine g_cond_false (by simp only [opv, slk]; exact congrArg (fun b => some (Value.bool b)) (decide_eq_false (fun e => held_ne hk hq2 hq1 (by omega) e))) ?_
          refine g_skip ?_
          refine ge_block ?_
          refine ge_then ?_
          refine g_region ?_
          refine gl_v rfl (o_move rfl) ?_
          refine gl_v rfl (o_addR _ (by first | exact wr_i64 (by omega) | rfl) rfl rfl) ?_
          refine gl_v rfl (o_assign rfl) ?_
          refine gl_nil ?_
          refine ge_round (k3 + 1) (show k3 + 1 ≤ _ by omega) (by omega) (Keep.cons rfl (Keep.cons rfl (Keep.cons rfl (Keep.cons rfl (Keep.cons rfl (Keep.cons rfl (Keep.cons rfl (Keep.cons rfl (Keep.nil))))))))) (To.sat (by repeat (first | exact .nil | exact .done .refl | (apply To.cons; · (first | exact .head | exact .tail .head | exact .tail (.tail .head) | exact .tail (.tail (.tail .head)) | exact .tail (.tail (.tail (.tail .head))) | exact .tail (.tail (.tail (.tail (.tail .head)))) | exact .tail (.tail (.tail (.tail (.tail (.tail .head))))) | exact .tail (.tail (.tail (.tail (.tail (.tail (.tail .head)))))))) | exact .done (by repeat (first | exact .refl | apply Drop.skip)))))
        ·
          first | replace hc8 := of_decide_eq_true hc8 | replace hc8 := lt_f hc8 | replace hc8 := le_f hc8 | replace hc8 := dec_f hc8 | replace hc8 := nlt_t hc8 | replace hc8 := nle_t hc8 | replace hc8 := ndec_t hc8 | replace hc8 := ndec_f hc8 | replace hc8 := nn_t hc8 | replace hc8 := nn_f hc8 | skip
          refine g_exit ?_
          refine ge_then_exit ?_
          refine ge_then_exit ?_
          refine ge_block_exit ?_
          refine ge_then ?_
          refine g_seq ?_
          refine g_draw [6] [(0, .loc), (1, .loc), (2, .loc), (3, .loc), (4, .loc), (5, .loc), (7, .stab), (8, .stab), (9, .stab), (10, .stab), (11, .stab), (6, .eff), (12, .loc), (13, .loc), (14, .loc), (15, .loc), (16, .loc), (17, .loc), (18, .loc), (19, .loc), (20, .loc), (21, .loc), (22, .loc), (23, .loc), (24, .loc), (25, .loc), (26, .loc), (27, .loc), (28, .loc)] [places (.slice a3 (held (rrC s k)).length c3) (held (rrC s k))] mixed (by kernel_rfl) ?_
          refine go_v rfl .none rfl (o_move rfl) ?_
          refine go_v rfl .none rfl (o_move rfl) ?_
          refine go_v rfl .none rfl (o_move rfl) ?_
          refine go_v rfl .none rfl (o_idxS rfl rfl (by first | assumption | omega)) ?_
          first | refine go_v rfl .none rfl (o_fldS rfl) ?_ | refine go_v rfl .none rfl (o_fld rfl) ?_
          refine go_v rfl .none rfl (o_loadS rfl (pl_0 hq1)) ?_
          refine go_vs rfl .none rfl (o_move rfl) (To.sat (by repeat (first | exact .nil | exact .done .refl | (apply To.cons; · (first | exact .head | exact .tail .head | exact .tail (.tail .head) | exact .tail (.tail (.tail .head)) | exact .tail (.tail (.tail (.tail .head))) | exact .tail (.tail (.tail (.tail (.tail .head)))) | exact .tail (.tail (.tail (.tail (.tail (.tail .head))))) | exact .tail (.tail (.tail (.tail (.tail (.tail (.tail .head)))))))) | exact .done (by repeat (first | exact .refl | apply Drop.skip))))) ?_
          refine go_vs rfl .none rfl (o_move rfl) (To.sat (by repeat (first | exact .nil | exact .done .refl | (apply To.cons; · (first | exact .head | exact .tail .head | exact .tail (.tail .head) | exact .tail (.tail (.tail .head)) | exact .tail (.tail (.tail (.tail .head))) | exact .tail (.tail (.tail (.tail (.tail .head)))) | exact .tail (.tail (.tail (.tail (.tail (.tail .head))))) | exact .tail (.tail (.tail (.tail (.tail (.tail (.tail .head)))))))) | exact .done (by repeat (first | exact .refl | apply Drop.skip))))) ?_
          refine go_vs rfl .none rfl (o_idxS rfl rfl (by first | assumption | omega)) (To.sat (by repeat (first | exact .nil | exact .done .refl | (apply To.cons; · (first | exact .head | exact .tail .head | exact .tail (.tail .head) | exact .tail (.tail (.tail .head)) | exact .tail (.tail (.tail (.tail .head))) | exact .tail (.tail (.tail (.tail (.tail .head)))) | exact .tail (.tail (.tail (.tail (.tail (.tail .head))))) | exact .tail (.tail (.tail (.tail (.tail (.tail (.tail .head)))))))) | exact .done (by repeat (first | exact .refl | apply Drop.skip))))) ?_
          first | refine go_vs rfl .none rfl (o_fldS rfl) (To.sat (by repeat (first | exact .nil | exact .done .refl | (apply To.cons; · (first | exact .head | exact .tail .head | exact .tail (.tail .head) | exact .tail (.tail (.tail .head)) | exact .tail (.tail (.tail (.tail .head))) | exact .tail (.tail (.tail (.tail (.tail .head)))) | exact .tail (.tail (.tail (.tail (.tail (.tail .head))))) | exact .tail (.tail (.tail (.tail (.tail (.tail (.tail .head)))))))) | exact .done (by repeat (first | exact .refl | apply Drop.skip))))) ?_ | refine go_vs rfl .none rfl (o_fld rfl) (To.sat (by repeat (first | exact .nil | exact .done .refl | (apply To.cons; · (first | exact .head | exact .tail .head | exact .tail (.tail .head) | exact .tail (.tail (.tail .head)) | exact .tail (.tail (.tail (.tail .head))) | exact .tail (.tail (.tail (.tail (.tail .head)))) | exact .tail (.tail (.tail (.tail (.tail (.tail .head))))) | exact .tail (.tail (.tail (.tail (.tail (.tail (.tail .head)))))))) | exact .done (by repeat (first | exact .refl | apply Drop.skip))))) ?_
          refine go_vs rfl .none rfl (o_loadS rfl (pl_1 hq1)) (To.sat (by repeat (first | exact .nil | exact .done .refl | (apply To.cons; · (first | exact .head | exact .tail .head | exact .tail (.tail .head) | exact .tail (.tail (.tail .head)) | exact .tail (.tail (.tail (.tail .head))) | exact .tail (.tail (.tail (.tail (.tail .head)))) | exact .tail (.tail (.tail (.tail (.tail (.tail .head))))) | exact .tail (.tail (.tail (.tail (.tail (.tail (.tail .head)))))))) | exact .done (by repeat (first | exact .refl | apply Drop.skip))))) ?_
          refine go_c rfl .none rfl (o_call rfl (Where_spec _ _ _) (by repeat (first | exact .nil | (apply Part.cons; · (first | exact .head | exact .tail .head | exact .tail (.tail .head) | exact .tail (.tail (.tail .head)) | exact .tail (.tail (.tail (.tail .head))) | exact .tail (.tail (.tail (.tail (.tail .head)))) | exact .tail (.tail (.tail (.tail (.tail (.tail .head))))) | exact .tail (.tail (.tail (.tail (.tail (.tail (.tail .head))))))))))) ?_
          rintro _ _ ⟨_, ⟨rfl, rfl⟩, rfl⟩
          simp only [List.cons_append, List.nil_append]
          refine ⟨(To.sat (by repeat (first | exact .nil | exact .done .refl | (apply To.cons; · (first | exact .head | exact .tail .head | exact .tail (.tail .head) | exact .tail (.tail (.tail .head)) | exact .tail (.tail (.tail (.tail .head))) | exact .tail (.tail (.tail (.tail (.tail .head)))) | exact .tail (.tail (.tail (.tail (.tail (.tail .head))))) | exact .tail (.tail (.tail (.tail (.tail (.tail (.tail .head)))))))) | exact .done (by repeat (first | exact .refl | apply Drop.skip))))), ?_⟩
          refine go_v rfl .none rfl (o_neq rfl rfl) ?_
          refine go_v rfl .none rfl (o_move rfl) ?_
          refine go_v rfl (.yes rfl rfl (by rw [hqh.1]; simp)) rfl (o_move rfl) ?_
          refine go_v rfl (.yes rfl rfl (by rw [hqh.1]; simp)) rfl (o_move rfl) ?_
          refine go_v rfl (.yes rfl rfl (by rw [hqh.1]; simp)) rfl (o_idxS rfl rfl (by first | assumption | omega)) ?_
          first | refine go_v rfl (.yes rfl rfl (by rw [hqh.1]; simp)) rfl (o_fldS rfl) ?_ | refine go_v rfl (.yes rfl rfl (by rw [hqh.1]; simp)) rfl (o_fld rfl) ?_
          refine go_v rfl (.yes rfl rfl (by rw [hqh.1]; simp)) rfl (o_loadS rfl (pl_1 hq1)) ?_
          refine go_v rfl (.yes rfl rfl (by rw [hqh.1]; simp)) rfl (o_lss rfl rfl) ?_
          refine go_v rfl .none rfl (o_pickF (by rw [hqh.1]; simp) rfl rfl) ?_
          refine go_v rfl .none rfl (o_move rfl) ?_
          refine go_v rfl (.yes rfl rfl (by simp; omega)) rfl (o_move rfl) ?_
          refine go_v rfl (.yes rfl rfl (by simp; omega)) rfl (o_move rfl) ?_
          refine go_v rfl (.yes rfl rfl (by simp; omega)) rfl (o_idxS rfl rfl (by first | assumption | omega)) ?_
          first | refine go_v rfl (.yes rfl rfl (by simp; omega)) rfl (o_fldS rfl) ?_ | refine go_v rfl (.yes rfl rfl (by simp; omega)) rfl (o_fld rfl) ?_
          refine go_v rfl (.yes rfl rfl (by simp; omega)) rfl (o_loadS rfl (pl_1 hq1)) ?_
          refine go_v rfl (.yes rfl rfl (by simp; omega)) rfl (o_gtr rfl rfl) ?_
          refine go_v rfl .none rfl (o_pickF (by simp; omega) rfl rfl) ?_
          refine go_nil ?_
          refine ge_then ?_
          refine g_cond_false ((by first | rfl | (simp [opv, slk, cntZ]; done) | (simp [opv, slk, cntZ]; omega))) ?_
          refine g_skip ?_
          refine ge_block ?_
          refine ge_then ?_
          refine g_region ?_
          refine gl_v rfl (o_move rfl) ?_
          refine gl_v rfl (o_addR _ (by first | exact wr_i64 (by omega) | rfl) rfl rfl) ?_
          refine gl_v rfl (o_assign rfl) ?_
          refine gl_nil ?_
          refine ge_round (k2 + 1) (show k2 + 1 ≤ _ by omega) (by omega) (Keep.cons rfl (Keep.cons rfl (Keep.cons rfl (Keep.cons rfl (Keep.cons rfl (Keep.cons rfl (Keep.cons rfl (Keep.nil)))))))) (To.sat (by repeat (first | exact .nil | exact .done .refl | (apply To.cons; · (first | exact .head | exact .tail .head | exact .tail (.tail .head) | exact .tail (.tail (.tail .head)) | exact .tail (.tail (.tail (.tail .head))) | exact .tail (.tail (.tail (.tail (.tail .head)))) | exact .tail (.tail (.tail (.tail (.tail (.tail .head))))) | exact .tail (.tail (.tail (.tail (.tail (.tail (.tail .head)))))))) | exact .done (by repeat (first | exact .refl | apply Drop.skip)))))
      ·
        first | replace hc7 := of_decide_eq_true hc7 | replace hc7 := lt_f hc7 | replace hc7 := le_f hc7 | replace hc7 := dec_f hc7 | replace hc7 := nlt_t hc7 | replace hc7 := nle_t hc7 | replace hc7 := ndec_t hc7 | replace hc7 := ndec_f hc7 | replace hc7 := nn_t hc7 | replace hc7 := nn_f hc7 | skip
        refine g_exit ?_
        refine ge_then_exit ?_
        refine ge_then_exit ?_
        refine ge_block_exit ?_
        refine ge_then ?_
        refine g_seq ?_
        refine g_region ?_
        refine gl_v rfl (o_move rfl) ?_
        refine gl_v rfl (o_move rfl) ?_
        refine gl_v rfl (o_eql rfl rfl) ?_
        refine gl_v rfl (o_move rfl) ?_
        refine gl_gT rfl rfl (by simp) ?_
        refine gl_v rfl (o_move rfl) ?_
        refine gl_gT rfl rfl (by simp) ?_
        refine gl_v rfl (o_move rfl) ?_
        refine gl_gT rfl rfl (by simp) ?_
        refine gl_v rfl (o_len rfl) ?_
        refine gl_gT rfl rfl (by simp) ?_
        refine gl_v rfl (o_eql rfl rfl) ?_
        refine gl_v rfl (o_pickT (by simp) rfl rfl) ?_
        refine gl_v rfl (o_assign rfl) ?_
        refine gl_nil ?_
        refine ge_then ?_
        refine g_ret ?_
        refine ret1 (.inl rfl) rfl rfl _ (⟨by simp, rfl⟩) (To.sat (by repeat (first | exact .nil | exact .done .refl | (apply To.cons; · (first | exact .head | exact .tail .head | exact .tail (.tail .head) | exact .tail (.tail (.tail .head)) | exact .tail (.tail (.tail (.tail .head))) | exact .tail (.tail (.tail (.tail (.tail .head)))) | exact .tail (.tail (.tail (.tail (.tail (.tail .head))))) | exact .tail (.tail (.tail (.tail (.tail (.tail (.tail .head)))))))) | exact .done (by repeat (first | exact .refl | apply Drop.skip)))))

end Go.Proofs.Ytdfmflccmnniaaa.L

