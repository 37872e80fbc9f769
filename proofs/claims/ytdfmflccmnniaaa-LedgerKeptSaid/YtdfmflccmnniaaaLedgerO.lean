/-
  The ledger's laws Once and Kept. Own work.
-/
import Derived.Test.YtdfmflccmnniaaaLedgerS
namespace Go.Proofs.Ytdfmflccmnniaaa.L
open Go.L Go.L.Led
def en (w : Int) : Int := if 7 ≤ w then 1 else 0
theorem en_le (w : Int) : en w ≤ 1 := by unfold en; split <;> omega
theorem en_pos (w : Int) : (0 < en w) ↔ 7 ≤ w := by unfold en; split <;> omega
theorem en_0 {w : Int} (h : ¬ 7 ≤ w) : en w = 0 := if_neg h
theorem en_1 {w : Int} (h : 7 ≤ w) : en w = 1 := if_pos h
theorem wh_put (r : List (Int × Int)) (id w j : Int) : wh (mput r id w) j = if j = id then w else wh r j := by
  unfold wh; rw [mget_mput]; split <;> rfl
theorem wh_snoc (r : List (Int × Int)) (id w j : Int) (h : mget r id = none) : wh (r ++ [(id, w)]) j = if j = id then w else wh r j := by
  rw [← mput_none h]; exact wh_put r id w j
theorem wh_from (r : List (Int × Int)) (id w j : Int) : wh (fromR r id w) j = if j = id ∧ fromE r id = 0 then w else wh r j := by
  unfold fromR fromE
  by_cases h : hl (wh r id) = true
  · simp only [h, if_true, and_true]; exact wh_put r id w j
  · simp [h]
/-- what a call that is done does; and that a refused one does nothing -/
theorem call_step {r : List (Int × Int)} (hk : ROk r) (q : Int × Int × Int) (h0 : 0 ≤ q.1) (he : callE r q = 0) :
    ¬ 7 ≤ wh r q.2.1 ∧ ((¬ q.1 % 4 = 0) ↔ 0 < wh r q.2.1) ∧ 0 < wh (callR r q) q.2.1 ∧ ((1 < q.1 % 4) ↔ 7 ≤ wh (callR r q) q.2.1) := by
  unfold callE at he; unfold callR
  by_cases c0 : q.1 % 4 = 0
  · rw [if_pos c0] at he ⊢
    unfold accE at he; unfold accR
    by_cases h1 : hl q.2.2 = true
    · rw [if_pos h1] at he
      by_cases h2 : wh r q.2.1 = 0
      · rw [if_pos ⟨h1, h2⟩, wh_snoc _ _ _ _ (hk.wh0.1 h2), if_pos rfl]
        have := hl_iff.1 h1; omega
      · rw [if_neg h2] at he; omega
    · rw [if_neg h1] at he; omega
  · rw [if_neg c0] at he ⊢
    by_cases c1 : q.1 % 4 = 1
    · rw [if_pos c1] at he ⊢
      unfold movE at he; unfold movR
      by_cases h1 : hl q.2.2 = true
      · rw [if_pos h1] at he ⊢
        have h3 : hl (wh r q.2.1) = true := by unfold fromE at he; split at he; assumption; omega
        rw [wh_from, if_pos ⟨rfl, he⟩]
        have := hl_iff.1 h1; have := hl_iff.1 h3; omega
      · rw [if_neg h1] at he; omega
    · rw [if_neg c1] at he ⊢
      have h3 : hl (wh r q.2.1) = true := by unfold fromE at he; split at he; assumption; omega
      have := hl_iff.1 h3
      split
      · rw [wh_from, if_pos ⟨rfl, he⟩]; omega
      · rw [wh_from, if_pos ⟨rfl, he⟩]; omega
theorem call_same {r : List (Int × Int)} (q : Int × Int × Int) (he : ¬ callE r q = 0) : callR r q = r := by
  unfold callE at he; unfold callR
  by_cases c0 : q.1 % 4 = 0
  · rw [if_pos c0] at he ⊢
    unfold accE at he; unfold accR
    by_cases h1 : hl q.2.2 = true
    · rw [if_pos h1] at he
      by_cases h2 : wh r q.2.1 = 0
      · rw [if_pos h2] at he; omega
      · rw [if_neg (fun h => h2 h.2)]
    · rw [if_neg (fun h => h1 h.1)]
  · rw [if_neg c0] at he ⊢
    have hf : ∀ j, ¬ fromE r q.2.1 = 0 → fromR r q.2.1 j = r := fun j h => by
      unfold fromE at h; unfold fromR; split at h
      · omega
      · rw [if_neg (by assumption)]
    by_cases c1 : q.1 % 4 = 1
    · rw [if_pos c1] at he ⊢
      unfold movE at he; unfold movR
      by_cases h1 : hl q.2.2 = true
      · rw [if_pos h1] at he ⊢; exact hf _ he
      · rw [if_neg h1]
    · rw [if_neg c1] at he ⊢
      split <;> exact hf _ he
theorem call_other {r : List (Int × Int)} (hk : ROk r) (q : Int × Int × Int) (id : Int) (h : ¬ q.2.1 = id) : wh (callR r q) id = wh r id := by
  by_cases he : callE r q = 0
  · have h' : ¬ id = q.2.1 := fun e => h e.symm
    unfold callE at he; unfold callR
    by_cases c0 : q.1 % 4 = 0
    · rw [if_pos c0] at he ⊢
      unfold accR
      split
      · rename_i h1; rw [wh_snoc _ _ _ _ (hk.wh0.1 h1.2), if_neg h']
      · rfl
    · rw [if_neg c0]
      have hf : ∀ j, wh (fromR r q.2.1 j) id = wh r id := fun j => by rw [wh_from, if_neg (fun x => h' x.1)]
      split
      · unfold movR; split; exact hf _; rfl
      · split <;> exact hf _
  · rw [call_same q he]

theorem once_spec (a : Option Addr) (c : Nat) (s : List (Int × Int × Int)) (hs : SOk s) (hs63 : s.length ≤ 9223372036854775807) (id : Int) (A : Assn) [RdA (.slice a s.length c) A s.length (s.flatMap oe)] : FnS Try.prog 4 [.slice a s.length c, U64 id] [A] (fun u Bs => u = .bool true ∧ Bs = [A]) := by
  refine fn_body Try.func4 rfl rfl rfl ?_
  intro W0 R
  simp only [List.zipIdx_cons, List.zipIdx_nil, List.map_cons, List.map_nil, Nat.zero_add, Nat.reduceAdd, List.cons_append, List.nil_append]
  refine g_seq ?_
  refine g_region ?_
  refine gl_v rfl (o_assign rfl) ?_
  refine gl_nil ?_
  refine ge_then ?_
  refine g_seq ?_
  refine g_seq ?_
  refine g_region ?_
  refine gl_c rfl (o_call rfl (alive_spec) (by repeat (first | exact .nil | (apply Part.cons; · (first | exact .head | exact .tail .head | exact .tail (.tail .head) | exact .tail (.tail (.tail .head)) | exact .tail (.tail (.tail (.tail .head))) | exact .tail (.tail (.tail (.tail (.tail .head)))) | exact .tail (.tail (.tail (.tail (.tail (.tail .head))))) | exact .tail (.tail (.tail (.tail (.tail (.tail (.tail .head))))))))))) ?_
  rintro _ _ ⟨_, ⟨rfl, rfl⟩, rfl⟩
  simp only [List.cons_append, List.nil_append]
  refine gl_v rfl (o_not rfl) ?_
  refine gl_nil ?_
  refine ge_then ?_
  refine g_cond_false (rfl) ?_
  refine g_skip ?_
  refine ge_then ?_
  refine g_seq ?_
  refine g_region ?_
  refine gl_c rfl (o_call rfl (New_spec) (by repeat (first | exact .nil | (apply Part.cons; · (first | exact .head | exact .tail .head | exact .tail (.tail .head) | exact .tail (.tail (.tail .head)) | exact .tail (.tail (.tail (.tail .head))) | exact .tail (.tail (.tail (.tail (.tail .head)))) | exact .tail (.tail (.tail (.tail (.tail (.tail .head))))) | exact .tail (.tail (.tail (.tail (.tail (.tail (.tail .head))))))))))) ?_
  rintro _ _ ⟨_, ⟨p, rfl, rfl⟩, rfl⟩
  simp only [List.cons_append, List.nil_append]
  refine gl_v rfl (o_assign rfl) ?_
  refine gl_nil ?_
  refine ge_then ?_
  refine g_seq ?_
  refine g_region ?_
  refine gl_v rfl (o_assign rfl) ?_
  refine gl_v rfl (o_assign rfl) ?_
  refine gl_nil ?_
  refine ge_then ?_
  refine g_seq ?_
  refine g_region ?_
  refine gl_v rfl (o_assign rfl) ?_
  refine gl_nil ?_
  refine ge_then ?_
  refine g_seq ?_
  refine g_seq ?_
  refine g_region ?_
  refine gl_v rfl (o_assign rfl) ?_
  refine gl_nil ?_
  refine ge_then ?_
  refine g_block ?_
  refine g_loop (ι := Nat) (fun x => x ≤ s.length ∧ x ≤ 400) (fun x => [(9, I64 x), (6, I64 (en (wh (rrC s x) id))), (7, I64 (wh (rrC s x) id)), (8, .bool (decide (0 < wh (rrC s x) id))), (5, ptr p 0), (1, U64 id), (0, .slice a s.length c)]) (fun x => ledger p (rrC s x) :: A :: R) (fun x => s.length - x) 0 (⟨Nat.zero_le _, Nat.zero_le _⟩) (Keep.cons rfl (Keep.cons rfl (Keep.cons rfl (Keep.cons rfl (Keep.cons rfl (Keep.cons rfl (Keep.cons rfl (Keep.nil)))))))) (To.sat (by repeat (first | exact .nil | exact .done .refl | (apply To.cons; · (first | exact .head | exact .tail .head | exact .tail (.tail .head) | exact .tail (.tail (.tail .head)) | exact .tail (.tail (.tail (.tail .head))) | exact .tail (.tail (.tail (.tail (.tail .head)))) | exact .tail (.tail (.tail (.tail (.tail (.tail .head))))) | exact .tail (.tail (.tail (.tail (.tail (.tail (.tail .head)))))))) | exact .done (by repeat (first | exact .refl | apply Drop.skip))))) ?_
  rintro k ⟨hk1, hk4⟩
  obtain ⟨hk, hrl⟩ := rrC_ok s k hk1
  have hr : (rrC s k).length ≤ 1000000 := by omega
  refine g_seq ?_
  refine g_seq ?_
  refine g_region ?_
  refine gl_v rfl (o_move rfl) ?_
  refine gl_v rfl (o_move rfl) ?_
  refine gl_v rfl (o_len rfl) ?_
  refine gl_v rfl (o_lss rfl rfl) ?_
  refine gl_v rfl (o_move rfl) ?_
  refine gl_g rfl rfl (fun hc1 => ?_) (fun hc1 => ?_) rfl
  ·
    have hc1' := hc1
    first | replace hc1' := of_decide_eq_true hc1' | replace hc1' := lt_f hc1' | replace hc1' := le_f hc1' | replace hc1' := dec_f hc1' | replace hc1' := nlt_t hc1' | replace hc1' := nle_t hc1' | replace hc1' := ndec_t hc1' | replace hc1' := ndec_f hc1' | replace hc1' := nn_t hc1' | replace hc1' := nn_f hc1' | skip
    refine gl_v rfl (o_move rfl) ?_
    refine gl_gT rfl rfl hc1 ?_
    refine gl_v rfl (o_lss rfl rfl) ?_
    refine gl_v rfl (o_pickT hc1 rfl rfl) ?_
    refine gl_nil ?_
    refine ge_then ?_
    refine g_cond rfl (fun hc2 => ?_) (fun hc2 => ?_)
    ·
      first | replace hc2 := of_decide_eq_true hc2 | replace hc2 := lt_f hc2 | replace hc2 := le_f hc2 | replace hc2 := dec_f hc2 | replace hc2 := nlt_t hc2 | replace hc2 := nle_t hc2 | replace hc2 := ndec_t hc2 | replace hc2 := ndec_f hc2 | replace hc2 := nn_t hc2 | replace hc2 := nn_f hc2 | skip
      obtain ⟨q, hq⟩ : ∃ q, s[k]? = some q := ⟨_, List.getElem?_eq_getElem (by omega)⟩
      have hq0 := (hs q (List.mem_of_getElem? hq)).1
      have h0 := flat_get oe 3 oe_len hq (j := 0) rfl
      have h1 := flat_get oe 3 oe_len hq (j := 1) rfl
      have h2 := flat_get oe 3 oe_len hq (j := 2) rfl
      refine g_skip ?_
      refine ge_then ?_
      refine g_seq ?_
      refine g_block ?_
      refine g_seq ?_
      refine g_region ?_
      refine gl_v rfl (o_move rfl) ?_
      refine gl_v rfl (o_move rfl) ?_
      refine gl_v rfl (o_idxS rfl rfl (by first | assumption | omega)) ?_
      refine gl_v rfl (o_loadSA rfl (flat_take oe 3 oe_len hq) rfl) ?_
      refine gl_n rfl (o_alloc) ?_
      rintro _ _ ⟨b10, rfl, rfl⟩
      first | refine gl_u (o_storeSA rfl rfl rfl rfl (by simp; omega) (by simp)) ?_ | refine gl_u (o_storeA rfl rfl rfl rfl rfl) ?_
      change GL _ _ _ _ _ _ (cel b10 _ (oe q) :: _) _
      refine gl_nil ?_
      refine ge_then ?_
      refine g_seq ?_
      refine g_region ?_
      refine gl_v rfl (o_move rfl) ?_
      first | refine gl_v rfl (o_loadSA rfl rfl rfl) ?_ | refine gl_v rfl (o_loadA rfl rfl rfl) ?_
      refine gl_c rfl (o_call rfl (call_spec _ _ q hq0 hr hk) (by repeat (first | exact .nil | (apply Part.cons; · (first | exact .head | exact .tail .head | exact .tail (.tail .head) | exact .tail (.tail (.tail .head)) | exact .tail (.tail (.tail (.tail .head))) | exact .tail (.tail (.tail (.tail (.tail .head)))) | exact .tail (.tail (.tail (.tail (.tail (.tail .head))))) | exact .tail (.tail (.tail (.tail (.tail (.tail (.tail .head))))))))))) ?_
      rintro _ _ ⟨_, ⟨rfl, rfl⟩, rfl⟩
      simp only [List.cons_append, List.nil_append]
      refine gl_v rfl (o_assign rfl) ?_
      refine gl_nil ?_
      refine ge_then ?_
      refine g_cut (fun act wo => (7 ≤ wh (rrC s k) id → wh (callR (rrC s k) q) id = wh (rrC s k) id) ∧ HasSl Try.f4.ntmps [(9, I64 k), (6, I64 (en (wh (callR (rrC s k) q) id))), (7, I64 (wh (rrC s k) id)), (8, .bool (decide (0 < wh (callR (rrC s k) q) id))), (5, ptr p 0), (1, U64 id), (0, .slice a s.length c)] act ∧ St W0 (ledger p (callR (rrC s k) q) :: A :: R) wo) ?_ ?_
      ·
        refine g_seq ?_
        refine g_region ?_
        first | refine gl_v rfl (o_fldS rfl) ?_ | refine gl_v rfl (o_fld rfl) ?_
        first | refine gl_v rfl (o_load rfl rfl) ?_ | refine gl_v rfl (o_loadS rfl rfl) ?_
        refine gl_v rfl (o_move rfl) ?_
        refine gl_v rfl (o_eql rfl rfl) ?_
        refine gl_v rfl (o_move rfl) ?_
        refine gl_g rfl rfl (fun hc3 => ?_) (fun hc3 => ?_) rfl
        ·
          have hc3' := hc3
          first | replace hc3' := of_decide_eq_true hc3' | replace hc3' := lt_f hc3' | replace hc3' := le_f hc3' | replace hc3' := dec_f hc3' | replace hc3' := nlt_t hc3' | replace hc3' := nle_t hc3' | replace hc3' := ndec_t hc3' | replace hc3' := ndec_f hc3' | replace hc3' := nn_t hc3' | replace hc3' := nn_f hc3' | skip
          refine gl_v rfl (o_move rfl) ?_
          refine gl_gT rfl rfl hc3 ?_
          refine gl_v rfl (o_eql rfl rfl) ?_
          refine gl_v rfl (o_pickT hc3 rfl rfl) ?_
          refine gl_nil ?_
          refine ge_then ?_
          refine g_cond rfl (fun hc4 => ?_) (fun hc4 => ?_)
          ·
            first | replace hc4 := of_decide_eq_true hc4 | replace hc4 := lt_f hc4 | replace hc4 := le_f hc4 | replace hc4 := dec_f hc4 | replace hc4 := nlt_t hc4 | replace hc4 := nle_t hc4 | replace hc4 := ndec_t hc4 | replace hc4 := ndec_f hc4 | replace hc4 := nn_t hc4 | replace hc4 := nn_f hc4 | skip
            obtain ⟨e1, e2, e3, e4⟩ := call_step hk q hq0 hc4
            rw [hc3'] at e1 e2 e3 e4
            have hen := en_0 e1
            refine g_seq ?_
            refine g_seq ?_
            refine g_region ?_
            refine gl_v rfl (o_move rfl) ?_
            refine gl_v rfl (o_gtr rfl rfl) ?_
            refine gl_v rfl (o_move rfl) ?_
            refine gl_gT rfl rfl (by rw [hen]; rfl) ?_
            first | refine gl_v rfl (o_fldS rfl) ?_ | refine gl_v rfl (o_fld rfl) ?_
            refine gl_gT rfl rfl (by rw [hen]; rfl) ?_
            first | refine gl_v rfl (o_load rfl rfl) ?_ | refine gl_v rfl (o_loadS rfl rfl) ?_
            refine gl_gT rfl rfl (by rw [hen]; rfl) ?_
            refine gl_v rfl (o_remR (q.1 % 4) (Int.tmod_eq_emod_of_nonneg hq0) rfl rfl (by decide)) ?_
            refine gl_gT rfl rfl (by rw [hen]; rfl) ?_
            refine gl_v rfl (o_neq rfl rfl) ?_
            refine gl_gT rfl rfl (by rw [hen]; rfl) ?_
            refine gl_v rfl (o_move rfl) ?_
            refine gl_gT rfl rfl (by rw [hen]; rfl) ?_
            refine gl_v rfl (o_neqb rfl rfl) ?_
            refine gl_v rfl (o_pickF (by rw [hen]; rfl) rfl rfl) ?_
            refine gl_nil ?_
            refine ge_then ?_
            refine g_cond_false (by have e5 : decide (0 < wh (rrC s k) id) = !decide (q.1 % 4 = 0) := (by simp [← e2]); simp [opv, slk, e5]) ?_
            refine g_skip ?_
            refine ge_then ?_
            refine g_seq ?_
            refine g_region ?_
            refine gl_v rfl (o_assign rfl) ?_
            refine gl_nil ?_
            refine ge_then ?_
            refine g_seq ?_
            refine g_region ?_
            first | refine gl_v rfl (o_fldS rfl) ?_ | refine gl_v rfl (o_fld rfl) ?_
            first | refine gl_v rfl (o_load rfl rfl) ?_ | refine gl_v rfl (o_loadS rfl rfl) ?_
            refine gl_v rfl (o_remR (q.1 % 4) (Int.tmod_eq_emod_of_nonneg hq0) rfl rfl (by decide)) ?_
            refine gl_v rfl (o_gtr rfl rfl) ?_
            refine gl_nil ?_
            refine ge_then ?_
            refine g_cond rfl (fun hc5 => ?_) (fun hc5 => ?_)
            ·
              first | replace hc5 := of_decide_eq_true hc5 | replace hc5 := lt_f hc5 | replace hc5 := le_f hc5 | replace hc5 := dec_f hc5 | replace hc5 := nlt_t hc5 | replace hc5 := nle_t hc5 | replace hc5 := ndec_t hc5 | replace hc5 := ndec_f hc5 | replace hc5 := nn_t hc5 | replace hc5 := nn_f hc5 | skip
              refine g_region ?_
              refine gl_v rfl (o_move rfl) ?_
              refine gl_v rfl (o_addR 1 (by rw [hen]; rfl) rfl rfl) ?_
              refine gl_v rfl (o_assign rfl) ?_
              refine gl_nil ?_
              exact fun act wo hsl st => ⟨fun h => absurd h e1, hsl.keep (Keep.cons rfl (Keep.cons (congrArg (fun x => some (I64 x)) (en_1 (e4.1 hc5)).symm) (Keep.cons rfl (Keep.cons (congrArg (fun b => some (Value.bool b)) (decide_eq_true e3).symm) (Keep.cons rfl (Keep.cons rfl (Keep.cons rfl Keep.nil))))))), st.imp (To.sat (by repeat (first | exact .nil | exact .done .refl | (apply To.cons; · (first | exact .head | exact .tail .head | exact .tail (.tail .head) | exact .tail (.tail (.tail .head)) | exact .tail (.tail (.tail (.tail .head))) | exact .tail (.tail (.tail (.tail (.tail .head)))) | exact .tail (.tail (.tail (.tail (.tail (.tail .head))))) | exact .tail (.tail (.tail (.tail (.tail (.tail (.tail .head)))))))) | exact .done (by repeat (first | exact .refl | apply Drop.skip)))))⟩
            ·
              first | replace hc5 := of_decide_eq_true hc5 | replace hc5 := lt_f hc5 | replace hc5 := le_f hc5 | replace hc5 := dec_f hc5 | replace hc5 := nlt_t hc5 | replace hc5 := nle_t hc5 | replace hc5 := ndec_t hc5 | replace hc5 := ndec_f hc5 | replace hc5 := nn_t hc5 | replace hc5 := nn_f hc5 | skip
              refine g_skip ?_
              exact fun act wo hsl st => ⟨fun h => absurd h e1, hsl.keep (Keep.cons rfl (Keep.cons (congrArg (fun x => some (I64 x)) (hen.trans (en_0 (fun h => by have := e4.2 h; omega)).symm)) (Keep.cons rfl (Keep.cons (congrArg (fun b => some (Value.bool b)) (decide_eq_true e3).symm) (Keep.cons rfl (Keep.cons rfl (Keep.cons rfl Keep.nil))))))), st.imp (To.sat (by repeat (first | exact .nil | exact .done .refl | (apply To.cons; · (first | exact .head | exact .tail .head | exact .tail (.tail .head) | exact .tail (.tail (.tail .head)) | exact .tail (.tail (.tail (.tail .head))) | exact .tail (.tail (.tail (.tail (.tail .head)))) | exact .tail (.tail (.tail (.tail (.tail (.tail .head))))) | exact .tail (.tail (.tail (.tail (.tail (.tail (.tail .head)))))))) | exact .done (by repeat (first | exact .refl | apply Drop.skip)))))⟩
          ·
            first | replace hc4 := of_decide_eq_true hc4 | replace hc4 := lt_f hc4 | replace hc4 := le_f hc4 | replace hc4 := dec_f hc4 | replace hc4 := nlt_t hc4 | replace hc4 := nle_t hc4 | replace hc4 := ndec_t hc4 | replace hc4 := ndec_f hc4 | replace hc4 := nn_t hc4 | replace hc4 := nn_f hc4 | skip
            refine g_skip ?_
            exact fun act wo hsl st => ⟨fun _ => by rw [call_same q hc4], hsl.keep (by rw [call_same q hc4]; exact (Keep.cons rfl (Keep.cons rfl (Keep.cons rfl (Keep.cons rfl (Keep.cons rfl (Keep.cons rfl (Keep.cons rfl (Keep.nil))))))))), st.imp (To.sat (by repeat (first | exact .nil | exact .done .refl | (apply To.cons; · (first | exact .head | exact .tail .head | exact .tail (.tail .head) | exact .tail (.tail (.tail .head)) | exact .tail (.tail (.tail (.tail .head))) | exact .tail (.tail (.tail (.tail (.tail .head)))) | exact .tail (.tail (.tail (.tail (.tail (.tail .head))))) | exact .tail (.tail (.tail (.tail (.tail (.tail (.tail .head)))))))) | exact .done (by repeat (first | exact .refl | apply Drop.skip)))))⟩
        ·
          have hc3' := hc3
          first | replace hc3' := of_decide_eq_true hc3' | replace hc3' := lt_f hc3' | replace hc3' := le_f hc3' | replace hc3' := dec_f hc3' | replace hc3' := nlt_t hc3' | replace hc3' := nle_t hc3' | replace hc3' := ndec_t hc3' | replace hc3' := ndec_f hc3' | replace hc3' := nn_t hc3' | replace hc3' := nn_f hc3' | skip
          simp only [putO]
          refine gl_gF rfl rfl hc3 rfl ?_
          refine gl_v rfl (o_pickF hc3 rfl rfl) ?_
          refine gl_nil ?_
          refine ge_then ?_
          refine g_cond_false rfl ?_
          refine g_skip ?_
          exact fun act wo hsl st => ⟨fun _ => call_other hk q id hc3', hsl.keep (by rw [call_other hk q id hc3']; exact (Keep.cons rfl (Keep.cons rfl (Keep.cons rfl (Keep.cons rfl (Keep.cons rfl (Keep.cons rfl (Keep.cons rfl (Keep.nil))))))))), st.imp (To.sat (by repeat (first | exact .nil | exact .done .refl | (apply To.cons; · (first | exact .head | exact .tail .head | exact .tail (.tail .head) | exact .tail (.tail (.tail .head)) | exact .tail (.tail (.tail (.tail .head))) | exact .tail (.tail (.tail (.tail (.tail .head)))) | exact .tail (.tail (.tail (.tail (.tail (.tail .head))))) | exact .tail (.tail (.tail (.tail (.tail (.tail (.tail .head)))))))) | exact .done (by repeat (first | exact .refl | apply Drop.skip)))))⟩
      ·
        rintro act wo ⟨hun, hsl, st⟩
        refine g_of ?_ hsl st
        clear hsl st act wo
        refine g_cut (fun act wo =>  HasSl Try.f4.ntmps [(9, I64 k), (6, I64 (en (wh (callR (rrC s k) q) id))), (7, I64 (wh (rrC s k) id)), (8, .bool (decide (0 < wh (callR (rrC s k) q) id))), (5, ptr p 0), (1, U64 id), (0, .slice a s.length c)] act ∧ St W0 (ledger p (callR (rrC s k) q) :: A :: R) wo) ?_ ?_
        ·
          refine g_seq ?_
          refine g_region ?_
          refine gl_v rfl (o_move rfl) ?_
          refine gl_v rfl (o_gtr rfl rfl) ?_
          refine gl_v rfl (o_move rfl) ?_
          refine gl_g rfl rfl (fun hc6 => ?_) (fun hc6 => ?_) rfl
          ·
            have hc6' := hc6
            first | replace hc6' := of_decide_eq_true hc6' | replace hc6' := lt_f hc6' | replace hc6' := le_f hc6' | replace hc6' := dec_f hc6' | replace hc6' := nlt_t hc6' | replace hc6' := nle_t hc6' | replace hc6' := ndec_t hc6' | replace hc6' := ndec_f hc6' | replace hc6' := nn_t hc6' | replace hc6' := nn_f hc6' | skip
            refine gl_v rfl (o_move rfl) ?_
            refine gl_gT rfl rfl hc6 ?_
            refine gl_v rfl (o_geq rfl rfl) ?_
            refine gl_v rfl (o_pickT hc6 rfl rfl) ?_
            refine gl_v rfl (o_move rfl) ?_
            refine gl_g rfl rfl (fun hc7 => ?_) (fun hc7 => ?_) rfl
            ·
              have hc7' := hc7
              first | replace hc7' := of_decide_eq_true hc7' | replace hc7' := lt_f hc7' | replace hc7' := le_f hc7' | replace hc7' := dec_f hc7' | replace hc7' := nlt_t hc7' | replace hc7' := nle_t hc7' | replace hc7' := ndec_t hc7' | replace hc7' := ndec_f hc7' | replace hc7' := nn_t hc7' | replace hc7' := nn_f hc7' | skip
              refine gl_v rfl (o_move rfl) ?_
              refine gl_gT rfl rfl hc7 ?_
              refine gl_v rfl (o_move rfl) ?_
              refine gl_gT rfl rfl hc7 ?_
              refine gl_c rfl (o_call rfl (Where_spec _ _ _) (by repeat (first | exact .nil | (apply Part.cons; · (first | exact .head | exact .tail .head | exact .tail (.tail .head) | exact .tail (.tail (.tail .head)) | exact .tail (.tail (.tail (.tail .head))) | exact .tail (.tail (.tail (.tail (.tail .head)))) | exact .tail (.tail (.tail (.tail (.tail (.tail .head))))) | exact .tail (.tail (.tail (.tail (.tail (.tail (.tail .head))))))))))) ?_
              rintro _ _ ⟨_, ⟨rfl, rfl⟩, rfl⟩
              simp only [List.cons_append, List.nil_append]
              refine gl_gT rfl rfl hc7 ?_
              refine gl_v rfl (o_move rfl) ?_
              refine gl_gT rfl rfl hc7 ?_
              refine gl_v rfl (o_neq rfl rfl) ?_
              refine gl_v rfl (o_pickT hc7 rfl rfl) ?_
              refine gl_nil ?_
              refine ge_then ?_
              refine g_cond_false (by rw [hun (by omega)]; simp [opv, slk]) ?_
              refine g_skip ?_
              exact fun act wo hsl st => ⟨hsl.keep (Keep.cons rfl (Keep.cons rfl (Keep.cons rfl (Keep.cons rfl (Keep.cons rfl (Keep.cons rfl (Keep.cons rfl (Keep.nil)))))))), st.imp (To.sat (by repeat (first | exact .nil | exact .done .refl | (apply To.cons; · (first | exact .head | exact .tail .head | exact .tail (.tail .head) | exact .tail (.tail (.tail .head)) | exact .tail (.tail (.tail (.tail .head))) | exact .tail (.tail (.tail (.tail (.tail .head)))) | exact .tail (.tail (.tail (.tail (.tail (.tail .head))))) | exact .tail (.tail (.tail (.tail (.tail (.tail (.tail .head)))))))) | exact .done (by repeat (first | exact .refl | apply Drop.skip)))))⟩
            ·
              have hc7' := hc7
              first | replace hc7' := of_decide_eq_true hc7' | replace hc7' := lt_f hc7' | replace hc7' := le_f hc7' | replace hc7' := dec_f hc7' | replace hc7' := nlt_t hc7' | replace hc7' := nle_t hc7' | replace hc7' := ndec_t hc7' | replace hc7' := ndec_f hc7' | replace hc7' := nn_t hc7' | replace hc7' := nn_f hc7' | skip
              simp only [putO]
              refine gl_gF rfl rfl hc7 rfl ?_
              refine gl_gF rfl rfl hc7 rfl ?_
              refine gl_gF rfl rfl hc7 rfl ?_
              refine gl_gF rfl rfl hc7 rfl ?_
              refine gl_v rfl (o_pickF hc7 rfl rfl) ?_
              refine gl_nil ?_
              refine ge_then ?_
              refine g_cond_false rfl ?_
              refine g_skip ?_
              exact fun act wo hsl st => ⟨hsl.keep (Keep.cons rfl (Keep.cons rfl (Keep.cons rfl (Keep.cons rfl (Keep.cons rfl (Keep.cons rfl (Keep.cons rfl (Keep.nil)))))))), st.imp (To.sat (by repeat (first | exact .nil | exact .done .refl | (apply To.cons; · (first | exact .head | exact .tail .head | exact .tail (.tail .head) | exact .tail (.tail (.tail .head)) | exact .tail (.tail (.tail (.tail .head))) | exact .tail (.tail (.tail (.tail (.tail .head)))) | exact .tail (.tail (.tail (.tail (.tail (.tail .head))))) | exact .tail (.tail (.tail (.tail (.tail (.tail (.tail .head)))))))) | exact .done (by repeat (first | exact .refl | apply Drop.skip)))))⟩
          ·
            have hc6' := hc6
            first | replace hc6' := of_decide_eq_true hc6' | replace hc6' := lt_f hc6' | replace hc6' := le_f hc6' | replace hc6' := dec_f hc6' | replace hc6' := nlt_t hc6' | replace hc6' := nle_t hc6' | replace hc6' := ndec_t hc6' | replace hc6' := ndec_f hc6' | replace hc6' := nn_t hc6' | replace hc6' := nn_f hc6' | skip
            simp only [putO]
            refine gl_gF rfl rfl hc6 rfl ?_
            refine gl_v rfl (o_pickF hc6 rfl rfl) ?_
            refine gl_v rfl (o_move rfl) ?_
            refine gl_gF rfl rfl rfl rfl ?_
            refine gl_gF rfl rfl rfl rfl ?_
            refine gl_gF rfl rfl rfl rfl ?_
            refine gl_gF rfl rfl rfl rfl ?_
            refine gl_gF rfl rfl rfl rfl ?_
            refine gl_v rfl (o_pickF rfl rfl rfl) ?_
            refine gl_nil ?_
            refine ge_then ?_
            refine g_cond_false rfl ?_
            refine g_skip ?_
            exact fun act wo hsl st => ⟨hsl.keep (Keep.cons rfl (Keep.cons rfl (Keep.cons rfl (Keep.cons rfl (Keep.cons rfl (Keep.cons rfl (Keep.cons rfl (Keep.nil)))))))), st.imp (To.sat (by repeat (first | exact .nil | exact .done .refl | (apply To.cons; · (first | exact .head | exact .tail .head | exact .tail (.tail .head) | exact .tail (.tail (.tail .head)) | exact .tail (.tail (.tail (.tail .head))) | exact .tail (.tail (.tail (.tail (.tail .head)))) | exact .tail (.tail (.tail (.tail (.tail (.tail .head))))) | exact .tail (.tail (.tail (.tail (.tail (.tail (.tail .head)))))))) | exact .done (by repeat (first | exact .refl | apply Drop.skip)))))⟩
        ·
          rintro act wo ⟨hsl, st⟩
          refine g_of ?_ hsl st
          clear hsl st act wo
          refine g_seq ?_
          refine g_region ?_
          refine gl_v rfl (o_move rfl) ?_
          refine gl_v rfl (o_move rfl) ?_
          refine gl_c rfl (o_call rfl (Where_spec _ _ _) (by repeat (first | exact .nil | (apply Part.cons; · (first | exact .head | exact .tail .head | exact .tail (.tail .head) | exact .tail (.tail (.tail .head)) | exact .tail (.tail (.tail (.tail .head))) | exact .tail (.tail (.tail (.tail (.tail .head)))) | exact .tail (.tail (.tail (.tail (.tail (.tail .head))))) | exact .tail (.tail (.tail (.tail (.tail (.tail (.tail .head))))))))))) ?_
          rintro _ _ ⟨_, ⟨rfl, rfl⟩, rfl⟩
          simp only [List.cons_append, List.nil_append]
          refine gl_v rfl (o_assign rfl) ?_
          refine gl_nil ?_
          refine ge_then ?_
          refine g_seq ?_
          refine g_region ?_
          refine gl_v rfl (o_move rfl) ?_
          refine gl_v rfl (o_geq rfl rfl) ?_
          refine gl_v rfl (o_move rfl) ?_
          refine gl_v rfl (o_gtr rfl rfl) ?_
          refine gl_v rfl (o_neqb rfl rfl) ?_
          refine gl_v rfl (o_move rfl) ?_
          refine gl_gT rfl rfl (by have := en_pos (wh (callR (rrC s k) q) id); by_cases h7 : 7 ≤ wh (callR (rrC s k) q) id <;> simp [h7, this]) ?_
          refine gl_v rfl (o_move rfl) ?_
          refine gl_gT rfl rfl (by have := en_pos (wh (callR (rrC s k) q) id); by_cases h7 : 7 ≤ wh (callR (rrC s k) q) id <;> simp [h7, this]) ?_
          refine gl_v rfl (o_gtr rfl rfl) ?_
          refine gl_gT rfl rfl (by have := en_pos (wh (callR (rrC s k) q) id); by_cases h7 : 7 ≤ wh (callR (rrC s k) q) id <;> simp [h7, this]) ?_
          refine gl_v rfl (o_move rfl) ?_
          refine gl_gT rfl rfl (by have := en_pos (wh (callR (rrC s k) q) id); by_cases h7 : 7 ≤ wh (callR (rrC s k) q) id <;> simp [h7, this]) ?_
          refine gl_v rfl (o_neqb rfl rfl) ?_
          refine gl_v rfl (o_pickF (by have := en_pos (wh (callR (rrC s k) q) id); by_cases h7 : 7 ≤ wh (callR (rrC s k) q) id <;> simp [h7, this]) rfl rfl) ?_
          refine gl_nil ?_
          refine ge_then ?_
          refine g_cond_false (by simp [opv, slk]) ?_
          refine g_skip ?_
          refine ge_block ?_
          refine ge_then ?_
          refine g_region ?_
          refine gl_v rfl (o_move rfl) ?_
          refine gl_v rfl (o_addR _ (by first | exact wr_i64 (by omega) | rfl) rfl rfl) ?_
          refine gl_v rfl (o_assign rfl) ?_
          refine gl_nil ?_
          refine ge_round (k + 1) ⟨by omega, by omega⟩ (by omega) (by rw [rrC_succ hq]; exact (Keep.cons rfl (Keep.cons rfl (Keep.cons rfl (Keep.cons rfl (Keep.cons rfl (Keep.cons rfl (Keep.cons rfl (Keep.nil))))))))) (by rw [rrC_succ hq]; exact (To.sat (by repeat (first | exact .nil | exact .done .refl | (apply To.cons; · (first | exact .head | exact .tail .head | exact .tail (.tail .head) | exact .tail (.tail (.tail .head)) | exact .tail (.tail (.tail (.tail .head))) | exact .tail (.tail (.tail (.tail (.tail .head)))) | exact .tail (.tail (.tail (.tail (.tail (.tail .head))))) | exact .tail (.tail (.tail (.tail (.tail (.tail (.tail .head)))))))) | exact .done (by repeat (first | exact .refl | apply Drop.skip))))))
    ·
      first | replace hc2 := of_decide_eq_true hc2 | replace hc2 := lt_f hc2 | replace hc2 := le_f hc2 | replace hc2 := dec_f hc2 | replace hc2 := nlt_t hc2 | replace hc2 := nle_t hc2 | replace hc2 := ndec_t hc2 | replace hc2 := ndec_f hc2 | replace hc2 := nn_t hc2 | replace hc2 := nn_f hc2 | skip
      refine g_exit ?_
      refine ge_then_exit ?_
      refine ge_then_exit ?_
      refine ge_block_exit ?_
      refine ge_then ?_
      refine g_seq ?_
      refine g_region ?_
      refine gl_v rfl (o_move rfl) ?_
      refine gl_v rfl (o_leq rfl rfl) ?_
      refine gl_v rfl (o_assign rfl) ?_
      refine gl_nil ?_
      refine ge_then ?_
      refine g_ret ?_
      refine ret1 (.inl rfl) rfl rfl _ (⟨by rw [decide_eq_true (en_le _)], rfl⟩) (To.sat (by repeat (first | exact .nil | exact .done .refl | (apply To.cons; · (first | exact .head | exact .tail .head | exact .tail (.tail .head) | exact .tail (.tail (.tail .head)) | exact .tail (.tail (.tail (.tail .head))) | exact .tail (.tail (.tail (.tail (.tail .head)))) | exact .tail (.tail (.tail (.tail (.tail (.tail .head))))) | exact .tail (.tail (.tail (.tail (.tail (.tail (.tail .head)))))))) | exact .done (by repeat (first | exact .refl | apply Drop.skip)))))
  ·
    have hc1' := hc1
    first | replace hc1' := of_decide_eq_true hc1' | replace hc1' := lt_f hc1' | replace hc1' := le_f hc1' | replace hc1' := dec_f hc1' | replace hc1' := nlt_t hc1' | replace hc1' := nle_t hc1' | replace hc1' := ndec_t hc1' | replace hc1' := ndec_f hc1' | replace hc1' := nn_t hc1' | replace hc1' := nn_f hc1' | skip
    simp only [putO]
    refine gl_gF rfl rfl hc1 rfl ?_
    refine gl_v rfl (o_pickF hc1 rfl rfl) ?_
    refine gl_nil ?_
    refine ge_then ?_
    refine g_cond_false rfl ?_
    refine g_exit ?_
    refine ge_then_exit ?_
    refine ge_then_exit ?_
    refine ge_block_exit ?_
    refine ge_then ?_
    refine g_seq ?_
    refine g_region ?_
    refine gl_v rfl (o_move rfl) ?_
    refine gl_v rfl (o_leq rfl rfl) ?_
    refine gl_v rfl (o_assign rfl) ?_
    refine gl_nil ?_
    refine ge_then ?_
    refine g_ret ?_
    refine ret1 (.inl rfl) rfl rfl _ (⟨by rw [decide_eq_true (en_le _)], rfl⟩) (To.sat (by repeat (first | exact .nil | exact .done .refl | (apply To.cons; · (first | exact .head | exact .tail .head | exact .tail (.tail .head) | exact .tail (.tail (.tail .head)) | exact .tail (.tail (.tail (.tail .head))) | exact .tail (.tail (.tail (.tail (.tail .head)))) | exact .tail (.tail (.tail (.tail (.tail (.tail .head))))) | exact .tail (.tail (.tail (.tail (.tail (.tail (.tail .head)))))))) | exact .done (by repeat (first | exact .refl | apply Drop.skip)))))

theorem kept_spec (a : Option Addr) (c : Nat) (s : List (Int × Int × Int)) (hs : SOk s) (hs63 : s.length ≤ 9223372036854775807) (o : Int × Int × Int) (ho0 : 0 ≤ o.1) (A : Assn) [RdA (.slice a s.length c) A s.length (s.flatMap oe)] : FnS Try.prog 6 [.slice a s.length c, .agg (oe o).toArray] [A] (fun u Bs => u = .bool true ∧ Bs = [A]) := by
  refine fn_body Try.func6 rfl rfl rfl ?_
  intro W0 R
  simp only [List.zipIdx_cons, List.zipIdx_nil, List.map_cons, List.map_nil, Nat.zero_add, Nat.reduceAdd, List.cons_append, List.nil_append]
  refine g_seq ?_
  refine g_region ?_
  refine gl_n rfl (o_boxA rfl) ?_
  rintro _ _ ⟨b3, rfl, rfl⟩
  refine gl_v rfl (o_assign rfl) ?_
  refine gl_nil ?_
  refine ge_then ?_
  refine g_seq ?_
  refine g_seq ?_
  refine g_region ?_
  refine gl_c rfl (o_call rfl (alive_spec) (by repeat (first | exact .nil | (apply Part.cons; · (first | exact .head | exact .tail .head | exact .tail (.tail .head) | exact .tail (.tail (.tail .head)) | exact .tail (.tail (.tail (.tail .head))) | exact .tail (.tail (.tail (.tail (.tail .head)))) | exact .tail (.tail (.tail (.tail (.tail (.tail .head))))) | exact .tail (.tail (.tail (.tail (.tail (.tail (.tail .head))))))))))) ?_
  rintro _ _ ⟨_, ⟨rfl, rfl⟩, rfl⟩
  simp only [List.cons_append, List.nil_append]
  refine gl_v rfl (o_not rfl) ?_
  refine gl_nil ?_
  refine ge_then ?_
  refine g_cond_false (rfl) ?_
  refine g_skip ?_
  refine ge_then ?_
  refine g_seq ?_
  refine g_region ?_
  refine gl_c rfl (o_call rfl (New_spec) (by repeat (first | exact .nil | (apply Part.cons; · (first | exact .head | exact .tail .head | exact .tail (.tail .head) | exact .tail (.tail (.tail .head)) | exact .tail (.tail (.tail (.tail .head))) | exact .tail (.tail (.tail (.tail (.tail .head)))) | exact .tail (.tail (.tail (.tail (.tail (.tail .head))))) | exact .tail (.tail (.tail (.tail (.tail (.tail (.tail .head))))))))))) ?_
  rintro _ _ ⟨_, ⟨p, rfl, rfl⟩, rfl⟩
  simp only [List.cons_append, List.nil_append]
  refine gl_v rfl (o_assign rfl) ?_
  refine gl_nil ?_
  refine ge_then ?_
  refine g_cut (fun act wo => ∃ k, k ≤ s.length ∧ k ≤ 300 ∧ HasSl Try.f6.ntmps [(5, ptr p 0), (3, ptr b3 0), (0, .slice a s.length c)] act ∧ St W0 (ledger p (rrC s k) :: cel b3 31 (oe o) :: A :: R) wo) ?_ ?_
  ·
    refine g_seq ?_
    refine g_region ?_
    refine gl_v rfl (o_assign rfl) ?_
    refine gl_nil ?_
    refine ge_then ?_
    refine g_block ?_
    refine g_loop (ι := Nat) (fun x => x ≤ s.length ∧ x ≤ 300) (fun x => [(6, I64 x), (5, ptr p 0), (3, ptr b3 0), (0, .slice a s.length c)]) (fun x => ledger p (rrC s x) :: cel b3 31 (oe o) :: A :: R) (fun x => s.length - x) 0 (⟨Nat.zero_le _, Nat.zero_le _⟩) (Keep.cons rfl (Keep.cons rfl (Keep.cons rfl (Keep.cons rfl (Keep.nil))))) (To.sat (by repeat (first | exact .nil | exact .done .refl | (apply To.cons; · (first | exact .head | exact .tail .head | exact .tail (.tail .head) | exact .tail (.tail (.tail .head)) | exact .tail (.tail (.tail (.tail .head))) | exact .tail (.tail (.tail (.tail (.tail .head)))) | exact .tail (.tail (.tail (.tail (.tail (.tail .head))))) | exact .tail (.tail (.tail (.tail (.tail (.tail (.tail .head)))))))) | exact .done (by repeat (first | exact .refl | apply Drop.skip))))) ?_
    rintro k ⟨hk1, hk4⟩
    obtain ⟨hk, hrl⟩ := rrC_ok s k hk1
    have hr : (rrC s k).length ≤ 1000000 := by omega
    refine g_seq ?_
    refine g_seq ?_
    refine g_region ?_
    refine gl_v rfl (o_move rfl) ?_
    refine gl_v rfl (o_move rfl) ?_
    refine gl_v rfl (o_len rfl) ?_
    refine gl_v rfl (o_lss rfl rfl) ?_
    refine gl_v rfl (o_move rfl) ?_
    refine gl_g rfl rfl (fun hc1 => ?_) (fun hc1 => ?_) rfl
    ·
      have hc1' := hc1
      first | replace hc1' := of_decide_eq_true hc1' | replace hc1' := lt_f hc1' | replace hc1' := le_f hc1' | replace hc1' := dec_f hc1' | replace hc1' := nlt_t hc1' | replace hc1' := nle_t hc1' | replace hc1' := ndec_t hc1' | replace hc1' := ndec_f hc1' | replace hc1' := nn_t hc1' | replace hc1' := nn_f hc1' | skip
      refine gl_v rfl (o_move rfl) ?_
      refine gl_gT rfl rfl hc1 ?_
      refine gl_v rfl (o_lss rfl rfl) ?_
      refine gl_v rfl (o_pickT hc1 rfl rfl) ?_
      refine gl_nil ?_
      refine ge_then ?_
      refine g_cond rfl (fun hc2 => ?_) (fun hc2 => ?_)
      ·
        first | replace hc2 := of_decide_eq_true hc2 | replace hc2 := lt_f hc2 | replace hc2 := le_f hc2 | replace hc2 := dec_f hc2 | replace hc2 := nlt_t hc2 | replace hc2 := nle_t hc2 | replace hc2 := ndec_t hc2 | replace hc2 := ndec_f hc2 | replace hc2 := nn_t hc2 | replace hc2 := nn_f hc2 | skip
        obtain ⟨q, hq⟩ : ∃ q, s[k]? = some q := ⟨_, List.getElem?_eq_getElem (by omega)⟩
        have hq0 := (hs q (List.mem_of_getElem? hq)).1
        have h0 := flat_get oe 3 oe_len hq (j := 0) rfl
        have h1 := flat_get oe 3 oe_len hq (j := 1) rfl
        have h2 := flat_get oe 3 oe_len hq (j := 2) rfl
        refine g_skip ?_
        refine ge_then ?_
        refine g_seq ?_
        refine g_block ?_
        refine g_region ?_
        refine gl_v rfl (o_move rfl) ?_
        refine gl_v rfl (o_move rfl) ?_
        refine gl_v rfl (o_move rfl) ?_
        refine gl_v rfl (o_idxS rfl rfl (by first | assumption | omega)) ?_
        refine gl_v rfl (o_loadSA rfl (flat_take oe 3 oe_len hq) rfl) ?_
        refine gl_c rfl (o_call rfl (call_spec _ _ q hq0 hr hk) (by repeat (first | exact .nil | (apply Part.cons; · (first | exact .head | exact .tail .head | exact .tail (.tail .head) | exact .tail (.tail (.tail .head)) | exact .tail (.tail (.tail (.tail .head))) | exact .tail (.tail (.tail (.tail (.tail .head)))) | exact .tail (.tail (.tail (.tail (.tail (.tail .head))))) | exact .tail (.tail (.tail (.tail (.tail (.tail (.tail .head))))))))))) ?_
        rintro _ _ ⟨_, ⟨rfl, rfl⟩, rfl⟩
        simp only [List.cons_append, List.nil_append]
        refine gl_nil ?_
        refine ge_block ?_
        refine ge_then ?_
        refine g_region ?_
        refine gl_v rfl (o_move rfl) ?_
        refine gl_v rfl (o_addR _ (by first | exact wr_i64 (by omega) | rfl) rfl rfl) ?_
        refine gl_v rfl (o_assign rfl) ?_
        refine gl_nil ?_
        refine ge_round (k + 1) ⟨by omega, by omega⟩ (by omega) (Keep.cons rfl (Keep.cons rfl (Keep.cons rfl (Keep.cons rfl (Keep.nil))))) (by rw [rrC_succ hq]; exact (To.sat (by repeat (first | exact .nil | exact .done .refl | (apply To.cons; · (first | exact .head | exact .tail .head | exact .tail (.tail .head) | exact .tail (.tail (.tail .head)) | exact .tail (.tail (.tail (.tail .head))) | exact .tail (.tail (.tail (.tail (.tail .head)))) | exact .tail (.tail (.tail (.tail (.tail (.tail .head))))) | exact .tail (.tail (.tail (.tail (.tail (.tail (.tail .head)))))))) | exact .done (by repeat (first | exact .refl | apply Drop.skip))))))
      ·
        first | replace hc2 := of_decide_eq_true hc2 | replace hc2 := lt_f hc2 | replace hc2 := le_f hc2 | replace hc2 := dec_f hc2 | replace hc2 := nlt_t hc2 | replace hc2 := nle_t hc2 | replace hc2 := ndec_t hc2 | replace hc2 := ndec_f hc2 | replace hc2 := nn_t hc2 | replace hc2 := nn_f hc2 | skip
        refine g_exit ?_
        refine ge_then_exit ?_
        refine ge_then_exit ?_
        refine ge_block_exit ?_
        exact fun act wo hsl st => ⟨k, hk1, hk4, hsl.keep (Keep.cons rfl (Keep.cons rfl (Keep.cons rfl (Keep.nil)))), st.imp (To.sat (by repeat (first | exact .nil | exact .done .refl | (apply To.cons; · (first | exact .head | exact .tail .head | exact .tail (.tail .head) | exact .tail (.tail (.tail .head)) | exact .tail (.tail (.tail (.tail .head))) | exact .tail (.tail (.tail (.tail (.tail .head)))) | exact .tail (.tail (.tail (.tail (.tail (.tail .head))))) | exact .tail (.tail (.tail (.tail (.tail (.tail (.tail .head)))))))) | exact .done (by repeat (first | exact .refl | apply Drop.skip)))))⟩
    ·
      have hc1' := hc1
      first | replace hc1' := of_decide_eq_true hc1' | replace hc1' := lt_f hc1' | replace hc1' := le_f hc1' | replace hc1' := dec_f hc1' | replace hc1' := nlt_t hc1' | replace hc1' := nle_t hc1' | replace hc1' := ndec_t hc1' | replace hc1' := ndec_f hc1' | replace hc1' := nn_t hc1' | replace hc1' := nn_f hc1' | skip
      simp only [putO]
      refine gl_gF rfl rfl hc1 rfl ?_
      refine gl_v rfl (o_pickF hc1 rfl rfl) ?_
      refine gl_nil ?_
      refine ge_then ?_
      refine g_cond_false rfl ?_
      refine g_exit ?_
      refine ge_then_exit ?_
      refine ge_then_exit ?_
      refine ge_block_exit ?_
      exact fun act wo hsl st => ⟨k, hk1, hk4, hsl.keep (Keep.cons rfl (Keep.cons rfl (Keep.cons rfl (Keep.nil)))), st.imp (To.sat (by repeat (first | exact .nil | exact .done .refl | (apply To.cons; · (first | exact .head | exact .tail .head | exact .tail (.tail .head) | exact .tail (.tail (.tail .head)) | exact .tail (.tail (.tail (.tail .head))) | exact .tail (.tail (.tail (.tail (.tail .head)))) | exact .tail (.tail (.tail (.tail (.tail (.tail .head))))) | exact .tail (.tail (.tail (.tail (.tail (.tail (.tail .head)))))))) | exact .done (by repeat (first | exact .refl | apply Drop.skip)))))⟩
  ·
    rintro act wo ⟨k, hk1, hk4, hsl, st⟩
    refine g_of ?_ hsl st
    clear hsl st act wo
    obtain ⟨hk, hrl⟩ := rrC_ok s k hk1
    have hr : (rrC s k).length ≤ 1000000 := by omega
    refine g_seq ?_
    refine g_draw [1, 5] [(0, .loc), (2, .stab), (3, .stab), (4, .stab), (1, .eff), (5, .eff), (6, .loc), (7, .loc)] [cel b3 31 (oe o)] mixed (by kernel_rfl) ?_
    refine go_v rfl .none rfl (o_move rfl) ?_
    refine go_vs rfl .none rfl (o_move rfl) (To.sat (by repeat (first | exact .nil | exact .done .refl | (apply To.cons; · (first | exact .head | exact .tail .head | exact .tail (.tail .head) | exact .tail (.tail (.tail .head)) | exact .tail (.tail (.tail (.tail .head))) | exact .tail (.tail (.tail (.tail (.tail .head)))) | exact .tail (.tail (.tail (.tail (.tail (.tail .head))))) | exact .tail (.tail (.tail (.tail (.tail (.tail (.tail .head)))))))) | exact .done (by repeat (first | exact .refl | apply Drop.skip))))) ?_
    first | refine go_vs rfl .none rfl (o_fldS rfl) (To.sat (by repeat (first | exact .nil | exact .done .refl | (apply To.cons; · (first | exact .head | exact .tail .head | exact .tail (.tail .head) | exact .tail (.tail (.tail .head)) | exact .tail (.tail (.tail (.tail .head))) | exact .tail (.tail (.tail (.tail (.tail .head)))) | exact .tail (.tail (.tail (.tail (.tail (.tail .head))))) | exact .tail (.tail (.tail (.tail (.tail (.tail (.tail .head)))))))) | exact .done (by repeat (first | exact .refl | apply Drop.skip))))) ?_ | refine go_vs rfl .none rfl (o_fld rfl) (To.sat (by repeat (first | exact .nil | exact .done .refl | (apply To.cons; · (first | exact .head | exact .tail .head | exact .tail (.tail .head) | exact .tail (.tail (.tail .head)) | exact .tail (.tail (.tail (.tail .head))) | exact .tail (.tail (.tail (.tail (.tail .head)))) | exact .tail (.tail (.tail (.tail (.tail (.tail .head))))) | exact .tail (.tail (.tail (.tail (.tail (.tail (.tail .head)))))))) | exact .done (by repeat (first | exact .refl | apply Drop.skip))))) ?_
    first | refine go_vs rfl .none rfl (o_load rfl rfl) (To.sat (by repeat (first | exact .nil | exact .done .refl | (apply To.cons; · (first | exact .head | exact .tail .head | exact .tail (.tail .head) | exact .tail (.tail (.tail .head)) | exact .tail (.tail (.tail (.tail .head))) | exact .tail (.tail (.tail (.tail (.tail .head)))) | exact .tail (.tail (.tail (.tail (.tail (.tail .head))))) | exact .tail (.tail (.tail (.tail (.tail (.tail (.tail .head)))))))) | exact .done (by repeat (first | exact .refl | apply Drop.skip))))) ?_ | refine go_vs rfl .none rfl (o_loadS rfl rfl) (To.sat (by repeat (first | exact .nil | exact .done .refl | (apply To.cons; · (first | exact .head | exact .tail .head | exact .tail (.tail .head) | exact .tail (.tail (.tail .head)) | exact .tail (.tail (.tail (.tail .head))) | exact .tail (.tail (.tail (.tail (.tail .head)))) | exact .tail (.tail (.tail (.tail (.tail (.tail .head))))) | exact .tail (.tail (.tail (.tail (.tail (.tail (.tail .head)))))))) | exact .done (by repeat (first | exact .refl | apply Drop.skip))))) ?_
    refine go_c rfl .none rfl (o_call rfl (Held_spec _ _ hr hk) (by repeat (first | exact .nil | (apply Part.cons; · (first | exact .head | exact .tail .head | exact .tail (.tail .head) | exact .tail (.tail (.tail .head)) | exact .tail (.tail (.tail (.tail .head))) | exact .tail (.tail (.tail (.tail (.tail .head)))) | exact .tail (.tail (.tail (.tail (.tail (.tail .head))))) | exact .tail (.tail (.tail (.tail (.tail (.tail (.tail .head))))))))))) ?_
    rintro _ _ ⟨_, ⟨a7, c7, rfl, rfl⟩, rfl⟩
    simp only [List.cons_append, List.nil_append]
    refine ⟨(To.sat (by repeat (first | exact .nil | exact .done .refl | (apply To.cons; · (first | exact .head | exact .tail .head | exact .tail (.tail .head) | exact .tail (.tail (.tail .head)) | exact .tail (.tail (.tail (.tail .head))) | exact .tail (.tail (.tail (.tail (.tail .head)))) | exact .tail (.tail (.tail (.tail (.tail (.tail .head))))) | exact .tail (.tail (.tail (.tail (.tail (.tail (.tail .head)))))))) | exact .done (by repeat (first | exact .refl | apply Drop.skip))))), ?_⟩
    refine go_c rfl .none rfl (o_call rfl (Where_spec _ _ _) (by repeat (first | exact .nil | (apply Part.cons; · (first | exact .head | exact .tail .head | exact .tail (.tail .head) | exact .tail (.tail (.tail .head)) | exact .tail (.tail (.tail (.tail .head))) | exact .tail (.tail (.tail (.tail (.tail .head)))) | exact .tail (.tail (.tail (.tail (.tail (.tail .head))))) | exact .tail (.tail (.tail (.tail (.tail (.tail (.tail .head))))))))))) ?_
    rintro _ _ ⟨_, ⟨rfl, rfl⟩, rfl⟩
    simp only [List.cons_append, List.nil_append]
    refine ⟨(To.sat (by repeat (first | exact .nil | exact .done .refl | (apply To.cons; · (first | exact .head | exact .tail .head | exact .tail (.tail .head) | exact .tail (.tail (.tail .head)) | exact .tail (.tail (.tail (.tail .head))) | exact .tail (.tail (.tail (.tail (.tail .head)))) | exact .tail (.tail (.tail (.tail (.tail (.tail .head))))) | exact .tail (.tail (.tail (.tail (.tail (.tail (.tail .head)))))))) | exact .done (by repeat (first | exact .refl | apply Drop.skip))))), ?_⟩
    refine go_v rfl .none rfl (o_assign rfl) ?_
    refine go_v rfl .none rfl (o_assign rfl) ?_
    refine go_nil ?_
    refine ge_then ?_
    refine g_seq ?_
    refine g_region ?_
    refine gl_v rfl (o_move rfl) ?_
    first | refine gl_v rfl (o_loadSA rfl rfl rfl) ?_ | refine gl_v rfl (o_loadA rfl rfl rfl) ?_
    refine gl_c rfl (o_call rfl (call_spec _ _ o ho0 hr hk) (by repeat (first | exact .nil | (apply Part.cons; · (first | exact .head | exact .tail .head | exact .tail (.tail .head) | exact .tail (.tail (.tail .head)) | exact .tail (.tail (.tail (.tail .head))) | exact .tail (.tail (.tail (.tail (.tail .head)))) | exact .tail (.tail (.tail (.tail (.tail (.tail .head))))) | exact .tail (.tail (.tail (.tail (.tail (.tail (.tail .head))))))))))) ?_
    rintro _ _ ⟨_, ⟨rfl, rfl⟩, rfl⟩
    simp only [List.cons_append, List.nil_append]
    refine gl_v rfl (o_assign rfl) ?_
    refine gl_nil ?_
    have hkn := callR_ok hk o
    have hrn : (callR (rrC s k) o).length ≤ 1000000 := by have := callR_len (rrC s k) o; omega
    have hhl1 := held_len (callR (rrC s k) o)
    have hhl2 := held_len (rrC s k)
    refine ge_then ?_
    refine g_seq ?_
    refine g_region ?_
    refine gl_v rfl (o_move rfl) ?_
    refine gl_c rfl (o_call rfl (Held_spec _ _ hrn hkn) (by repeat (first | exact .nil | (apply Part.cons; · (first | exact .head | exact .tail .head | exact .tail (.tail .head) | exact .tail (.tail (.tail .head)) | exact .tail (.tail (.tail (.tail .head))) | exact .tail (.tail (.tail (.tail (.tail .head)))) | exact .tail (.tail (.tail (.tail (.tail (.tail .head))))) | exact .tail (.tail (.tail (.tail (.tail (.tail (.tail .head))))))))))) ?_
    rintro _ _ ⟨_, ⟨a10, c10, rfl, rfl⟩, rfl⟩
    simp only [List.cons_append, List.nil_append]
    refine gl_v rfl (o_assign rfl) ?_
    refine gl_nil ?_
    have hun : ¬ callE (rrC s k) o = 0 → callR (rrC s k) o = rrC s k := fun h => call_same o h
    refine ge_then ?_
    refine g_cut (fun act wo =>  HasSl Try.f6.ntmps [(9, I64 (callE (rrC s k) o)), (10, .slice a10 (held (callR (rrC s k) o)).length c10), (7, .slice a7 (held (rrC s k)).length c7), (5, ptr p 0)] act ∧ St W0 (places (.slice a10 (held (callR (rrC s k) o)).length c10) (held (callR (rrC s k) o)) :: places (.slice a7 (held (rrC s k)).length c7) (held (rrC s k)) :: ledger p (callR (rrC s k) o) :: A :: R) wo) ?_ ?_
    ·
      refine g_seq ?_
      refine g_region ?_
      refine gl_v rfl (o_move rfl) ?_
      refine gl_v rfl (o_neq rfl rfl) ?_
      refine gl_v rfl (o_move rfl) ?_
      refine gl_g rfl rfl (fun hc3 => ?_) (fun hc3 => ?_) rfl
      ·
        have hc3' := hc3
        first | replace hc3' := of_decide_eq_true hc3' | replace hc3' := lt_f hc3' | replace hc3' := le_f hc3' | replace hc3' := dec_f hc3' | replace hc3' := nlt_t hc3' | replace hc3' := nle_t hc3' | replace hc3' := ndec_t hc3' | replace hc3' := ndec_f hc3' | replace hc3' := nn_t hc3' | replace hc3' := nn_f hc3' | skip
        refine gl_v rfl (o_move rfl) ?_
        refine gl_gT rfl rfl hc3 ?_
        first | refine gl_v rfl (o_fldS rfl) ?_ | refine gl_v rfl (o_fld rfl) ?_
        refine gl_gT rfl rfl hc3 ?_
        first | refine gl_v rfl (o_load rfl rfl) ?_ | refine gl_v rfl (o_loadS rfl rfl) ?_
        refine gl_gT rfl rfl hc3 ?_
        refine gl_c rfl (o_call rfl (Where_spec _ _ _) (by repeat (first | exact .nil | (apply Part.cons; · (first | exact .head | exact .tail .head | exact .tail (.tail .head) | exact .tail (.tail (.tail .head)) | exact .tail (.tail (.tail (.tail .head))) | exact .tail (.tail (.tail (.tail (.tail .head)))) | exact .tail (.tail (.tail (.tail (.tail (.tail .head))))) | exact .tail (.tail (.tail (.tail (.tail (.tail (.tail .head))))))))))) ?_
        rintro _ _ ⟨_, ⟨rfl, rfl⟩, rfl⟩
        simp only [List.cons_append, List.nil_append]
        refine gl_gT rfl rfl hc3 ?_
        refine gl_v rfl (o_move rfl) ?_
        refine gl_gT rfl rfl hc3 ?_
        refine gl_v rfl (o_neq rfl rfl) ?_
        refine gl_gT rfl rfl hc3 ?_
        refine gl_v rfl (o_move rfl) ?_
        refine gl_gT rfl rfl (by rw [hun hc3']; simp) ?_
        refine gl_v rfl (o_move rfl) ?_
        refine gl_gT rfl rfl (by rw [hun hc3']; simp) ?_
        refine gl_v rfl (o_len rfl) ?_
        refine gl_gT rfl rfl (by rw [hun hc3']; simp) ?_
        refine gl_v rfl (o_move rfl) ?_
        refine gl_gT rfl rfl (by rw [hun hc3']; simp) ?_
        refine gl_v rfl (o_len rfl) ?_
        refine gl_gT rfl rfl (by rw [hun hc3']; simp) ?_
        refine gl_v rfl (o_neq rfl rfl) ?_
        refine gl_gT rfl rfl hc3 ?_
        refine gl_v rfl (o_pickF (by rw [hun hc3']; simp) rfl rfl) ?_
        refine gl_v rfl (o_pickT hc3 rfl rfl) ?_
        refine gl_nil ?_
        refine ge_then ?_
        refine g_cond_false (by simp [opv, slk, hun hc3']) ?_
        refine g_skip ?_
        exact fun act wo hsl st => ⟨hsl.keep (Keep.cons rfl (Keep.cons rfl (Keep.cons rfl (Keep.cons rfl (Keep.nil))))), st.imp (To.sat (by repeat (first | exact .nil | exact .done .refl | (apply To.cons; · (first | exact .head | exact .tail .head | exact .tail (.tail .head) | exact .tail (.tail (.tail .head)) | exact .tail (.tail (.tail (.tail .head))) | exact .tail (.tail (.tail (.tail (.tail .head)))) | exact .tail (.tail (.tail (.tail (.tail (.tail .head))))) | exact .tail (.tail (.tail (.tail (.tail (.tail (.tail .head)))))))) | exact .done (by repeat (first | exact .refl | apply Drop.skip)))))⟩
      ·
        have hc3' := hc3
        first | replace hc3' := of_decide_eq_true hc3' | replace hc3' := lt_f hc3' | replace hc3' := le_f hc3' | replace hc3' := dec_f hc3' | replace hc3' := nlt_t hc3' | replace hc3' := nle_t hc3' | replace hc3' := ndec_t hc3' | replace hc3' := ndec_f hc3' | replace hc3' := nn_t hc3' | replace hc3' := nn_f hc3' | skip
        simp only [putO]
        refine gl_gF rfl rfl hc3 rfl ?_
        refine gl_gF rfl rfl hc3 rfl ?_
        refine gl_gF rfl rfl hc3 rfl ?_
        refine gl_gF rfl rfl hc3 rfl ?_
        refine gl_gF rfl rfl hc3 rfl ?_
        refine gl_gF rfl rfl hc3 rfl ?_
        refine gl_gU rfl rfl rfl ?_
        refine gl_gU rfl rfl rfl ?_
        refine gl_gU rfl rfl rfl ?_
        refine gl_gU rfl rfl rfl ?_
        refine gl_gU rfl rfl rfl ?_
        refine gl_gF rfl rfl hc3 rfl ?_
        refine gl_v rfl (o_pickF hc3 rfl rfl) ?_
        refine gl_nil ?_
        refine ge_then ?_
        refine g_cond_false rfl ?_
        refine g_skip ?_
        exact fun act wo hsl st => ⟨hsl.keep (Keep.cons rfl (Keep.cons rfl (Keep.cons rfl (Keep.cons rfl (Keep.nil))))), st.imp (To.sat (by repeat (first | exact .nil | exact .done .refl | (apply To.cons; · (first | exact .head | exact .tail .head | exact .tail (.tail .head) | exact .tail (.tail (.tail .head)) | exact .tail (.tail (.tail (.tail .head))) | exact .tail (.tail (.tail (.tail (.tail .head)))) | exact .tail (.tail (.tail (.tail (.tail (.tail .head))))) | exact .tail (.tail (.tail (.tail (.tail (.tail (.tail .head)))))))) | exact .done (by repeat (first | exact .refl | apply Drop.skip)))))⟩
    ·
      rintro act wo ⟨hsl, st⟩
      refine g_of ?_ hsl st
      clear hsl st act wo
      refine g_seq ?_
      refine g_seq ?_
      refine g_region ?_
      refine gl_v rfl (o_assign rfl) ?_
      refine gl_nil ?_
      refine ge_then ?_
      refine g_block ?_
      refine g_loop (ι := Nat) (fun x => x ≤ (held (callR (rrC s k) o)).length) (fun x => [(11, I64 x), (9, I64 (callE (rrC s k) o)), (10, .slice a10 (held (callR (rrC s k) o)).length c10), (7, .slice a7 (held (rrC s k)).length c7), (5, ptr p 0)]) (fun _ => places (.slice a10 (held (callR (rrC s k) o)).length c10) (held (callR (rrC s k) o)) :: places (.slice a7 (held (rrC s k)).length c7) (held (rrC s k)) :: ledger p (callR (rrC s k) o) :: A :: R) (fun x => (held (callR (rrC s k) o)).length - x) 0 (Nat.zero_le _) (Keep.cons rfl (Keep.cons rfl (Keep.cons rfl (Keep.cons rfl (Keep.cons rfl (Keep.nil)))))) (To.sat (by repeat (first | exact .nil | exact .done .refl | (apply To.cons; · (first | exact .head | exact .tail .head | exact .tail (.tail .head) | exact .tail (.tail (.tail .head)) | exact .tail (.tail (.tail (.tail .head))) | exact .tail (.tail (.tail (.tail (.tail .head)))) | exact .tail (.tail (.tail (.tail (.tail (.tail .head))))) | exact .tail (.tail (.tail (.tail (.tail (.tail (.tail .head)))))))) | exact .done (by repeat (first | exact .refl | apply Drop.skip))))) ?_
      intro k2 hk2
      refine g_seq ?_
      refine g_seq ?_
      refine g_region ?_
      refine gl_v rfl (o_move rfl) ?_
      refine gl_v rfl (o_move rfl) ?_
      refine gl_v rfl (o_len rfl) ?_
      refine gl_v rfl (o_lss rfl rfl) ?_
      refine gl_nil ?_
      refine ge_then ?_
      refine g_cond rfl (fun hc4 => ?_) (fun hc4 => ?_)
      ·
        first | replace hc4 := of_decide_eq_true hc4 | replace hc4 := lt_f hc4 | replace hc4 := le_f hc4 | replace hc4 := dec_f hc4 | replace hc4 := nlt_t hc4 | replace hc4 := nle_t hc4 | replace hc4 := ndec_t hc4 | replace hc4 := ndec_f hc4 | replace hc4 := nn_t hc4 | replace hc4 := nn_f hc4 | skip
        obtain ⟨q2, hq2⟩ : ∃ q, (held (callR (rrC s k) o))[k2]? = some q := ⟨_, List.getElem?_eq_getElem (by omega)⟩
        refine g_skip ?_
        refine ge_then ?_
        refine g_seq ?_
        refine g_block ?_
        refine g_seq ?_
        refine g_draw [] [(0, .loc), (1, .loc), (2, .loc), (3, .loc), (4, .loc), (5, .loc), (6, .loc), (7, .loc), (8, .loc), (9, .loc), (10, .loc), (11, .loc), (12, .loc)] [places (.slice a10 (held (callR (rrC s k) o)).length c10) (held (callR (rrC s k) o)), places (.slice a7 (held (rrC s k)).length c7) (held (rrC s k))] mixed (by kernel_rfl) ?_
        refine go_v rfl .none rfl (o_move rfl) ?_
        refine go_v rfl .none rfl (o_neq rfl rfl) ?_
        refine go_v rfl .none rfl (o_move rfl) ?_
        refine go_split (j := 2) rfl rfl (fun hc5 => ?_) (fun hc5 => ?_)
        ·
          have hc5' := hc5
          first | replace hc5' := of_decide_eq_true hc5' | replace hc5' := lt_f hc5' | replace hc5' := le_f hc5' | replace hc5' := dec_f hc5' | replace hc5' := nlt_t hc5' | replace hc5' := nle_t hc5' | replace hc5' := ndec_t hc5' | replace hc5' := ndec_f hc5' | replace hc5' := nn_t hc5' | replace hc5' := nn_f hc5' | skip
          refine go_v rfl (.yes rfl rfl hc5) rfl (o_move rfl) ?_
          refine go_v rfl (.yes rfl rfl hc5) rfl (o_move rfl) ?_
          refine go_v rfl (.yes rfl rfl hc5) rfl (o_idxS rfl rfl (by first | assumption | omega)) ?_
          refine go_v rfl (.yes rfl rfl hc5) rfl (o_loadSA rfl (pl_q hq2) rfl) ?_
          refine go_v rfl (.yes rfl rfl hc5) rfl (o_move rfl) ?_
          refine go_v rfl (.yes rfl rfl hc5) rfl (o_move rfl) ?_
          refine go_v rfl (.yes rfl rfl hc5) rfl (o_idxS rfl rfl (by rw [hun hc5'] at hc4; omega)) ?_
          refine go_v rfl (.yes rfl rfl hc5) rfl (o_loadSA rfl (show ((pl (held (rrC s k))).drop (k2 * 2)).take 2 = pe q2 by rw [hun hc5'] at hq2; exact pl_q hq2) rfl) ?_
          refine go_v rfl (.yes rfl rfl hc5) rfl (o_neqA rfl rfl rfl rfl) ?_
          refine go_v rfl .none rfl (o_pickT hc5 rfl rfl) ?_
          refine go_nil ?_
          refine ge_then ?_
          refine g_cond_false (by simp [opv, slk, pe, flatEq]) ?_
          refine g_skip ?_
          refine ge_block ?_
          refine ge_then ?_
          refine g_region ?_
          refine gl_v rfl (o_move rfl) ?_
          refine gl_v rfl (o_addR _ (by first | exact wr_i64 (by omega) | rfl) rfl rfl) ?_
          refine gl_v rfl (o_assign rfl) ?_
          refine gl_nil ?_
          refine ge_round (k2 + 1) (show k2 + 1 ≤ _ by omega) (by omega) (Keep.cons rfl (Keep.cons rfl (Keep.cons rfl (Keep.cons rfl (Keep.cons rfl (Keep.nil)))))) (To.sat (by repeat (first | exact .nil | exact .done .refl | (apply To.cons; · (first | exact .head | exact .tail .head | exact .tail (.tail .head) | exact .tail (.tail (.tail .head)) | exact .tail (.tail (.tail (.tail .head))) | exact .tail (.tail (.tail (.tail (.tail .head)))) | exact .tail (.tail (.tail (.tail (.tail (.tail .head))))) | exact .tail (.tail (.tail (.tail (.tail (.tail (.tail .head)))))))) | exact .done (by repeat (first | exact .refl | apply Drop.skip)))))
        ·
          have hc5' := hc5
          first | replace hc5' := of_decide_eq_true hc5' | replace hc5' := lt_f hc5' | replace hc5' := le_f hc5' | replace hc5' := dec_f hc5' | replace hc5' := nlt_t hc5' | replace hc5' := nle_t hc5' | replace hc5' := ndec_t hc5' | replace hc5' := ndec_f hc5' | replace hc5' := nn_t hc5' | replace hc5' := nn_f hc5' | skip
          refine go_skip rfl (.no rfl rfl hc5) rfl ?_
          refine go_skip rfl (.no rfl rfl hc5) rfl ?_
          refine go_skip rfl (.no rfl rfl hc5) rfl ?_
          refine go_skip rfl (.no rfl rfl hc5) rfl ?_
          refine go_skip rfl (.no rfl rfl hc5) rfl ?_
          refine go_skip rfl (.no rfl rfl hc5) rfl ?_
          refine go_skip rfl (.no rfl rfl hc5) rfl ?_
          refine go_skip rfl (.no rfl rfl hc5) rfl ?_
          refine go_skip rfl (.no rfl rfl hc5) rfl ?_
          refine go_v rfl .none rfl (o_pickF hc5 rfl rfl) ?_
          refine go_nil ?_
          refine ge_then ?_
          refine g_cond_false rfl ?_
          refine g_skip ?_
          refine ge_block ?_
          refine ge_then ?_
          refine g_region ?_
          refine gl_v rfl (o_move rfl) ?_
          refine gl_v rfl (o_addR _ (by first | exact wr_i64 (by omega) | rfl) rfl rfl) ?_
          refine gl_v rfl (o_assign rfl) ?_
          refine gl_nil ?_
          refine ge_round (k2 + 1) (show k2 + 1 ≤ _ by omega) (by omega) (Keep.cons rfl (Keep.cons rfl (Keep.cons rfl (Keep.cons rfl (Keep.cons rfl (Keep.nil)))))) (To.sat (by repeat (first | exact .nil | exact .done .refl | (apply To.cons; · (first | exact .head | exact .tail .head | exact .tail (.tail .head) | exact .tail (.tail (.tail .head)) | exact .tail (.tail (.tail (.tail .head))) | exact .tail (.tail (.tail (.tail (.tail .head)))) | exact .tail (.tail (.tail (.tail (.tail (.tail .head))))) | exact .tail (.tail (.tail (.tail (.tail (.tail (.tail .head)))))))) | exact .done (by repeat (first | exact .refl | apply Drop.skip)))))
      ·
        first | replace hc4 := of_decide_eq_true hc4 | replace hc4 := lt_f hc4 | replace hc4 := le_f hc4 | replace hc4 := dec_f hc4 | replace hc4 := nlt_t hc4 | replace hc4 := nle_t hc4 | replace hc4 := ndec_t hc4 | replace hc4 := ndec_f hc4 | replace hc4 := nn_t hc4 | replace hc4 := nn_f hc4 | skip
        refine g_exit ?_
        refine ge_then_exit ?_
        refine ge_then_exit ?_
        refine ge_block_exit ?_
        refine ge_then ?_
        refine g_cut (fun act wo => ∃ xs : List Value, HasSl Try.f6.ntmps [(9, I64 (callE (rrC s k) o)), (10, .slice a10 (held (callR (rrC s k) o)).length c10), (7, .slice a7 (held (rrC s k)).length c7), (5, ptr p 0)] act ∧ St W0 (own (.slice a7 (held (rrC s k)).length c7) 43 2 (held (rrC s k)).length xs :: places (.slice a10 (held (callR (rrC s k) o)).length c10) (held (callR (rrC s k) o)) :: ledger p (callR (rrC s k) o) :: A :: R) wo) ?_ ?_
        ·
          refine g_seq ?_
          refine g_region ?_
          refine gl_v rfl (o_assign rfl) ?_
          refine gl_nil ?_
          refine ge_then ?_
          refine g_block ?_
          refine g_loop (ι := Nat × List Value) (fun x => x.1 ≤ (held (rrC s k)).length ∧ x.2.length = (held (rrC s k)).length * 2) (fun x => [(12, I64 x.1), (9, I64 (callE (rrC s k) o)), (10, .slice a10 (held (callR (rrC s k) o)).length c10), (7, .slice a7 (held (rrC s k)).length c7), (5, ptr p 0)]) (fun x => own (.slice a7 (held (rrC s k)).length c7) 43 2 (held (rrC s k)).length x.2 :: places (.slice a10 (held (callR (rrC s k) o)).length c10) (held (callR (rrC s k) o)) :: ledger p (callR (rrC s k) o) :: A :: R) (fun x => (held (rrC s k)).length - x.1) (0, pl (held (rrC s k))) (⟨Nat.zero_le _, pl_len _⟩) (Keep.cons rfl (Keep.cons rfl (Keep.cons rfl (Keep.cons rfl (Keep.cons rfl (Keep.nil)))))) (To.sat (by repeat (first | exact .nil | exact .done .refl | (apply To.cons; · (first | exact .head | exact .tail .head | exact .tail (.tail .head) | exact .tail (.tail (.tail .head)) | exact .tail (.tail (.tail (.tail .head))) | exact .tail (.tail (.tail (.tail (.tail .head)))) | exact .tail (.tail (.tail (.tail (.tail (.tail .head))))) | exact .tail (.tail (.tail (.tail (.tail (.tail (.tail .head)))))))) | exact .done (by repeat (first | exact .refl | apply Drop.skip))))) ?_
          rintro ⟨k2, xs⟩ ⟨hk2, hxs⟩
          have hk2 : k2 ≤ (held (rrC s k)).length := hk2
          have hxs : xs.length = (held (rrC s k)).length * 2 := hxs
          dsimp only
          refine g_seq ?_
          refine g_seq ?_
          refine g_region ?_
          refine gl_v rfl (o_move rfl) ?_
          refine gl_v rfl (o_move rfl) ?_
          refine gl_v rfl (o_len rfl) ?_
          refine gl_v rfl (o_lss rfl rfl) ?_
          refine gl_nil ?_
          refine ge_then ?_
          refine g_cond rfl (fun hc6 => ?_) (fun hc6 => ?_)
          ·
            first | replace hc6 := of_decide_eq_true hc6 | replace hc6 := lt_f hc6 | replace hc6 := le_f hc6 | replace hc6 := dec_f hc6 | replace hc6 := nlt_t hc6 | replace hc6 := nle_t hc6 | replace hc6 := ndec_t hc6 | replace hc6 := ndec_f hc6 | replace hc6 := nn_t hc6 | replace hc6 := nn_f hc6 | skip
            refine g_skip ?_
            refine ge_then ?_
            refine g_seq ?_
            refine g_block ?_
            refine g_region ?_
            refine gl_v rfl (o_move rfl) ?_
            refine gl_v rfl (o_move rfl) ?_
            refine gl_v rfl (o_build rfl rfl) ?_
            refine gl_v rfl (o_idxS rfl rfl (by first | assumption | omega)) ?_
            refine gl_u (o_storeSA rfl rfl rfl rfl (by show k2 * 2 + 2 ≤ xs.length; omega) (by decide)) ?_
            refine gl_nil ?_
            refine ge_block ?_
            refine ge_then ?_
            refine g_region ?_
            refine gl_v rfl (o_move rfl) ?_
            refine gl_v rfl (o_addR _ (by first | exact wr_i64 (by omega) | rfl) rfl rfl) ?_
            refine gl_v rfl (o_assign rfl) ?_
            refine gl_nil ?_
            refine ge_round (k2 + 1, splice xs (k2 * 2) [U64 1, I64 99]) ⟨show k2 + 1 ≤ _ by omega, by show (splice _ _ _).length = _; rw [splice_length]; exact hxs⟩ (by show (held (rrC s k)).length - (k2 + 1) < (held (rrC s k)).length - k2; omega) (Keep.cons rfl (Keep.cons rfl (Keep.cons rfl (Keep.cons rfl (Keep.cons rfl (Keep.nil)))))) (To.sat (by repeat (first | exact .nil | exact .done .refl | (apply To.cons; · (first | exact .head | exact .tail .head | exact .tail (.tail .head) | exact .tail (.tail (.tail .head)) | exact .tail (.tail (.tail (.tail .head))) | exact .tail (.tail (.tail (.tail (.tail .head)))) | exact .tail (.tail (.tail (.tail (.tail (.tail .head))))) | exact .tail (.tail (.tail (.tail (.tail (.tail (.tail .head)))))))) | exact .done (by repeat (first | exact .refl | apply Drop.skip)))))
          ·
            first | replace hc6 := of_decide_eq_true hc6 | replace hc6 := lt_f hc6 | replace hc6 := le_f hc6 | replace hc6 := dec_f hc6 | replace hc6 := nlt_t hc6 | replace hc6 := nle_t hc6 | replace hc6 := ndec_t hc6 | replace hc6 := ndec_f hc6 | replace hc6 := nn_t hc6 | replace hc6 := nn_f hc6 | skip
            refine g_exit ?_
            refine ge_then_exit ?_
            refine ge_then_exit ?_
            refine ge_block_exit ?_
            exact fun act wo hsl st => ⟨xs, hsl.keep (Keep.cons rfl (Keep.cons rfl (Keep.cons rfl (Keep.cons rfl (Keep.nil))))), st.imp (To.sat (by repeat (first | exact .nil | exact .done .refl | (apply To.cons; · (first | exact .head | exact .tail .head | exact .tail (.tail .head) | exact .tail (.tail (.tail .head)) | exact .tail (.tail (.tail (.tail .head))) | exact .tail (.tail (.tail (.tail (.tail .head)))) | exact .tail (.tail (.tail (.tail (.tail (.tail .head))))) | exact .tail (.tail (.tail (.tail (.tail (.tail (.tail .head)))))))) | exact .done (by repeat (first | exact .refl | apply Drop.skip)))))⟩
        ·
          rintro act wo ⟨xs, hsl, st⟩
          refine g_of ?_ hsl st
          clear hsl st act wo
          refine g_seq ?_
          refine g_region ?_
          refine gl_v rfl (o_move rfl) ?_
          refine gl_c rfl (o_call rfl (Held_spec _ _ hrn hkn) (by repeat (first | exact .nil | (apply Part.cons; · (first | exact .head | exact .tail .head | exact .tail (.tail .head) | exact .tail (.tail (.tail .head)) | exact .tail (.tail (.tail (.tail .head))) | exact .tail (.tail (.tail (.tail (.tail .head)))) | exact .tail (.tail (.tail (.tail (.tail (.tail .head))))) | exact .tail (.tail (.tail (.tail (.tail (.tail (.tail .head))))))))))) ?_
          rintro _ _ ⟨_, ⟨a13, c13, rfl, rfl⟩, rfl⟩
          simp only [List.cons_append, List.nil_append]
          refine gl_v rfl (o_assign rfl) ?_
          refine gl_nil ?_
          refine ge_then ?_
          refine g_seq ?_
          refine g_seq ?_
          refine g_region ?_
          refine gl_v rfl (o_assign rfl) ?_
          refine gl_nil ?_
          refine ge_then ?_
          refine g_block ?_
          refine g_loop (ι := Nat) (fun x => x ≤ (held (callR (rrC s k) o)).length) (fun x => [(14, I64 x), (13, .slice a13 (held (callR (rrC s k) o)).length c13), (9, I64 (callE (rrC s k) o)), (10, .slice a10 (held (callR (rrC s k) o)).length c10), (7, .slice a7 (held (rrC s k)).length c7), (5, ptr p 0)]) (fun _ => places (.slice a13 (held (callR (rrC s k) o)).length c13) (held (callR (rrC s k) o)) :: own (.slice a7 (held (rrC s k)).length c7) 43 2 (held (rrC s k)).length xs :: places (.slice a10 (held (callR (rrC s k) o)).length c10) (held (callR (rrC s k) o)) :: ledger p (callR (rrC s k) o) :: A :: R) (fun x => (held (callR (rrC s k) o)).length - x) 0 (Nat.zero_le _) (Keep.cons rfl (Keep.cons rfl (Keep.cons rfl (Keep.cons rfl (Keep.cons rfl (Keep.cons rfl (Keep.nil))))))) (To.sat (by repeat (first | exact .nil | exact .done .refl | (apply To.cons; · (first | exact .head | exact .tail .head | exact .tail (.tail .head) | exact .tail (.tail (.tail .head)) | exact .tail (.tail (.tail (.tail .head))) | exact .tail (.tail (.tail (.tail (.tail .head)))) | exact .tail (.tail (.tail (.tail (.tail (.tail .head))))) | exact .tail (.tail (.tail (.tail (.tail (.tail (.tail .head)))))))) | exact .done (by repeat (first | exact .refl | apply Drop.skip))))) ?_
          intro k2 hk2
          refine g_seq ?_
          refine g_seq ?_
          refine g_region ?_
          refine gl_v rfl (o_move rfl) ?_
          refine gl_v rfl (o_move rfl) ?_
          refine gl_v rfl (o_len rfl) ?_
          refine gl_v rfl (o_lss rfl rfl) ?_
          refine gl_nil ?_
          refine ge_then ?_
          refine g_cond rfl (fun hc7 => ?_) (fun hc7 => ?_)
          ·
            first | replace hc7 := of_decide_eq_true hc7 | replace hc7 := lt_f hc7 | replace hc7 := le_f hc7 | replace hc7 := dec_f hc7 | replace hc7 := nlt_t hc7 | replace hc7 := nle_t hc7 | replace hc7 := ndec_t hc7 | replace hc7 := ndec_f hc7 | replace hc7 := nn_t hc7 | replace hc7 := nn_f hc7 | skip
            obtain ⟨q2, hq2⟩ : ∃ q, (held (callR (rrC s k) o))[k2]? = some q := ⟨_, List.getElem?_eq_getElem (by omega)⟩
            refine g_skip ?_
            refine ge_then ?_
            refine g_seq ?_
            refine g_block ?_
            refine g_seq ?_
            refine g_draw [] [(0, .loc), (1, .loc), (2, .loc), (3, .loc), (4, .loc), (5, .loc), (6, .loc), (7, .loc), (8, .loc)] [places (.slice a13 (held (callR (rrC s k) o)).length c13) (held (callR (rrC s k) o)), places (.slice a10 (held (callR (rrC s k) o)).length c10) (held (callR (rrC s k) o))] mixed (by kernel_rfl) ?_
            refine go_v rfl .none rfl (o_move rfl) ?_
            refine go_v rfl .none rfl (o_move rfl) ?_
            refine go_v rfl .none rfl (o_idxS rfl rfl (by first | assumption | omega)) ?_
            refine go_v rfl .none rfl (o_loadSA rfl (pl_q hq2) rfl) ?_
            refine go_v rfl .none rfl (o_move rfl) ?_
            refine go_v rfl .none rfl (o_move rfl) ?_
            refine go_v rfl .none rfl (o_idxS rfl rfl (by first | assumption | omega)) ?_
            refine go_v rfl .none rfl (o_loadSA rfl (pl_q hq2) rfl) ?_
            refine go_v rfl .none rfl (o_neqA rfl rfl rfl rfl) ?_
            refine go_nil ?_
            refine ge_then ?_
            refine g_cond_false (by simp [opv, slk, pe, flatEq]) ?_
            refine g_skip ?_
            refine ge_block ?_
            refine ge_then ?_
            refine g_region ?_
            refine gl_v rfl (o_move rfl) ?_
            refine gl_v rfl (o_addR _ (by first | exact wr_i64 (by omega) | rfl) rfl rfl) ?_
            refine gl_v rfl (o_assign rfl) ?_
            refine gl_nil ?_
            refine ge_round (k2 + 1) (show k2 + 1 ≤ _ by omega) (by omega) (Keep.cons rfl (Keep.cons rfl (Keep.cons rfl (Keep.cons rfl (Keep.cons rfl (Keep.cons rfl (Keep.nil))))))) (To.sat (by repeat (first | exact .nil | exact .done .refl | (apply To.cons; · (first | exact .head | exact .tail .head | exact .tail (.tail .head) | exact .tail (.tail (.tail .head)) | exact .tail (.tail (.tail (.tail .head))) | exact .tail (.tail (.tail (.tail (.tail .head)))) | exact .tail (.tail (.tail (.tail (.tail (.tail .head))))) | exact .tail (.tail (.tail (.tail (.tail (.tail (.tail .head)))))))) | exact .done (by repeat (first | exact .refl | apply Drop.skip)))))
          ·
            first | replace hc7 := of_decide_eq_true hc7 | replace hc7 := lt_f hc7 | replace hc7 := le_f hc7 | replace hc7 := dec_f hc7 | replace hc7 := nlt_t hc7 | replace hc7 := nle_t hc7 | replace hc7 := ndec_t hc7 | replace hc7 := ndec_f hc7 | replace hc7 := nn_t hc7 | replace hc7 := nn_f hc7 | skip
            refine g_exit ?_
            refine ge_then_exit ?_
            refine ge_then_exit ?_
            refine ge_block_exit ?_
            refine ge_then ?_
            refine g_seq ?_
            refine g_region ?_
            refine gl_v rfl (o_move rfl) ?_
            refine gl_v rfl (o_len rfl) ?_
            refine gl_v rfl (o_move rfl) ?_
            refine gl_v rfl (o_len rfl) ?_
            refine gl_v rfl (o_eql rfl rfl) ?_
            refine gl_v rfl (o_assign rfl) ?_
            refine gl_nil ?_
            refine ge_then ?_
            refine g_ret ?_
            refine ret1 (.inl rfl) rfl rfl _ (⟨by simp, rfl⟩) (To.sat (by repeat (first | exact .nil | exact .done .refl | (apply To.cons; · (first | exact .head | exact .tail .head | exact .tail (.tail .head) | exact .tail (.tail (.tail .head)) | exact .tail (.tail (.tail (.tail .head))) | exact .tail (.tail (.tail (.tail (.tail .head)))) | exact .tail (.tail (.tail (.tail (.tail (.tail .head))))) | exact .tail (.tail (.tail (.tail (.tail (.tail (.tail .head)))))))) | exact .done (by repeat (first | exact .refl | apply Drop.skip)))))

end Go.Proofs.Ytdfmflccmnniaaa.L
