/-
  The ledger's laws: what each comes to. Own work.
-/
import Derived.Test.YtdfmflccmnniaaaLedger
namespace Go.Proofs.Ytdfmflccmnniaaa.L
open Go.L Go.L.Led

def rrD (s : List (Int × Int × Int)) (k : Nat) : List (Int × Int) := (s.take k).foldl doesR []
def rrC (s : List (Int × Int × Int)) (k : Nat) : List (Int × Int) := (s.take k).foldl callR []
theorem doesR_ok {r : List (Int × Int)} (h : ROk r) (q : Int × Int × Int) : ROk (doesR r q) := by
  unfold doesR; repeat' split
  · exact h.acc
  · exact h.mov
  · exact h.from (by omega)
  · exact h.from (by omega)
  · exact h
theorem doesR_len (r : List (Int × Int)) (q : Int × Int × Int) : (doesR r q).length ≤ r.length + 1 := by
  unfold doesR; repeat' split
  · exact accR_len
  · rw [movR_len]; omega
  · rw [fromR_len]; omega
  · rw [fromR_len]; omega
  · omega
theorem callR_ok {r : List (Int × Int)} (h : ROk r) (q : Int × Int × Int) : ROk (callR r q) := by
  unfold callR; repeat' split
  · exact h.acc
  · exact h.mov
  · exact h.from (by omega)
  · exact h.from (by omega)
theorem callR_len (r : List (Int × Int)) (q : Int × Int × Int) : (callR r q).length ≤ r.length + 1 := by
  unfold callR; repeat' split
  · exact accR_len
  · rw [movR_len]; omega
  · rw [fromR_len]; omega
  · rw [fromR_len]; omega
theorem rrD_succ {s : List (Int × Int × Int)} {k : Nat} {q : Int × Int × Int} (h : s[k]? = some q) : rrD s (k + 1) = doesR (rrD s k) q := by
  obtain ⟨hk, e⟩ := List.getElem?_eq_some_iff.1 h
  unfold rrD; rw [List.take_succ_eq_append_getElem hk, e, List.foldl_append]; rfl
theorem rrC_succ {s : List (Int × Int × Int)} {k : Nat} {q : Int × Int × Int} (h : s[k]? = some q) : rrC s (k + 1) = callR (rrC s k) q := by
  obtain ⟨hk, e⟩ := List.getElem?_eq_some_iff.1 h
  unfold rrC; rw [List.take_succ_eq_append_getElem hk, e, List.foldl_append]; rfl
theorem ROk.nil : ROk [] := ⟨by simp, by simp⟩
theorem rrD_ok (s : List (Int × Int × Int)) : ∀ k, k ≤ s.length → ROk (rrD s k) ∧ (rrD s k).length ≤ k
  | 0, _ => ⟨ROk.nil, Nat.le_refl _⟩
  | k + 1, h => by
    have ih := rrD_ok s k (by omega)
    have hq : s[k]? = some s[k] := List.getElem?_eq_getElem (by omega)
    rw [rrD_succ hq]; have := doesR_len (rrD s k) s[k]
    exact ⟨doesR_ok ih.1 _, by omega⟩
theorem rrC_ok (s : List (Int × Int × Int)) : ∀ k, k ≤ s.length → ROk (rrC s k) ∧ (rrC s k).length ≤ k
  | 0, _ => ⟨ROk.nil, Nat.le_refl _⟩
  | k + 1, h => by
    have ih := rrC_ok s k (by omega)
    have hq : s[k]? = some s[k] := List.getElem?_eq_getElem (by omega)
    rw [rrC_succ hq]; have := callR_len (rrC s k) s[k]
    exact ⟨callR_ok ih.1 _, by omega⟩
theorem callR_len0 (r : List (Int × Int)) (q : Int × Int × Int) (_ : ROk r) : (callR r q).length = r.length + (if callE r q = 0 ∧ q.1 % 4 = 0 then 1 else 0) := by
  unfold callR callE
  by_cases h0 : q.1 % 4 = 0
  · simp only [h0, if_true, and_true, accR, accE]
    by_cases h1 : hl q.2.2 = true
    · by_cases h2 : wh r q.2.1 = 0 <;> simp [h1, h2]
    · simp [h1]
  · simp only [h0, if_false, and_false, Nat.add_zero]
    repeat' split
    · exact movR_len
    · exact fromR_len
    · exact fromR_len
/-- the counts of places 1 to n, together -/
def sumC (r : List (Int × Int)) : Nat → Nat
  | 0 => 0
  | n + 1 => sumC r n + cnt r (n + 1 : Nat)
theorem sumC_succ (r : List (Int × Int)) (n : Nat) : sumC r (n + 1) = sumC r n + cnt r (n + 1 : Nat) := rfl
theorem sumC_filter (r : List (Int × Int)) (h : ∀ q ∈ r, 1 ≤ q.2) : ∀ n : Nat, sumC r n = (r.filter fun q => decide (q.2 ≤ (n : Int))).length
  | 0 => by
    have : r.filter (fun q => decide (q.2 ≤ ((0 : Nat) : Int))) = [] := List.filter_eq_nil_iff.2 fun q hq => by have := h q hq; simp; omega
    rw [this]; rfl
  | n + 1 => by
    rw [sumC_succ, sumC_filter r h n, cnt]
    clear h
    induction r with
    | nil => rfl
    | cons q r ih =>
      simp only [List.filter_cons]
      by_cases h1 : q.2 ≤ (n : Int)
      · have h2 : ¬ q.2 = ((n + 1 : Nat) : Int) := by omega
        have h3 : q.2 ≤ ((n + 1 : Nat) : Int) := by omega
        simp only [h1, h2, h3, decide_true, decide_false, if_true, List.length_cons]; simp only [Bool.false_eq_true, if_false]; omega
      · by_cases h2 : q.2 = ((n + 1 : Nat) : Int)
        · have h3 : q.2 ≤ ((n + 1 : Nat) : Int) := by omega
          rw [if_neg (by simpa using h1), if_pos (by simpa using h2), if_pos (by simpa using h3), List.length_cons, List.length_cons]; omega
        · have h3 : ¬ q.2 ≤ ((n + 1 : Nat) : Int) := by omega
          simp only [h1, h2, h3, decide_false, Bool.false_eq_true, if_false]; exact ih
theorem sumC_le (r : List (Int × Int)) : ∀ n : Nat, sumC r n ≤ n * r.length
  | 0 => by simp [sumC]
  | n + 1 => by rw [sumC_succ]; have := sumC_le r n; have := cnt_le r (n + 1 : Nat); rw [Nat.add_mul]; omega
theorem sumC_len {r : List (Int × Int)} (h : ROk r) (n : Nat) : sumC r n ≤ r.length := by
  rw [sumC_filter r (fun q hq => (h.at' q hq).1)]; exact List.length_filter_le _ _
theorem sumC_all {r : List (Int × Int)} (h : ROk r) : sumC r 8 = r.length := by
  rw [sumC_filter r (fun q hq => (h.at' q hq).1), List.filter_eq_self.2]
  intro q hq; have := (h.at' q hq).2; simpa using this
theorem sumC_held {r : List (Int × Int)} (h : ROk r) : sumC r 6 = (held r).length := by
  rw [sumC_filter r (fun q hq => (h.at' q hq).1)]; unfold held
  congr 1; apply List.filter_congr; intro q hq; have := (h.at' q hq).1; simp [hl]; omega
theorem held_at {r : List (Int × Int)} (h : ROk r) {k : Nat} {q : Int × Int} (hq : (held r)[k]? = some q) : wh r q.1 = q.2 ∧ 1 ≤ q.2 ∧ q.2 ≤ 6 := by
  have hm := List.mem_filter.1 (List.mem_of_getElem? hq)
  obtain ⟨j, hj⟩ := List.getElem?_of_mem hm.1
  exact ⟨wh_at h hj, hl_iff.1 hm.2⟩
theorem held_ne {r : List (Int × Int)} (h : ROk r) {j k : Nat} {p q : Int × Int} (hp : (held r)[j]? = some p) (hq : (held r)[k]? = some q) (hjk : j < k) : p.1 ≠ q.1 := by
  have nd : ((held r).map (·.1)).Nodup := h.nd.sublist ((List.filter_sublist).map _)
  have e1 : ((held r).map (·.1))[j]? = some p.1 := by rw [List.getElem?_map, hp]; rfl
  have e2 : ((held r).map (·.1))[k]? = some q.1 := by rw [List.getElem?_map, hq]; rfl
  intro e
  obtain ⟨l2, _⟩ := List.getElem?_eq_some_iff.1 e2
  have := (List.getElem?_inj l2 nd (j := j)).1 (by rw [e1, e2, e])
  omega
theorem oe_len (q : Int × Int × Int) : (oe q).length = 3 := rfl
def SOk (s : List (Int × Int × Int)) : Prop := ∀ q ∈ s, 0 ≤ q.1 ∧ q.1 ≤ 255

theorem plays_spec (a : Option Addr) (c : Nat) (s : List (Int × Int × Int)) (hs : SOk s) (hs63 : s.length ≤ 9223372036854775807) (A : Assn) [RdA (.slice a s.length c) A s.length (s.flatMap oe)] : FnS Try.prog 3 [.slice a s.length c] [A] (fun u Bs => u = .bool true ∧ Bs = [A]) := by
  refine fn_body Try.func3 rfl rfl rfl ?_
  intro W0 R
  simp only [List.zipIdx_cons, List.zipIdx_nil, List.map_cons, List.map_nil, Nat.zero_add, Nat.reduceAdd, List.cons_append, List.nil_append]
  refine g_seq ?_
  refine g_region ?_
  refine gl_v rfl (o_assign rfl) ?_
  refine gl_nil ?_
  refine ge_then ?_
  refine g_seq ?_
  refine g_seq ?_
  refine g_region ?_
  refine gl_c rfl (o_call rfl (alive_spec) (by repeat (first | exact .nil | (apply Part.cons; · (first | exact .head | exact .tail .head | exact .tail (.tail .head) | exact .tail (.tail (.tail .head)) | exact .tail (.tail (.tail (.tail .head))) | exact .tail (.tail (.tail (.tail (.tail .head)))) | exact .tail (.tail (.tail (.tail (.tail (.tail .head))))) | exact .tail (.tail (.tail (.tail (.tail (.tail (.tail .head))))))))))) ?_
  rintro _ _ ⟨_, ⟨rfl, rfl⟩, rfl⟩
  simp only [List.cons_append, List.nil_append]
  refine gl_v rfl (o_not rfl) ?_
  refine gl_nil ?_
  refine ge_then ?_
  refine g_cond_false (rfl) ?_
  refine g_skip ?_
  refine ge_then ?_
  refine g_seq ?_
  refine g_region ?_
  refine gl_c rfl (o_call rfl (New_spec) (by repeat (first | exact .nil | (apply Part.cons; · (first | exact .head | exact .tail .head | exact .tail (.tail .head) | exact .tail (.tail (.tail .head)) | exact .tail (.tail (.tail (.tail .head))) | exact .tail (.tail (.tail (.tail (.tail .head)))) | exact .tail (.tail (.tail (.tail (.tail (.tail .head))))) | exact .tail (.tail (.tail (.tail (.tail (.tail (.tail .head))))))))))) ?_
  rintro _ _ ⟨_, ⟨p, rfl, rfl⟩, rfl⟩
  simp only [List.cons_append, List.nil_append]
  refine gl_v rfl (o_assign rfl) ?_
  refine gl_nil ?_
  refine ge_then ?_
  refine g_seq ?_
  refine g_region ?_
  refine gl_v rfl (o_assign rfl) ?_
  refine gl_nil ?_
  refine ge_then ?_
  refine g_seq ?_
  refine g_seq ?_
  refine g_imp (own_nil0 (e := 43) (sz := 2)) ?_
  refine g_region ?_
  refine gl_v rfl (o_assign rfl) ?_
  refine gl_nil ?_
  refine ge_then ?_
  refine g_block ?_
  refine g_loop (ι := Nat × Option Addr × Nat) (fun x => x.1 ≤ s.length ∧ x.1 ≤ 400) (fun x => [(5, I64 x.1), (4, .slice x.2.1 (rrD s x.1).length x.2.2), (3, ptr p 0), (0, .slice a s.length c)]) (fun x => places (.slice x.2.1 (rrD s x.1).length x.2.2) (rrD s x.1) :: ledger p (rrD s x.1) :: A :: R) (fun x => s.length - x.1) (0, none, 0) (⟨Nat.zero_le _, Nat.zero_le _⟩) (Keep.cons rfl (Keep.cons rfl (Keep.cons rfl (Keep.cons rfl (Keep.nil))))) (To.sat (by repeat (first | exact .nil | exact .done .refl | (apply To.cons; · (first | exact .head | exact .tail .head | exact .tail (.tail .head) | exact .tail (.tail (.tail .head)) | exact .tail (.tail (.tail (.tail .head))) | exact .tail (.tail (.tail (.tail (.tail .head)))) | exact .tail (.tail (.tail (.tail (.tail (.tail .head))))) | exact .tail (.tail (.tail (.tail (.tail (.tail (.tail .head)))))))) | exact .done (by repeat (first | exact .refl | apply Drop.skip))))) ?_
  rintro ⟨k, a', c'⟩ ⟨hk1, hk4⟩
  have hk1 : k ≤ s.length := hk1
  have hk4 : k ≤ 400 := hk4
  obtain ⟨hk, hrl⟩ := rrD_ok s k hk1
  have hr : (rrD s k).length ≤ 1000000 := by omega
  dsimp only
  refine g_seq ?_
  refine g_seq ?_
  refine g_region ?_
  refine gl_v rfl (o_move rfl) ?_
  refine gl_v rfl (o_move rfl) ?_
  refine gl_v rfl (o_len rfl) ?_
  refine gl_v rfl (o_lss rfl rfl) ?_
  refine gl_v rfl (o_move rfl) ?_
  refine gl_g rfl rfl (fun hc1 => ?_) (fun hc1 => ?_) rfl
  ·
    have hc1' := hc1
    first | replace hc1' := of_decide_eq_true hc1' | replace hc1' := lt_f hc1' | replace hc1' := le_f hc1' | replace hc1' := dec_f hc1' | replace hc1' := nlt_t hc1' | replace hc1' := nle_t hc1' | replace hc1' := ndec_t hc1' | replace hc1' := ndec_f hc1' | replace hc1' := nn_t hc1' | replace hc1' := nn_f hc1' | skip
    refine gl_v rfl (o_move rfl) ?_
    refine gl_gT rfl rfl hc1 ?_
    refine gl_v rfl (o_lss rfl rfl) ?_
    refine gl_v rfl (o_pickT hc1 rfl rfl) ?_
    refine gl_nil ?_
    refine ge_then ?_
    refine g_cond rfl (fun hc2 => ?_) (fun hc2 => ?_)
    ·
      first | replace hc2 := of_decide_eq_true hc2 | replace hc2 := lt_f hc2 | replace hc2 := le_f hc2 | replace hc2 := dec_f hc2 | replace hc2 := nlt_t hc2 | replace hc2 := nle_t hc2 | replace hc2 := ndec_t hc2 | replace hc2 := ndec_f hc2 | replace hc2 := nn_t hc2 | replace hc2 := nn_f hc2 | skip
      obtain ⟨q, hq⟩ : ∃ q, s[k]? = some q := ⟨_, List.getElem?_eq_getElem (by omega)⟩
      have hq0 := (hs q (List.mem_of_getElem? hq)).1
      have h0 := flat_get oe 3 oe_len hq (j := 0) rfl
      have h1 := flat_get oe 3 oe_len hq (j := 1) rfl
      have h2 := flat_get oe 3 oe_len hq (j := 2) rfl
      refine g_skip ?_
      refine ge_then ?_
      refine g_seq ?_
      refine g_block ?_
      refine g_seq ?_
      refine g_region ?_
      refine gl_v rfl (o_move rfl) ?_
      refine gl_v rfl (o_move rfl) ?_
      refine gl_v rfl (o_move rfl) ?_
      refine gl_v rfl (o_move rfl) ?_
      refine gl_v rfl (o_idxS rfl rfl (by first | assumption | omega)) ?_
      refine gl_v rfl (o_loadSA rfl (flat_take oe 3 oe_len hq) rfl) ?_
      refine gl_c rfl (o_call rfl (does_spec _ _ _ _ q hq0 hr hk) (by repeat (first | exact .nil | (apply Part.cons; · (first | exact .head | exact .tail .head | exact .tail (.tail .head) | exact .tail (.tail (.tail .head)) | exact .tail (.tail (.tail (.tail .head))) | exact .tail (.tail (.tail (.tail (.tail .head)))) | exact .tail (.tail (.tail (.tail (.tail (.tail .head))))) | exact .tail (.tail (.tail (.tail (.tail (.tail (.tail .head))))))))))) ?_
      rintro _ _ ⟨_, ⟨a6, c6, rfl, rfl⟩, rfl⟩
      simp only [List.cons_append, List.nil_append]
      refine gl_v rfl (o_move rfl) ?_
      refine gl_v rfl (o_extract rfl rfl) ?_
      refine gl_v rfl (o_extract rfl rfl) ?_
      refine gl_v rfl (o_assign rfl) ?_
      refine gl_v rfl (o_assign rfl) ?_
      refine gl_nil ?_
      refine ge_then ?_
      refine g_seq ?_
      refine g_region ?_
      refine gl_v rfl (o_move rfl) ?_
      refine gl_v rfl (o_assign rfl) ?_
      refine gl_nil ?_
      have hkn := doesR_ok hk q
      have hrn : (doesR (rrD s k) q).length ≤ 1000000 := by have := doesR_len (rrD s k) q; omega
      have hr := hrn
      have hk := hkn
      refine ge_then ?_
      refine g_seq ?_
      refine g_seq ?_
      refine g_draw [9, 16] [(0, .loc), (1, .loc), (2, .loc), (3, .loc), (4, .loc), (5, .loc), (6, .loc), (7, .loc), (8, .loc), (10, .stab), (11, .stab), (12, .stab), (13, .stab), (14, .stab), (15, .stab), (9, .eff), (16, .eff), (17, .loc), (18, .loc)] [A] mixed (by kernel_rfl) ?_
      refine go_v rfl .none rfl (o_move rfl) ?_
      refine go_v rfl .none rfl (o_not rfl) ?_
      refine go_v rfl .none rfl (o_move rfl) ?_
      refine go_v rfl (.yes rfl rfl rfl) rfl (o_move rfl) ?_
      refine go_v rfl (.yes rfl rfl rfl) rfl (o_move rfl) ?_
      refine go_v rfl (.yes rfl rfl rfl) rfl (o_move rfl) ?_
      refine go_v rfl (.yes rfl rfl rfl) rfl (o_idxS rfl rfl (by first | assumption | omega)) ?_
      first | refine go_v rfl (.yes rfl rfl rfl) rfl (o_fldS rfl) ?_ | refine go_v rfl (.yes rfl rfl rfl) rfl (o_fld rfl) ?_
      refine go_v rfl (.yes rfl rfl rfl) rfl (o_loadS rfl h1) ?_
      refine go_vs rfl (.yes rfl rfl rfl) rfl (o_move rfl) (To.sat (by repeat (first | exact .nil | exact .done .refl | (apply To.cons; · (first | exact .head | exact .tail .head | exact .tail (.tail .head) | exact .tail (.tail (.tail .head)) | exact .tail (.tail (.tail (.tail .head))) | exact .tail (.tail (.tail (.tail (.tail .head)))) | exact .tail (.tail (.tail (.tail (.tail (.tail .head))))) | exact .tail (.tail (.tail (.tail (.tail (.tail (.tail .head)))))))) | exact .done (by repeat (first | exact .refl | apply Drop.skip))))) ?_
      refine go_vs rfl (.yes rfl rfl rfl) rfl (o_move rfl) (To.sat (by repeat (first | exact .nil | exact .done .refl | (apply To.cons; · (first | exact .head | exact .tail .head | exact .tail (.tail .head) | exact .tail (.tail (.tail .head)) | exact .tail (.tail (.tail (.tail .head))) | exact .tail (.tail (.tail (.tail (.tail .head)))) | exact .tail (.tail (.tail (.tail (.tail (.tail .head))))) | exact .tail (.tail (.tail (.tail (.tail (.tail (.tail .head)))))))) | exact .done (by repeat (first | exact .refl | apply Drop.skip))))) ?_
      refine go_vs rfl (.yes rfl rfl rfl) rfl (o_move rfl) (To.sat (by repeat (first | exact .nil | exact .done .refl | (apply To.cons; · (first | exact .head | exact .tail .head | exact .tail (.tail .head) | exact .tail (.tail (.tail .head)) | exact .tail (.tail (.tail (.tail .head))) | exact .tail (.tail (.tail (.tail (.tail .head)))) | exact .tail (.tail (.tail (.tail (.tail (.tail .head))))) | exact .tail (.tail (.tail (.tail (.tail (.tail (.tail .head)))))))) | exact .done (by repeat (first | exact .refl | apply Drop.skip))))) ?_
      refine go_vs rfl (.yes rfl rfl rfl) rfl (o_idxS rfl rfl (by first | assumption | omega)) (To.sat (by repeat (first | exact .nil | exact .done .refl | (apply To.cons; · (first | exact .head | exact .tail .head | exact .tail (.tail .head) | exact .tail (.tail (.tail .head)) | exact .tail (.tail (.tail (.tail .head))) | exact .tail (.tail (.tail (.tail (.tail .head)))) | exact .tail (.tail (.tail (.tail (.tail (.tail .head))))) | exact .tail (.tail (.tail (.tail (.tail (.tail (.tail .head)))))))) | exact .done (by repeat (first | exact .refl | apply Drop.skip))))) ?_
      first | refine go_vs rfl (.yes rfl rfl rfl) rfl (o_fldS rfl) (To.sat (by repeat (first | exact .nil | exact .done .refl | (apply To.cons; · (first | exact .head | exact .tail .head | exact .tail (.tail .head) | exact .tail (.tail (.tail .head)) | exact .tail (.tail (.tail (.tail .head))) | exact .tail (.tail (.tail (.tail (.tail .head)))) | exact .tail (.tail (.tail (.tail (.tail (.tail .head))))) | exact .tail (.tail (.tail (.tail (.tail (.tail (.tail .head)))))))) | exact .done (by repeat (first | exact .refl | apply Drop.skip))))) ?_ | refine go_vs rfl (.yes rfl rfl rfl) rfl (o_fld rfl) (To.sat (by repeat (first | exact .nil | exact .done .refl | (apply To.cons; · (first | exact .head | exact .tail .head | exact .tail (.tail .head) | exact .tail (.tail (.tail .head)) | exact .tail (.tail (.tail (.tail .head))) | exact .tail (.tail (.tail (.tail (.tail .head)))) | exact .tail (.tail (.tail (.tail (.tail (.tail .head))))) | exact .tail (.tail (.tail (.tail (.tail (.tail (.tail .head)))))))) | exact .done (by repeat (first | exact .refl | apply Drop.skip))))) ?_
      refine go_vs rfl (.yes rfl rfl rfl) rfl (o_loadS rfl h1) (To.sat (by repeat (first | exact .nil | exact .done .refl | (apply To.cons; · (first | exact .head | exact .tail .head | exact .tail (.tail .head) | exact .tail (.tail (.tail .head)) | exact .tail (.tail (.tail (.tail .head))) | exact .tail (.tail (.tail (.tail (.tail .head)))) | exact .tail (.tail (.tail (.tail (.tail (.tail .head))))) | exact .tail (.tail (.tail (.tail (.tail (.tail (.tail .head)))))))) | exact .done (by repeat (first | exact .refl | apply Drop.skip))))) ?_
      refine go_c rfl (.yes rfl rfl rfl) rfl (o_call rfl (Where_spec _ _ _) (by repeat (first | exact .nil | (apply Part.cons; · (first | exact .head | exact .tail .head | exact .tail (.tail .head) | exact .tail (.tail (.tail .head)) | exact .tail (.tail (.tail (.tail .head))) | exact .tail (.tail (.tail (.tail (.tail .head)))) | exact .tail (.tail (.tail (.tail (.tail (.tail .head))))) | exact .tail (.tail (.tail (.tail (.tail (.tail (.tail .head))))))))))) ?_
      rintro _ _ ⟨_, ⟨rfl, rfl⟩, rfl⟩
      simp only [List.cons_append, List.nil_append]
      refine ⟨(To.sat (by repeat (first | exact .nil | exact .done .refl | (apply To.cons; · (first | exact .head | exact .tail .head | exact .tail (.tail .head) | exact .tail (.tail (.tail .head)) | exact .tail (.tail (.tail (.tail .head))) | exact .tail (.tail (.tail (.tail (.tail .head)))) | exact .tail (.tail (.tail (.tail (.tail (.tail .head))))) | exact .tail (.tail (.tail (.tail (.tail (.tail (.tail .head)))))))) | exact .done (by repeat (first | exact .refl | apply Drop.skip))))), ?_⟩
      refine go_c rfl (.yes rfl rfl rfl) rfl (o_call rfl (rWhere_spec _ _ _ _ hr) (by repeat (first | exact .nil | (apply Part.cons; · (first | exact .head | exact .tail .head | exact .tail (.tail .head) | exact .tail (.tail (.tail .head)) | exact .tail (.tail (.tail (.tail .head))) | exact .tail (.tail (.tail (.tail (.tail .head)))) | exact .tail (.tail (.tail (.tail (.tail (.tail .head))))) | exact .tail (.tail (.tail (.tail (.tail (.tail (.tail .head))))))))))) ?_
      rintro _ _ ⟨_, ⟨rfl, rfl⟩, rfl⟩
      simp only [List.cons_append, List.nil_append]
      refine ⟨(To.sat (by repeat (first | exact .nil | exact .done .refl | (apply To.cons; · (first | exact .head | exact .tail .head | exact .tail (.tail .head) | exact .tail (.tail (.tail .head)) | exact .tail (.tail (.tail (.tail .head))) | exact .tail (.tail (.tail (.tail (.tail .head)))) | exact .tail (.tail (.tail (.tail (.tail (.tail .head))))) | exact .tail (.tail (.tail (.tail (.tail (.tail (.tail .head)))))))) | exact .done (by repeat (first | exact .refl | apply Drop.skip))))), ?_⟩
      refine go_v rfl (.yes rfl rfl rfl) rfl (o_neq rfl rfl) ?_
      refine go_v rfl .none rfl (o_pickF rfl rfl rfl) ?_
      refine go_nil ?_
      refine ge_then ?_
      refine g_cond_false (by simp [opv, slk]) ?_
      refine g_skip ?_
      refine ge_then ?_
      refine g_seq ?_
      refine g_region ?_
      refine gl_v rfl (o_move rfl) ?_
      refine gl_v rfl (o_move rfl) ?_
      refine gl_v rfl (o_idxS rfl rfl (by first | assumption | omega)) ?_
      first | refine gl_v rfl (o_fldS rfl) ?_ | refine gl_v rfl (o_fld rfl) ?_
      refine gl_v rfl (o_loadS rfl h2) ?_
      refine gl_v rfl (o_assign rfl) ?_
      refine gl_nil ?_
      refine ge_then ?_
      refine g_seq ?_
      refine g_region ?_
      refine gl_v rfl (o_move rfl) ?_
      refine gl_v rfl (o_geq rfl rfl) ?_
      refine gl_v rfl (o_move rfl) ?_
      refine gl_g rfl rfl (fun hc3 => ?_) (fun hc3 => ?_) rfl
      ·
        have hc3' := hc3
        first | replace hc3' := of_decide_eq_true hc3' | replace hc3' := lt_f hc3' | replace hc3' := le_f hc3' | replace hc3' := dec_f hc3' | replace hc3' := nlt_t hc3' | replace hc3' := nle_t hc3' | replace hc3' := ndec_t hc3' | replace hc3' := ndec_f hc3' | replace hc3' := nn_t hc3' | replace hc3' := nn_f hc3' | skip
        refine gl_v rfl (o_move rfl) ?_
        refine gl_gT rfl rfl hc3 ?_
        refine gl_v rfl (o_leq rfl rfl) ?_
        refine gl_v rfl (o_pickT hc3 rfl rfl) ?_
        refine gl_v rfl (o_move rfl) ?_
        refine gl_g rfl rfl (fun hc4 => ?_) (fun hc4 => ?_) rfl
        ·
          have hc4' := hc4
          first | replace hc4' := of_decide_eq_true hc4' | replace hc4' := lt_f hc4' | replace hc4' := le_f hc4' | replace hc4' := dec_f hc4' | replace hc4' := nlt_t hc4' | replace hc4' := nle_t hc4' | replace hc4' := ndec_t hc4' | replace hc4' := ndec_f hc4' | replace hc4' := nn_t hc4' | replace hc4' := nn_f hc4' | skip
          refine gl_v rfl (o_move rfl) ?_
          refine gl_gT rfl rfl hc4 ?_
          refine gl_v rfl (o_move rfl) ?_
          refine gl_gT rfl rfl hc4 ?_
          refine gl_c rfl (o_call rfl (Count_spec _ _ _) (by repeat (first | exact .nil | (apply Part.cons; · (first | exact .head | exact .tail .head | exact .tail (.tail .head) | exact .tail (.tail (.tail .head)) | exact .tail (.tail (.tail (.tail .head))) | exact .tail (.tail (.tail (.tail (.tail .head)))) | exact .tail (.tail (.tail (.tail (.tail (.tail .head))))) | exact .tail (.tail (.tail (.tail (.tail (.tail (.tail .head))))))))))) ?_
          rintro _ _ ⟨_, ⟨rfl, rfl⟩, rfl⟩
          simp only [List.cons_append, List.nil_append]
          refine gl_gT rfl rfl hc4 ?_
          refine gl_v rfl (o_move rfl) ?_
          refine gl_gT rfl rfl hc4 ?_
          refine gl_v rfl (o_move rfl) ?_
          refine gl_gT rfl rfl hc4 ?_
          refine gl_c rfl (o_call rfl (rCount_spec _ _ _ _ hr) (by repeat (first | exact .nil | (apply Part.cons; · (first | exact .head | exact .tail .head | exact .tail (.tail .head) | exact .tail (.tail (.tail .head)) | exact .tail (.tail (.tail (.tail .head))) | exact .tail (.tail (.tail (.tail (.tail .head)))) | exact .tail (.tail (.tail (.tail (.tail (.tail .head))))) | exact .tail (.tail (.tail (.tail (.tail (.tail (.tail .head))))))))))) ?_
          rintro _ _ ⟨_, ⟨rfl, rfl⟩, rfl⟩
          simp only [List.cons_append, List.nil_append]
          refine gl_gT rfl rfl hc4 ?_
          refine gl_v rfl (o_neq rfl rfl) ?_
          refine gl_v rfl (o_pickT hc4 rfl rfl) ?_
          refine gl_v rfl (o_move rfl) ?_
          refine gl_gT rfl rfl (by simp [cntZ]; omega) ?_
          refine gl_v rfl (o_move rfl) ?_
          refine gl_gT rfl rfl (by simp [cntZ]; omega) ?_
          refine gl_v rfl (o_lss rfl rfl) ?_
          refine gl_gT rfl rfl (by simp [cntZ]; omega) ?_
          refine gl_v rfl (o_move rfl) ?_
          refine gl_gT rfl rfl (by simp; omega) ?_
          refine gl_v rfl (o_move rfl) ?_
          refine gl_gT rfl rfl (by simp; omega) ?_
          refine gl_v rfl (o_gtr rfl rfl) ?_
          refine gl_gT rfl rfl (by simp [cntZ]; omega) ?_
          refine gl_v rfl (o_pickF (by simp; omega) rfl rfl) ?_
          refine gl_gT rfl rfl (by simp [cntZ]; omega) ?_
          refine gl_v rfl (o_move rfl) ?_
          refine gl_gF rfl rfl (by simp; omega) rfl ?_
          refine gl_gF rfl rfl (by simp; omega) rfl ?_
          refine gl_gF rfl rfl (by simp; omega) rfl ?_
          refine gl_gF rfl rfl (by simp; omega) rfl ?_
          refine gl_gT rfl rfl (by simp [cntZ]; omega) ?_
          refine gl_v rfl (o_pickF (by simp; omega) rfl rfl) ?_
          refine gl_v rfl (o_pickF (by simp [cntZ]; omega) rfl rfl) ?_
          refine gl_nil ?_
          refine ge_then ?_
          refine g_cond_false rfl ?_
          refine g_skip ?_
          refine ge_block ?_
          refine ge_then ?_
          refine g_region ?_
          refine gl_v rfl (o_move rfl) ?_
          refine gl_v rfl (o_addR _ (by first | exact wr_i64 (by omega) | rfl) rfl rfl) ?_
          refine gl_v rfl (o_assign rfl) ?_
          refine gl_nil ?_
          refine ge_round (k + 1, a6, c6) ⟨show k + 1 ≤ s.length by omega, show k + 1 ≤ 400 by omega⟩ (by show s.length - (k + 1) < s.length - k; omega) (by dsimp only; rw [rrD_succ hq]; exact (Keep.cons rfl (Keep.cons rfl (Keep.cons rfl (Keep.cons rfl (Keep.nil)))))) (by dsimp only; rw [rrD_succ hq]; exact (To.sat (by repeat (first | exact .nil | exact .done .refl | (apply To.cons; · (first | exact .head | exact .tail .head | exact .tail (.tail .head) | exact .tail (.tail (.tail .head)) | exact .tail (.tail (.tail (.tail .head))) | exact .tail (.tail (.tail (.tail (.tail .head)))) | exact .tail (.tail (.tail (.tail (.tail (.tail .head))))) | exact .tail (.tail (.tail (.tail (.tail (.tail (.tail .head)))))))) | exact .done (by repeat (first | exact .refl | apply Drop.skip))))))
        ·
          have hc4' := hc4
          first | replace hc4' := of_decide_eq_true hc4' | replace hc4' := lt_f hc4' | replace hc4' := le_f hc4' | replace hc4' := dec_f hc4' | replace hc4' := nlt_t hc4' | replace hc4' := nle_t hc4' | replace hc4' := ndec_t hc4' | replace hc4' := ndec_f hc4' | replace hc4' := nn_t hc4' | replace hc4' := nn_f hc4' | skip
          simp only [putO]
          refine gl_gF rfl rfl hc4 rfl ?_
          refine gl_gF rfl rfl hc4 rfl ?_
          refine gl_gF rfl rfl hc4 rfl ?_
          refine gl_gF rfl rfl hc4 rfl ?_
          refine gl_gF rfl rfl hc4 rfl ?_
          refine gl_gF rfl rfl hc4 rfl ?_
          refine gl_v rfl (o_pickF hc4 rfl rfl) ?_
          refine gl_v rfl (o_move rfl) ?_
          refine gl_gT rfl rfl rfl ?_
          refine gl_v rfl (o_move rfl) ?_
          refine gl_gT rfl rfl rfl ?_
          refine gl_v rfl (o_lss rfl rfl) ?_
          refine gl_gT rfl rfl rfl ?_
          refine gl_v rfl (o_move rfl) ?_
          refine gl_gT rfl rfl (by simp; omega) ?_
          refine gl_v rfl (o_move rfl) ?_
          refine gl_gT rfl rfl (by simp; omega) ?_
          refine gl_v rfl (o_gtr rfl rfl) ?_
          refine gl_gT rfl rfl rfl ?_
          refine gl_v rfl (o_pickF (by simp; omega) rfl rfl) ?_
          refine gl_gT rfl rfl rfl ?_
          refine gl_v rfl (o_move rfl) ?_
          refine gl_gT rfl rfl (by simp; omega) ?_
          refine gl_v rfl (o_move rfl) ?_
          refine gl_gT rfl rfl (by simp; omega) ?_
          refine gl_v rfl (o_move rfl) ?_
          refine gl_gT rfl rfl (by simp; omega) ?_
          refine gl_c rfl (o_call rfl (Count_spec _ _ _) (by repeat (first | exact .nil | (apply Part.cons; · (first | exact .head | exact .tail .head | exact .tail (.tail .head) | exact .tail (.tail (.tail .head)) | exact .tail (.tail (.tail (.tail .head))) | exact .tail (.tail (.tail (.tail (.tail .head)))) | exact .tail (.tail (.tail (.tail (.tail (.tail .head))))) | exact .tail (.tail (.tail (.tail (.tail (.tail (.tail .head))))))))))) ?_
          rintro _ _ ⟨_, ⟨rfl, rfl⟩, rfl⟩
          simp only [List.cons_append, List.nil_append]
          refine gl_gT rfl rfl (by simp; omega) ?_
          refine gl_v rfl (o_neq rfl rfl) ?_
          refine gl_gT rfl rfl rfl ?_
          refine gl_v rfl (o_pickT (by simp; omega) rfl rfl) ?_
          refine gl_v rfl (o_pickF rfl rfl rfl) ?_
          refine gl_nil ?_
          refine ge_then ?_
          refine g_cond_false ((by first | rfl | (simp [opv, slk, cntZ]; done) | (simp [opv, slk, cntZ]; omega))) ?_
          refine g_skip ?_
          refine ge_block ?_
          refine ge_then ?_
          refine g_region ?_
          refine gl_v rfl (o_move rfl) ?_
          refine gl_v rfl (o_addR _ (by first | exact wr_i64 (by omega) | rfl) rfl rfl) ?_
          refine gl_v rfl (o_assign rfl) ?_
          refine gl_nil ?_
          refine ge_round (k + 1, a6, c6) ⟨show k + 1 ≤ s.length by omega, show k + 1 ≤ 400 by omega⟩ (by show s.length - (k + 1) < s.length - k; omega) (by dsimp only; rw [rrD_succ hq]; exact (Keep.cons rfl (Keep.cons rfl (Keep.cons rfl (Keep.cons rfl (Keep.nil)))))) (by dsimp only; rw [rrD_succ hq]; exact (To.sat (by repeat (first | exact .nil | exact .done .refl | (apply To.cons; · (first | exact .head | exact .tail .head | exact .tail (.tail .head) | exact .tail (.tail (.tail .head)) | exact .tail (.tail (.tail (.tail .head))) | exact .tail (.tail (.tail (.tail (.tail .head)))) | exact .tail (.tail (.tail (.tail (.tail (.tail .head))))) | exact .tail (.tail (.tail (.tail (.tail (.tail (.tail .head)))))))) | exact .done (by repeat (first | exact .refl | apply Drop.skip))))))
      ·
        have hc3' := hc3
        first | replace hc3' := of_decide_eq_true hc3' | replace hc3' := lt_f hc3' | replace hc3' := le_f hc3' | replace hc3' := dec_f hc3' | replace hc3' := nlt_t hc3' | replace hc3' := nle_t hc3' | replace hc3' := ndec_t hc3' | replace hc3' := ndec_f hc3' | replace hc3' := nn_t hc3' | replace hc3' := nn_f hc3' | skip
        simp only [putO]
        refine gl_gF rfl rfl hc3 rfl ?_
        refine gl_v rfl (o_pickF hc3 rfl rfl) ?_
        refine gl_v rfl (o_move rfl) ?_
        refine gl_gF rfl rfl rfl rfl ?_
        refine gl_gF rfl rfl rfl rfl ?_
        refine gl_gF rfl rfl rfl rfl ?_
        refine gl_gF rfl rfl rfl rfl ?_
        refine gl_gF rfl rfl rfl rfl ?_
        refine gl_gF rfl rfl rfl rfl ?_
        refine gl_gF rfl rfl rfl rfl ?_
        refine gl_v rfl (o_pickF rfl rfl rfl) ?_
        refine gl_v rfl (o_move rfl) ?_
        refine gl_gT rfl rfl rfl ?_
        refine gl_v rfl (o_move rfl) ?_
        refine gl_gT rfl rfl rfl ?_
        refine gl_v rfl (o_lss rfl rfl) ?_
        refine gl_gT rfl rfl rfl ?_
        refine gl_v rfl (o_move rfl) ?_
        refine gl_gF rfl rfl (by simp; omega) rfl ?_
        refine gl_gF rfl rfl (by simp; omega) rfl ?_
        refine gl_gT rfl rfl rfl ?_
        refine gl_v rfl (o_pickT (by simp; omega) rfl rfl) ?_
        refine gl_gT rfl rfl rfl ?_
        refine gl_v rfl (o_move rfl) ?_
        refine gl_gT rfl rfl rfl ?_
        refine gl_v rfl (o_move rfl) ?_
        refine gl_gT rfl rfl rfl ?_
        refine gl_v rfl (o_move rfl) ?_
        refine gl_gT rfl rfl rfl ?_
        refine gl_c rfl (o_call rfl (Count_spec _ _ _) (by repeat (first | exact .nil | (apply Part.cons; · (first | exact .head | exact .tail .head | exact .tail (.tail .head) | exact .tail (.tail (.tail .head)) | exact .tail (.tail (.tail (.tail .head))) | exact .tail (.tail (.tail (.tail (.tail .head)))) | exact .tail (.tail (.tail (.tail (.tail (.tail .head))))) | exact .tail (.tail (.tail (.tail (.tail (.tail (.tail .head))))))))))) ?_
        rintro _ _ ⟨_, ⟨rfl, rfl⟩, rfl⟩
        simp only [List.cons_append, List.nil_append]
        refine gl_gT rfl rfl rfl ?_
        refine gl_v rfl (o_neq rfl rfl) ?_
        refine gl_gT rfl rfl rfl ?_
        refine gl_v rfl (o_pickT rfl rfl rfl) ?_
        refine gl_v rfl (o_pickF rfl rfl rfl) ?_
        refine gl_nil ?_
        refine ge_then ?_
        refine g_cond_false ((by first | rfl | (simp [opv, slk, cntZ]; done) | (simp [opv, slk, cntZ]; omega))) ?_
        refine g_skip ?_
        refine ge_block ?_
        refine ge_then ?_
        refine g_region ?_
        refine gl_v rfl (o_move rfl) ?_
        refine gl_v rfl (o_addR _ (by first | exact wr_i64 (by omega) | rfl) rfl rfl) ?_
        refine gl_v rfl (o_assign rfl) ?_
        refine gl_nil ?_
        refine ge_round (k + 1, a6, c6) ⟨show k + 1 ≤ s.length by omega, show k + 1 ≤ 400 by omega⟩ (by show s.length - (k + 1) < s.length - k; omega) (by dsimp only; rw [rrD_succ hq]; exact (Keep.cons rfl (Keep.cons rfl (Keep.cons rfl (Keep.cons rfl (Keep.nil)))))) (by dsimp only; rw [rrD_succ hq]; exact (To.sat (by repeat (first | exact .nil | exact .done .refl | (apply To.cons; · (first | exact .head | exact .tail .head | exact .tail (.tail .head) | exact .tail (.tail (.tail .head)) | exact .tail (.tail (.tail (.tail .head))) | exact .tail (.tail (.tail (.tail (.tail .head)))) | exact .tail (.tail (.tail (.tail (.tail (.tail .head))))) | exact .tail (.tail (.tail (.tail (.tail (.tail (.tail .head)))))))) | exact .done (by repeat (first | exact .refl | apply Drop.skip))))))
    ·
      first | replace hc2 := of_decide_eq_true hc2 | replace hc2 := lt_f hc2 | replace hc2 := le_f hc2 | replace hc2 := dec_f hc2 | replace hc2 := nlt_t hc2 | replace hc2 := nle_t hc2 | replace hc2 := ndec_t hc2 | replace hc2 := ndec_f hc2 | replace hc2 := nn_t hc2 | replace hc2 := nn_f hc2 | skip
      refine g_exit ?_
      refine ge_then_exit ?_
      refine ge_then_exit ?_
      refine ge_block_exit ?_
      refine ge_then ?_
      refine g_seq ?_
      refine g_region ?_
      refine gl_v rfl (o_move rfl) ?_
      refine gl_c rfl (o_call rfl (Held_spec _ _ hr hk) (by repeat (first | exact .nil | (apply Part.cons; · (first | exact .head | exact .tail .head | exact .tail (.tail .head) | exact .tail (.tail (.tail .head)) | exact .tail (.tail (.tail (.tail .head))) | exact .tail (.tail (.tail (.tail (.tail .head)))) | exact .tail (.tail (.tail (.tail (.tail (.tail .head))))) | exact .tail (.tail (.tail (.tail (.tail (.tail (.tail .head))))))))))) ?_
      rintro _ _ ⟨_, ⟨a3, c3, rfl, rfl⟩, rfl⟩
      simp only [List.cons_append, List.nil_append]
      refine gl_v rfl (o_move rfl) ?_
      refine gl_c rfl (o_call rfl (rHeld_spec _ _ _ hr) (by repeat (first | exact .nil | (apply Part.cons; · (first | exact .head | exact .tail .head | exact .tail (.tail .head) | exact .tail (.tail (.tail .head)) | exact .tail (.tail (.tail (.tail .head))) | exact .tail (.tail (.tail (.tail (.tail .head)))) | exact .tail (.tail (.tail (.tail (.tail (.tail .head))))) | exact .tail (.tail (.tail (.tail (.tail (.tail (.tail .head))))))))))) ?_
      rintro _ _ ⟨_, ⟨a2, c2, rfl, rfl⟩, rfl⟩
      simp only [List.cons_append, List.nil_append]
      refine gl_c rfl (o_call rfl (rSame_spec _ _ _ _ _ (Nat.le_trans (held_len _) hr)) (by repeat (first | exact .nil | (apply Part.cons; · (first | exact .head | exact .tail .head | exact .tail (.tail .head) | exact .tail (.tail (.tail .head)) | exact .tail (.tail (.tail (.tail .head))) | exact .tail (.tail (.tail (.tail (.tail .head)))) | exact .tail (.tail (.tail (.tail (.tail (.tail .head))))) | exact .tail (.tail (.tail (.tail (.tail (.tail (.tail .head))))))))))) ?_
      rintro _ _ ⟨_, ⟨rfl, rfl⟩, rfl⟩
      simp only [List.cons_append, List.nil_append]
      refine gl_v rfl (o_assign rfl) ?_
      refine gl_nil ?_
      refine ge_then ?_
      refine g_ret ?_
      refine ret1 (.inl rfl) rfl rfl _ (⟨rfl, rfl⟩) (To.sat (by repeat (first | exact .nil | exact .done .refl | (apply To.cons; · (first | exact .head | exact .tail .head | exact .tail (.tail .head) | exact .tail (.tail (.tail .head)) | exact .tail (.tail (.tail (.tail .head))) | exact .tail (.tail (.tail (.tail (.tail .head)))) | exact .tail (.tail (.tail (.tail (.tail (.tail .head))))) | exact .tail (.tail (.tail (.tail (.tail (.tail (.tail .head)))))))) | exact .done (by repeat (first | exact .refl | apply Drop.skip)))))
  ·
    have hc1' := hc1
    first | replace hc1' := of_decide_eq_true hc1' | replace hc1' := lt_f hc1' | replace hc1' := le_f hc1' | replace hc1' := dec_f hc1' | replace hc1' := nlt_t hc1' | replace hc1' := nle_t hc1' | replace hc1' := ndec_t hc1' | replace hc1' := ndec_f hc1' | replace hc1' := nn_t hc1' | replace hc1' := nn_f hc1' | skip
    simp only [putO]
    refine gl_gF rfl rfl hc1 rfl ?_
    refine gl_v rfl (o_pickF hc1 rfl rfl) ?_
    refine gl_nil ?_
    refine ge_then ?_
    refine g_cond_false rfl ?_
    refine g_exit ?_
    refine ge_then_exit ?_
    refine ge_then_exit ?_
    refine ge_block_exit ?_
    refine ge_then ?_
    refine g_seq ?_
    refine g_region ?_
    refine gl_v rfl (o_move rfl) ?_
    refine gl_c rfl (o_call rfl (Held_spec _ _ hr hk) (by repeat (first | exact .nil | (apply Part.cons; · (first | exact .head | exact .tail .head | exact .tail (.tail .head) | exact .tail (.tail (.tail .head)) | exact .tail (.tail (.tail (.tail .head))) | exact .tail (.tail (.tail (.tail (.tail .head)))) | exact .tail (.tail (.tail (.tail (.tail (.tail .head))))) | exact .tail (.tail (.tail (.tail (.tail (.tail (.tail .head))))))))))) ?_
    rintro _ _ ⟨_, ⟨a3, c3, rfl, rfl⟩, rfl⟩
    simp only [List.cons_append, List.nil_append]
    refine gl_v rfl (o_move rfl) ?_
    refine gl_c rfl (o_call rfl (rHeld_spec _ _ _ hr) (by repeat (first | exact .nil | (apply Part.cons; · (first | exact .head | exact .tail .head | exact .tail (.tail .head) | exact .tail (.tail (.tail .head)) | exact .tail (.tail (.tail (.tail .head))) | exact .tail (.tail (.tail (.tail (.tail .head)))) | exact .tail (.tail (.tail (.tail (.tail (.tail .head))))) | exact .tail (.tail (.tail (.tail (.tail (.tail (.tail .head))))))))))) ?_
    rintro _ _ ⟨_, ⟨a2, c2, rfl, rfl⟩, rfl⟩
    simp only [List.cons_append, List.nil_append]
    refine gl_c rfl (o_call rfl (rSame_spec _ _ _ _ _ (Nat.le_trans (held_len _) hr)) (by repeat (first | exact .nil | (apply Part.cons; · (first | exact .head | exact .tail .head | exact .tail (.tail .head) | exact .tail (.tail (.tail .head)) | exact .tail (.tail (.tail (.tail .head))) | exact .tail (.tail (.tail (.tail (.tail .head)))) | exact .tail (.tail (.tail (.tail (.tail (.tail .head))))) | exact .tail (.tail (.tail (.tail (.tail (.tail (.tail .head))))))))))) ?_
    rintro _ _ ⟨_, ⟨rfl, rfl⟩, rfl⟩
    simp only [List.cons_append, List.nil_append]
    refine gl_v rfl (o_assign rfl) ?_
    refine gl_nil ?_
    refine ge_then ?_
    refine g_ret ?_
    refine ret1 (.inl rfl) rfl rfl _ (⟨rfl, rfl⟩) (To.sat (by repeat (first | exact .nil | exact .done .refl | (apply To.cons; · (first | exact .head | exact .tail .head | exact .tail (.tail .head) | exact .tail (.tail (.tail .head)) | exact .tail (.tail (.tail (.tail .head))) | exact .tail (.tail (.tail (.tail (.tail .head)))) | exact .tail (.tail (.tail (.tail (.tail (.tail .head))))) | exact .tail (.tail (.tail (.tail (.tail (.tail (.tail .head)))))))) | exact .done (by repeat (first | exact .refl | apply Drop.skip)))))

end Go.Proofs.Ytdfmflccmnniaaa.L

