/-
  Check's reference: what its functions compute. Own work, printed in part by a program of its own.
-/
import Derived.Test.YtgmdlhlmffdbhaaDoorChkC
set_option linter.unusedSimpArgs false
set_option linter.unusedVariables false
set_option linter.unusedSectionVars false
namespace Go.Proofs.YtgmdlhlmffdbhaaDoor.L
open Go.L Go.L.Lx Go.L.Pg
attribute [local irreducible] isName
theorem verb0 {d : Int} (h1 : ¬ d = 1) (h2 : ¬ d = 2) (h3 : ¬ d = 3) (h4 : ¬ d = 4) (h5 : ¬ d = 5) (h6 : ¬ d = 6) (h7 : ¬ d = 7) (h8 : ¬ d = 8) (h9 : ¬ d = 9) (h10 : ¬ d = 10) (h11 : ¬ d = 11) (h12 : ¬ d = 12) : verb d = ([], []) := by
  unfold verb
  rw [if_neg h1, if_neg h2, if_neg h3, if_neg h4, if_neg h5, if_neg h6, if_neg h7, if_neg h8, if_neg h9, if_neg h10, if_neg h11, if_neg h12]
theorem verb_pn (d : Int) : (verb d).2.length ≤ 3 ∧ (verb d).1.length ≤ 8 := by
  by_cases h : 1 ≤ d ∧ d ≤ 12
  · rcases (show d = 1 ∨ d = 2 ∨ d = 3 ∨ d = 4 ∨ d = 5 ∨ d = 6 ∨ d = 7 ∨ d = 8 ∨ d = 9 ∨ d = 10 ∨ d = 11 ∨ d = 12 by omega) with rfl | rfl | rfl | rfl | rfl | rfl | rfl | rfl | rfl | rfl | rfl | rfl <;> decide
  · rw [verb0 (by omega) (by omega) (by omega) (by omega) (by omega) (by omega) (by omega) (by omega) (by omega) (by omega) (by omega) (by omega)]; decide
theorem refsB (l : By) : decide (l ∈ refs7) = (decide (l ∈ slots4) || decide (l = [115, 101, 108, 102]) || decide (l = [115, 101, 110, 100, 101, 114]) || decide (l = [112, 97, 114, 101, 110, 116])) := by
  rw [Bool.eq_iff_iff]; simp only [Bool.or_eq_true, decide_eq_true_eq, refs7, slots4, List.mem_cons, List.not_mem_nil, or_false]; simp only [or_assoc, or_comm, or_left_comm]
theorem any_lt {α : Type} {L : List α} {q : α → Bool} {x i : Nat} {t : α} (h : L[x]? = some t) (hx : x < i) (hq : q t = true) : (L.take i).any q = true := List.any_eq_true.2 ⟨t, List.mem_of_getElem? (i := x) (by rw [List.getElem?_take, if_pos hx]; exact h), hq⟩
theorem any_succ {α : Type} {L : List α} {q : α → Bool} {x : Nat} {t : α} (h : L[x]? = some t) : (L.take (x + 1)).any q = ((L.take x).any q || q t) := by
  obtain ⟨hj, e⟩ := List.getElem?_eq_some_iff.1 h
  rw [List.take_succ_eq_append_getElem hj, e, List.any_append]; simp
theorem r4_t {r : Row} {y : Nat} {t : Eff} (h : r.effs[y]? = some t) (h1 : t.do' = 4) (h2 : 1 < (r.effs.length : Int)) : r4 r = true := by
  unfold r4; rw [Bool.and_eq_true]; exact ⟨List.any_eq_true.2 ⟨t, List.mem_of_getElem? h, decide_eq_true h1⟩, decide_eq_true h2⟩
theorem r4_f {r : Row} (h : decide (1 < (r.effs.length : Int)) = true → (r.effs.take r.effs.length).any (fun e => decide (e.do' = 4)) = false) : r4 r = false := by
  unfold r4; rw [List.take_length] at h
  cases hd : decide (1 < (r.effs.length : Int)) with
  | false => rw [Bool.and_false]
  | true => rw [h hd]; rfl
theorem fr1 {a : Bool} {c : Int} {r : List (Bool × Int)} (h : a = true) : c = firstR ((a, c) :: r) := by subst h; rfl
theorem fr0 {a : Bool} {c d : Int} {r : List (Bool × Int)} (h : a = false) (h2 : d = firstR r) : d = firstR ((a, c) :: r) := by subst h; exact h2
theorem iv_eq {a b : Int} (h : a = b) : I64 a = I64 b := by rw [h]
theorem get_v {L : By} {i : Nat} (h : i < L.length) : ∃ t, L[i]? = some t := ⟨_, List.getElem?_eq_getElem h⟩

set_option maxRecDepth 8000 in
set_option maxHeartbeats 1000000 in
theorem Verb_spec (d : Int) : FnS Tryd.prog 40 [I64 d] [] (fun u Bs => u = .tuple #[S (verb d).1, S (verb d).2] ∧ Bs = []) := by
  refine fn_body Tryd.func40 rfl rfl rfl ?_
  intro W0 R
  simp only [List.zipIdx_cons, List.zipIdx_nil, List.map_cons, List.map_nil, Nat.zero_add, Nat.reduceAdd, List.cons_append, List.nil_append]
  refine g_seq ?_
  refine g_region ?_
  refine gl_v rfl (o_assign rfl) ?_
  refine gl_v rfl (o_assign rfl) ?_
  refine gl_nil ?_
  refine ge_then ?_
  refine g_seq ?_
  refine g_seq ?_
  refine g_region ?_
  refine gl_v rfl (o_move rfl) ?_
  refine gl_nil ?_
  refine ge_then ?_
  refine g_block ?_
  refine g_seq ?_
  refine g_region ?_
  refine gl_v rfl (o_eql rfl rfl) ?_
  refine gl_v rfl (o_assign rfl) ?_
  refine gl_nil ?_
  refine ge_then ?_
  refine g_cond rfl (fun hc1 => ?_) (fun hc1 => ?_)
  ·
    first | replace hc1 := of_decide_eq_true hc1 | replace hc1 := lt_f hc1 | replace hc1 := le_f hc1 | replace hc1 := dec_f hc1 | replace hc1 := nlt_t hc1 | replace hc1 := nle_t hc1 | replace hc1 := ndec_t hc1 | replace hc1 := ndec_f hc1 | replace hc1 := nn_t hc1 | replace hc1 := nn_f hc1 | skip
    refine g_seq ?_
    refine g_region ?_
    refine gl_v rfl (o_assign rfl) ?_
    refine gl_v rfl (o_assign rfl) ?_
    refine gl_nil ?_
    refine ge_then ?_
    refine g_ret ?_
    refine ge_block_ret ?_
    refine ge_then_ret ?_
    refine ret2 (.inl rfl) rfl rfl rfl  [] ⟨by first | (subst_vars; rfl) | (rw [verb0] <;> first | rfl | assumption), rfl⟩ (To.sat (by repeat (first | exact .nil | exact .done .refl | (apply To.cons; · (repeat (first | exact .head | apply Sel.tail))) | exact .done (by repeat (first | exact .refl | apply Drop.skip)))))
  ·
    first | replace hc1 := of_decide_eq_true hc1 | replace hc1 := lt_f hc1 | replace hc1 := le_f hc1 | replace hc1 := dec_f hc1 | replace hc1 := nlt_t hc1 | replace hc1 := nle_t hc1 | replace hc1 := ndec_t hc1 | replace hc1 := ndec_f hc1 | replace hc1 := nn_t hc1 | replace hc1 := nn_f hc1 | skip
    refine g_seq ?_
    refine g_region ?_
    refine gl_v rfl (o_eql rfl rfl) ?_
    refine gl_v rfl (o_assign rfl) ?_
    refine gl_nil ?_
    refine ge_then ?_
    refine g_cond rfl (fun hc2 => ?_) (fun hc2 => ?_)
    ·
      first | replace hc2 := of_decide_eq_true hc2 | replace hc2 := lt_f hc2 | replace hc2 := le_f hc2 | replace hc2 := dec_f hc2 | replace hc2 := nlt_t hc2 | replace hc2 := nle_t hc2 | replace hc2 := ndec_t hc2 | replace hc2 := ndec_f hc2 | replace hc2 := nn_t hc2 | replace hc2 := nn_f hc2 | skip
      refine g_seq ?_
      refine g_region ?_
      refine gl_v rfl (o_assign rfl) ?_
      refine gl_v rfl (o_assign rfl) ?_
      refine gl_nil ?_
      refine ge_then ?_
      refine g_ret ?_
      refine ge_block_ret ?_
      refine ge_then_ret ?_
      refine ret2 (.inl rfl) rfl rfl rfl  [] ⟨by first | (subst_vars; rfl) | (rw [verb0] <;> first | rfl | assumption), rfl⟩ (To.sat (by repeat (first | exact .nil | exact .done .refl | (apply To.cons; · (repeat (first | exact .head | apply Sel.tail))) | exact .done (by repeat (first | exact .refl | apply Drop.skip)))))
    ·
      first | replace hc2 := of_decide_eq_true hc2 | replace hc2 := lt_f hc2 | replace hc2 := le_f hc2 | replace hc2 := dec_f hc2 | replace hc2 := nlt_t hc2 | replace hc2 := nle_t hc2 | replace hc2 := ndec_t hc2 | replace hc2 := ndec_f hc2 | replace hc2 := nn_t hc2 | replace hc2 := nn_f hc2 | skip
      refine g_seq ?_
      refine g_region ?_
      refine gl_v rfl (o_eql rfl rfl) ?_
      refine gl_v rfl (o_assign rfl) ?_
      refine gl_nil ?_
      refine ge_then ?_
      refine g_cond rfl (fun hc3 => ?_) (fun hc3 => ?_)
      ·
        first | replace hc3 := of_decide_eq_true hc3 | replace hc3 := lt_f hc3 | replace hc3 := le_f hc3 | replace hc3 := dec_f hc3 | replace hc3 := nlt_t hc3 | replace hc3 := nle_t hc3 | replace hc3 := ndec_t hc3 | replace hc3 := ndec_f hc3 | replace hc3 := nn_t hc3 | replace hc3 := nn_f hc3 | skip
        refine g_seq ?_
        refine g_region ?_
        refine gl_v rfl (o_assign rfl) ?_
        refine gl_v rfl (o_assign rfl) ?_
        refine gl_nil ?_
        refine ge_then ?_
        refine g_ret ?_
        refine ge_block_ret ?_
        refine ge_then_ret ?_
        refine ret2 (.inl rfl) rfl rfl rfl  [] ⟨by first | (subst_vars; rfl) | (rw [verb0] <;> first | rfl | assumption), rfl⟩ (To.sat (by repeat (first | exact .nil | exact .done .refl | (apply To.cons; · (repeat (first | exact .head | apply Sel.tail))) | exact .done (by repeat (first | exact .refl | apply Drop.skip)))))
      ·
        first | replace hc3 := of_decide_eq_true hc3 | replace hc3 := lt_f hc3 | replace hc3 := le_f hc3 | replace hc3 := dec_f hc3 | replace hc3 := nlt_t hc3 | replace hc3 := nle_t hc3 | replace hc3 := ndec_t hc3 | replace hc3 := ndec_f hc3 | replace hc3 := nn_t hc3 | replace hc3 := nn_f hc3 | skip
        refine g_seq ?_
        refine g_region ?_
        refine gl_v rfl (o_eql rfl rfl) ?_
        refine gl_v rfl (o_assign rfl) ?_
        refine gl_nil ?_
        refine ge_then ?_
        refine g_cond rfl (fun hc4 => ?_) (fun hc4 => ?_)
        ·
          first | replace hc4 := of_decide_eq_true hc4 | replace hc4 := lt_f hc4 | replace hc4 := le_f hc4 | replace hc4 := dec_f hc4 | replace hc4 := nlt_t hc4 | replace hc4 := nle_t hc4 | replace hc4 := ndec_t hc4 | replace hc4 := ndec_f hc4 | replace hc4 := nn_t hc4 | replace hc4 := nn_f hc4 | skip
          refine g_seq ?_
          refine g_region ?_
          refine gl_v rfl (o_assign rfl) ?_
          refine gl_v rfl (o_assign rfl) ?_
          refine gl_nil ?_
          refine ge_then ?_
          refine g_ret ?_
          refine ge_block_ret ?_
          refine ge_then_ret ?_
          refine ret2 (.inl rfl) rfl rfl rfl  [] ⟨by first | (subst_vars; rfl) | (rw [verb0] <;> first | rfl | assumption), rfl⟩ (To.sat (by repeat (first | exact .nil | exact .done .refl | (apply To.cons; · (repeat (first | exact .head | apply Sel.tail))) | exact .done (by repeat (first | exact .refl | apply Drop.skip)))))
        ·
          first | replace hc4 := of_decide_eq_true hc4 | replace hc4 := lt_f hc4 | replace hc4 := le_f hc4 | replace hc4 := dec_f hc4 | replace hc4 := nlt_t hc4 | replace hc4 := nle_t hc4 | replace hc4 := ndec_t hc4 | replace hc4 := ndec_f hc4 | replace hc4 := nn_t hc4 | replace hc4 := nn_f hc4 | skip
          refine g_seq ?_
          refine g_region ?_
          refine gl_v rfl (o_eql rfl rfl) ?_
          refine gl_v rfl (o_assign rfl) ?_
          refine gl_nil ?_
          refine ge_then ?_
          refine g_cond rfl (fun hc5 => ?_) (fun hc5 => ?_)
          ·
            first | replace hc5 := of_decide_eq_true hc5 | replace hc5 := lt_f hc5 | replace hc5 := le_f hc5 | replace hc5 := dec_f hc5 | replace hc5 := nlt_t hc5 | replace hc5 := nle_t hc5 | replace hc5 := ndec_t hc5 | replace hc5 := ndec_f hc5 | replace hc5 := nn_t hc5 | replace hc5 := nn_f hc5 | skip
            refine g_seq ?_
            refine g_region ?_
            refine gl_v rfl (o_assign rfl) ?_
            refine gl_v rfl (o_assign rfl) ?_
            refine gl_nil ?_
            refine ge_then ?_
            refine g_ret ?_
            refine ge_block_ret ?_
            refine ge_then_ret ?_
            refine ret2 (.inl rfl) rfl rfl rfl  [] ⟨by first | (subst_vars; rfl) | (rw [verb0] <;> first | rfl | assumption), rfl⟩ (To.sat (by repeat (first | exact .nil | exact .done .refl | (apply To.cons; · (repeat (first | exact .head | apply Sel.tail))) | exact .done (by repeat (first | exact .refl | apply Drop.skip)))))
          ·
            first | replace hc5 := of_decide_eq_true hc5 | replace hc5 := lt_f hc5 | replace hc5 := le_f hc5 | replace hc5 := dec_f hc5 | replace hc5 := nlt_t hc5 | replace hc5 := nle_t hc5 | replace hc5 := ndec_t hc5 | replace hc5 := ndec_f hc5 | replace hc5 := nn_t hc5 | replace hc5 := nn_f hc5 | skip
            refine g_seq ?_
            refine g_region ?_
            refine gl_v rfl (o_eql rfl rfl) ?_
            refine gl_v rfl (o_assign rfl) ?_
            refine gl_nil ?_
            refine ge_then ?_
            refine g_cond rfl (fun hc6 => ?_) (fun hc6 => ?_)
            ·
              first | replace hc6 := of_decide_eq_true hc6 | replace hc6 := lt_f hc6 | replace hc6 := le_f hc6 | replace hc6 := dec_f hc6 | replace hc6 := nlt_t hc6 | replace hc6 := nle_t hc6 | replace hc6 := ndec_t hc6 | replace hc6 := ndec_f hc6 | replace hc6 := nn_t hc6 | replace hc6 := nn_f hc6 | skip
              refine g_seq ?_
              refine g_region ?_
              refine gl_v rfl (o_assign rfl) ?_
              refine gl_v rfl (o_assign rfl) ?_
              refine gl_nil ?_
              refine ge_then ?_
              refine g_ret ?_
              refine ge_block_ret ?_
              refine ge_then_ret ?_
              refine ret2 (.inl rfl) rfl rfl rfl  [] ⟨by first | (subst_vars; rfl) | (rw [verb0] <;> first | rfl | assumption), rfl⟩ (To.sat (by repeat (first | exact .nil | exact .done .refl | (apply To.cons; · (repeat (first | exact .head | apply Sel.tail))) | exact .done (by repeat (first | exact .refl | apply Drop.skip)))))
            ·
              first | replace hc6 := of_decide_eq_true hc6 | replace hc6 := lt_f hc6 | replace hc6 := le_f hc6 | replace hc6 := dec_f hc6 | replace hc6 := nlt_t hc6 | replace hc6 := nle_t hc6 | replace hc6 := ndec_t hc6 | replace hc6 := ndec_f hc6 | replace hc6 := nn_t hc6 | replace hc6 := nn_f hc6 | skip
              refine g_seq ?_
              refine g_region ?_
              refine gl_v rfl (o_eql rfl rfl) ?_
              refine gl_v rfl (o_assign rfl) ?_
              refine gl_nil ?_
              refine ge_then ?_
              refine g_cond rfl (fun hc7 => ?_) (fun hc7 => ?_)
              ·
                first | replace hc7 := of_decide_eq_true hc7 | replace hc7 := lt_f hc7 | replace hc7 := le_f hc7 | replace hc7 := dec_f hc7 | replace hc7 := nlt_t hc7 | replace hc7 := nle_t hc7 | replace hc7 := ndec_t hc7 | replace hc7 := ndec_f hc7 | replace hc7 := nn_t hc7 | replace hc7 := nn_f hc7 | skip
                refine g_seq ?_
                refine g_region ?_
                refine gl_v rfl (o_assign rfl) ?_
                refine gl_v rfl (o_assign rfl) ?_
                refine gl_nil ?_
                refine ge_then ?_
                refine g_ret ?_
                refine ge_block_ret ?_
                refine ge_then_ret ?_
                refine ret2 (.inl rfl) rfl rfl rfl  [] ⟨by first | (subst_vars; rfl) | (rw [verb0] <;> first | rfl | assumption), rfl⟩ (To.sat (by repeat (first | exact .nil | exact .done .refl | (apply To.cons; · (repeat (first | exact .head | apply Sel.tail))) | exact .done (by repeat (first | exact .refl | apply Drop.skip)))))
              ·
                first | replace hc7 := of_decide_eq_true hc7 | replace hc7 := lt_f hc7 | replace hc7 := le_f hc7 | replace hc7 := dec_f hc7 | replace hc7 := nlt_t hc7 | replace hc7 := nle_t hc7 | replace hc7 := ndec_t hc7 | replace hc7 := ndec_f hc7 | replace hc7 := nn_t hc7 | replace hc7 := nn_f hc7 | skip
                refine g_seq ?_
                refine g_region ?_
                refine gl_v rfl (o_eql rfl rfl) ?_
                refine gl_v rfl (o_assign rfl) ?_
                refine gl_nil ?_
                refine ge_then ?_
                refine g_cond rfl (fun hc8 => ?_) (fun hc8 => ?_)
                ·
                  first | replace hc8 := of_decide_eq_true hc8 | replace hc8 := lt_f hc8 | replace hc8 := le_f hc8 | replace hc8 := dec_f hc8 | replace hc8 := nlt_t hc8 | replace hc8 := nle_t hc8 | replace hc8 := ndec_t hc8 | replace hc8 := ndec_f hc8 | replace hc8 := nn_t hc8 | replace hc8 := nn_f hc8 | skip
                  refine g_seq ?_
                  refine g_region ?_
                  refine gl_v rfl (o_assign rfl) ?_
                  refine gl_v rfl (o_assign rfl) ?_
                  refine gl_nil ?_
                  refine ge_then ?_
                  refine g_ret ?_
                  refine ge_block_ret ?_
                  refine ge_then_ret ?_
                  refine ret2 (.inl rfl) rfl rfl rfl  [] ⟨by first | (subst_vars; rfl) | (rw [verb0] <;> first | rfl | assumption), rfl⟩ (To.sat (by repeat (first | exact .nil | exact .done .refl | (apply To.cons; · (repeat (first | exact .head | apply Sel.tail))) | exact .done (by repeat (first | exact .refl | apply Drop.skip)))))
                ·
                  first | replace hc8 := of_decide_eq_true hc8 | replace hc8 := lt_f hc8 | replace hc8 := le_f hc8 | replace hc8 := dec_f hc8 | replace hc8 := nlt_t hc8 | replace hc8 := nle_t hc8 | replace hc8 := ndec_t hc8 | replace hc8 := ndec_f hc8 | replace hc8 := nn_t hc8 | replace hc8 := nn_f hc8 | skip
                  refine g_seq ?_
                  refine g_region ?_
                  refine gl_v rfl (o_eql rfl rfl) ?_
                  refine gl_v rfl (o_assign rfl) ?_
                  refine gl_nil ?_
                  refine ge_then ?_
                  refine g_cond rfl (fun hc9 => ?_) (fun hc9 => ?_)
                  ·
                    first | replace hc9 := of_decide_eq_true hc9 | replace hc9 := lt_f hc9 | replace hc9 := le_f hc9 | replace hc9 := dec_f hc9 | replace hc9 := nlt_t hc9 | replace hc9 := nle_t hc9 | replace hc9 := ndec_t hc9 | replace hc9 := ndec_f hc9 | replace hc9 := nn_t hc9 | replace hc9 := nn_f hc9 | skip
                    refine g_seq ?_
                    refine g_region ?_
                    refine gl_v rfl (o_assign rfl) ?_
                    refine gl_v rfl (o_assign rfl) ?_
                    refine gl_nil ?_
                    refine ge_then ?_
                    refine g_ret ?_
                    refine ge_block_ret ?_
                    refine ge_then_ret ?_
                    refine ret2 (.inl rfl) rfl rfl rfl  [] ⟨by first | (subst_vars; rfl) | (rw [verb0] <;> first | rfl | assumption), rfl⟩ (To.sat (by repeat (first | exact .nil | exact .done .refl | (apply To.cons; · (repeat (first | exact .head | apply Sel.tail))) | exact .done (by repeat (first | exact .refl | apply Drop.skip)))))
                  ·
                    first | replace hc9 := of_decide_eq_true hc9 | replace hc9 := lt_f hc9 | replace hc9 := le_f hc9 | replace hc9 := dec_f hc9 | replace hc9 := nlt_t hc9 | replace hc9 := nle_t hc9 | replace hc9 := ndec_t hc9 | replace hc9 := ndec_f hc9 | replace hc9 := nn_t hc9 | replace hc9 := nn_f hc9 | skip
                    refine g_seq ?_
                    refine g_region ?_
                    refine gl_v rfl (o_eql rfl rfl) ?_
                    refine gl_v rfl (o_assign rfl) ?_
                    refine gl_nil ?_
                    refine ge_then ?_
                    refine g_cond rfl (fun hc10 => ?_) (fun hc10 => ?_)
                    ·
                      first | replace hc10 := of_decide_eq_true hc10 | replace hc10 := lt_f hc10 | replace hc10 := le_f hc10 | replace hc10 := dec_f hc10 | replace hc10 := nlt_t hc10 | replace hc10 := nle_t hc10 | replace hc10 := ndec_t hc10 | replace hc10 := ndec_f hc10 | replace hc10 := nn_t hc10 | replace hc10 := nn_f hc10 | skip
                      refine g_seq ?_
                      refine g_region ?_
                      refine gl_v rfl (o_assign rfl) ?_
                      refine gl_v rfl (o_assign rfl) ?_
                      refine gl_nil ?_
                      refine ge_then ?_
                      refine g_ret ?_
                      refine ge_block_ret ?_
                      refine ge_then_ret ?_
                      refine ret2 (.inl rfl) rfl rfl rfl  [] ⟨by first | (subst_vars; rfl) | (rw [verb0] <;> first | rfl | assumption), rfl⟩ (To.sat (by repeat (first | exact .nil | exact .done .refl | (apply To.cons; · (repeat (first | exact .head | apply Sel.tail))) | exact .done (by repeat (first | exact .refl | apply Drop.skip)))))
                    ·
                      first | replace hc10 := of_decide_eq_true hc10 | replace hc10 := lt_f hc10 | replace hc10 := le_f hc10 | replace hc10 := dec_f hc10 | replace hc10 := nlt_t hc10 | replace hc10 := nle_t hc10 | replace hc10 := ndec_t hc10 | replace hc10 := ndec_f hc10 | replace hc10 := nn_t hc10 | replace hc10 := nn_f hc10 | skip
                      refine g_seq ?_
                      refine g_region ?_
                      refine gl_v rfl (o_eql rfl rfl) ?_
                      refine gl_v rfl (o_assign rfl) ?_
                      refine gl_nil ?_
                      refine ge_then ?_
                      refine g_cond rfl (fun hc11 => ?_) (fun hc11 => ?_)
                      ·
                        first | replace hc11 := of_decide_eq_true hc11 | replace hc11 := lt_f hc11 | replace hc11 := le_f hc11 | replace hc11 := dec_f hc11 | replace hc11 := nlt_t hc11 | replace hc11 := nle_t hc11 | replace hc11 := ndec_t hc11 | replace hc11 := ndec_f hc11 | replace hc11 := nn_t hc11 | replace hc11 := nn_f hc11 | skip
                        refine g_seq ?_
                        refine g_region ?_
                        refine gl_v rfl (o_assign rfl) ?_
                        refine gl_v rfl (o_assign rfl) ?_
                        refine gl_nil ?_
                        refine ge_then ?_
                        refine g_ret ?_
                        refine ge_block_ret ?_
                        refine ge_then_ret ?_
                        refine ret2 (.inl rfl) rfl rfl rfl  [] ⟨by first | (subst_vars; rfl) | (rw [verb0] <;> first | rfl | assumption), rfl⟩ (To.sat (by repeat (first | exact .nil | exact .done .refl | (apply To.cons; · (repeat (first | exact .head | apply Sel.tail))) | exact .done (by repeat (first | exact .refl | apply Drop.skip)))))
                      ·
                        first | replace hc11 := of_decide_eq_true hc11 | replace hc11 := lt_f hc11 | replace hc11 := le_f hc11 | replace hc11 := dec_f hc11 | replace hc11 := nlt_t hc11 | replace hc11 := nle_t hc11 | replace hc11 := ndec_t hc11 | replace hc11 := ndec_f hc11 | replace hc11 := nn_t hc11 | replace hc11 := nn_f hc11 | skip
                        refine g_seq ?_
                        refine g_region ?_
                        refine gl_v rfl (o_eql rfl rfl) ?_
                        refine gl_v rfl (o_assign rfl) ?_
                        refine gl_nil ?_
                        refine ge_then ?_
                        refine g_cond rfl (fun hc12 => ?_) (fun hc12 => ?_)
                        ·
                          first | replace hc12 := of_decide_eq_true hc12 | replace hc12 := lt_f hc12 | replace hc12 := le_f hc12 | replace hc12 := dec_f hc12 | replace hc12 := nlt_t hc12 | replace hc12 := nle_t hc12 | replace hc12 := ndec_t hc12 | replace hc12 := ndec_f hc12 | replace hc12 := nn_t hc12 | replace hc12 := nn_f hc12 | skip
                          refine g_seq ?_
                          refine g_region ?_
                          refine gl_v rfl (o_assign rfl) ?_
                          refine gl_v rfl (o_assign rfl) ?_
                          refine gl_nil ?_
                          refine ge_then ?_
                          refine g_ret ?_
                          refine ge_block_ret ?_
                          refine ge_then_ret ?_
                          refine ret2 (.inl rfl) rfl rfl rfl  [] ⟨by first | (subst_vars; rfl) | (rw [verb0] <;> first | rfl | assumption), rfl⟩ (To.sat (by repeat (first | exact .nil | exact .done .refl | (apply To.cons; · (repeat (first | exact .head | apply Sel.tail))) | exact .done (by repeat (first | exact .refl | apply Drop.skip)))))
                        ·
                          first | replace hc12 := of_decide_eq_true hc12 | replace hc12 := lt_f hc12 | replace hc12 := le_f hc12 | replace hc12 := dec_f hc12 | replace hc12 := nlt_t hc12 | replace hc12 := nle_t hc12 | replace hc12 := ndec_t hc12 | replace hc12 := ndec_f hc12 | replace hc12 := nn_t hc12 | replace hc12 := nn_f hc12 | skip
                          refine g_skip ?_
                          refine ge_block ?_
                          refine ge_then ?_
                          refine g_seq ?_
                          refine g_region ?_
                          refine gl_v rfl (o_assign rfl) ?_
                          refine gl_v rfl (o_assign rfl) ?_
                          refine gl_nil ?_
                          refine ge_then ?_
                          refine g_ret ?_
                          refine ret2 (.inl rfl) rfl rfl rfl  [] ⟨by first | (subst_vars; rfl) | (rw [verb0] <;> first | rfl | assumption), rfl⟩ (To.sat (by repeat (first | exact .nil | exact .done .refl | (apply To.cons; · (repeat (first | exact .head | apply Sel.tail))) | exact .done (by repeat (first | exact .refl | apply Drop.skip)))))

set_option maxRecDepth 8000 in
set_option maxHeartbeats 1000000 in
theorem Has_spec (s : By) (c : UInt8) (hs : s.length ≤ 9223372036854775807) : FnS Tryd.prog 41 [S s, .int .u8 c.toNat] [] (fun u Bs => u = .bool (has s c) ∧ Bs = []) := by
  refine fn_body Tryd.func41 rfl rfl rfl ?_
  intro W0 R
  simp only [List.zipIdx_cons, List.zipIdx_nil, List.map_cons, List.map_nil, Nat.zero_add, Nat.reduceAdd, List.cons_append, List.nil_append]
  refine g_seq ?_
  refine g_region ?_
  refine gl_v rfl (o_assign rfl) ?_
  refine gl_nil ?_
  refine ge_then ?_
  refine g_seq ?_
  refine g_seq ?_
  refine g_region ?_
  refine gl_v rfl (o_assign rfl) ?_
  refine gl_nil ?_
  refine ge_then ?_
  refine g_block ?_
  refine g_loop (ι := Nat) (fun x => x ≤ s.length ∧ (s.take x).any (fun y => decide ((y.toNat : Int) = c.toNat)) = false) (fun x => [(5, I64 x), (0, S s), (1, .int .u8 c.toNat)]) (fun _ => R) (fun x => s.length - x) 0 (⟨Nat.zero_le _, rfl⟩) (Keep.cons rfl (Keep.cons rfl (Keep.cons rfl (Keep.nil)))) (To.sat (by repeat (first | exact .nil | exact .done .refl | (apply To.cons; · (repeat (first | exact .head | apply Sel.tail))) | exact .done (by repeat (first | exact .refl | apply Drop.skip))))) ?_
  rintro x ⟨hx, hq⟩
  replace hx : x ≤ s.length := hx
  replace hq : (s.take x).any (fun y => decide ((y.toNat : Int) = c.toNat)) = false := hq
  refine g_seq ?_
  refine g_seq ?_
  refine g_region ?_
  refine gl_v rfl (o_move rfl) ?_
  refine gl_v rfl (o_move rfl) ?_
  refine gl_v rfl (o_lens rfl) ?_
  refine gl_v rfl (o_lss rfl rfl) ?_
  refine gl_nil ?_
  refine ge_then ?_
  refine g_cond rfl (fun hc1 => ?_) (fun hc1 => ?_)
  ·
    first | replace hc1 := of_decide_eq_true hc1 | replace hc1 := lt_f hc1 | replace hc1 := le_f hc1 | replace hc1 := dec_f hc1 | replace hc1 := nlt_t hc1 | replace hc1 := nle_t hc1 | replace hc1 := ndec_t hc1 | replace hc1 := ndec_f hc1 | replace hc1 := nn_t hc1 | replace hc1 := nn_f hc1 | skip
    obtain ⟨t, ht⟩ := get_v (show x < s.length by omega)
    refine g_skip ?_
    refine ge_then ?_
    refine g_seq ?_
    refine g_block ?_
    refine g_seq ?_
    refine g_region ?_
    refine gl_v rfl (o_move rfl) ?_
    refine gl_v rfl (o_move rfl) ?_
    refine gl_v rfl (o_index_string rfl rfl (ht)) ?_
    refine gl_v rfl (o_move rfl) ?_
    refine gl_v rfl (o_eql rfl rfl) ?_
    refine gl_nil ?_
    refine ge_then ?_
    refine g_cond rfl (fun hc2 => ?_) (fun hc2 => ?_)
    ·
      first | replace hc2 := of_decide_eq_true hc2 | replace hc2 := lt_f hc2 | replace hc2 := le_f hc2 | replace hc2 := dec_f hc2 | replace hc2 := nlt_t hc2 | replace hc2 := nle_t hc2 | replace hc2 := ndec_t hc2 | replace hc2 := ndec_f hc2 | replace hc2 := nn_t hc2 | replace hc2 := nn_f hc2 | skip
      refine g_seq ?_
      refine g_region ?_
      refine gl_v rfl (o_assign rfl) ?_
      refine gl_nil ?_
      refine ge_then ?_
      refine g_ret ?_
      refine ge_block_ret ?_
      refine ge_then_ret ?_
      refine ge_then_ret ?_
      refine ge_block_ret ?_
      refine ge_then_ret ?_
      refine ret1 (.inl rfl) rfl rfl _ (⟨bool_v (by unfold has; exact (List.any_eq_true.2 ⟨t, List.mem_of_getElem? ht, decide_eq_true hc2⟩).symm), rfl⟩) (To.sat (by repeat (first | exact .nil | exact .done .refl | (apply To.cons; · (repeat (first | exact .head | apply Sel.tail))) | exact .done (by repeat (first | exact .refl | apply Drop.skip)))))
    ·
      first | replace hc2 := of_decide_eq_true hc2 | replace hc2 := lt_f hc2 | replace hc2 := le_f hc2 | replace hc2 := dec_f hc2 | replace hc2 := nlt_t hc2 | replace hc2 := nle_t hc2 | replace hc2 := ndec_t hc2 | replace hc2 := ndec_f hc2 | replace hc2 := nn_t hc2 | replace hc2 := nn_f hc2 | skip
      refine g_skip ?_
      refine ge_block ?_
      refine ge_then ?_
      refine g_region ?_
      refine gl_v rfl (o_move rfl) ?_
      refine gl_v rfl (o_addR (((x + 1 : Nat) : Int)) (by rw [wr_i64 (by omega)]; omega) rfl rfl) ?_
      refine gl_v rfl (o_assign rfl) ?_
      refine gl_nil ?_
      refine ge_round (x + 1) ⟨show x + 1 ≤ s.length by omega, any_none ht hq (decide_eq_false hc2)⟩ (show s.length - (x + 1) < s.length - x by omega) (Keep.cons rfl (Keep.cons rfl (Keep.cons rfl (Keep.nil)))) (To.sat (by repeat (first | exact .nil | exact .done .refl | (apply To.cons; · (repeat (first | exact .head | apply Sel.tail))) | exact .done (by repeat (first | exact .refl | apply Drop.skip)))))
  ·
    first | replace hc1 := of_decide_eq_true hc1 | replace hc1 := lt_f hc1 | replace hc1 := le_f hc1 | replace hc1 := dec_f hc1 | replace hc1 := nlt_t hc1 | replace hc1 := nle_t hc1 | replace hc1 := ndec_t hc1 | replace hc1 := ndec_f hc1 | replace hc1 := nn_t hc1 | replace hc1 := nn_f hc1 | skip
    obtain rfl : x = s.length := by omega
    rw [List.take_length] at hq
    refine g_exit ?_
    refine ge_then_exit ?_
    refine ge_then_exit ?_
    refine ge_block_exit ?_
    refine ge_then ?_
    refine g_seq ?_
    refine g_region ?_
    refine gl_v rfl (o_assign rfl) ?_
    refine gl_nil ?_
    refine ge_then ?_
    refine g_ret ?_
    refine ret1 (.inl rfl) rfl rfl _ (⟨bool_v (by unfold has; exact hq.symm), rfl⟩) (To.sat (by repeat (first | exact .nil | exact .done .refl | (apply To.cons; · (repeat (first | exact .head | apply Sel.tail))) | exact .done (by repeat (first | exact .refl | apply Drop.skip)))))

set_option maxRecDepth 8000 in
set_option maxHeartbeats 1000000 in
theorem nameB_spec (s : By) (h : Bool) (hs : s.length ≤ 9223372036854775807) : FnS Tryd.prog 57 [S s, .bool h] [] (fun u Bs => u = .bool (nameB s h) ∧ Bs = []) := by
  refine fn_body Tryd.func57 rfl rfl rfl ?_
  intro W0 R
  simp only [List.zipIdx_cons, List.zipIdx_nil, List.map_cons, List.map_nil, Nat.zero_add, Nat.reduceAdd, List.cons_append, List.nil_append]
  refine g_seq ?_
  refine g_region ?_
  refine gl_v rfl (o_assign rfl) ?_
  refine gl_nil ?_
  refine ge_then ?_
  refine g_seq ?_
  refine g_seq ?_
  refine g_region ?_
  refine gl_v rfl (o_move rfl) ?_
  refine gl_v rfl (o_not rfl) ?_
  refine gl_nil ?_
  refine ge_then ?_
  refine g_cond rfl (fun hc1 => ?_) (fun hc1 => ?_)
  ·
    first | replace hc1 := of_decide_eq_true hc1 | replace hc1 := lt_f hc1 | replace hc1 := le_f hc1 | replace hc1 := dec_f hc1 | replace hc1 := nlt_t hc1 | replace hc1 := nle_t hc1 | replace hc1 := ndec_t hc1 | replace hc1 := ndec_f hc1 | replace hc1 := nn_t hc1 | replace hc1 := nn_f hc1 | skip
    refine g_seq ?_
    refine g_region ?_
    refine gl_v rfl (o_move rfl) ?_
    refine gl_v rfl (o_eqls rfl rfl) ?_
    refine gl_v rfl (o_assign rfl) ?_
    refine gl_nil ?_
    refine ge_then ?_
    refine g_ret ?_
    refine ge_then_ret ?_
    refine ret1 (.inl rfl) rfl rfl _ (⟨bool_v (by unfold nameB; simp_all), rfl⟩) (To.sat (by repeat (first | exact .nil | exact .done .refl | (apply To.cons; · (repeat (first | exact .head | apply Sel.tail))) | exact .done (by repeat (first | exact .refl | apply Drop.skip)))))
  ·
    first | replace hc1 := of_decide_eq_true hc1 | replace hc1 := lt_f hc1 | replace hc1 := le_f hc1 | replace hc1 := dec_f hc1 | replace hc1 := nlt_t hc1 | replace hc1 := nle_t hc1 | replace hc1 := ndec_t hc1 | replace hc1 := ndec_f hc1 | replace hc1 := nn_t hc1 | replace hc1 := nn_f hc1 | skip
    refine g_skip ?_
    refine ge_then ?_
    refine g_seq ?_
    refine g_region ?_
    refine gl_v rfl (o_move rfl) ?_
    refine gl_c rfl (o_call rfl (RName_spec (s) (by omega)) (by repeat (first | exact .nil | (apply Part.cons; · (repeat (first | exact .head | apply Sel.tail)))))) ?_
    rintro _ R ⟨_, ⟨rfl, rfl⟩, rfl⟩
    try simp only [List.cons_append, List.nil_append]
    refine gl_v rfl (o_assign rfl) ?_
    refine gl_nil ?_
    refine ge_then ?_
    refine g_ret ?_
    refine ret1 (.inl rfl) rfl rfl _ (⟨bool_v (by unfold nameB; simp_all), rfl⟩) (To.sat (by repeat (first | exact .nil | exact .done .refl | (apply To.cons; · (repeat (first | exact .head | apply Sel.tail))) | exact .done (by repeat (first | exact .refl | apply Drop.skip)))))

set_option maxRecDepth 8000 in
set_option maxHeartbeats 1000000 in
theorem small_spec (n : Int) : FnS Tryd.prog 58 [I64 n] [] (fun u Bs => u = .bool (smallB n) ∧ Bs = []) := by
  refine fn_body Tryd.func58 rfl rfl rfl ?_
  intro W0 R
  simp only [List.zipIdx_cons, List.zipIdx_nil, List.map_cons, List.map_nil, Nat.zero_add, Nat.reduceAdd, List.cons_append, List.nil_append]
  refine g_seq ?_
  refine g_region ?_
  refine gl_v rfl (o_assign rfl) ?_
  refine gl_nil ?_
  refine ge_then ?_
  refine g_seq ?_
  refine g_region ?_
  refine gl_v rfl (o_move rfl) ?_
  refine gl_v rfl (o_geq rfl rfl) ?_
  refine gl_v rfl (o_move rfl) ?_
  refine gl_join (d := 8) 3 (.bool (smallB n)) ?_ (fun jk8 => ?_)
  rotate_left
  ·
    refine gl_g rfl rfl (fun hc1 => ?_) (fun hc1 => ?_) rfl
    ·
      have hc1' := hc1
      first | replace hc1' := of_decide_eq_true hc1' | replace hc1' := lt_f hc1' | replace hc1' := le_f hc1' | replace hc1' := dec_f hc1' | replace hc1' := nlt_t hc1' | replace hc1' := nle_t hc1' | replace hc1' := ndec_t hc1' | replace hc1' := ndec_f hc1' | replace hc1' := nn_t hc1' | replace hc1' := nn_f hc1' | skip
      refine gl_v rfl (o_move rfl) ?_
      refine gl_gT rfl rfl hc1 ?_
      refine gl_v rfl (o_leq rfl rfl) ?_
      refine gl_v rfl (o_pickT hc1 rfl rfl) ?_
      first | exact jk8 _ (KeepS.top (by repeat (first | exact KeepS.refl _ | refine KeepS.push ?_ rfl)) (jval (by first | rfl | (simp [hc1, smallB]; done) | simp_all))) | exact gl_imp (To.sat (by repeat (first | exact .nil | exact .done .refl | (apply To.cons; · (repeat (first | exact .head | apply Sel.tail))) | exact .done (by repeat (first | exact .refl | apply Drop.skip))))) (jk8 _ (KeepS.top (by repeat (first | exact KeepS.refl _ | refine KeepS.push ?_ rfl)) (jval (by first | rfl | (simp [hc1, smallB]; done) | simp_all))))
    ·
      have hc1' := hc1
      first | replace hc1' := of_decide_eq_true hc1' | replace hc1' := lt_f hc1' | replace hc1' := le_f hc1' | replace hc1' := dec_f hc1' | replace hc1' := nlt_t hc1' | replace hc1' := nle_t hc1' | replace hc1' := ndec_t hc1' | replace hc1' := ndec_f hc1' | replace hc1' := nn_t hc1' | replace hc1' := nn_f hc1' | skip
      simp only [putO]
      refine gl_gF rfl rfl hc1 rfl ?_
      refine gl_v rfl (o_pickF hc1 rfl rfl) ?_
      first | exact jk8 _ (KeepS.top (by repeat (first | exact KeepS.refl _ | refine KeepS.push ?_ rfl)) (jval (by first | rfl | (simp [hc1, smallB]; done) | simp_all))) | exact gl_imp (To.sat (by repeat (first | exact .nil | exact .done .refl | (apply To.cons; · (repeat (first | exact .head | apply Sel.tail))) | exact .done (by repeat (first | exact .refl | apply Drop.skip))))) (jk8 _ (KeepS.top (by repeat (first | exact KeepS.refl _ | refine KeepS.push ?_ rfl)) (jval (by first | rfl | (simp [hc1, smallB]; done) | simp_all))))
  refine gl_v rfl (o_assign rfl) ?_
  refine gl_nil ?_
  refine ge_then ?_
  refine g_ret ?_
  refine ret1 (.inl rfl) rfl rfl _ (⟨rfl, rfl⟩) (To.sat (by repeat (first | exact .nil | exact .done .refl | (apply To.cons; · (repeat (first | exact .head | apply Sel.tail))) | exact .done (by repeat (first | exact .refl | apply Drop.skip)))))

set_option maxRecDepth 8000 in
set_option maxHeartbeats 1000000 in
theorem empty_spec (l : By) (hl : l.length ≤ 9223372036854775807) : FnS Tryd.prog 36 [S l] [] (fun u Bs => u = .bool (named l) ∧ Bs = []) := by
  refine fn_body Tryd.func36 rfl rfl rfl ?_
  intro W0 R
  simp only [List.zipIdx_cons, List.zipIdx_nil, List.map_cons, List.map_nil, Nat.zero_add, Nat.reduceAdd, List.cons_append, List.nil_append]
  refine g_seq ?_
  refine g_region ?_
  refine gl_v rfl (o_assign rfl) ?_
  refine gl_nil ?_
  refine ge_then ?_
  refine g_seq ?_
  refine g_region ?_
  refine gl_v rfl (o_move rfl) ?_
  refine gl_v rfl (o_eqls rfl rfl) ?_
  refine gl_v rfl (o_move rfl) ?_
  refine gl_g rfl rfl (fun hc1 => ?_) (fun hc1 => ?_) rfl
  ·
    have hc1' := hc1
    first | replace hc1' := of_decide_eq_true hc1' | replace hc1' := lt_f hc1' | replace hc1' := le_f hc1' | replace hc1' := dec_f hc1' | replace hc1' := nlt_t hc1' | replace hc1' := nle_t hc1' | replace hc1' := ndec_t hc1' | replace hc1' := ndec_f hc1' | replace hc1' := nn_t hc1' | replace hc1' := nn_f hc1' | skip
    refine gl_v rfl (o_move rfl) ?_
    refine gl_gT rfl rfl hc1 ?_
    refine gl_c rfl (o_call rfl (RName_spec (l) (by omega)) (by repeat (first | exact .nil | (apply Part.cons; · (repeat (first | exact .head | apply Sel.tail)))))) ?_
    rintro _ R ⟨_, ⟨rfl, rfl⟩, rfl⟩
    try simp only [List.cons_append, List.nil_append]
    refine gl_v rfl (o_pickF hc1 rfl rfl) ?_
    refine gl_v rfl (o_assign rfl) ?_
    refine gl_nil ?_
    refine ge_then ?_
    refine g_ret ?_
    refine ret1 (.inl rfl) rfl rfl _ (⟨bool_v (by unfold named; simp_all), rfl⟩) (To.sat (by repeat (first | exact .nil | exact .done .refl | (apply To.cons; · (repeat (first | exact .head | apply Sel.tail))) | exact .done (by repeat (first | exact .refl | apply Drop.skip)))))
  ·
    have hc1' := hc1
    first | replace hc1' := of_decide_eq_true hc1' | replace hc1' := lt_f hc1' | replace hc1' := le_f hc1' | replace hc1' := dec_f hc1' | replace hc1' := nlt_t hc1' | replace hc1' := nle_t hc1' | replace hc1' := ndec_t hc1' | replace hc1' := ndec_f hc1' | replace hc1' := nn_t hc1' | replace hc1' := nn_f hc1' | skip
    simp only [putO]
    refine gl_gF rfl rfl hc1 rfl ?_
    refine gl_v rfl (o_pickT hc1 rfl rfl) ?_
    refine gl_v rfl (o_assign rfl) ?_
    refine gl_nil ?_
    refine ge_then ?_
    refine g_ret ?_
    refine ret1 (.inl rfl) rfl rfl _ (⟨bool_v (by unfold named; simp_all), rfl⟩) (To.sat (by repeat (first | exact .nil | exact .done .refl | (apply To.cons; · (repeat (first | exact .head | apply Sel.tail))) | exact .done (by repeat (first | exact .refl | apply Drop.skip)))))

set_option maxRecDepth 8000 in
set_option maxHeartbeats 1000000 in
theorem Slot_spec (l : By) : FnS Tryd.prog 39 [S l] [] (fun u Bs => u = .bool (decide (l ∈ slots4)) ∧ Bs = []) := by
  refine fn_body Tryd.func39 rfl rfl rfl ?_
  intro W0 R
  simp only [List.zipIdx_cons, List.zipIdx_nil, List.map_cons, List.map_nil, Nat.zero_add, Nat.reduceAdd, List.cons_append, List.nil_append]
  refine g_seq ?_
  refine g_region ?_
  refine gl_v rfl (o_assign rfl) ?_
  refine gl_nil ?_
  refine ge_then ?_
  refine g_seq ?_
  refine g_region ?_
  refine gl_v rfl (o_move rfl) ?_
  refine gl_v rfl (o_eqls rfl rfl) ?_
  refine gl_v rfl (o_move rfl) ?_
  refine gl_join (d := 16) 11 (.bool (decide (l ∈ slots4))) ?_ (fun jk16 => ?_)
  rotate_left
  ·
    refine gl_g rfl rfl (fun hc1 => ?_) (fun hc1 => ?_) rfl
    ·
      have hc1' := hc1
      first | replace hc1' := of_decide_eq_true hc1' | replace hc1' := lt_f hc1' | replace hc1' := le_f hc1' | replace hc1' := dec_f hc1' | replace hc1' := nlt_t hc1' | replace hc1' := nle_t hc1' | replace hc1' := ndec_t hc1' | replace hc1' := ndec_f hc1' | replace hc1' := nn_t hc1' | replace hc1' := nn_f hc1' | skip
      refine gl_v rfl (o_move rfl) ?_
      refine gl_gT rfl rfl hc1 ?_
      refine gl_v rfl (o_eqls rfl rfl) ?_
      refine gl_v rfl (o_pickF hc1 rfl rfl) ?_
      refine gl_v rfl (o_move rfl) ?_
      refine gl_g rfl rfl (fun hc2 => ?_) (fun hc2 => ?_) rfl
      ·
        have hc2' := hc2
        first | replace hc2' := of_decide_eq_true hc2' | replace hc2' := lt_f hc2' | replace hc2' := le_f hc2' | replace hc2' := dec_f hc2' | replace hc2' := nlt_t hc2' | replace hc2' := nle_t hc2' | replace hc2' := ndec_t hc2' | replace hc2' := ndec_f hc2' | replace hc2' := nn_t hc2' | replace hc2' := nn_f hc2' | skip
        refine gl_v rfl (o_move rfl) ?_
        refine gl_gT rfl rfl hc2 ?_
        refine gl_v rfl (o_eqls rfl rfl) ?_
        refine gl_v rfl (o_pickF hc2 rfl rfl) ?_
        refine gl_v rfl (o_move rfl) ?_
        refine gl_g rfl rfl (fun hc3 => ?_) (fun hc3 => ?_) rfl
        ·
          have hc3' := hc3
          first | replace hc3' := of_decide_eq_true hc3' | replace hc3' := lt_f hc3' | replace hc3' := le_f hc3' | replace hc3' := dec_f hc3' | replace hc3' := nlt_t hc3' | replace hc3' := nle_t hc3' | replace hc3' := ndec_t hc3' | replace hc3' := ndec_f hc3' | replace hc3' := nn_t hc3' | replace hc3' := nn_f hc3' | skip
          refine gl_v rfl (o_move rfl) ?_
          refine gl_gT rfl rfl hc3 ?_
          refine gl_v rfl (o_eqls rfl rfl) ?_
          refine gl_v rfl (o_pickF hc3 rfl rfl) ?_
          first | exact jk16 _ (KeepS.top (by repeat (first | exact KeepS.refl _ | refine KeepS.push ?_ rfl)) (jval (by first | rfl | (simp [hc1, hc2, hc3, slots4]; done) | simp_all))) | exact gl_imp (To.sat (by repeat (first | exact .nil | exact .done .refl | (apply To.cons; · (repeat (first | exact .head | apply Sel.tail))) | exact .done (by repeat (first | exact .refl | apply Drop.skip))))) (jk16 _ (KeepS.top (by repeat (first | exact KeepS.refl _ | refine KeepS.push ?_ rfl)) (jval (by first | rfl | (simp [hc1, hc2, hc3, slots4]; done) | simp_all))))
        ·
          have hc3' := hc3
          first | replace hc3' := of_decide_eq_true hc3' | replace hc3' := lt_f hc3' | replace hc3' := le_f hc3' | replace hc3' := dec_f hc3' | replace hc3' := nlt_t hc3' | replace hc3' := nle_t hc3' | replace hc3' := ndec_t hc3' | replace hc3' := ndec_f hc3' | replace hc3' := nn_t hc3' | replace hc3' := nn_f hc3' | skip
          simp only [putO]
          refine gl_gF rfl rfl hc3 rfl ?_
          refine gl_v rfl (o_pickT hc3 rfl rfl) ?_
          first | exact jk16 _ (KeepS.top (by repeat (first | exact KeepS.refl _ | refine KeepS.push ?_ rfl)) (jval (by first | rfl | (simp [hc1, hc2, hc3, slots4]; done) | simp_all))) | exact gl_imp (To.sat (by repeat (first | exact .nil | exact .done .refl | (apply To.cons; · (repeat (first | exact .head | apply Sel.tail))) | exact .done (by repeat (first | exact .refl | apply Drop.skip))))) (jk16 _ (KeepS.top (by repeat (first | exact KeepS.refl _ | refine KeepS.push ?_ rfl)) (jval (by first | rfl | (simp [hc1, hc2, hc3, slots4]; done) | simp_all))))
      ·
        have hc2' := hc2
        first | replace hc2' := of_decide_eq_true hc2' | replace hc2' := lt_f hc2' | replace hc2' := le_f hc2' | replace hc2' := dec_f hc2' | replace hc2' := nlt_t hc2' | replace hc2' := nle_t hc2' | replace hc2' := ndec_t hc2' | replace hc2' := ndec_f hc2' | replace hc2' := nn_t hc2' | replace hc2' := nn_f hc2' | skip
        simp only [putO]
        refine gl_gF rfl rfl hc2 rfl ?_
        refine gl_v rfl (o_pickT hc2 rfl rfl) ?_
        refine gl_v rfl (o_move rfl) ?_
        refine gl_gF rfl rfl rfl rfl ?_
        refine gl_gF rfl rfl rfl rfl ?_
        refine gl_v rfl (o_pickT rfl rfl rfl) ?_
        first | exact jk16 _ (KeepS.top (by repeat (first | exact KeepS.refl _ | refine KeepS.push ?_ rfl)) (jval (by first | rfl | (simp [hc1, hc2, slots4]; done) | simp_all))) | exact gl_imp (To.sat (by repeat (first | exact .nil | exact .done .refl | (apply To.cons; · (repeat (first | exact .head | apply Sel.tail))) | exact .done (by repeat (first | exact .refl | apply Drop.skip))))) (jk16 _ (KeepS.top (by repeat (first | exact KeepS.refl _ | refine KeepS.push ?_ rfl)) (jval (by first | rfl | (simp [hc1, hc2, slots4]; done) | simp_all))))
    ·
      have hc1' := hc1
      first | replace hc1' := of_decide_eq_true hc1' | replace hc1' := lt_f hc1' | replace hc1' := le_f hc1' | replace hc1' := dec_f hc1' | replace hc1' := nlt_t hc1' | replace hc1' := nle_t hc1' | replace hc1' := ndec_t hc1' | replace hc1' := ndec_f hc1' | replace hc1' := nn_t hc1' | replace hc1' := nn_f hc1' | skip
      simp only [putO]
      refine gl_gF rfl rfl hc1 rfl ?_
      refine gl_v rfl (o_pickT hc1 rfl rfl) ?_
      refine gl_v rfl (o_move rfl) ?_
      refine gl_gF rfl rfl rfl rfl ?_
      refine gl_gF rfl rfl rfl rfl ?_
      refine gl_v rfl (o_pickT rfl rfl rfl) ?_
      refine gl_v rfl (o_move rfl) ?_
      refine gl_gF rfl rfl rfl rfl ?_
      refine gl_gF rfl rfl rfl rfl ?_
      refine gl_v rfl (o_pickT rfl rfl rfl) ?_
      first | exact jk16 _ (KeepS.top (by repeat (first | exact KeepS.refl _ | refine KeepS.push ?_ rfl)) (jval (by first | rfl | (simp [hc1, slots4]; done) | simp_all))) | exact gl_imp (To.sat (by repeat (first | exact .nil | exact .done .refl | (apply To.cons; · (repeat (first | exact .head | apply Sel.tail))) | exact .done (by repeat (first | exact .refl | apply Drop.skip))))) (jk16 _ (KeepS.top (by repeat (first | exact KeepS.refl _ | refine KeepS.push ?_ rfl)) (jval (by first | rfl | (simp [hc1, slots4]; done) | simp_all))))
  refine gl_v rfl (o_assign rfl) ?_
  refine gl_nil ?_
  refine ge_then ?_
  refine g_ret ?_
  refine ret1 (.inl rfl) rfl rfl _ (⟨rfl, rfl⟩) (To.sat (by repeat (first | exact .nil | exact .done .refl | (apply To.cons; · (repeat (first | exact .head | apply Sel.tail))) | exact .done (by repeat (first | exact .refl | apply Drop.skip)))))

set_option maxRecDepth 8000 in
set_option maxHeartbeats 1000000 in
theorem Ref_spec (l : By) : FnS Tryd.prog 38 [S l] [] (fun u Bs => u = .bool (decide (l ∈ refs7)) ∧ Bs = []) := by
  refine fn_body Tryd.func38 rfl rfl rfl ?_
  intro W0 R
  simp only [List.zipIdx_cons, List.zipIdx_nil, List.map_cons, List.map_nil, Nat.zero_add, Nat.reduceAdd, List.cons_append, List.nil_append]
  refine g_seq ?_
  refine g_region ?_
  refine gl_v rfl (o_assign rfl) ?_
  refine gl_nil ?_
  refine ge_then ?_
  refine g_seq ?_
  refine g_region ?_
  refine gl_v rfl (o_move rfl) ?_
  refine gl_c rfl (o_call rfl (Slot_spec l) (by repeat (first | exact .nil | (apply Part.cons; · (repeat (first | exact .head | apply Sel.tail)))))) ?_
  rintro _ R ⟨_, ⟨rfl, rfl⟩, rfl⟩
  try simp only [List.cons_append, List.nil_append]
  refine gl_v rfl (o_move rfl) ?_
  refine gl_join (d := 16) 11 (.bool (decide (l ∈ refs7))) ?_ (fun jk16 => ?_)
  rotate_left
  ·
    refine gl_g rfl rfl (fun hc1 => ?_) (fun hc1 => ?_) rfl
    ·
      have hc1' := hc1
      first | replace hc1' := of_decide_eq_true hc1' | replace hc1' := lt_f hc1' | replace hc1' := le_f hc1' | replace hc1' := dec_f hc1' | replace hc1' := nlt_t hc1' | replace hc1' := nle_t hc1' | replace hc1' := ndec_t hc1' | replace hc1' := ndec_f hc1' | replace hc1' := nn_t hc1' | replace hc1' := nn_f hc1' | skip
      refine gl_v rfl (o_move rfl) ?_
      refine gl_gT rfl rfl hc1 ?_
      refine gl_v rfl (o_eqls rfl rfl) ?_
      refine gl_v rfl (o_pickF hc1 rfl rfl) ?_
      refine gl_v rfl (o_move rfl) ?_
      refine gl_g rfl rfl (fun hc2 => ?_) (fun hc2 => ?_) rfl
      ·
        have hc2' := hc2
        first | replace hc2' := of_decide_eq_true hc2' | replace hc2' := lt_f hc2' | replace hc2' := le_f hc2' | replace hc2' := dec_f hc2' | replace hc2' := nlt_t hc2' | replace hc2' := nle_t hc2' | replace hc2' := ndec_t hc2' | replace hc2' := ndec_f hc2' | replace hc2' := nn_t hc2' | replace hc2' := nn_f hc2' | skip
        refine gl_v rfl (o_move rfl) ?_
        refine gl_gT rfl rfl hc2 ?_
        refine gl_v rfl (o_eqls rfl rfl) ?_
        refine gl_v rfl (o_pickF hc2 rfl rfl) ?_
        refine gl_v rfl (o_move rfl) ?_
        refine gl_g rfl rfl (fun hc3 => ?_) (fun hc3 => ?_) rfl
        ·
          have hc3' := hc3
          first | replace hc3' := of_decide_eq_true hc3' | replace hc3' := lt_f hc3' | replace hc3' := le_f hc3' | replace hc3' := dec_f hc3' | replace hc3' := nlt_t hc3' | replace hc3' := nle_t hc3' | replace hc3' := ndec_t hc3' | replace hc3' := ndec_f hc3' | replace hc3' := nn_t hc3' | replace hc3' := nn_f hc3' | skip
          refine gl_v rfl (o_move rfl) ?_
          refine gl_gT rfl rfl hc3 ?_
          refine gl_v rfl (o_eqls rfl rfl) ?_
          refine gl_v rfl (o_pickF hc3 rfl rfl) ?_
          first | exact jk16 _ (KeepS.top (by repeat (first | exact KeepS.refl _ | refine KeepS.push ?_ rfl)) (jval (by first | rfl | (simp [hc1, hc2, hc3, refsB]; done) | simp_all))) | exact gl_imp (To.sat (by repeat (first | exact .nil | exact .done .refl | (apply To.cons; · (repeat (first | exact .head | apply Sel.tail))) | exact .done (by repeat (first | exact .refl | apply Drop.skip))))) (jk16 _ (KeepS.top (by repeat (first | exact KeepS.refl _ | refine KeepS.push ?_ rfl)) (jval (by first | rfl | (simp [hc1, hc2, hc3, refsB]; done) | simp_all))))
        ·
          have hc3' := hc3
          first | replace hc3' := of_decide_eq_true hc3' | replace hc3' := lt_f hc3' | replace hc3' := le_f hc3' | replace hc3' := dec_f hc3' | replace hc3' := nlt_t hc3' | replace hc3' := nle_t hc3' | replace hc3' := ndec_t hc3' | replace hc3' := ndec_f hc3' | replace hc3' := nn_t hc3' | replace hc3' := nn_f hc3' | skip
          simp only [putO]
          refine gl_gF rfl rfl hc3 rfl ?_
          refine gl_v rfl (o_pickT hc3 rfl rfl) ?_
          first | exact jk16 _ (KeepS.top (by repeat (first | exact KeepS.refl _ | refine KeepS.push ?_ rfl)) (jval (by first | rfl | (simp [hc1, hc2, hc3, refsB]; done) | simp_all))) | exact gl_imp (To.sat (by repeat (first | exact .nil | exact .done .refl | (apply To.cons; · (repeat (first | exact .head | apply Sel.tail))) | exact .done (by repeat (first | exact .refl | apply Drop.skip))))) (jk16 _ (KeepS.top (by repeat (first | exact KeepS.refl _ | refine KeepS.push ?_ rfl)) (jval (by first | rfl | (simp [hc1, hc2, hc3, refsB]; done) | simp_all))))
      ·
        have hc2' := hc2
        first | replace hc2' := of_decide_eq_true hc2' | replace hc2' := lt_f hc2' | replace hc2' := le_f hc2' | replace hc2' := dec_f hc2' | replace hc2' := nlt_t hc2' | replace hc2' := nle_t hc2' | replace hc2' := ndec_t hc2' | replace hc2' := ndec_f hc2' | replace hc2' := nn_t hc2' | replace hc2' := nn_f hc2' | skip
        simp only [putO]
        refine gl_gF rfl rfl hc2 rfl ?_
        refine gl_v rfl (o_pickT hc2 rfl rfl) ?_
        refine gl_v rfl (o_move rfl) ?_
        refine gl_gF rfl rfl rfl rfl ?_
        refine gl_gF rfl rfl rfl rfl ?_
        refine gl_v rfl (o_pickT rfl rfl rfl) ?_
        first | exact jk16 _ (KeepS.top (by repeat (first | exact KeepS.refl _ | refine KeepS.push ?_ rfl)) (jval (by first | rfl | (simp [hc1, hc2, refsB]; done) | simp_all))) | exact gl_imp (To.sat (by repeat (first | exact .nil | exact .done .refl | (apply To.cons; · (repeat (first | exact .head | apply Sel.tail))) | exact .done (by repeat (first | exact .refl | apply Drop.skip))))) (jk16 _ (KeepS.top (by repeat (first | exact KeepS.refl _ | refine KeepS.push ?_ rfl)) (jval (by first | rfl | (simp [hc1, hc2, refsB]; done) | simp_all))))
    ·
      have hc1' := hc1
      first | replace hc1' := of_decide_eq_true hc1' | replace hc1' := lt_f hc1' | replace hc1' := le_f hc1' | replace hc1' := dec_f hc1' | replace hc1' := nlt_t hc1' | replace hc1' := nle_t hc1' | replace hc1' := ndec_t hc1' | replace hc1' := ndec_f hc1' | replace hc1' := nn_t hc1' | replace hc1' := nn_f hc1' | skip
      simp only [putO]
      refine gl_gF rfl rfl hc1 rfl ?_
      refine gl_v rfl (o_pickT hc1 rfl rfl) ?_
      refine gl_v rfl (o_move rfl) ?_
      refine gl_gF rfl rfl rfl rfl ?_
      refine gl_gF rfl rfl rfl rfl ?_
      refine gl_v rfl (o_pickT rfl rfl rfl) ?_
      refine gl_v rfl (o_move rfl) ?_
      refine gl_gF rfl rfl rfl rfl ?_
      refine gl_gF rfl rfl rfl rfl ?_
      refine gl_v rfl (o_pickT rfl rfl rfl) ?_
      first | exact jk16 _ (KeepS.top (by repeat (first | exact KeepS.refl _ | refine KeepS.push ?_ rfl)) (jval (by first | rfl | (simp [hc1, refsB]; done) | simp_all))) | exact gl_imp (To.sat (by repeat (first | exact .nil | exact .done .refl | (apply To.cons; · (repeat (first | exact .head | apply Sel.tail))) | exact .done (by repeat (first | exact .refl | apply Drop.skip))))) (jk16 _ (KeepS.top (by repeat (first | exact KeepS.refl _ | refine KeepS.push ?_ rfl)) (jval (by first | rfl | (simp [hc1, refsB]; done) | simp_all))))
  refine gl_v rfl (o_assign rfl) ?_
  refine gl_nil ?_
  refine ge_then ?_
  refine g_ret ?_
  refine ret1 (.inl rfl) rfl rfl _ (⟨rfl, rfl⟩) (To.sat (by repeat (first | exact .nil | exact .done .refl | (apply To.cons; · (repeat (first | exact .head | apply Sel.tail))) | exact .done (by repeat (first | exact .refl | apply Drop.skip)))))

set_option maxRecDepth 8000 in
set_option maxHeartbeats 1000000 in
theorem REffect_spec (e : Eff) (he : EffOk e) : FnS Tryd.prog 37 [.agg (effC e).toArray] [] (fun u Bs => u = .bool (Pg.effW e) ∧ Bs = []) := by
  refine fn_body Tryd.func37 rfl rfl rfl ?_
  intro W0 R
  simp only [List.zipIdx_cons, List.zipIdx_nil, List.map_cons, List.map_nil, Nat.zero_add, Nat.reduceAdd, List.cons_append, List.nil_append]
  obtain ⟨he1, he2, he3⟩ := id he
  unfold ok63 at he1 he2 he3
  obtain ⟨hv1, hvr, hvs, hvn, hvv, hvd⟩ := verb_facts e.do'
  replace hv1 : decide ((verb e.do').1 = []) = e1 e := hv1
  have hpl := (verb_pn e.do').1
  refine g_seq ?_
  refine g_region ?_
  refine gl_n rfl (o_boxA rfl) ?_
  rintro _ _ ⟨b1, rfl, rfl⟩
  refine gl_v rfl (o_assign rfl) ?_
  refine gl_nil ?_
  refine ge_then ?_
  refine g_seq ?_
  refine g_region ?_
  first | refine gl_v rfl (o_fldS rfl) ?_ | refine gl_v rfl (o_fld rfl) ?_
  first | refine gl_v rfl (o_load rfl rfl) ?_ | refine gl_v rfl (o_loadS rfl rfl) ?_ | refine gl_v rfl (o_loadC rfl) ?_
  refine gl_c rfl (o_call rfl (Verb_spec e.do') (by repeat (first | exact .nil | (apply Part.cons; · (repeat (first | exact .head | apply Sel.tail)))))) ?_
  rintro _ R ⟨_, ⟨rfl, rfl⟩, rfl⟩
  try simp only [List.cons_append, List.nil_append]
  refine gl_v rfl (o_move rfl) ?_
  refine gl_v rfl (o_extract rfl rfl) ?_
  refine gl_v rfl (o_extract rfl rfl) ?_
  refine gl_v rfl (o_assign rfl) ?_
  refine gl_v rfl (o_assign rfl) ?_
  refine gl_nil ?_
  refine ge_then ?_
  refine g_seq ?_
  refine g_seq ?_
  refine g_draw [6, 7, 14, 15, 22, 23] [6, 14, 22] [(0, .loc), (1, .loc), (2, .loc), (3, .stab), (4, .stab), (5, .loc), (6, .eff), (7, .eff), (8, .loc), (9, .loc), (10, .loc), (11, .stab), (12, .stab), (13, .loc), (14, .eff), (15, .eff), (16, .loc), (17, .loc), (18, .loc), (19, .stab), (20, .stab), (21, .loc), (22, .eff), (23, .eff), (24, .loc), (25, .loc)] [cel b1 52 (effC e)] mixed (by kernel_rfl) ?_
  refine go_v rfl .none rfl (o_move rfl) ?_
  refine go_v rfl .none rfl (o_eqls rfl rfl) ?_
  refine go_v rfl .none rfl (o_move rfl) ?_
  refine go_split (j := 2) rfl rfl (fun hc1 => ?_) (fun hc1 => ?_)
  ·
    have hc1' := hc1
    first | replace hc1' := of_decide_eq_true hc1' | replace hc1' := lt_f hc1' | replace hc1' := le_f hc1' | replace hc1' := dec_f hc1' | replace hc1' := nlt_t hc1' | replace hc1' := nle_t hc1' | replace hc1' := ndec_t hc1' | replace hc1' := ndec_f hc1' | replace hc1' := nn_t hc1' | replace hc1' := nn_f hc1' | skip
    refine go_skip rfl (.no rfl rfl hc1) rfl ?_
    refine go_skip rfl (.no rfl rfl hc1) rfl ?_
    refine go_skip rfl (.no rfl rfl hc1) rfl ?_
    refine go_skip rfl (.no rfl rfl hc1) rfl ?_
    refine go_skip rfl (.no rfl rfl hc1) rfl ?_
    refine go_skip rfl (.no rfl rfl hc1) rfl ?_
    refine go_v rfl .none rfl (o_pickT hc1 rfl rfl) ?_
    refine go_v rfl .none rfl (o_move rfl) ?_
    refine go_skip rfl (.no rfl rfl rfl) rfl ?_
    refine go_skip rfl (.no rfl rfl rfl) rfl ?_
    refine go_skip rfl (.no rfl rfl rfl) rfl ?_
    refine go_skip rfl (.no rfl rfl rfl) rfl ?_
    refine go_skip rfl (.no rfl rfl rfl) rfl ?_
    refine go_skip rfl (.no rfl rfl rfl) rfl ?_
    refine go_v rfl .none rfl (o_pickT rfl rfl rfl) ?_
    refine go_v rfl .none rfl (o_move rfl) ?_
    refine go_skip rfl (.no rfl rfl rfl) rfl ?_
    refine go_skip rfl (.no rfl rfl rfl) rfl ?_
    refine go_skip rfl (.no rfl rfl rfl) rfl ?_
    refine go_skip rfl (.no rfl rfl rfl) rfl ?_
    refine go_skip rfl (.no rfl rfl rfl) rfl ?_
    refine go_skip rfl (.no rfl rfl rfl) rfl ?_
    refine go_v rfl .none rfl (o_pickT rfl rfl rfl) ?_
    refine go_nil ?_
    refine ge_then ?_
    refine g_cond_true rfl ?_
    refine g_seq ?_
    refine g_region ?_
    refine gl_v rfl (o_assign rfl) ?_
    refine gl_nil ?_
    refine ge_then ?_
    refine g_ret ?_
    refine ge_then_ret ?_
    refine ret1 (.inl rfl) rfl rfl _ (⟨bool_v (by rw [hvr, hvs, hvn, hvv, hvd] at *; unfold Pg.effW; simp_all), rfl⟩) (To.sat (by repeat (first | exact .nil | exact .done .refl | (apply To.cons; · (repeat (first | exact .head | apply Sel.tail))) | exact .done (by repeat (first | exact .refl | apply Drop.skip)))))
  ·
    have hc1' := hc1
    first | replace hc1' := of_decide_eq_true hc1' | replace hc1' := lt_f hc1' | replace hc1' := le_f hc1' | replace hc1' := dec_f hc1' | replace hc1' := nlt_t hc1' | replace hc1' := nle_t hc1' | replace hc1' := ndec_t hc1' | replace hc1' := ndec_f hc1' | replace hc1' := nn_t hc1' | replace hc1' := nn_f hc1' | skip
    first | refine go_vs rfl (.yes rfl rfl hc1) rfl (o_fldS rfl) (To.sat (by repeat (first | exact .nil | exact .done .refl | (apply To.cons; · (repeat (first | exact .head | apply Sel.tail))) | exact .done (by repeat (first | exact .refl | apply Drop.skip))))) ?_ | refine go_vs rfl (.yes rfl rfl hc1) rfl (o_fld rfl) (To.sat (by repeat (first | exact .nil | exact .done .refl | (apply To.cons; · (repeat (first | exact .head | apply Sel.tail))) | exact .done (by repeat (first | exact .refl | apply Drop.skip))))) ?_
    first | refine go_vs rfl (.yes rfl rfl hc1) rfl (o_load rfl rfl) (To.sat (by repeat (first | exact .nil | exact .done .refl | (apply To.cons; · (repeat (first | exact .head | apply Sel.tail))) | exact .done (by repeat (first | exact .refl | apply Drop.skip))))) ?_ | refine go_vs rfl (.yes rfl rfl hc1) rfl (o_loadS rfl rfl) (To.sat (by repeat (first | exact .nil | exact .done .refl | (apply To.cons; · (repeat (first | exact .head | apply Sel.tail))) | exact .done (by repeat (first | exact .refl | apply Drop.skip))))) ?_ | refine go_vs rfl (.yes rfl rfl hc1) rfl (o_loadC rfl) (To.sat (by repeat (first | exact .nil | exact .done .refl | (apply To.cons; · (repeat (first | exact .head | apply Sel.tail))) | exact .done (by repeat (first | exact .refl | apply Drop.skip))))) ?_
    refine go_v rfl (.yes rfl rfl hc1) rfl (o_move rfl) ?_
    refine go_c rfl (.yes rfl rfl hc1) rfl (o_call rfl (Has_spec (verb e.do').2 114 (by omega)) (by repeat (first | exact .nil | (apply Part.cons; · (repeat (first | exact .head | apply Sel.tail)))))) ?_
    rintro _ R ⟨_, ⟨rfl, rfl⟩, rfl⟩
    try simp only [List.cons_append, List.nil_append]
    refine ⟨(fun _ => (To.sat (by repeat (first | exact .nil | exact .done .refl | (apply To.cons; · (repeat (first | exact .head | apply Sel.tail))) | exact .done (by repeat (first | exact .refl | apply Drop.skip)))))), ?_⟩
    refine go_c rfl (.yes rfl rfl hc1) rfl (o_call rfl (nameB_spec e.ref (has (verb e.do').2 114) (by omega)) (by repeat (first | exact .nil | (apply Part.cons; · (repeat (first | exact .head | apply Sel.tail)))))) ?_
    rintro _ R ⟨_, ⟨rfl, rfl⟩, rfl⟩
    try simp only [List.cons_append, List.nil_append]
    refine ⟨(fun hG => absurd hG (by decide)), ?_⟩
    refine go_v rfl (.yes rfl rfl hc1) rfl (o_not rfl) ?_
    refine go_v rfl .none rfl (o_pickF hc1 rfl rfl) ?_
    refine go_v rfl .none rfl (o_move rfl) ?_
    refine go_split (j := 10) rfl rfl (fun hc2 => ?_) (fun hc2 => ?_)
    ·
      have hc2' := hc2
      first | replace hc2' := of_decide_eq_true hc2' | replace hc2' := lt_f hc2' | replace hc2' := le_f hc2' | replace hc2' := dec_f hc2' | replace hc2' := nlt_t hc2' | replace hc2' := nle_t hc2' | replace hc2' := ndec_t hc2' | replace hc2' := ndec_f hc2' | replace hc2' := nn_t hc2' | replace hc2' := nn_f hc2' | skip
      refine go_skip rfl (.no rfl rfl hc2) rfl ?_
      refine go_skip rfl (.no rfl rfl hc2) rfl ?_
      refine go_skip rfl (.no rfl rfl hc2) rfl ?_
      refine go_skip rfl (.no rfl rfl hc2) rfl ?_
      refine go_skip rfl (.no rfl rfl hc2) rfl ?_
      refine go_skip rfl (.no rfl rfl hc2) rfl ?_
      refine go_v rfl .none rfl (o_pickT hc2 rfl rfl) ?_
      refine go_v rfl .none rfl (o_move rfl) ?_
      refine go_skip rfl (.no rfl rfl rfl) rfl ?_
      refine go_skip rfl (.no rfl rfl rfl) rfl ?_
      refine go_skip rfl (.no rfl rfl rfl) rfl ?_
      refine go_skip rfl (.no rfl rfl rfl) rfl ?_
      refine go_skip rfl (.no rfl rfl rfl) rfl ?_
      refine go_skip rfl (.no rfl rfl rfl) rfl ?_
      refine go_v rfl .none rfl (o_pickT rfl rfl rfl) ?_
      refine go_nil ?_
      refine ge_then ?_
      refine g_cond_true rfl ?_
      refine g_seq ?_
      refine g_region ?_
      refine gl_v rfl (o_assign rfl) ?_
      refine gl_nil ?_
      refine ge_then ?_
      refine g_ret ?_
      refine ge_then_ret ?_
      refine ret1 (.inl rfl) rfl rfl _ (⟨bool_v (by rw [hvr, hvs, hvn, hvv, hvd] at *; unfold Pg.effW; simp_all), rfl⟩) (To.sat (by repeat (first | exact .nil | exact .done .refl | (apply To.cons; · (repeat (first | exact .head | apply Sel.tail))) | exact .done (by repeat (first | exact .refl | apply Drop.skip)))))
    ·
      have hc2' := hc2
      first | replace hc2' := of_decide_eq_true hc2' | replace hc2' := lt_f hc2' | replace hc2' := le_f hc2' | replace hc2' := dec_f hc2' | replace hc2' := nlt_t hc2' | replace hc2' := nle_t hc2' | replace hc2' := ndec_t hc2' | replace hc2' := ndec_f hc2' | replace hc2' := nn_t hc2' | replace hc2' := nn_f hc2' | skip
      first | refine go_vs rfl (.yes rfl rfl hc2) rfl (o_fldS rfl) (To.sat (by repeat (first | exact .nil | exact .done .refl | (apply To.cons; · (repeat (first | exact .head | apply Sel.tail))) | exact .done (by repeat (first | exact .refl | apply Drop.skip))))) ?_ | refine go_vs rfl (.yes rfl rfl hc2) rfl (o_fld rfl) (To.sat (by repeat (first | exact .nil | exact .done .refl | (apply To.cons; · (repeat (first | exact .head | apply Sel.tail))) | exact .done (by repeat (first | exact .refl | apply Drop.skip))))) ?_
      first | refine go_vs rfl (.yes rfl rfl hc2) rfl (o_load rfl rfl) (To.sat (by repeat (first | exact .nil | exact .done .refl | (apply To.cons; · (repeat (first | exact .head | apply Sel.tail))) | exact .done (by repeat (first | exact .refl | apply Drop.skip))))) ?_ | refine go_vs rfl (.yes rfl rfl hc2) rfl (o_loadS rfl rfl) (To.sat (by repeat (first | exact .nil | exact .done .refl | (apply To.cons; · (repeat (first | exact .head | apply Sel.tail))) | exact .done (by repeat (first | exact .refl | apply Drop.skip))))) ?_ | refine go_vs rfl (.yes rfl rfl hc2) rfl (o_loadC rfl) (To.sat (by repeat (first | exact .nil | exact .done .refl | (apply To.cons; · (repeat (first | exact .head | apply Sel.tail))) | exact .done (by repeat (first | exact .refl | apply Drop.skip))))) ?_
      refine go_v rfl (.yes rfl rfl hc2) rfl (o_move rfl) ?_
      refine go_c rfl (.yes rfl rfl hc2) rfl (o_call rfl (Has_spec (verb e.do').2 115 (by omega)) (by repeat (first | exact .nil | (apply Part.cons; · (repeat (first | exact .head | apply Sel.tail)))))) ?_
      rintro _ R ⟨_, ⟨rfl, rfl⟩, rfl⟩
      try simp only [List.cons_append, List.nil_append]
      refine ⟨(fun _ => (To.sat (by repeat (first | exact .nil | exact .done .refl | (apply To.cons; · (repeat (first | exact .head | apply Sel.tail))) | exact .done (by repeat (first | exact .refl | apply Drop.skip)))))), ?_⟩
      refine go_c rfl (.yes rfl rfl hc2) rfl (o_call rfl (nameB_spec e.slot (has (verb e.do').2 115) (by omega)) (by repeat (first | exact .nil | (apply Part.cons; · (repeat (first | exact .head | apply Sel.tail)))))) ?_
      rintro _ R ⟨_, ⟨rfl, rfl⟩, rfl⟩
      try simp only [List.cons_append, List.nil_append]
      refine ⟨(fun hG => absurd hG (by decide)), ?_⟩
      refine go_v rfl (.yes rfl rfl hc2) rfl (o_not rfl) ?_
      refine go_v rfl .none rfl (o_pickF hc2 rfl rfl) ?_
      refine go_v rfl .none rfl (o_move rfl) ?_
      refine go_split (j := 18) rfl rfl (fun hc3 => ?_) (fun hc3 => ?_)
      ·
        have hc3' := hc3
        first | replace hc3' := of_decide_eq_true hc3' | replace hc3' := lt_f hc3' | replace hc3' := le_f hc3' | replace hc3' := dec_f hc3' | replace hc3' := nlt_t hc3' | replace hc3' := nle_t hc3' | replace hc3' := ndec_t hc3' | replace hc3' := ndec_f hc3' | replace hc3' := nn_t hc3' | replace hc3' := nn_f hc3' | skip
        refine go_skip rfl (.no rfl rfl hc3) rfl ?_
        refine go_skip rfl (.no rfl rfl hc3) rfl ?_
        refine go_skip rfl (.no rfl rfl hc3) rfl ?_
        refine go_skip rfl (.no rfl rfl hc3) rfl ?_
        refine go_skip rfl (.no rfl rfl hc3) rfl ?_
        refine go_skip rfl (.no rfl rfl hc3) rfl ?_
        refine go_v rfl .none rfl (o_pickT hc3 rfl rfl) ?_
        refine go_nil ?_
        refine ge_then ?_
        refine g_cond_true rfl ?_
        refine g_seq ?_
        refine g_region ?_
        refine gl_v rfl (o_assign rfl) ?_
        refine gl_nil ?_
        refine ge_then ?_
        refine g_ret ?_
        refine ge_then_ret ?_
        refine ret1 (.inl rfl) rfl rfl _ (⟨bool_v (by rw [hvr, hvs, hvn, hvv, hvd] at *; unfold Pg.effW; simp_all), rfl⟩) (To.sat (by repeat (first | exact .nil | exact .done .refl | (apply To.cons; · (repeat (first | exact .head | apply Sel.tail))) | exact .done (by repeat (first | exact .refl | apply Drop.skip)))))
      ·
        have hc3' := hc3
        first | replace hc3' := of_decide_eq_true hc3' | replace hc3' := lt_f hc3' | replace hc3' := le_f hc3' | replace hc3' := dec_f hc3' | replace hc3' := nlt_t hc3' | replace hc3' := nle_t hc3' | replace hc3' := ndec_t hc3' | replace hc3' := ndec_f hc3' | replace hc3' := nn_t hc3' | replace hc3' := nn_f hc3' | skip
        first | refine go_vs rfl (.yes rfl rfl hc3) rfl (o_fldS rfl) (To.sat (by repeat (first | exact .nil | exact .done .refl | (apply To.cons; · (repeat (first | exact .head | apply Sel.tail))) | exact .done (by repeat (first | exact .refl | apply Drop.skip))))) ?_ | refine go_vs rfl (.yes rfl rfl hc3) rfl (o_fld rfl) (To.sat (by repeat (first | exact .nil | exact .done .refl | (apply To.cons; · (repeat (first | exact .head | apply Sel.tail))) | exact .done (by repeat (first | exact .refl | apply Drop.skip))))) ?_
        first | refine go_vs rfl (.yes rfl rfl hc3) rfl (o_load rfl rfl) (To.sat (by repeat (first | exact .nil | exact .done .refl | (apply To.cons; · (repeat (first | exact .head | apply Sel.tail))) | exact .done (by repeat (first | exact .refl | apply Drop.skip))))) ?_ | refine go_vs rfl (.yes rfl rfl hc3) rfl (o_loadS rfl rfl) (To.sat (by repeat (first | exact .nil | exact .done .refl | (apply To.cons; · (repeat (first | exact .head | apply Sel.tail))) | exact .done (by repeat (first | exact .refl | apply Drop.skip))))) ?_ | refine go_vs rfl (.yes rfl rfl hc3) rfl (o_loadC rfl) (To.sat (by repeat (first | exact .nil | exact .done .refl | (apply To.cons; · (repeat (first | exact .head | apply Sel.tail))) | exact .done (by repeat (first | exact .refl | apply Drop.skip))))) ?_
        refine go_v rfl (.yes rfl rfl hc3) rfl (o_move rfl) ?_
        refine go_c rfl (.yes rfl rfl hc3) rfl (o_call rfl (Has_spec (verb e.do').2 110 (by omega)) (by repeat (first | exact .nil | (apply Part.cons; · (repeat (first | exact .head | apply Sel.tail)))))) ?_
        rintro _ R ⟨_, ⟨rfl, rfl⟩, rfl⟩
        try simp only [List.cons_append, List.nil_append]
        refine ⟨(fun _ => (To.sat (by repeat (first | exact .nil | exact .done .refl | (apply To.cons; · (repeat (first | exact .head | apply Sel.tail))) | exact .done (by repeat (first | exact .refl | apply Drop.skip)))))), ?_⟩
        refine go_c rfl (.yes rfl rfl hc3) rfl (o_call rfl (nameB_spec e.name (has (verb e.do').2 110) (by omega)) (by repeat (first | exact .nil | (apply Part.cons; · (repeat (first | exact .head | apply Sel.tail)))))) ?_
        rintro _ R ⟨_, ⟨rfl, rfl⟩, rfl⟩
        try simp only [List.cons_append, List.nil_append]
        refine ⟨(fun hG => absurd hG (by decide)), ?_⟩
        refine go_v rfl (.yes rfl rfl hc3) rfl (o_not rfl) ?_
        refine go_v rfl .none rfl (o_pickF hc3 rfl rfl) ?_
        refine go_nil ?_
        refine ge_then ?_
        refine g_cond rfl (fun hc4 => ?_) (fun hc4 => ?_)
        ·
          first | replace hc4 := of_decide_eq_true hc4 | replace hc4 := lt_f hc4 | replace hc4 := le_f hc4 | replace hc4 := dec_f hc4 | replace hc4 := nlt_t hc4 | replace hc4 := nle_t hc4 | replace hc4 := ndec_t hc4 | replace hc4 := ndec_f hc4 | replace hc4 := nn_t hc4 | replace hc4 := nn_f hc4 | skip
          refine g_seq ?_
          refine g_region ?_
          refine gl_v rfl (o_assign rfl) ?_
          refine gl_nil ?_
          refine ge_then ?_
          refine g_ret ?_
          refine ge_then_ret ?_
          refine ret1 (.inl rfl) rfl rfl _ (⟨bool_v (by rw [hvr, hvs, hvn, hvv, hvd] at *; unfold Pg.effW; simp_all), rfl⟩) (To.sat (by repeat (first | exact .nil | exact .done .refl | (apply To.cons; · (repeat (first | exact .head | apply Sel.tail))) | exact .done (by repeat (first | exact .refl | apply Drop.skip)))))
        ·
          first | replace hc4 := of_decide_eq_true hc4 | replace hc4 := lt_f hc4 | replace hc4 := le_f hc4 | replace hc4 := dec_f hc4 | replace hc4 := nlt_t hc4 | replace hc4 := nle_t hc4 | replace hc4 := ndec_t hc4 | replace hc4 := ndec_f hc4 | replace hc4 := nn_t hc4 | replace hc4 := nn_f hc4 | skip
          refine g_skip ?_
          refine ge_then ?_
          refine g_seq ?_
          refine g_seq ?_
          refine g_region ?_
          refine gl_v rfl (o_move rfl) ?_
          refine gl_c rfl (o_call rfl (Has_spec (verb e.do').2 100 (by omega)) (by repeat (first | exact .nil | (apply Part.cons; · (repeat (first | exact .head | apply Sel.tail)))))) ?_
          rintro _ R ⟨_, ⟨rfl, rfl⟩, rfl⟩
          try simp only [List.cons_append, List.nil_append]
          refine gl_v rfl (o_move rfl) ?_
          refine gl_g rfl rfl (fun hc5 => ?_) (fun hc5 => ?_) rfl
          ·
            have hc5' := hc5
            first | replace hc5' := of_decide_eq_true hc5' | replace hc5' := lt_f hc5' | replace hc5' := le_f hc5' | replace hc5' := dec_f hc5' | replace hc5' := nlt_t hc5' | replace hc5' := nle_t hc5' | replace hc5' := ndec_t hc5' | replace hc5' := ndec_f hc5' | replace hc5' := nn_t hc5' | replace hc5' := nn_f hc5' | skip
            first | refine gl_v rfl (o_fldS rfl) ?_ | refine gl_v rfl (o_fld rfl) ?_
            refine gl_gT rfl rfl hc5 ?_
            first | refine gl_v rfl (o_load rfl rfl) ?_ | refine gl_v rfl (o_loadS rfl rfl) ?_ | refine gl_v rfl (o_loadC rfl) ?_
            refine gl_gT rfl rfl hc5 ?_
            refine gl_c rfl (o_call rfl (small_spec e.delay) (by repeat (first | exact .nil | (apply Part.cons; · (repeat (first | exact .head | apply Sel.tail)))))) ?_
            rintro _ R ⟨_, ⟨rfl, rfl⟩, rfl⟩
            try simp only [List.cons_append, List.nil_append]
            refine gl_gT rfl rfl hc5 ?_
            refine gl_v rfl (o_not rfl) ?_
            refine gl_v rfl (o_pickT hc5 rfl rfl) ?_
            refine gl_v rfl (o_move rfl) ?_
            refine gl_g rfl rfl (fun hc6 => ?_) (fun hc6 => ?_) rfl
            ·
              have hc6' := hc6
              first | replace hc6' := of_decide_eq_true hc6' | replace hc6' := lt_f hc6' | replace hc6' := le_f hc6' | replace hc6' := dec_f hc6' | replace hc6' := nlt_t hc6' | replace hc6' := nle_t hc6' | replace hc6' := ndec_t hc6' | replace hc6' := ndec_f hc6' | replace hc6' := nn_t hc6' | replace hc6' := nn_f hc6' | skip
              refine gl_v rfl (o_move rfl) ?_
              refine gl_gT rfl rfl hc6 ?_
              refine gl_c rfl (o_call rfl (Has_spec (verb e.do').2 100 (by omega)) (by repeat (first | exact .nil | (apply Part.cons; · (repeat (first | exact .head | apply Sel.tail)))))) ?_
              rintro _ R ⟨_, ⟨rfl, rfl⟩, rfl⟩
              try simp only [List.cons_append, List.nil_append]
              refine gl_gT rfl rfl hc6 ?_
              refine gl_v rfl (o_not rfl) ?_
              refine gl_gT rfl rfl hc6 ?_
              refine gl_v rfl (o_move rfl) ?_
              refine gl_g rfl rfl (fun hc7 => ?_) (fun hc7 => ?_) rfl
              ·
                have hc7' := hc7
                first | replace hc7' := of_decide_eq_true hc7' | replace hc7' := lt_f hc7' | replace hc7' := le_f hc7' | replace hc7' := dec_f hc7' | replace hc7' := nlt_t hc7' | replace hc7' := nle_t hc7' | replace hc7' := ndec_t hc7' | replace hc7' := ndec_f hc7' | replace hc7' := nn_t hc7' | replace hc7' := nn_f hc7' | skip
                first | refine gl_v rfl (o_fldS rfl) ?_ | refine gl_v rfl (o_fld rfl) ?_
                refine gl_gT rfl rfl hc7 ?_
                first | refine gl_v rfl (o_load rfl rfl) ?_ | refine gl_v rfl (o_loadS rfl rfl) ?_ | refine gl_v rfl (o_loadC rfl) ?_
                refine gl_gT rfl rfl hc7 ?_
                refine gl_v rfl (o_neq rfl rfl) ?_
                refine gl_gT rfl rfl hc6 ?_
                refine gl_v rfl (o_pickT hc7 rfl rfl) ?_
                refine gl_v rfl (o_pickF hc6 rfl rfl) ?_
                refine gl_nil ?_
                refine ge_then ?_
                refine g_cond rfl (fun hc8 => ?_) (fun hc8 => ?_)
                ·
                  first | replace hc8 := of_decide_eq_true hc8 | replace hc8 := lt_f hc8 | replace hc8 := le_f hc8 | replace hc8 := dec_f hc8 | replace hc8 := nlt_t hc8 | replace hc8 := nle_t hc8 | replace hc8 := ndec_t hc8 | replace hc8 := ndec_f hc8 | replace hc8 := nn_t hc8 | replace hc8 := nn_f hc8 | skip
                  refine g_seq ?_
                  refine g_region ?_
                  refine gl_v rfl (o_assign rfl) ?_
                  refine gl_nil ?_
                  refine ge_then ?_
                  refine g_ret ?_
                  refine ge_then_ret ?_
                  refine ret1 (.inl rfl) rfl rfl _ (⟨bool_v (by rw [hvr, hvs, hvn, hvv, hvd] at *; unfold Pg.effW; simp_all), rfl⟩) (To.sat (by repeat (first | exact .nil | exact .done .refl | (apply To.cons; · (repeat (first | exact .head | apply Sel.tail))) | exact .done (by repeat (first | exact .refl | apply Drop.skip)))))
                ·
                  first | replace hc8 := of_decide_eq_true hc8 | replace hc8 := lt_f hc8 | replace hc8 := le_f hc8 | replace hc8 := dec_f hc8 | replace hc8 := nlt_t hc8 | replace hc8 := nle_t hc8 | replace hc8 := ndec_t hc8 | replace hc8 := ndec_f hc8 | replace hc8 := nn_t hc8 | replace hc8 := nn_f hc8 | skip
                  refine g_skip ?_
                  refine ge_then ?_
                  refine g_seq ?_
                  refine g_seq ?_
                  refine g_region ?_
                  refine gl_v rfl (o_move rfl) ?_
                  refine gl_c rfl (o_call rfl (Has_spec (verb e.do').2 118 (by omega)) (by repeat (first | exact .nil | (apply Part.cons; · (repeat (first | exact .head | apply Sel.tail)))))) ?_
                  rintro _ R ⟨_, ⟨rfl, rfl⟩, rfl⟩
                  try simp only [List.cons_append, List.nil_append]
                  refine gl_v rfl (o_not rfl) ?_
                  refine gl_v rfl (o_move rfl) ?_
                  refine gl_g rfl rfl (fun hc9 => ?_) (fun hc9 => ?_) rfl
                  ·
                    have hc9' := hc9
                    first | replace hc9' := of_decide_eq_true hc9' | replace hc9' := lt_f hc9' | replace hc9' := le_f hc9' | replace hc9' := dec_f hc9' | replace hc9' := nlt_t hc9' | replace hc9' := nle_t hc9' | replace hc9' := ndec_t hc9' | replace hc9' := ndec_f hc9' | replace hc9' := nn_t hc9' | replace hc9' := nn_f hc9' | skip
                    first | refine gl_v rfl (o_fldS rfl) ?_ | refine gl_v rfl (o_fld rfl) ?_
                    refine gl_gT rfl rfl hc9 ?_
                    first | refine gl_v rfl (o_load rfl rfl) ?_ | refine gl_v rfl (o_loadS rfl rfl) ?_ | refine gl_v rfl (o_loadC rfl) ?_
                    refine gl_gT rfl rfl hc9 ?_
                    refine gl_v rfl (o_neq rfl rfl) ?_
                    refine gl_v rfl (o_pickF hc9 rfl rfl) ?_
                    refine gl_nil ?_
                    refine ge_then ?_
                    refine g_cond rfl (fun hc10 => ?_) (fun hc10 => ?_)
                    ·
                      first | replace hc10 := of_decide_eq_true hc10 | replace hc10 := lt_f hc10 | replace hc10 := le_f hc10 | replace hc10 := dec_f hc10 | replace hc10 := nlt_t hc10 | replace hc10 := nle_t hc10 | replace hc10 := ndec_t hc10 | replace hc10 := ndec_f hc10 | replace hc10 := nn_t hc10 | replace hc10 := nn_f hc10 | skip
                      refine g_seq ?_
                      refine g_region ?_
                      first | refine gl_v rfl (o_fldS rfl) ?_ | refine gl_v rfl (o_fld rfl) ?_
                      first | refine gl_v rfl (o_load rfl rfl) ?_ | refine gl_v rfl (o_loadS rfl rfl) ?_ | refine gl_v rfl (o_loadC rfl) ?_
                      refine gl_v rfl (o_eql rfl rfl) ?_
                      refine gl_v rfl (o_move rfl) ?_
                      refine gl_g rfl rfl (fun hc11 => ?_) (fun hc11 => ?_) rfl
                      ·
                        have hc11' := hc11
                        first | replace hc11' := of_decide_eq_true hc11' | replace hc11' := lt_f hc11' | replace hc11' := le_f hc11' | replace hc11' := dec_f hc11' | replace hc11' := nlt_t hc11' | replace hc11' := nle_t hc11' | replace hc11' := ndec_t hc11' | replace hc11' := ndec_f hc11' | replace hc11' := nn_t hc11' | replace hc11' := nn_f hc11' | skip
                        first | refine gl_v rfl (o_fldS rfl) ?_ | refine gl_v rfl (o_fld rfl) ?_
                        refine gl_gT rfl rfl hc11 ?_
                        first | refine gl_v rfl (o_load rfl rfl) ?_ | refine gl_v rfl (o_loadS rfl rfl) ?_ | refine gl_v rfl (o_loadC rfl) ?_
                        refine gl_gT rfl rfl hc11 ?_
                        refine gl_v rfl (o_eql rfl rfl) ?_
                        refine gl_gT rfl rfl hc11 ?_
                        refine gl_v rfl (o_move rfl) ?_
                        refine gl_g rfl rfl (fun hc12 => ?_) (fun hc12 => ?_) rfl
                        ·
                          have hc12' := hc12
                          first | replace hc12' := of_decide_eq_true hc12' | replace hc12' := lt_f hc12' | replace hc12' := le_f hc12' | replace hc12' := dec_f hc12' | replace hc12' := nlt_t hc12' | replace hc12' := nle_t hc12' | replace hc12' := ndec_t hc12' | replace hc12' := ndec_f hc12' | replace hc12' := nn_t hc12' | replace hc12' := nn_f hc12' | skip
                          first | refine gl_v rfl (o_fldS rfl) ?_ | refine gl_v rfl (o_fld rfl) ?_
                          refine gl_gT rfl rfl hc12 ?_
                          first | refine gl_v rfl (o_load rfl rfl) ?_ | refine gl_v rfl (o_loadS rfl rfl) ?_ | refine gl_v rfl (o_loadC rfl) ?_
                          refine gl_gT rfl rfl hc12 ?_
                          refine gl_v rfl (o_eql rfl rfl) ?_
                          refine gl_gT rfl rfl hc12 ?_
                          refine gl_v rfl (o_move rfl) ?_
                          refine gl_g rfl rfl (fun hc13 => ?_) (fun hc13 => ?_) rfl
                          ·
                            have hc13' := hc13
                            first | replace hc13' := of_decide_eq_true hc13' | replace hc13' := lt_f hc13' | replace hc13' := le_f hc13' | replace hc13' := dec_f hc13' | replace hc13' := nlt_t hc13' | replace hc13' := nle_t hc13' | replace hc13' := ndec_t hc13' | replace hc13' := ndec_f hc13' | replace hc13' := nn_t hc13' | replace hc13' := nn_f hc13' | skip
                            refine gl_v rfl (o_move rfl) ?_
                            refine gl_gT rfl rfl hc13 ?_
                            refine gl_c rfl (o_call rfl (Has_spec (verb e.do').2 118 (by omega)) (by repeat (first | exact .nil | (apply Part.cons; · (repeat (first | exact .head | apply Sel.tail)))))) ?_
                            rintro _ R ⟨_, ⟨rfl, rfl⟩, rfl⟩
                            try simp only [List.cons_append, List.nil_append]
                            refine gl_gT rfl rfl hc12 ?_
                            refine gl_v rfl (o_pickT hc13 rfl rfl) ?_
                            refine gl_gT rfl rfl hc11 ?_
                            refine gl_v rfl (o_pickF hc12 rfl rfl) ?_
                            refine gl_v rfl (o_pickT hc11 rfl rfl) ?_
                            refine gl_v rfl (o_assign rfl) ?_
                            refine gl_nil ?_
                            refine ge_then ?_
                            refine g_ret ?_
                            refine ge_then_ret ?_
                            refine ret1 (.inl rfl) rfl rfl _ (⟨bool_v (by rw [hvr, hvs, hvn, hvv, hvd] at *; unfold Pg.effW; simp_all), rfl⟩) (To.sat (by repeat (first | exact .nil | exact .done .refl | (apply To.cons; · (repeat (first | exact .head | apply Sel.tail))) | exact .done (by repeat (first | exact .refl | apply Drop.skip)))))
                          ·
                            have hc13' := hc13
                            first | replace hc13' := of_decide_eq_true hc13' | replace hc13' := lt_f hc13' | replace hc13' := le_f hc13' | replace hc13' := dec_f hc13' | replace hc13' := nlt_t hc13' | replace hc13' := nle_t hc13' | replace hc13' := ndec_t hc13' | replace hc13' := ndec_f hc13' | replace hc13' := nn_t hc13' | replace hc13' := nn_f hc13' | skip
                            simp only [putO]
                            refine gl_gF rfl rfl hc13 rfl ?_
                            refine gl_gT rfl rfl hc12 ?_
                            refine gl_v rfl (o_pickF hc13 rfl rfl) ?_
                            refine gl_gT rfl rfl hc11 ?_
                            refine gl_v rfl (o_pickF hc12 rfl rfl) ?_
                            refine gl_v rfl (o_pickT hc11 rfl rfl) ?_
                            refine gl_v rfl (o_assign rfl) ?_
                            refine gl_nil ?_
                            refine ge_then ?_
                            refine g_ret ?_
                            refine ge_then_ret ?_
                            refine ret1 (.inl rfl) rfl rfl _ (⟨bool_v (by rw [hvr, hvs, hvn, hvv, hvd] at *; unfold Pg.effW; simp_all), rfl⟩) (To.sat (by repeat (first | exact .nil | exact .done .refl | (apply To.cons; · (repeat (first | exact .head | apply Sel.tail))) | exact .done (by repeat (first | exact .refl | apply Drop.skip)))))
                        ·
                          have hc12' := hc12
                          first | replace hc12' := of_decide_eq_true hc12' | replace hc12' := lt_f hc12' | replace hc12' := le_f hc12' | replace hc12' := dec_f hc12' | replace hc12' := nlt_t hc12' | replace hc12' := nle_t hc12' | replace hc12' := ndec_t hc12' | replace hc12' := ndec_f hc12' | replace hc12' := nn_t hc12' | replace hc12' := nn_f hc12' | skip
                          simp only [putO]
                          refine gl_gF rfl rfl hc12 rfl ?_
                          refine gl_gF rfl rfl hc12 rfl ?_
                          refine gl_gF rfl rfl hc12 rfl ?_
                          refine gl_gU rfl rfl rfl ?_
                          refine gl_gU rfl rfl rfl ?_
                          refine gl_gF rfl rfl hc12 rfl ?_
                          refine gl_gT rfl rfl hc11 ?_
                          refine gl_v rfl (o_pickT hc12 rfl rfl) ?_
                          refine gl_v rfl (o_pickT hc11 rfl rfl) ?_
                          refine gl_v rfl (o_assign rfl) ?_
                          refine gl_nil ?_
                          refine ge_then ?_
                          refine g_ret ?_
                          refine ge_then_ret ?_
                          refine ret1 (.inl rfl) rfl rfl _ (⟨bool_v (by rw [hvr, hvs, hvn, hvv, hvd] at *; unfold Pg.effW; simp_all), rfl⟩) (To.sat (by repeat (first | exact .nil | exact .done .refl | (apply To.cons; · (repeat (first | exact .head | apply Sel.tail))) | exact .done (by repeat (first | exact .refl | apply Drop.skip)))))
                      ·
                        have hc11' := hc11
                        first | replace hc11' := of_decide_eq_true hc11' | replace hc11' := lt_f hc11' | replace hc11' := le_f hc11' | replace hc11' := dec_f hc11' | replace hc11' := nlt_t hc11' | replace hc11' := nle_t hc11' | replace hc11' := ndec_t hc11' | replace hc11' := ndec_f hc11' | replace hc11' := nn_t hc11' | replace hc11' := nn_f hc11' | skip
                        simp only [putO]
                        refine gl_gF rfl rfl hc11 rfl ?_
                        refine gl_gF rfl rfl hc11 rfl ?_
                        refine gl_gF rfl rfl hc11 rfl ?_
                        refine gl_gU rfl rfl rfl ?_
                        refine gl_gU rfl rfl rfl ?_
                        refine gl_gU rfl rfl rfl ?_
                        refine gl_gU rfl rfl rfl ?_
                        refine gl_gU rfl rfl rfl ?_
                        refine gl_gU rfl rfl rfl ?_
                        refine gl_gU rfl rfl rfl ?_
                        refine gl_gF rfl rfl hc11 rfl ?_
                        refine gl_v rfl (o_pickF hc11 rfl rfl) ?_
                        refine gl_v rfl (o_assign rfl) ?_
                        refine gl_nil ?_
                        refine ge_then ?_
                        refine g_ret ?_
                        refine ge_then_ret ?_
                        refine ret1 (.inl rfl) rfl rfl _ (⟨bool_v (by rw [hvr, hvs, hvn, hvv, hvd] at *; unfold Pg.effW; simp_all), rfl⟩) (To.sat (by repeat (first | exact .nil | exact .done .refl | (apply To.cons; · (repeat (first | exact .head | apply Sel.tail))) | exact .done (by repeat (first | exact .refl | apply Drop.skip)))))
                    ·
                      first | replace hc10 := of_decide_eq_true hc10 | replace hc10 := lt_f hc10 | replace hc10 := le_f hc10 | replace hc10 := dec_f hc10 | replace hc10 := nlt_t hc10 | replace hc10 := nle_t hc10 | replace hc10 := ndec_t hc10 | replace hc10 := ndec_f hc10 | replace hc10 := nn_t hc10 | replace hc10 := nn_f hc10 | skip
                      refine g_skip ?_
                      refine ge_then ?_
                      refine g_seq ?_
                      refine g_region ?_
                      first | refine gl_v rfl (o_fldS rfl) ?_ | refine gl_v rfl (o_fld rfl) ?_
                      first | refine gl_v rfl (o_load rfl rfl) ?_ | refine gl_v rfl (o_loadS rfl rfl) ?_ | refine gl_v rfl (o_loadC rfl) ?_
                      refine gl_c rfl (o_call rfl (small_spec e.n) (by repeat (first | exact .nil | (apply Part.cons; · (repeat (first | exact .head | apply Sel.tail)))))) ?_
                      rintro _ R ⟨_, ⟨rfl, rfl⟩, rfl⟩
                      try simp only [List.cons_append, List.nil_append]
                      refine gl_v rfl (o_assign rfl) ?_
                      refine gl_nil ?_
                      refine ge_then ?_
                      refine g_ret ?_
                      refine ret1 (.inl rfl) rfl rfl _ (⟨bool_v (by rw [hvr, hvs, hvn, hvv, hvd] at *; unfold Pg.effW; simp_all), rfl⟩) (To.sat (by repeat (first | exact .nil | exact .done .refl | (apply To.cons; · (repeat (first | exact .head | apply Sel.tail))) | exact .done (by repeat (first | exact .refl | apply Drop.skip)))))
                  ·
                    have hc9' := hc9
                    first | replace hc9' := of_decide_eq_true hc9' | replace hc9' := lt_f hc9' | replace hc9' := le_f hc9' | replace hc9' := dec_f hc9' | replace hc9' := nlt_t hc9' | replace hc9' := nle_t hc9' | replace hc9' := ndec_t hc9' | replace hc9' := ndec_f hc9' | replace hc9' := nn_t hc9' | replace hc9' := nn_f hc9' | skip
                    simp only [putO]
                    refine gl_gF rfl rfl hc9 rfl ?_
                    refine gl_gF rfl rfl hc9 rfl ?_
                    refine gl_v rfl (o_pickT hc9 rfl rfl) ?_
                    refine gl_nil ?_
                    refine ge_then ?_
                    refine g_cond_true rfl ?_
                    refine g_seq ?_
                    refine g_region ?_
                    first | refine gl_v rfl (o_fldS rfl) ?_ | refine gl_v rfl (o_fld rfl) ?_
                    first | refine gl_v rfl (o_load rfl rfl) ?_ | refine gl_v rfl (o_loadS rfl rfl) ?_ | refine gl_v rfl (o_loadC rfl) ?_
                    refine gl_v rfl (o_eql rfl rfl) ?_
                    refine gl_v rfl (o_move rfl) ?_
                    refine gl_g rfl rfl (fun hc14 => ?_) (fun hc14 => ?_) rfl
                    ·
                      have hc14' := hc14
                      first | replace hc14' := of_decide_eq_true hc14' | replace hc14' := lt_f hc14' | replace hc14' := le_f hc14' | replace hc14' := dec_f hc14' | replace hc14' := nlt_t hc14' | replace hc14' := nle_t hc14' | replace hc14' := ndec_t hc14' | replace hc14' := ndec_f hc14' | replace hc14' := nn_t hc14' | replace hc14' := nn_f hc14' | skip
                      first | refine gl_v rfl (o_fldS rfl) ?_ | refine gl_v rfl (o_fld rfl) ?_
                      refine gl_gT rfl rfl hc14 ?_
                      first | refine gl_v rfl (o_load rfl rfl) ?_ | refine gl_v rfl (o_loadS rfl rfl) ?_ | refine gl_v rfl (o_loadC rfl) ?_
                      refine gl_gT rfl rfl hc14 ?_
                      refine gl_v rfl (o_eql rfl rfl) ?_
                      refine gl_gT rfl rfl hc14 ?_
                      refine gl_v rfl (o_move rfl) ?_
                      refine gl_g rfl rfl (fun hc15 => ?_) (fun hc15 => ?_) rfl
                      ·
                        have hc15' := hc15
                        first | replace hc15' := of_decide_eq_true hc15' | replace hc15' := lt_f hc15' | replace hc15' := le_f hc15' | replace hc15' := dec_f hc15' | replace hc15' := nlt_t hc15' | replace hc15' := nle_t hc15' | replace hc15' := ndec_t hc15' | replace hc15' := ndec_f hc15' | replace hc15' := nn_t hc15' | replace hc15' := nn_f hc15' | skip
                        first | refine gl_v rfl (o_fldS rfl) ?_ | refine gl_v rfl (o_fld rfl) ?_
                        refine gl_gT rfl rfl hc15 ?_
                        first | refine gl_v rfl (o_load rfl rfl) ?_ | refine gl_v rfl (o_loadS rfl rfl) ?_ | refine gl_v rfl (o_loadC rfl) ?_
                        refine gl_gT rfl rfl hc15 ?_
                        refine gl_v rfl (o_eql rfl rfl) ?_
                        refine gl_gT rfl rfl hc15 ?_
                        refine gl_v rfl (o_move rfl) ?_
                        refine gl_g rfl rfl (fun hc16 => ?_) (fun hc16 => ?_) rfl
                        ·
                          have hc16' := hc16
                          first | replace hc16' := of_decide_eq_true hc16' | replace hc16' := lt_f hc16' | replace hc16' := le_f hc16' | replace hc16' := dec_f hc16' | replace hc16' := nlt_t hc16' | replace hc16' := nle_t hc16' | replace hc16' := ndec_t hc16' | replace hc16' := ndec_f hc16' | replace hc16' := nn_t hc16' | replace hc16' := nn_f hc16' | skip
                          refine gl_v rfl (o_move rfl) ?_
                          refine gl_gT rfl rfl hc16 ?_
                          refine gl_c rfl (o_call rfl (Has_spec (verb e.do').2 118 (by omega)) (by repeat (first | exact .nil | (apply Part.cons; · (repeat (first | exact .head | apply Sel.tail)))))) ?_
                          rintro _ R ⟨_, ⟨rfl, rfl⟩, rfl⟩
                          try simp only [List.cons_append, List.nil_append]
                          refine gl_gT rfl rfl hc15 ?_
                          refine gl_v rfl (o_pickT hc16 rfl rfl) ?_
                          refine gl_gT rfl rfl hc14 ?_
                          refine gl_v rfl (o_pickF hc15 rfl rfl) ?_
                          refine gl_v rfl (o_pickT hc14 rfl rfl) ?_
                          refine gl_v rfl (o_assign rfl) ?_
                          refine gl_nil ?_
                          refine ge_then ?_
                          refine g_ret ?_
                          refine ge_then_ret ?_
                          refine ret1 (.inl rfl) rfl rfl _ (⟨bool_v (by rw [hvr, hvs, hvn, hvv, hvd] at *; unfold Pg.effW; simp_all), rfl⟩) (To.sat (by repeat (first | exact .nil | exact .done .refl | (apply To.cons; · (repeat (first | exact .head | apply Sel.tail))) | exact .done (by repeat (first | exact .refl | apply Drop.skip)))))
                        ·
                          have hc16' := hc16
                          first | replace hc16' := of_decide_eq_true hc16' | replace hc16' := lt_f hc16' | replace hc16' := le_f hc16' | replace hc16' := dec_f hc16' | replace hc16' := nlt_t hc16' | replace hc16' := nle_t hc16' | replace hc16' := ndec_t hc16' | replace hc16' := ndec_f hc16' | replace hc16' := nn_t hc16' | replace hc16' := nn_f hc16' | skip
                          simp only [putO]
                          refine gl_gF rfl rfl hc16 rfl ?_
                          refine gl_gT rfl rfl hc15 ?_
                          refine gl_v rfl (o_pickF hc16 rfl rfl) ?_
                          refine gl_gT rfl rfl hc14 ?_
                          refine gl_v rfl (o_pickF hc15 rfl rfl) ?_
                          refine gl_v rfl (o_pickT hc14 rfl rfl) ?_
                          refine gl_v rfl (o_assign rfl) ?_
                          refine gl_nil ?_
                          refine ge_then ?_
                          refine g_ret ?_
                          refine ge_then_ret ?_
                          refine ret1 (.inl rfl) rfl rfl _ (⟨bool_v (by rw [hvr, hvs, hvn, hvv, hvd] at *; unfold Pg.effW; simp_all), rfl⟩) (To.sat (by repeat (first | exact .nil | exact .done .refl | (apply To.cons; · (repeat (first | exact .head | apply Sel.tail))) | exact .done (by repeat (first | exact .refl | apply Drop.skip)))))
                      ·
                        have hc15' := hc15
                        first | replace hc15' := of_decide_eq_true hc15' | replace hc15' := lt_f hc15' | replace hc15' := le_f hc15' | replace hc15' := dec_f hc15' | replace hc15' := nlt_t hc15' | replace hc15' := nle_t hc15' | replace hc15' := ndec_t hc15' | replace hc15' := ndec_f hc15' | replace hc15' := nn_t hc15' | replace hc15' := nn_f hc15' | skip
                        simp only [putO]
                        refine gl_gF rfl rfl hc15 rfl ?_
                        refine gl_gF rfl rfl hc15 rfl ?_
                        refine gl_gF rfl rfl hc15 rfl ?_
                        refine gl_gU rfl rfl rfl ?_
                        refine gl_gU rfl rfl rfl ?_
                        refine gl_gF rfl rfl hc15 rfl ?_
                        refine gl_gT rfl rfl hc14 ?_
                        refine gl_v rfl (o_pickT hc15 rfl rfl) ?_
                        refine gl_v rfl (o_pickT hc14 rfl rfl) ?_
                        refine gl_v rfl (o_assign rfl) ?_
                        refine gl_nil ?_
                        refine ge_then ?_
                        refine g_ret ?_
                        refine ge_then_ret ?_
                        refine ret1 (.inl rfl) rfl rfl _ (⟨bool_v (by rw [hvr, hvs, hvn, hvv, hvd] at *; unfold Pg.effW; simp_all), rfl⟩) (To.sat (by repeat (first | exact .nil | exact .done .refl | (apply To.cons; · (repeat (first | exact .head | apply Sel.tail))) | exact .done (by repeat (first | exact .refl | apply Drop.skip)))))
                    ·
                      have hc14' := hc14
                      first | replace hc14' := of_decide_eq_true hc14' | replace hc14' := lt_f hc14' | replace hc14' := le_f hc14' | replace hc14' := dec_f hc14' | replace hc14' := nlt_t hc14' | replace hc14' := nle_t hc14' | replace hc14' := ndec_t hc14' | replace hc14' := ndec_f hc14' | replace hc14' := nn_t hc14' | replace hc14' := nn_f hc14' | skip
                      simp only [putO]
                      refine gl_gF rfl rfl hc14 rfl ?_
                      refine gl_gF rfl rfl hc14 rfl ?_
                      refine gl_gF rfl rfl hc14 rfl ?_
                      refine gl_gU rfl rfl rfl ?_
                      refine gl_gU rfl rfl rfl ?_
                      refine gl_gU rfl rfl rfl ?_
                      refine gl_gU rfl rfl rfl ?_
                      refine gl_gU rfl rfl rfl ?_
                      refine gl_gU rfl rfl rfl ?_
                      refine gl_gU rfl rfl rfl ?_
                      refine gl_gF rfl rfl hc14 rfl ?_
                      refine gl_v rfl (o_pickF hc14 rfl rfl) ?_
                      refine gl_v rfl (o_assign rfl) ?_
                      refine gl_nil ?_
                      refine ge_then ?_
                      refine g_ret ?_
                      refine ge_then_ret ?_
                      refine ret1 (.inl rfl) rfl rfl _ (⟨bool_v (by rw [hvr, hvs, hvn, hvv, hvd] at *; unfold Pg.effW; simp_all), rfl⟩) (To.sat (by repeat (first | exact .nil | exact .done .refl | (apply To.cons; · (repeat (first | exact .head | apply Sel.tail))) | exact .done (by repeat (first | exact .refl | apply Drop.skip)))))
              ·
                have hc7' := hc7
                first | replace hc7' := of_decide_eq_true hc7' | replace hc7' := lt_f hc7' | replace hc7' := le_f hc7' | replace hc7' := dec_f hc7' | replace hc7' := nlt_t hc7' | replace hc7' := nle_t hc7' | replace hc7' := ndec_t hc7' | replace hc7' := ndec_f hc7' | replace hc7' := nn_t hc7' | replace hc7' := nn_f hc7' | skip
                simp only [putO]
                refine gl_gF rfl rfl hc7 rfl ?_
                refine gl_gF rfl rfl hc7 rfl ?_
                refine gl_gT rfl rfl hc6 ?_
                refine gl_v rfl (o_pickF hc7 rfl rfl) ?_
                refine gl_v rfl (o_pickF hc6 rfl rfl) ?_
                refine gl_nil ?_
                refine ge_then ?_
                refine g_cond_false rfl ?_
                refine g_skip ?_
                refine ge_then ?_
                refine g_seq ?_
                refine g_seq ?_
                refine g_region ?_
                refine gl_v rfl (o_move rfl) ?_
                refine gl_c rfl (o_call rfl (Has_spec (verb e.do').2 118 (by omega)) (by repeat (first | exact .nil | (apply Part.cons; · (repeat (first | exact .head | apply Sel.tail)))))) ?_
                rintro _ R ⟨_, ⟨rfl, rfl⟩, rfl⟩
                try simp only [List.cons_append, List.nil_append]
                refine gl_v rfl (o_not rfl) ?_
                refine gl_v rfl (o_move rfl) ?_
                refine gl_g rfl rfl (fun hc17 => ?_) (fun hc17 => ?_) rfl
                ·
                  have hc17' := hc17
                  first | replace hc17' := of_decide_eq_true hc17' | replace hc17' := lt_f hc17' | replace hc17' := le_f hc17' | replace hc17' := dec_f hc17' | replace hc17' := nlt_t hc17' | replace hc17' := nle_t hc17' | replace hc17' := ndec_t hc17' | replace hc17' := ndec_f hc17' | replace hc17' := nn_t hc17' | replace hc17' := nn_f hc17' | skip
                  first | refine gl_v rfl (o_fldS rfl) ?_ | refine gl_v rfl (o_fld rfl) ?_
                  refine gl_gT rfl rfl hc17 ?_
                  first | refine gl_v rfl (o_load rfl rfl) ?_ | refine gl_v rfl (o_loadS rfl rfl) ?_ | refine gl_v rfl (o_loadC rfl) ?_
                  refine gl_gT rfl rfl hc17 ?_
                  refine gl_v rfl (o_neq rfl rfl) ?_
                  refine gl_v rfl (o_pickF hc17 rfl rfl) ?_
                  refine gl_nil ?_
                  refine ge_then ?_
                  refine g_cond rfl (fun hc18 => ?_) (fun hc18 => ?_)
                  ·
                    first | replace hc18 := of_decide_eq_true hc18 | replace hc18 := lt_f hc18 | replace hc18 := le_f hc18 | replace hc18 := dec_f hc18 | replace hc18 := nlt_t hc18 | replace hc18 := nle_t hc18 | replace hc18 := ndec_t hc18 | replace hc18 := ndec_f hc18 | replace hc18 := nn_t hc18 | replace hc18 := nn_f hc18 | skip
                    refine g_seq ?_
                    refine g_region ?_
                    first | refine gl_v rfl (o_fldS rfl) ?_ | refine gl_v rfl (o_fld rfl) ?_
                    first | refine gl_v rfl (o_load rfl rfl) ?_ | refine gl_v rfl (o_loadS rfl rfl) ?_ | refine gl_v rfl (o_loadC rfl) ?_
                    refine gl_v rfl (o_eql rfl rfl) ?_
                    refine gl_v rfl (o_move rfl) ?_
                    refine gl_g rfl rfl (fun hc19 => ?_) (fun hc19 => ?_) rfl
                    ·
                      have hc19' := hc19
                      first | replace hc19' := of_decide_eq_true hc19' | replace hc19' := lt_f hc19' | replace hc19' := le_f hc19' | replace hc19' := dec_f hc19' | replace hc19' := nlt_t hc19' | replace hc19' := nle_t hc19' | replace hc19' := ndec_t hc19' | replace hc19' := ndec_f hc19' | replace hc19' := nn_t hc19' | replace hc19' := nn_f hc19' | skip
                      first | refine gl_v rfl (o_fldS rfl) ?_ | refine gl_v rfl (o_fld rfl) ?_
                      refine gl_gT rfl rfl hc19 ?_
                      first | refine gl_v rfl (o_load rfl rfl) ?_ | refine gl_v rfl (o_loadS rfl rfl) ?_ | refine gl_v rfl (o_loadC rfl) ?_
                      refine gl_gT rfl rfl hc19 ?_
                      refine gl_v rfl (o_eql rfl rfl) ?_
                      refine gl_gT rfl rfl hc19 ?_
                      refine gl_v rfl (o_move rfl) ?_
                      refine gl_g rfl rfl (fun hc20 => ?_) (fun hc20 => ?_) rfl
                      ·
                        have hc20' := hc20
                        first | replace hc20' := of_decide_eq_true hc20' | replace hc20' := lt_f hc20' | replace hc20' := le_f hc20' | replace hc20' := dec_f hc20' | replace hc20' := nlt_t hc20' | replace hc20' := nle_t hc20' | replace hc20' := ndec_t hc20' | replace hc20' := ndec_f hc20' | replace hc20' := nn_t hc20' | replace hc20' := nn_f hc20' | skip
                        first | refine gl_v rfl (o_fldS rfl) ?_ | refine gl_v rfl (o_fld rfl) ?_
                        refine gl_gT rfl rfl hc20 ?_
                        first | refine gl_v rfl (o_load rfl rfl) ?_ | refine gl_v rfl (o_loadS rfl rfl) ?_ | refine gl_v rfl (o_loadC rfl) ?_
                        refine gl_gT rfl rfl hc20 ?_
                        refine gl_v rfl (o_eql rfl rfl) ?_
                        refine gl_gT rfl rfl hc20 ?_
                        refine gl_v rfl (o_move rfl) ?_
                        refine gl_g rfl rfl (fun hc21 => ?_) (fun hc21 => ?_) rfl
                        ·
                          have hc21' := hc21
                          first | replace hc21' := of_decide_eq_true hc21' | replace hc21' := lt_f hc21' | replace hc21' := le_f hc21' | replace hc21' := dec_f hc21' | replace hc21' := nlt_t hc21' | replace hc21' := nle_t hc21' | replace hc21' := ndec_t hc21' | replace hc21' := ndec_f hc21' | replace hc21' := nn_t hc21' | replace hc21' := nn_f hc21' | skip
                          refine gl_v rfl (o_move rfl) ?_
                          refine gl_gT rfl rfl hc21 ?_
                          refine gl_c rfl (o_call rfl (Has_spec (verb e.do').2 118 (by omega)) (by repeat (first | exact .nil | (apply Part.cons; · (repeat (first | exact .head | apply Sel.tail)))))) ?_
                          rintro _ R ⟨_, ⟨rfl, rfl⟩, rfl⟩
                          try simp only [List.cons_append, List.nil_append]
                          refine gl_gT rfl rfl hc20 ?_
                          refine gl_v rfl (o_pickT hc21 rfl rfl) ?_
                          refine gl_gT rfl rfl hc19 ?_
                          refine gl_v rfl (o_pickF hc20 rfl rfl) ?_
                          refine gl_v rfl (o_pickT hc19 rfl rfl) ?_
                          refine gl_v rfl (o_assign rfl) ?_
                          refine gl_nil ?_
                          refine ge_then ?_
                          refine g_ret ?_
                          refine ge_then_ret ?_
                          refine ret1 (.inl rfl) rfl rfl _ (⟨bool_v (by rw [hvr, hvs, hvn, hvv, hvd] at *; unfold Pg.effW; simp_all), rfl⟩) (To.sat (by repeat (first | exact .nil | exact .done .refl | (apply To.cons; · (repeat (first | exact .head | apply Sel.tail))) | exact .done (by repeat (first | exact .refl | apply Drop.skip)))))
                        ·
                          have hc21' := hc21
                          first | replace hc21' := of_decide_eq_true hc21' | replace hc21' := lt_f hc21' | replace hc21' := le_f hc21' | replace hc21' := dec_f hc21' | replace hc21' := nlt_t hc21' | replace hc21' := nle_t hc21' | replace hc21' := ndec_t hc21' | replace hc21' := ndec_f hc21' | replace hc21' := nn_t hc21' | replace hc21' := nn_f hc21' | skip
                          simp only [putO]
                          refine gl_gF rfl rfl hc21 rfl ?_
                          refine gl_gT rfl rfl hc20 ?_
                          refine gl_v rfl (o_pickF hc21 rfl rfl) ?_
                          refine gl_gT rfl rfl hc19 ?_
                          refine gl_v rfl (o_pickF hc20 rfl rfl) ?_
                          refine gl_v rfl (o_pickT hc19 rfl rfl) ?_
                          refine gl_v rfl (o_assign rfl) ?_
                          refine gl_nil ?_
                          refine ge_then ?_
                          refine g_ret ?_
                          refine ge_then_ret ?_
                          refine ret1 (.inl rfl) rfl rfl _ (⟨bool_v (by rw [hvr, hvs, hvn, hvv, hvd] at *; unfold Pg.effW; simp_all), rfl⟩) (To.sat (by repeat (first | exact .nil | exact .done .refl | (apply To.cons; · (repeat (first | exact .head | apply Sel.tail))) | exact .done (by repeat (first | exact .refl | apply Drop.skip)))))
                      ·
                        have hc20' := hc20
                        first | replace hc20' := of_decide_eq_true hc20' | replace hc20' := lt_f hc20' | replace hc20' := le_f hc20' | replace hc20' := dec_f hc20' | replace hc20' := nlt_t hc20' | replace hc20' := nle_t hc20' | replace hc20' := ndec_t hc20' | replace hc20' := ndec_f hc20' | replace hc20' := nn_t hc20' | replace hc20' := nn_f hc20' | skip
                        simp only [putO]
                        refine gl_gF rfl rfl hc20 rfl ?_
                        refine gl_gF rfl rfl hc20 rfl ?_
                        refine gl_gF rfl rfl hc20 rfl ?_
                        refine gl_gU rfl rfl rfl ?_
                        refine gl_gU rfl rfl rfl ?_
                        refine gl_gF rfl rfl hc20 rfl ?_
                        refine gl_gT rfl rfl hc19 ?_
                        refine gl_v rfl (o_pickT hc20 rfl rfl) ?_
                        refine gl_v rfl (o_pickT hc19 rfl rfl) ?_
                        refine gl_v rfl (o_assign rfl) ?_
                        refine gl_nil ?_
                        refine ge_then ?_
                        refine g_ret ?_
                        refine ge_then_ret ?_
                        refine ret1 (.inl rfl) rfl rfl _ (⟨bool_v (by rw [hvr, hvs, hvn, hvv, hvd] at *; unfold Pg.effW; simp_all), rfl⟩) (To.sat (by repeat (first | exact .nil | exact .done .refl | (apply To.cons; · (repeat (first | exact .head | apply Sel.tail))) | exact .done (by repeat (first | exact .refl | apply Drop.skip)))))
                    ·
                      have hc19' := hc19
                      first | replace hc19' := of_decide_eq_true hc19' | replace hc19' := lt_f hc19' | replace hc19' := le_f hc19' | replace hc19' := dec_f hc19' | replace hc19' := nlt_t hc19' | replace hc19' := nle_t hc19' | replace hc19' := ndec_t hc19' | replace hc19' := ndec_f hc19' | replace hc19' := nn_t hc19' | replace hc19' := nn_f hc19' | skip
                      simp only [putO]
                      refine gl_gF rfl rfl hc19 rfl ?_
                      refine gl_gF rfl rfl hc19 rfl ?_
                      refine gl_gF rfl rfl hc19 rfl ?_
                      refine gl_gU rfl rfl rfl ?_
                      refine gl_gU rfl rfl rfl ?_
                      refine gl_gU rfl rfl rfl ?_
                      refine gl_gU rfl rfl rfl ?_
                      refine gl_gU rfl rfl rfl ?_
                      refine gl_gU rfl rfl rfl ?_
                      refine gl_gU rfl rfl rfl ?_
                      refine gl_gF rfl rfl hc19 rfl ?_
                      refine gl_v rfl (o_pickF hc19 rfl rfl) ?_
                      refine gl_v rfl (o_assign rfl) ?_
                      refine gl_nil ?_
                      refine ge_then ?_
                      refine g_ret ?_
                      refine ge_then_ret ?_
                      refine ret1 (.inl rfl) rfl rfl _ (⟨bool_v (by rw [hvr, hvs, hvn, hvv, hvd] at *; unfold Pg.effW; simp_all), rfl⟩) (To.sat (by repeat (first | exact .nil | exact .done .refl | (apply To.cons; · (repeat (first | exact .head | apply Sel.tail))) | exact .done (by repeat (first | exact .refl | apply Drop.skip)))))
                  ·
                    first | replace hc18 := of_decide_eq_true hc18 | replace hc18 := lt_f hc18 | replace hc18 := le_f hc18 | replace hc18 := dec_f hc18 | replace hc18 := nlt_t hc18 | replace hc18 := nle_t hc18 | replace hc18 := ndec_t hc18 | replace hc18 := ndec_f hc18 | replace hc18 := nn_t hc18 | replace hc18 := nn_f hc18 | skip
                    refine g_skip ?_
                    refine ge_then ?_
                    refine g_seq ?_
                    refine g_region ?_
                    first | refine gl_v rfl (o_fldS rfl) ?_ | refine gl_v rfl (o_fld rfl) ?_
                    first | refine gl_v rfl (o_load rfl rfl) ?_ | refine gl_v rfl (o_loadS rfl rfl) ?_ | refine gl_v rfl (o_loadC rfl) ?_
                    refine gl_c rfl (o_call rfl (small_spec e.n) (by repeat (first | exact .nil | (apply Part.cons; · (repeat (first | exact .head | apply Sel.tail)))))) ?_
                    rintro _ R ⟨_, ⟨rfl, rfl⟩, rfl⟩
                    try simp only [List.cons_append, List.nil_append]
                    refine gl_v rfl (o_assign rfl) ?_
                    refine gl_nil ?_
                    refine ge_then ?_
                    refine g_ret ?_
                    refine ret1 (.inl rfl) rfl rfl _ (⟨bool_v (by rw [hvr, hvs, hvn, hvv, hvd] at *; unfold Pg.effW; simp_all), rfl⟩) (To.sat (by repeat (first | exact .nil | exact .done .refl | (apply To.cons; · (repeat (first | exact .head | apply Sel.tail))) | exact .done (by repeat (first | exact .refl | apply Drop.skip)))))
                ·
                  have hc17' := hc17
                  first | replace hc17' := of_decide_eq_true hc17' | replace hc17' := lt_f hc17' | replace hc17' := le_f hc17' | replace hc17' := dec_f hc17' | replace hc17' := nlt_t hc17' | replace hc17' := nle_t hc17' | replace hc17' := ndec_t hc17' | replace hc17' := ndec_f hc17' | replace hc17' := nn_t hc17' | replace hc17' := nn_f hc17' | skip
                  simp only [putO]
                  refine gl_gF rfl rfl hc17 rfl ?_
                  refine gl_gF rfl rfl hc17 rfl ?_
                  refine gl_v rfl (o_pickT hc17 rfl rfl) ?_
                  refine gl_nil ?_
                  refine ge_then ?_
                  refine g_cond_true rfl ?_
                  refine g_seq ?_
                  refine g_region ?_
                  first | refine gl_v rfl (o_fldS rfl) ?_ | refine gl_v rfl (o_fld rfl) ?_
                  first | refine gl_v rfl (o_load rfl rfl) ?_ | refine gl_v rfl (o_loadS rfl rfl) ?_ | refine gl_v rfl (o_loadC rfl) ?_
                  refine gl_v rfl (o_eql rfl rfl) ?_
                  refine gl_v rfl (o_move rfl) ?_
                  refine gl_g rfl rfl (fun hc22 => ?_) (fun hc22 => ?_) rfl
                  ·
                    have hc22' := hc22
                    first | replace hc22' := of_decide_eq_true hc22' | replace hc22' := lt_f hc22' | replace hc22' := le_f hc22' | replace hc22' := dec_f hc22' | replace hc22' := nlt_t hc22' | replace hc22' := nle_t hc22' | replace hc22' := ndec_t hc22' | replace hc22' := ndec_f hc22' | replace hc22' := nn_t hc22' | replace hc22' := nn_f hc22' | skip
                    first | refine gl_v rfl (o_fldS rfl) ?_ | refine gl_v rfl (o_fld rfl) ?_
                    refine gl_gT rfl rfl hc22 ?_
                    first | refine gl_v rfl (o_load rfl rfl) ?_ | refine gl_v rfl (o_loadS rfl rfl) ?_ | refine gl_v rfl (o_loadC rfl) ?_
                    refine gl_gT rfl rfl hc22 ?_
                    refine gl_v rfl (o_eql rfl rfl) ?_
                    refine gl_gT rfl rfl hc22 ?_
                    refine gl_v rfl (o_move rfl) ?_
                    refine gl_g rfl rfl (fun hc23 => ?_) (fun hc23 => ?_) rfl
                    ·
                      have hc23' := hc23
                      first | replace hc23' := of_decide_eq_true hc23' | replace hc23' := lt_f hc23' | replace hc23' := le_f hc23' | replace hc23' := dec_f hc23' | replace hc23' := nlt_t hc23' | replace hc23' := nle_t hc23' | replace hc23' := ndec_t hc23' | replace hc23' := ndec_f hc23' | replace hc23' := nn_t hc23' | replace hc23' := nn_f hc23' | skip
                      first | refine gl_v rfl (o_fldS rfl) ?_ | refine gl_v rfl (o_fld rfl) ?_
                      refine gl_gT rfl rfl hc23 ?_
                      first | refine gl_v rfl (o_load rfl rfl) ?_ | refine gl_v rfl (o_loadS rfl rfl) ?_ | refine gl_v rfl (o_loadC rfl) ?_
                      refine gl_gT rfl rfl hc23 ?_
                      refine gl_v rfl (o_eql rfl rfl) ?_
                      refine gl_gT rfl rfl hc23 ?_
                      refine gl_v rfl (o_move rfl) ?_
                      refine gl_g rfl rfl (fun hc24 => ?_) (fun hc24 => ?_) rfl
                      ·
                        have hc24' := hc24
                        first | replace hc24' := of_decide_eq_true hc24' | replace hc24' := lt_f hc24' | replace hc24' := le_f hc24' | replace hc24' := dec_f hc24' | replace hc24' := nlt_t hc24' | replace hc24' := nle_t hc24' | replace hc24' := ndec_t hc24' | replace hc24' := ndec_f hc24' | replace hc24' := nn_t hc24' | replace hc24' := nn_f hc24' | skip
                        refine gl_v rfl (o_move rfl) ?_
                        refine gl_gT rfl rfl hc24 ?_
                        refine gl_c rfl (o_call rfl (Has_spec (verb e.do').2 118 (by omega)) (by repeat (first | exact .nil | (apply Part.cons; · (repeat (first | exact .head | apply Sel.tail)))))) ?_
                        rintro _ R ⟨_, ⟨rfl, rfl⟩, rfl⟩
                        try simp only [List.cons_append, List.nil_append]
                        refine gl_gT rfl rfl hc23 ?_
                        refine gl_v rfl (o_pickT hc24 rfl rfl) ?_
                        refine gl_gT rfl rfl hc22 ?_
                        refine gl_v rfl (o_pickF hc23 rfl rfl) ?_
                        refine gl_v rfl (o_pickT hc22 rfl rfl) ?_
                        refine gl_v rfl (o_assign rfl) ?_
                        refine gl_nil ?_
                        refine ge_then ?_
                        refine g_ret ?_
                        refine ge_then_ret ?_
                        refine ret1 (.inl rfl) rfl rfl _ (⟨bool_v (by rw [hvr, hvs, hvn, hvv, hvd] at *; unfold Pg.effW; simp_all), rfl⟩) (To.sat (by repeat (first | exact .nil | exact .done .refl | (apply To.cons; · (repeat (first | exact .head | apply Sel.tail))) | exact .done (by repeat (first | exact .refl | apply Drop.skip)))))
                      ·
                        have hc24' := hc24
                        first | replace hc24' := of_decide_eq_true hc24' | replace hc24' := lt_f hc24' | replace hc24' := le_f hc24' | replace hc24' := dec_f hc24' | replace hc24' := nlt_t hc24' | replace hc24' := nle_t hc24' | replace hc24' := ndec_t hc24' | replace hc24' := ndec_f hc24' | replace hc24' := nn_t hc24' | replace hc24' := nn_f hc24' | skip
                        simp only [putO]
                        refine gl_gF rfl rfl hc24 rfl ?_
                        refine gl_gT rfl rfl hc23 ?_
                        refine gl_v rfl (o_pickF hc24 rfl rfl) ?_
                        refine gl_gT rfl rfl hc22 ?_
                        refine gl_v rfl (o_pickF hc23 rfl rfl) ?_
                        refine gl_v rfl (o_pickT hc22 rfl rfl) ?_
                        refine gl_v rfl (o_assign rfl) ?_
                        refine gl_nil ?_
                        refine ge_then ?_
                        refine g_ret ?_
                        refine ge_then_ret ?_
                        refine ret1 (.inl rfl) rfl rfl _ (⟨bool_v (by rw [hvr, hvs, hvn, hvv, hvd] at *; unfold Pg.effW; simp_all), rfl⟩) (To.sat (by repeat (first | exact .nil | exact .done .refl | (apply To.cons; · (repeat (first | exact .head | apply Sel.tail))) | exact .done (by repeat (first | exact .refl | apply Drop.skip)))))
                    ·
                      have hc23' := hc23
                      first | replace hc23' := of_decide_eq_true hc23' | replace hc23' := lt_f hc23' | replace hc23' := le_f hc23' | replace hc23' := dec_f hc23' | replace hc23' := nlt_t hc23' | replace hc23' := nle_t hc23' | replace hc23' := ndec_t hc23' | replace hc23' := ndec_f hc23' | replace hc23' := nn_t hc23' | replace hc23' := nn_f hc23' | skip
                      simp only [putO]
                      refine gl_gF rfl rfl hc23 rfl ?_
                      refine gl_gF rfl rfl hc23 rfl ?_
                      refine gl_gF rfl rfl hc23 rfl ?_
                      refine gl_gU rfl rfl rfl ?_
                      refine gl_gU rfl rfl rfl ?_
                      refine gl_gF rfl rfl hc23 rfl ?_
                      refine gl_gT rfl rfl hc22 ?_
                      refine gl_v rfl (o_pickT hc23 rfl rfl) ?_
                      refine gl_v rfl (o_pickT hc22 rfl rfl) ?_
                      refine gl_v rfl (o_assign rfl) ?_
                      refine gl_nil ?_
                      refine ge_then ?_
                      refine g_ret ?_
                      refine ge_then_ret ?_
                      refine ret1 (.inl rfl) rfl rfl _ (⟨bool_v (by rw [hvr, hvs, hvn, hvv, hvd] at *; unfold Pg.effW; simp_all), rfl⟩) (To.sat (by repeat (first | exact .nil | exact .done .refl | (apply To.cons; · (repeat (first | exact .head | apply Sel.tail))) | exact .done (by repeat (first | exact .refl | apply Drop.skip)))))
                  ·
                    have hc22' := hc22
                    first | replace hc22' := of_decide_eq_true hc22' | replace hc22' := lt_f hc22' | replace hc22' := le_f hc22' | replace hc22' := dec_f hc22' | replace hc22' := nlt_t hc22' | replace hc22' := nle_t hc22' | replace hc22' := ndec_t hc22' | replace hc22' := ndec_f hc22' | replace hc22' := nn_t hc22' | replace hc22' := nn_f hc22' | skip
                    simp only [putO]
                    refine gl_gF rfl rfl hc22 rfl ?_
                    refine gl_gF rfl rfl hc22 rfl ?_
                    refine gl_gF rfl rfl hc22 rfl ?_
                    refine gl_gU rfl rfl rfl ?_
                    refine gl_gU rfl rfl rfl ?_
                    refine gl_gU rfl rfl rfl ?_
                    refine gl_gU rfl rfl rfl ?_
                    refine gl_gU rfl rfl rfl ?_
                    refine gl_gU rfl rfl rfl ?_
                    refine gl_gU rfl rfl rfl ?_
                    refine gl_gF rfl rfl hc22 rfl ?_
                    refine gl_v rfl (o_pickF hc22 rfl rfl) ?_
                    refine gl_v rfl (o_assign rfl) ?_
                    refine gl_nil ?_
                    refine ge_then ?_
                    refine g_ret ?_
                    refine ge_then_ret ?_
                    refine ret1 (.inl rfl) rfl rfl _ (⟨bool_v (by rw [hvr, hvs, hvn, hvv, hvd] at *; unfold Pg.effW; simp_all), rfl⟩) (To.sat (by repeat (first | exact .nil | exact .done .refl | (apply To.cons; · (repeat (first | exact .head | apply Sel.tail))) | exact .done (by repeat (first | exact .refl | apply Drop.skip)))))
            ·
              have hc6' := hc6
              first | replace hc6' := of_decide_eq_true hc6' | replace hc6' := lt_f hc6' | replace hc6' := le_f hc6' | replace hc6' := dec_f hc6' | replace hc6' := nlt_t hc6' | replace hc6' := nle_t hc6' | replace hc6' := ndec_t hc6' | replace hc6' := ndec_f hc6' | replace hc6' := nn_t hc6' | replace hc6' := nn_f hc6' | skip
              simp only [putO]
              refine gl_gF rfl rfl hc6 rfl ?_
              refine gl_gF rfl rfl hc6 rfl ?_
              refine gl_gF rfl rfl hc6 rfl ?_
              refine gl_gU rfl rfl rfl ?_
              refine gl_gU rfl rfl rfl ?_
              refine gl_gU rfl rfl rfl ?_
              refine gl_gF rfl rfl hc6 rfl ?_
              refine gl_v rfl (o_pickT hc6 rfl rfl) ?_
              refine gl_nil ?_
              refine ge_then ?_
              refine g_cond_true rfl ?_
              refine g_seq ?_
              refine g_region ?_
              refine gl_v rfl (o_assign rfl) ?_
              refine gl_nil ?_
              refine ge_then ?_
              refine g_ret ?_
              refine ge_then_ret ?_
              refine ret1 (.inl rfl) rfl rfl _ (⟨bool_v (by rw [hvr, hvs, hvn, hvv, hvd] at *; unfold Pg.effW; simp_all), rfl⟩) (To.sat (by repeat (first | exact .nil | exact .done .refl | (apply To.cons; · (repeat (first | exact .head | apply Sel.tail))) | exact .done (by repeat (first | exact .refl | apply Drop.skip)))))
          ·
            have hc5' := hc5
            first | replace hc5' := of_decide_eq_true hc5' | replace hc5' := lt_f hc5' | replace hc5' := le_f hc5' | replace hc5' := dec_f hc5' | replace hc5' := nlt_t hc5' | replace hc5' := nle_t hc5' | replace hc5' := ndec_t hc5' | replace hc5' := ndec_f hc5' | replace hc5' := nn_t hc5' | replace hc5' := nn_f hc5' | skip
            simp only [putO]
            refine gl_gF rfl rfl hc5 rfl ?_
            refine gl_gF rfl rfl hc5 rfl ?_
            refine gl_gF rfl rfl hc5 rfl ?_
            refine gl_v rfl (o_pickF hc5 rfl rfl) ?_
            refine gl_v rfl (o_move rfl) ?_
            refine gl_gT rfl rfl rfl ?_
            refine gl_v rfl (o_move rfl) ?_
            refine gl_gT rfl rfl rfl ?_
            refine gl_c rfl (o_call rfl (Has_spec (verb e.do').2 100 (by omega)) (by repeat (first | exact .nil | (apply Part.cons; · (repeat (first | exact .head | apply Sel.tail)))))) ?_
            rintro _ R ⟨_, ⟨rfl, rfl⟩, rfl⟩
            try simp only [List.cons_append, List.nil_append]
            refine gl_gT rfl rfl rfl ?_
            refine gl_v rfl (o_not rfl) ?_
            refine gl_gT rfl rfl rfl ?_
            refine gl_v rfl (o_move rfl) ?_
            refine gl_g rfl rfl (fun hc25 => ?_) (fun hc25 => ?_) rfl
            ·
              have hc25' := hc25
              first | replace hc25' := of_decide_eq_true hc25' | replace hc25' := lt_f hc25' | replace hc25' := le_f hc25' | replace hc25' := dec_f hc25' | replace hc25' := nlt_t hc25' | replace hc25' := nle_t hc25' | replace hc25' := ndec_t hc25' | replace hc25' := ndec_f hc25' | replace hc25' := nn_t hc25' | replace hc25' := nn_f hc25' | skip
              first | refine gl_v rfl (o_fldS rfl) ?_ | refine gl_v rfl (o_fld rfl) ?_
              refine gl_gT rfl rfl hc25 ?_
              first | refine gl_v rfl (o_load rfl rfl) ?_ | refine gl_v rfl (o_loadS rfl rfl) ?_ | refine gl_v rfl (o_loadC rfl) ?_
              refine gl_gT rfl rfl hc25 ?_
              refine gl_v rfl (o_neq rfl rfl) ?_
              refine gl_gT rfl rfl rfl ?_
              refine gl_v rfl (o_pickT hc25 rfl rfl) ?_
              refine gl_v rfl (o_pickF rfl rfl rfl) ?_
              refine gl_nil ?_
              refine ge_then ?_
              refine g_cond rfl (fun hc26 => ?_) (fun hc26 => ?_)
              ·
                first | replace hc26 := of_decide_eq_true hc26 | replace hc26 := lt_f hc26 | replace hc26 := le_f hc26 | replace hc26 := dec_f hc26 | replace hc26 := nlt_t hc26 | replace hc26 := nle_t hc26 | replace hc26 := ndec_t hc26 | replace hc26 := ndec_f hc26 | replace hc26 := nn_t hc26 | replace hc26 := nn_f hc26 | skip
                refine g_seq ?_
                refine g_region ?_
                refine gl_v rfl (o_assign rfl) ?_
                refine gl_nil ?_
                refine ge_then ?_
                refine g_ret ?_
                refine ge_then_ret ?_
                refine ret1 (.inl rfl) rfl rfl _ (⟨bool_v (by rw [hvr, hvs, hvn, hvv, hvd] at *; unfold Pg.effW; simp_all), rfl⟩) (To.sat (by repeat (first | exact .nil | exact .done .refl | (apply To.cons; · (repeat (first | exact .head | apply Sel.tail))) | exact .done (by repeat (first | exact .refl | apply Drop.skip)))))
              ·
                first | replace hc26 := of_decide_eq_true hc26 | replace hc26 := lt_f hc26 | replace hc26 := le_f hc26 | replace hc26 := dec_f hc26 | replace hc26 := nlt_t hc26 | replace hc26 := nle_t hc26 | replace hc26 := ndec_t hc26 | replace hc26 := ndec_f hc26 | replace hc26 := nn_t hc26 | replace hc26 := nn_f hc26 | skip
                refine g_skip ?_
                refine ge_then ?_
                refine g_seq ?_
                refine g_seq ?_
                refine g_region ?_
                refine gl_v rfl (o_move rfl) ?_
                refine gl_c rfl (o_call rfl (Has_spec (verb e.do').2 118 (by omega)) (by repeat (first | exact .nil | (apply Part.cons; · (repeat (first | exact .head | apply Sel.tail)))))) ?_
                rintro _ R ⟨_, ⟨rfl, rfl⟩, rfl⟩
                try simp only [List.cons_append, List.nil_append]
                refine gl_v rfl (o_not rfl) ?_
                refine gl_v rfl (o_move rfl) ?_
                refine gl_g rfl rfl (fun hc27 => ?_) (fun hc27 => ?_) rfl
                ·
                  have hc27' := hc27
                  first | replace hc27' := of_decide_eq_true hc27' | replace hc27' := lt_f hc27' | replace hc27' := le_f hc27' | replace hc27' := dec_f hc27' | replace hc27' := nlt_t hc27' | replace hc27' := nle_t hc27' | replace hc27' := ndec_t hc27' | replace hc27' := ndec_f hc27' | replace hc27' := nn_t hc27' | replace hc27' := nn_f hc27' | skip
                  first | refine gl_v rfl (o_fldS rfl) ?_ | refine gl_v rfl (o_fld rfl) ?_
                  refine gl_gT rfl rfl hc27 ?_
                  first | refine gl_v rfl (o_load rfl rfl) ?_ | refine gl_v rfl (o_loadS rfl rfl) ?_ | refine gl_v rfl (o_loadC rfl) ?_
                  refine gl_gT rfl rfl hc27 ?_
                  refine gl_v rfl (o_neq rfl rfl) ?_
                  refine gl_v rfl (o_pickF hc27 rfl rfl) ?_
                  refine gl_nil ?_
                  refine ge_then ?_
                  refine g_cond rfl (fun hc28 => ?_) (fun hc28 => ?_)
                  ·
                    first | replace hc28 := of_decide_eq_true hc28 | replace hc28 := lt_f hc28 | replace hc28 := le_f hc28 | replace hc28 := dec_f hc28 | replace hc28 := nlt_t hc28 | replace hc28 := nle_t hc28 | replace hc28 := ndec_t hc28 | replace hc28 := ndec_f hc28 | replace hc28 := nn_t hc28 | replace hc28 := nn_f hc28 | skip
                    refine g_seq ?_
                    refine g_region ?_
                    first | refine gl_v rfl (o_fldS rfl) ?_ | refine gl_v rfl (o_fld rfl) ?_
                    first | refine gl_v rfl (o_load rfl rfl) ?_ | refine gl_v rfl (o_loadS rfl rfl) ?_ | refine gl_v rfl (o_loadC rfl) ?_
                    refine gl_v rfl (o_eql rfl rfl) ?_
                    refine gl_v rfl (o_move rfl) ?_
                    refine gl_g rfl rfl (fun hc29 => ?_) (fun hc29 => ?_) rfl
                    ·
                      have hc29' := hc29
                      first | replace hc29' := of_decide_eq_true hc29' | replace hc29' := lt_f hc29' | replace hc29' := le_f hc29' | replace hc29' := dec_f hc29' | replace hc29' := nlt_t hc29' | replace hc29' := nle_t hc29' | replace hc29' := ndec_t hc29' | replace hc29' := ndec_f hc29' | replace hc29' := nn_t hc29' | replace hc29' := nn_f hc29' | skip
                      first | refine gl_v rfl (o_fldS rfl) ?_ | refine gl_v rfl (o_fld rfl) ?_
                      refine gl_gT rfl rfl hc29 ?_
                      first | refine gl_v rfl (o_load rfl rfl) ?_ | refine gl_v rfl (o_loadS rfl rfl) ?_ | refine gl_v rfl (o_loadC rfl) ?_
                      refine gl_gT rfl rfl hc29 ?_
                      refine gl_v rfl (o_eql rfl rfl) ?_
                      refine gl_gT rfl rfl hc29 ?_
                      refine gl_v rfl (o_move rfl) ?_
                      refine gl_g rfl rfl (fun hc30 => ?_) (fun hc30 => ?_) rfl
                      ·
                        have hc30' := hc30
                        first | replace hc30' := of_decide_eq_true hc30' | replace hc30' := lt_f hc30' | replace hc30' := le_f hc30' | replace hc30' := dec_f hc30' | replace hc30' := nlt_t hc30' | replace hc30' := nle_t hc30' | replace hc30' := ndec_t hc30' | replace hc30' := ndec_f hc30' | replace hc30' := nn_t hc30' | replace hc30' := nn_f hc30' | skip
                        first | refine gl_v rfl (o_fldS rfl) ?_ | refine gl_v rfl (o_fld rfl) ?_
                        refine gl_gT rfl rfl hc30 ?_
                        first | refine gl_v rfl (o_load rfl rfl) ?_ | refine gl_v rfl (o_loadS rfl rfl) ?_ | refine gl_v rfl (o_loadC rfl) ?_
                        refine gl_gT rfl rfl hc30 ?_
                        refine gl_v rfl (o_eql rfl rfl) ?_
                        refine gl_gT rfl rfl hc30 ?_
                        refine gl_v rfl (o_move rfl) ?_
                        refine gl_g rfl rfl (fun hc31 => ?_) (fun hc31 => ?_) rfl
                        ·
                          have hc31' := hc31
                          first | replace hc31' := of_decide_eq_true hc31' | replace hc31' := lt_f hc31' | replace hc31' := le_f hc31' | replace hc31' := dec_f hc31' | replace hc31' := nlt_t hc31' | replace hc31' := nle_t hc31' | replace hc31' := ndec_t hc31' | replace hc31' := ndec_f hc31' | replace hc31' := nn_t hc31' | replace hc31' := nn_f hc31' | skip
                          refine gl_v rfl (o_move rfl) ?_
                          refine gl_gT rfl rfl hc31 ?_
                          refine gl_c rfl (o_call rfl (Has_spec (verb e.do').2 118 (by omega)) (by repeat (first | exact .nil | (apply Part.cons; · (repeat (first | exact .head | apply Sel.tail)))))) ?_
                          rintro _ R ⟨_, ⟨rfl, rfl⟩, rfl⟩
                          try simp only [List.cons_append, List.nil_append]
                          refine gl_gT rfl rfl hc30 ?_
                          refine gl_v rfl (o_pickT hc31 rfl rfl) ?_
                          refine gl_gT rfl rfl hc29 ?_
                          refine gl_v rfl (o_pickF hc30 rfl rfl) ?_
                          refine gl_v rfl (o_pickT hc29 rfl rfl) ?_
                          refine gl_v rfl (o_assign rfl) ?_
                          refine gl_nil ?_
                          refine ge_then ?_
                          refine g_ret ?_
                          refine ge_then_ret ?_
                          refine ret1 (.inl rfl) rfl rfl _ (⟨bool_v (by rw [hvr, hvs, hvn, hvv, hvd] at *; unfold Pg.effW; simp_all), rfl⟩) (To.sat (by repeat (first | exact .nil | exact .done .refl | (apply To.cons; · (repeat (first | exact .head | apply Sel.tail))) | exact .done (by repeat (first | exact .refl | apply Drop.skip)))))
                        ·
                          have hc31' := hc31
                          first | replace hc31' := of_decide_eq_true hc31' | replace hc31' := lt_f hc31' | replace hc31' := le_f hc31' | replace hc31' := dec_f hc31' | replace hc31' := nlt_t hc31' | replace hc31' := nle_t hc31' | replace hc31' := ndec_t hc31' | replace hc31' := ndec_f hc31' | replace hc31' := nn_t hc31' | replace hc31' := nn_f hc31' | skip
                          simp only [putO]
                          refine gl_gF rfl rfl hc31 rfl ?_
                          refine gl_gT rfl rfl hc30 ?_
                          refine gl_v rfl (o_pickF hc31 rfl rfl) ?_
                          refine gl_gT rfl rfl hc29 ?_
                          refine gl_v rfl (o_pickF hc30 rfl rfl) ?_
                          refine gl_v rfl (o_pickT hc29 rfl rfl) ?_
                          refine gl_v rfl (o_assign rfl) ?_
                          refine gl_nil ?_
                          refine ge_then ?_
                          refine g_ret ?_
                          refine ge_then_ret ?_
                          refine ret1 (.inl rfl) rfl rfl _ (⟨bool_v (by rw [hvr, hvs, hvn, hvv, hvd] at *; unfold Pg.effW; simp_all), rfl⟩) (To.sat (by repeat (first | exact .nil | exact .done .refl | (apply To.cons; · (repeat (first | exact .head | apply Sel.tail))) | exact .done (by repeat (first | exact .refl | apply Drop.skip)))))
                      ·
                        have hc30' := hc30
                        first | replace hc30' := of_decide_eq_true hc30' | replace hc30' := lt_f hc30' | replace hc30' := le_f hc30' | replace hc30' := dec_f hc30' | replace hc30' := nlt_t hc30' | replace hc30' := nle_t hc30' | replace hc30' := ndec_t hc30' | replace hc30' := ndec_f hc30' | replace hc30' := nn_t hc30' | replace hc30' := nn_f hc30' | skip
                        simp only [putO]
                        refine gl_gF rfl rfl hc30 rfl ?_
                        refine gl_gF rfl rfl hc30 rfl ?_
                        refine gl_gF rfl rfl hc30 rfl ?_
                        refine gl_gU rfl rfl rfl ?_
                        refine gl_gU rfl rfl rfl ?_
                        refine gl_gF rfl rfl hc30 rfl ?_
                        refine gl_gT rfl rfl hc29 ?_
                        refine gl_v rfl (o_pickT hc30 rfl rfl) ?_
                        refine gl_v rfl (o_pickT hc29 rfl rfl) ?_
                        refine gl_v rfl (o_assign rfl) ?_
                        refine gl_nil ?_
                        refine ge_then ?_
                        refine g_ret ?_
                        refine ge_then_ret ?_
                        refine ret1 (.inl rfl) rfl rfl _ (⟨bool_v (by rw [hvr, hvs, hvn, hvv, hvd] at *; unfold Pg.effW; simp_all), rfl⟩) (To.sat (by repeat (first | exact .nil | exact .done .refl | (apply To.cons; · (repeat (first | exact .head | apply Sel.tail))) | exact .done (by repeat (first | exact .refl | apply Drop.skip)))))
                    ·
                      have hc29' := hc29
                      first | replace hc29' := of_decide_eq_true hc29' | replace hc29' := lt_f hc29' | replace hc29' := le_f hc29' | replace hc29' := dec_f hc29' | replace hc29' := nlt_t hc29' | replace hc29' := nle_t hc29' | replace hc29' := ndec_t hc29' | replace hc29' := ndec_f hc29' | replace hc29' := nn_t hc29' | replace hc29' := nn_f hc29' | skip
                      simp only [putO]
                      refine gl_gF rfl rfl hc29 rfl ?_
                      refine gl_gF rfl rfl hc29 rfl ?_
                      refine gl_gF rfl rfl hc29 rfl ?_
                      refine gl_gU rfl rfl rfl ?_
                      refine gl_gU rfl rfl rfl ?_
                      refine gl_gU rfl rfl rfl ?_
                      refine gl_gU rfl rfl rfl ?_
                      refine gl_gU rfl rfl rfl ?_
                      refine gl_gU rfl rfl rfl ?_
                      refine gl_gU rfl rfl rfl ?_
                      refine gl_gF rfl rfl hc29 rfl ?_
                      refine gl_v rfl (o_pickF hc29 rfl rfl) ?_
                      refine gl_v rfl (o_assign rfl) ?_
                      refine gl_nil ?_
                      refine ge_then ?_
                      refine g_ret ?_
                      refine ge_then_ret ?_
                      refine ret1 (.inl rfl) rfl rfl _ (⟨bool_v (by rw [hvr, hvs, hvn, hvv, hvd] at *; unfold Pg.effW; simp_all), rfl⟩) (To.sat (by repeat (first | exact .nil | exact .done .refl | (apply To.cons; · (repeat (first | exact .head | apply Sel.tail))) | exact .done (by repeat (first | exact .refl | apply Drop.skip)))))
                  ·
                    first | replace hc28 := of_decide_eq_true hc28 | replace hc28 := lt_f hc28 | replace hc28 := le_f hc28 | replace hc28 := dec_f hc28 | replace hc28 := nlt_t hc28 | replace hc28 := nle_t hc28 | replace hc28 := ndec_t hc28 | replace hc28 := ndec_f hc28 | replace hc28 := nn_t hc28 | replace hc28 := nn_f hc28 | skip
                    refine g_skip ?_
                    refine ge_then ?_
                    refine g_seq ?_
                    refine g_region ?_
                    first | refine gl_v rfl (o_fldS rfl) ?_ | refine gl_v rfl (o_fld rfl) ?_
                    first | refine gl_v rfl (o_load rfl rfl) ?_ | refine gl_v rfl (o_loadS rfl rfl) ?_ | refine gl_v rfl (o_loadC rfl) ?_
                    refine gl_c rfl (o_call rfl (small_spec e.n) (by repeat (first | exact .nil | (apply Part.cons; · (repeat (first | exact .head | apply Sel.tail)))))) ?_
                    rintro _ R ⟨_, ⟨rfl, rfl⟩, rfl⟩
                    try simp only [List.cons_append, List.nil_append]
                    refine gl_v rfl (o_assign rfl) ?_
                    refine gl_nil ?_
                    refine ge_then ?_
                    refine g_ret ?_
                    refine ret1 (.inl rfl) rfl rfl _ (⟨bool_v (by rw [hvr, hvs, hvn, hvv, hvd] at *; unfold Pg.effW; simp_all), rfl⟩) (To.sat (by repeat (first | exact .nil | exact .done .refl | (apply To.cons; · (repeat (first | exact .head | apply Sel.tail))) | exact .done (by repeat (first | exact .refl | apply Drop.skip)))))
                ·
                  have hc27' := hc27
                  first | replace hc27' := of_decide_eq_true hc27' | replace hc27' := lt_f hc27' | replace hc27' := le_f hc27' | replace hc27' := dec_f hc27' | replace hc27' := nlt_t hc27' | replace hc27' := nle_t hc27' | replace hc27' := ndec_t hc27' | replace hc27' := ndec_f hc27' | replace hc27' := nn_t hc27' | replace hc27' := nn_f hc27' | skip
                  simp only [putO]
                  refine gl_gF rfl rfl hc27 rfl ?_
                  refine gl_gF rfl rfl hc27 rfl ?_
                  refine gl_v rfl (o_pickT hc27 rfl rfl) ?_
                  refine gl_nil ?_
                  refine ge_then ?_
                  refine g_cond_true rfl ?_
                  refine g_seq ?_
                  refine g_region ?_
                  first | refine gl_v rfl (o_fldS rfl) ?_ | refine gl_v rfl (o_fld rfl) ?_
                  first | refine gl_v rfl (o_load rfl rfl) ?_ | refine gl_v rfl (o_loadS rfl rfl) ?_ | refine gl_v rfl (o_loadC rfl) ?_
                  refine gl_v rfl (o_eql rfl rfl) ?_
                  refine gl_v rfl (o_move rfl) ?_
                  refine gl_g rfl rfl (fun hc32 => ?_) (fun hc32 => ?_) rfl
                  ·
                    have hc32' := hc32
                    first | replace hc32' := of_decide_eq_true hc32' | replace hc32' := lt_f hc32' | replace hc32' := le_f hc32' | replace hc32' := dec_f hc32' | replace hc32' := nlt_t hc32' | replace hc32' := nle_t hc32' | replace hc32' := ndec_t hc32' | replace hc32' := ndec_f hc32' | replace hc32' := nn_t hc32' | replace hc32' := nn_f hc32' | skip
                    first | refine gl_v rfl (o_fldS rfl) ?_ | refine gl_v rfl (o_fld rfl) ?_
                    refine gl_gT rfl rfl hc32 ?_
                    first | refine gl_v rfl (o_load rfl rfl) ?_ | refine gl_v rfl (o_loadS rfl rfl) ?_ | refine gl_v rfl (o_loadC rfl) ?_
                    refine gl_gT rfl rfl hc32 ?_
                    refine gl_v rfl (o_eql rfl rfl) ?_
                    refine gl_gT rfl rfl hc32 ?_
                    refine gl_v rfl (o_move rfl) ?_
                    refine gl_g rfl rfl (fun hc33 => ?_) (fun hc33 => ?_) rfl
                    ·
                      have hc33' := hc33
                      first | replace hc33' := of_decide_eq_true hc33' | replace hc33' := lt_f hc33' | replace hc33' := le_f hc33' | replace hc33' := dec_f hc33' | replace hc33' := nlt_t hc33' | replace hc33' := nle_t hc33' | replace hc33' := ndec_t hc33' | replace hc33' := ndec_f hc33' | replace hc33' := nn_t hc33' | replace hc33' := nn_f hc33' | skip
                      first | refine gl_v rfl (o_fldS rfl) ?_ | refine gl_v rfl (o_fld rfl) ?_
                      refine gl_gT rfl rfl hc33 ?_
                      first | refine gl_v rfl (o_load rfl rfl) ?_ | refine gl_v rfl (o_loadS rfl rfl) ?_ | refine gl_v rfl (o_loadC rfl) ?_
                      refine gl_gT rfl rfl hc33 ?_
                      refine gl_v rfl (o_eql rfl rfl) ?_
                      refine gl_gT rfl rfl hc33 ?_
                      refine gl_v rfl (o_move rfl) ?_
                      refine gl_g rfl rfl (fun hc34 => ?_) (fun hc34 => ?_) rfl
                      ·
                        have hc34' := hc34
                        first | replace hc34' := of_decide_eq_true hc34' | replace hc34' := lt_f hc34' | replace hc34' := le_f hc34' | replace hc34' := dec_f hc34' | replace hc34' := nlt_t hc34' | replace hc34' := nle_t hc34' | replace hc34' := ndec_t hc34' | replace hc34' := ndec_f hc34' | replace hc34' := nn_t hc34' | replace hc34' := nn_f hc34' | skip
                        refine gl_v rfl (o_move rfl) ?_
                        refine gl_gT rfl rfl hc34 ?_
                        refine gl_c rfl (o_call rfl (Has_spec (verb e.do').2 118 (by omega)) (by repeat (first | exact .nil | (apply Part.cons; · (repeat (first | exact .head | apply Sel.tail)))))) ?_
                        rintro _ R ⟨_, ⟨rfl, rfl⟩, rfl⟩
                        try simp only [List.cons_append, List.nil_append]
                        refine gl_gT rfl rfl hc33 ?_
                        refine gl_v rfl (o_pickT hc34 rfl rfl) ?_
                        refine gl_gT rfl rfl hc32 ?_
                        refine gl_v rfl (o_pickF hc33 rfl rfl) ?_
                        refine gl_v rfl (o_pickT hc32 rfl rfl) ?_
                        refine gl_v rfl (o_assign rfl) ?_
                        refine gl_nil ?_
                        refine ge_then ?_
                        refine g_ret ?_
                        refine ge_then_ret ?_
                        refine ret1 (.inl rfl) rfl rfl _ (⟨bool_v (by rw [hvr, hvs, hvn, hvv, hvd] at *; unfold Pg.effW; simp_all), rfl⟩) (To.sat (by repeat (first | exact .nil | exact .done .refl | (apply To.cons; · (repeat (first | exact .head | apply Sel.tail))) | exact .done (by repeat (first | exact .refl | apply Drop.skip)))))
                      ·
                        have hc34' := hc34
                        first | replace hc34' := of_decide_eq_true hc34' | replace hc34' := lt_f hc34' | replace hc34' := le_f hc34' | replace hc34' := dec_f hc34' | replace hc34' := nlt_t hc34' | replace hc34' := nle_t hc34' | replace hc34' := ndec_t hc34' | replace hc34' := ndec_f hc34' | replace hc34' := nn_t hc34' | replace hc34' := nn_f hc34' | skip
                        simp only [putO]
                        refine gl_gF rfl rfl hc34 rfl ?_
                        refine gl_gT rfl rfl hc33 ?_
                        refine gl_v rfl (o_pickF hc34 rfl rfl) ?_
                        refine gl_gT rfl rfl hc32 ?_
                        refine gl_v rfl (o_pickF hc33 rfl rfl) ?_
                        refine gl_v rfl (o_pickT hc32 rfl rfl) ?_
                        refine gl_v rfl (o_assign rfl) ?_
                        refine gl_nil ?_
                        refine ge_then ?_
                        refine g_ret ?_
                        refine ge_then_ret ?_
                        refine ret1 (.inl rfl) rfl rfl _ (⟨bool_v (by rw [hvr, hvs, hvn, hvv, hvd] at *; unfold Pg.effW; simp_all), rfl⟩) (To.sat (by repeat (first | exact .nil | exact .done .refl | (apply To.cons; · (repeat (first | exact .head | apply Sel.tail))) | exact .done (by repeat (first | exact .refl | apply Drop.skip)))))
                    ·
                      have hc33' := hc33
                      first | replace hc33' := of_decide_eq_true hc33' | replace hc33' := lt_f hc33' | replace hc33' := le_f hc33' | replace hc33' := dec_f hc33' | replace hc33' := nlt_t hc33' | replace hc33' := nle_t hc33' | replace hc33' := ndec_t hc33' | replace hc33' := ndec_f hc33' | replace hc33' := nn_t hc33' | replace hc33' := nn_f hc33' | skip
                      simp only [putO]
                      refine gl_gF rfl rfl hc33 rfl ?_
                      refine gl_gF rfl rfl hc33 rfl ?_
                      refine gl_gF rfl rfl hc33 rfl ?_
                      refine gl_gU rfl rfl rfl ?_
                      refine gl_gU rfl rfl rfl ?_
                      refine gl_gF rfl rfl hc33 rfl ?_
                      refine gl_gT rfl rfl hc32 ?_
                      refine gl_v rfl (o_pickT hc33 rfl rfl) ?_
                      refine gl_v rfl (o_pickT hc32 rfl rfl) ?_
                      refine gl_v rfl (o_assign rfl) ?_
                      refine gl_nil ?_
                      refine ge_then ?_
                      refine g_ret ?_
                      refine ge_then_ret ?_
                      refine ret1 (.inl rfl) rfl rfl _ (⟨bool_v (by rw [hvr, hvs, hvn, hvv, hvd] at *; unfold Pg.effW; simp_all), rfl⟩) (To.sat (by repeat (first | exact .nil | exact .done .refl | (apply To.cons; · (repeat (first | exact .head | apply Sel.tail))) | exact .done (by repeat (first | exact .refl | apply Drop.skip)))))
                  ·
                    have hc32' := hc32
                    first | replace hc32' := of_decide_eq_true hc32' | replace hc32' := lt_f hc32' | replace hc32' := le_f hc32' | replace hc32' := dec_f hc32' | replace hc32' := nlt_t hc32' | replace hc32' := nle_t hc32' | replace hc32' := ndec_t hc32' | replace hc32' := ndec_f hc32' | replace hc32' := nn_t hc32' | replace hc32' := nn_f hc32' | skip
                    simp only [putO]
                    refine gl_gF rfl rfl hc32 rfl ?_
                    refine gl_gF rfl rfl hc32 rfl ?_
                    refine gl_gF rfl rfl hc32 rfl ?_
                    refine gl_gU rfl rfl rfl ?_
                    refine gl_gU rfl rfl rfl ?_
                    refine gl_gU rfl rfl rfl ?_
                    refine gl_gU rfl rfl rfl ?_
                    refine gl_gU rfl rfl rfl ?_
                    refine gl_gU rfl rfl rfl ?_
                    refine gl_gU rfl rfl rfl ?_
                    refine gl_gF rfl rfl hc32 rfl ?_
                    refine gl_v rfl (o_pickF hc32 rfl rfl) ?_
                    refine gl_v rfl (o_assign rfl) ?_
                    refine gl_nil ?_
                    refine ge_then ?_
                    refine g_ret ?_
                    refine ge_then_ret ?_
                    refine ret1 (.inl rfl) rfl rfl _ (⟨bool_v (by rw [hvr, hvs, hvn, hvv, hvd] at *; unfold Pg.effW; simp_all), rfl⟩) (To.sat (by repeat (first | exact .nil | exact .done .refl | (apply To.cons; · (repeat (first | exact .head | apply Sel.tail))) | exact .done (by repeat (first | exact .refl | apply Drop.skip)))))
            ·
              have hc25' := hc25
              first | replace hc25' := of_decide_eq_true hc25' | replace hc25' := lt_f hc25' | replace hc25' := le_f hc25' | replace hc25' := dec_f hc25' | replace hc25' := nlt_t hc25' | replace hc25' := nle_t hc25' | replace hc25' := ndec_t hc25' | replace hc25' := ndec_f hc25' | replace hc25' := nn_t hc25' | replace hc25' := nn_f hc25' | skip
              simp only [putO]
              refine gl_gF rfl rfl hc25 rfl ?_
              refine gl_gF rfl rfl hc25 rfl ?_
              refine gl_gT rfl rfl rfl ?_
              refine gl_v rfl (o_pickF hc25 rfl rfl) ?_
              refine gl_v rfl (o_pickF rfl rfl rfl) ?_
              refine gl_nil ?_
              refine ge_then ?_
              refine g_cond_false rfl ?_
              refine g_skip ?_
              refine ge_then ?_
              refine g_seq ?_
              refine g_seq ?_
              refine g_region ?_
              refine gl_v rfl (o_move rfl) ?_
              refine gl_c rfl (o_call rfl (Has_spec (verb e.do').2 118 (by omega)) (by repeat (first | exact .nil | (apply Part.cons; · (repeat (first | exact .head | apply Sel.tail)))))) ?_
              rintro _ R ⟨_, ⟨rfl, rfl⟩, rfl⟩
              try simp only [List.cons_append, List.nil_append]
              refine gl_v rfl (o_not rfl) ?_
              refine gl_v rfl (o_move rfl) ?_
              refine gl_g rfl rfl (fun hc35 => ?_) (fun hc35 => ?_) rfl
              ·
                have hc35' := hc35
                first | replace hc35' := of_decide_eq_true hc35' | replace hc35' := lt_f hc35' | replace hc35' := le_f hc35' | replace hc35' := dec_f hc35' | replace hc35' := nlt_t hc35' | replace hc35' := nle_t hc35' | replace hc35' := ndec_t hc35' | replace hc35' := ndec_f hc35' | replace hc35' := nn_t hc35' | replace hc35' := nn_f hc35' | skip
                first | refine gl_v rfl (o_fldS rfl) ?_ | refine gl_v rfl (o_fld rfl) ?_
                refine gl_gT rfl rfl hc35 ?_
                first | refine gl_v rfl (o_load rfl rfl) ?_ | refine gl_v rfl (o_loadS rfl rfl) ?_ | refine gl_v rfl (o_loadC rfl) ?_
                refine gl_gT rfl rfl hc35 ?_
                refine gl_v rfl (o_neq rfl rfl) ?_
                refine gl_v rfl (o_pickF hc35 rfl rfl) ?_
                refine gl_nil ?_
                refine ge_then ?_
                refine g_cond rfl (fun hc36 => ?_) (fun hc36 => ?_)
                ·
                  first | replace hc36 := of_decide_eq_true hc36 | replace hc36 := lt_f hc36 | replace hc36 := le_f hc36 | replace hc36 := dec_f hc36 | replace hc36 := nlt_t hc36 | replace hc36 := nle_t hc36 | replace hc36 := ndec_t hc36 | replace hc36 := ndec_f hc36 | replace hc36 := nn_t hc36 | replace hc36 := nn_f hc36 | skip
                  refine g_seq ?_
                  refine g_region ?_
                  first | refine gl_v rfl (o_fldS rfl) ?_ | refine gl_v rfl (o_fld rfl) ?_
                  first | refine gl_v rfl (o_load rfl rfl) ?_ | refine gl_v rfl (o_loadS rfl rfl) ?_ | refine gl_v rfl (o_loadC rfl) ?_
                  refine gl_v rfl (o_eql rfl rfl) ?_
                  refine gl_v rfl (o_move rfl) ?_
                  refine gl_g rfl rfl (fun hc37 => ?_) (fun hc37 => ?_) rfl
                  ·
                    have hc37' := hc37
                    first | replace hc37' := of_decide_eq_true hc37' | replace hc37' := lt_f hc37' | replace hc37' := le_f hc37' | replace hc37' := dec_f hc37' | replace hc37' := nlt_t hc37' | replace hc37' := nle_t hc37' | replace hc37' := ndec_t hc37' | replace hc37' := ndec_f hc37' | replace hc37' := nn_t hc37' | replace hc37' := nn_f hc37' | skip
                    first | refine gl_v rfl (o_fldS rfl) ?_ | refine gl_v rfl (o_fld rfl) ?_
                    refine gl_gT rfl rfl hc37 ?_
                    first | refine gl_v rfl (o_load rfl rfl) ?_ | refine gl_v rfl (o_loadS rfl rfl) ?_ | refine gl_v rfl (o_loadC rfl) ?_
                    refine gl_gT rfl rfl hc37 ?_
                    refine gl_v rfl (o_eql rfl rfl) ?_
                    refine gl_gT rfl rfl hc37 ?_
                    refine gl_v rfl (o_move rfl) ?_
                    refine gl_g rfl rfl (fun hc38 => ?_) (fun hc38 => ?_) rfl
                    ·
                      have hc38' := hc38
                      first | replace hc38' := of_decide_eq_true hc38' | replace hc38' := lt_f hc38' | replace hc38' := le_f hc38' | replace hc38' := dec_f hc38' | replace hc38' := nlt_t hc38' | replace hc38' := nle_t hc38' | replace hc38' := ndec_t hc38' | replace hc38' := ndec_f hc38' | replace hc38' := nn_t hc38' | replace hc38' := nn_f hc38' | skip
                      first | refine gl_v rfl (o_fldS rfl) ?_ | refine gl_v rfl (o_fld rfl) ?_
                      refine gl_gT rfl rfl hc38 ?_
                      first | refine gl_v rfl (o_load rfl rfl) ?_ | refine gl_v rfl (o_loadS rfl rfl) ?_ | refine gl_v rfl (o_loadC rfl) ?_
                      refine gl_gT rfl rfl hc38 ?_
                      refine gl_v rfl (o_eql rfl rfl) ?_
                      refine gl_gT rfl rfl hc38 ?_
                      refine gl_v rfl (o_move rfl) ?_
                      refine gl_g rfl rfl (fun hc39 => ?_) (fun hc39 => ?_) rfl
                      ·
                        have hc39' := hc39
                        first | replace hc39' := of_decide_eq_true hc39' | replace hc39' := lt_f hc39' | replace hc39' := le_f hc39' | replace hc39' := dec_f hc39' | replace hc39' := nlt_t hc39' | replace hc39' := nle_t hc39' | replace hc39' := ndec_t hc39' | replace hc39' := ndec_f hc39' | replace hc39' := nn_t hc39' | replace hc39' := nn_f hc39' | skip
                        refine gl_v rfl (o_move rfl) ?_
                        refine gl_gT rfl rfl hc39 ?_
                        refine gl_c rfl (o_call rfl (Has_spec (verb e.do').2 118 (by omega)) (by repeat (first | exact .nil | (apply Part.cons; · (repeat (first | exact .head | apply Sel.tail)))))) ?_
                        rintro _ R ⟨_, ⟨rfl, rfl⟩, rfl⟩
                        try simp only [List.cons_append, List.nil_append]
                        refine gl_gT rfl rfl hc38 ?_
                        refine gl_v rfl (o_pickT hc39 rfl rfl) ?_
                        refine gl_gT rfl rfl hc37 ?_
                        refine gl_v rfl (o_pickF hc38 rfl rfl) ?_
                        refine gl_v rfl (o_pickT hc37 rfl rfl) ?_
                        refine gl_v rfl (o_assign rfl) ?_
                        refine gl_nil ?_
                        refine ge_then ?_
                        refine g_ret ?_
                        refine ge_then_ret ?_
                        refine ret1 (.inl rfl) rfl rfl _ (⟨bool_v (by rw [hvr, hvs, hvn, hvv, hvd] at *; unfold Pg.effW; simp_all), rfl⟩) (To.sat (by repeat (first | exact .nil | exact .done .refl | (apply To.cons; · (repeat (first | exact .head | apply Sel.tail))) | exact .done (by repeat (first | exact .refl | apply Drop.skip)))))
                      ·
                        have hc39' := hc39
                        first | replace hc39' := of_decide_eq_true hc39' | replace hc39' := lt_f hc39' | replace hc39' := le_f hc39' | replace hc39' := dec_f hc39' | replace hc39' := nlt_t hc39' | replace hc39' := nle_t hc39' | replace hc39' := ndec_t hc39' | replace hc39' := ndec_f hc39' | replace hc39' := nn_t hc39' | replace hc39' := nn_f hc39' | skip
                        simp only [putO]
                        refine gl_gF rfl rfl hc39 rfl ?_
                        refine gl_gT rfl rfl hc38 ?_
                        refine gl_v rfl (o_pickF hc39 rfl rfl) ?_
                        refine gl_gT rfl rfl hc37 ?_
                        refine gl_v rfl (o_pickF hc38 rfl rfl) ?_
                        refine gl_v rfl (o_pickT hc37 rfl rfl) ?_
                        refine gl_v rfl (o_assign rfl) ?_
                        refine gl_nil ?_
                        refine ge_then ?_
                        refine g_ret ?_
                        refine ge_then_ret ?_
                        refine ret1 (.inl rfl) rfl rfl _ (⟨bool_v (by rw [hvr, hvs, hvn, hvv, hvd] at *; unfold Pg.effW; simp_all), rfl⟩) (To.sat (by repeat (first | exact .nil | exact .done .refl | (apply To.cons; · (repeat (first | exact .head | apply Sel.tail))) | exact .done (by repeat (first | exact .refl | apply Drop.skip)))))
                    ·
                      have hc38' := hc38
                      first | replace hc38' := of_decide_eq_true hc38' | replace hc38' := lt_f hc38' | replace hc38' := le_f hc38' | replace hc38' := dec_f hc38' | replace hc38' := nlt_t hc38' | replace hc38' := nle_t hc38' | replace hc38' := ndec_t hc38' | replace hc38' := ndec_f hc38' | replace hc38' := nn_t hc38' | replace hc38' := nn_f hc38' | skip
                      simp only [putO]
                      refine gl_gF rfl rfl hc38 rfl ?_
                      refine gl_gF rfl rfl hc38 rfl ?_
                      refine gl_gF rfl rfl hc38 rfl ?_
                      refine gl_gU rfl rfl rfl ?_
                      refine gl_gU rfl rfl rfl ?_
                      refine gl_gF rfl rfl hc38 rfl ?_
                      refine gl_gT rfl rfl hc37 ?_
                      refine gl_v rfl (o_pickT hc38 rfl rfl) ?_
                      refine gl_v rfl (o_pickT hc37 rfl rfl) ?_
                      refine gl_v rfl (o_assign rfl) ?_
                      refine gl_nil ?_
                      refine ge_then ?_
                      refine g_ret ?_
                      refine ge_then_ret ?_
                      refine ret1 (.inl rfl) rfl rfl _ (⟨bool_v (by rw [hvr, hvs, hvn, hvv, hvd] at *; unfold Pg.effW; simp_all), rfl⟩) (To.sat (by repeat (first | exact .nil | exact .done .refl | (apply To.cons; · (repeat (first | exact .head | apply Sel.tail))) | exact .done (by repeat (first | exact .refl | apply Drop.skip)))))
                  ·
                    have hc37' := hc37
                    first | replace hc37' := of_decide_eq_true hc37' | replace hc37' := lt_f hc37' | replace hc37' := le_f hc37' | replace hc37' := dec_f hc37' | replace hc37' := nlt_t hc37' | replace hc37' := nle_t hc37' | replace hc37' := ndec_t hc37' | replace hc37' := ndec_f hc37' | replace hc37' := nn_t hc37' | replace hc37' := nn_f hc37' | skip
                    simp only [putO]
                    refine gl_gF rfl rfl hc37 rfl ?_
                    refine gl_gF rfl rfl hc37 rfl ?_
                    refine gl_gF rfl rfl hc37 rfl ?_
                    refine gl_gU rfl rfl rfl ?_
                    refine gl_gU rfl rfl rfl ?_
                    refine gl_gU rfl rfl rfl ?_
                    refine gl_gU rfl rfl rfl ?_
                    refine gl_gU rfl rfl rfl ?_
                    refine gl_gU rfl rfl rfl ?_
                    refine gl_gU rfl rfl rfl ?_
                    refine gl_gF rfl rfl hc37 rfl ?_
                    refine gl_v rfl (o_pickF hc37 rfl rfl) ?_
                    refine gl_v rfl (o_assign rfl) ?_
                    refine gl_nil ?_
                    refine ge_then ?_
                    refine g_ret ?_
                    refine ge_then_ret ?_
                    refine ret1 (.inl rfl) rfl rfl _ (⟨bool_v (by rw [hvr, hvs, hvn, hvv, hvd] at *; unfold Pg.effW; simp_all), rfl⟩) (To.sat (by repeat (first | exact .nil | exact .done .refl | (apply To.cons; · (repeat (first | exact .head | apply Sel.tail))) | exact .done (by repeat (first | exact .refl | apply Drop.skip)))))
                ·
                  first | replace hc36 := of_decide_eq_true hc36 | replace hc36 := lt_f hc36 | replace hc36 := le_f hc36 | replace hc36 := dec_f hc36 | replace hc36 := nlt_t hc36 | replace hc36 := nle_t hc36 | replace hc36 := ndec_t hc36 | replace hc36 := ndec_f hc36 | replace hc36 := nn_t hc36 | replace hc36 := nn_f hc36 | skip
                  refine g_skip ?_
                  refine ge_then ?_
                  refine g_seq ?_
                  refine g_region ?_
                  first | refine gl_v rfl (o_fldS rfl) ?_ | refine gl_v rfl (o_fld rfl) ?_
                  first | refine gl_v rfl (o_load rfl rfl) ?_ | refine gl_v rfl (o_loadS rfl rfl) ?_ | refine gl_v rfl (o_loadC rfl) ?_
                  refine gl_c rfl (o_call rfl (small_spec e.n) (by repeat (first | exact .nil | (apply Part.cons; · (repeat (first | exact .head | apply Sel.tail)))))) ?_
                  rintro _ R ⟨_, ⟨rfl, rfl⟩, rfl⟩
                  try simp only [List.cons_append, List.nil_append]
                  refine gl_v rfl (o_assign rfl) ?_
                  refine gl_nil ?_
                  refine ge_then ?_
                  refine g_ret ?_
                  refine ret1 (.inl rfl) rfl rfl _ (⟨bool_v (by rw [hvr, hvs, hvn, hvv, hvd] at *; unfold Pg.effW; simp_all), rfl⟩) (To.sat (by repeat (first | exact .nil | exact .done .refl | (apply To.cons; · (repeat (first | exact .head | apply Sel.tail))) | exact .done (by repeat (first | exact .refl | apply Drop.skip)))))
              ·
                have hc35' := hc35
                first | replace hc35' := of_decide_eq_true hc35' | replace hc35' := lt_f hc35' | replace hc35' := le_f hc35' | replace hc35' := dec_f hc35' | replace hc35' := nlt_t hc35' | replace hc35' := nle_t hc35' | replace hc35' := ndec_t hc35' | replace hc35' := ndec_f hc35' | replace hc35' := nn_t hc35' | replace hc35' := nn_f hc35' | skip
                simp only [putO]
                refine gl_gF rfl rfl hc35 rfl ?_
                refine gl_gF rfl rfl hc35 rfl ?_
                refine gl_v rfl (o_pickT hc35 rfl rfl) ?_
                refine gl_nil ?_
                refine ge_then ?_
                refine g_cond_true rfl ?_
                refine g_seq ?_
                refine g_region ?_
                first | refine gl_v rfl (o_fldS rfl) ?_ | refine gl_v rfl (o_fld rfl) ?_
                first | refine gl_v rfl (o_load rfl rfl) ?_ | refine gl_v rfl (o_loadS rfl rfl) ?_ | refine gl_v rfl (o_loadC rfl) ?_
                refine gl_v rfl (o_eql rfl rfl) ?_
                refine gl_v rfl (o_move rfl) ?_
                refine gl_g rfl rfl (fun hc40 => ?_) (fun hc40 => ?_) rfl
                ·
                  have hc40' := hc40
                  first | replace hc40' := of_decide_eq_true hc40' | replace hc40' := lt_f hc40' | replace hc40' := le_f hc40' | replace hc40' := dec_f hc40' | replace hc40' := nlt_t hc40' | replace hc40' := nle_t hc40' | replace hc40' := ndec_t hc40' | replace hc40' := ndec_f hc40' | replace hc40' := nn_t hc40' | replace hc40' := nn_f hc40' | skip
                  first | refine gl_v rfl (o_fldS rfl) ?_ | refine gl_v rfl (o_fld rfl) ?_
                  refine gl_gT rfl rfl hc40 ?_
                  first | refine gl_v rfl (o_load rfl rfl) ?_ | refine gl_v rfl (o_loadS rfl rfl) ?_ | refine gl_v rfl (o_loadC rfl) ?_
                  refine gl_gT rfl rfl hc40 ?_
                  refine gl_v rfl (o_eql rfl rfl) ?_
                  refine gl_gT rfl rfl hc40 ?_
                  refine gl_v rfl (o_move rfl) ?_
                  refine gl_g rfl rfl (fun hc41 => ?_) (fun hc41 => ?_) rfl
                  ·
                    have hc41' := hc41
                    first | replace hc41' := of_decide_eq_true hc41' | replace hc41' := lt_f hc41' | replace hc41' := le_f hc41' | replace hc41' := dec_f hc41' | replace hc41' := nlt_t hc41' | replace hc41' := nle_t hc41' | replace hc41' := ndec_t hc41' | replace hc41' := ndec_f hc41' | replace hc41' := nn_t hc41' | replace hc41' := nn_f hc41' | skip
                    first | refine gl_v rfl (o_fldS rfl) ?_ | refine gl_v rfl (o_fld rfl) ?_
                    refine gl_gT rfl rfl hc41 ?_
                    first | refine gl_v rfl (o_load rfl rfl) ?_ | refine gl_v rfl (o_loadS rfl rfl) ?_ | refine gl_v rfl (o_loadC rfl) ?_
                    refine gl_gT rfl rfl hc41 ?_
                    refine gl_v rfl (o_eql rfl rfl) ?_
                    refine gl_gT rfl rfl hc41 ?_
                    refine gl_v rfl (o_move rfl) ?_
                    refine gl_g rfl rfl (fun hc42 => ?_) (fun hc42 => ?_) rfl
                    ·
                      have hc42' := hc42
                      first | replace hc42' := of_decide_eq_true hc42' | replace hc42' := lt_f hc42' | replace hc42' := le_f hc42' | replace hc42' := dec_f hc42' | replace hc42' := nlt_t hc42' | replace hc42' := nle_t hc42' | replace hc42' := ndec_t hc42' | replace hc42' := ndec_f hc42' | replace hc42' := nn_t hc42' | replace hc42' := nn_f hc42' | skip
                      refine gl_v rfl (o_move rfl) ?_
                      refine gl_gT rfl rfl hc42 ?_
                      refine gl_c rfl (o_call rfl (Has_spec (verb e.do').2 118 (by omega)) (by repeat (first | exact .nil | (apply Part.cons; · (repeat (first | exact .head | apply Sel.tail)))))) ?_
                      rintro _ R ⟨_, ⟨rfl, rfl⟩, rfl⟩
                      try simp only [List.cons_append, List.nil_append]
                      refine gl_gT rfl rfl hc41 ?_
                      refine gl_v rfl (o_pickT hc42 rfl rfl) ?_
                      refine gl_gT rfl rfl hc40 ?_
                      refine gl_v rfl (o_pickF hc41 rfl rfl) ?_
                      refine gl_v rfl (o_pickT hc40 rfl rfl) ?_
                      refine gl_v rfl (o_assign rfl) ?_
                      refine gl_nil ?_
                      refine ge_then ?_
                      refine g_ret ?_
                      refine ge_then_ret ?_
                      refine ret1 (.inl rfl) rfl rfl _ (⟨bool_v (by rw [hvr, hvs, hvn, hvv, hvd] at *; unfold Pg.effW; simp_all), rfl⟩) (To.sat (by repeat (first | exact .nil | exact .done .refl | (apply To.cons; · (repeat (first | exact .head | apply Sel.tail))) | exact .done (by repeat (first | exact .refl | apply Drop.skip)))))
                    ·
                      have hc42' := hc42
                      first | replace hc42' := of_decide_eq_true hc42' | replace hc42' := lt_f hc42' | replace hc42' := le_f hc42' | replace hc42' := dec_f hc42' | replace hc42' := nlt_t hc42' | replace hc42' := nle_t hc42' | replace hc42' := ndec_t hc42' | replace hc42' := ndec_f hc42' | replace hc42' := nn_t hc42' | replace hc42' := nn_f hc42' | skip
                      simp only [putO]
                      refine gl_gF rfl rfl hc42 rfl ?_
                      refine gl_gT rfl rfl hc41 ?_
                      refine gl_v rfl (o_pickF hc42 rfl rfl) ?_
                      refine gl_gT rfl rfl hc40 ?_
                      refine gl_v rfl (o_pickF hc41 rfl rfl) ?_
                      refine gl_v rfl (o_pickT hc40 rfl rfl) ?_
                      refine gl_v rfl (o_assign rfl) ?_
                      refine gl_nil ?_
                      refine ge_then ?_
                      refine g_ret ?_
                      refine ge_then_ret ?_
                      refine ret1 (.inl rfl) rfl rfl _ (⟨bool_v (by rw [hvr, hvs, hvn, hvv, hvd] at *; unfold Pg.effW; simp_all), rfl⟩) (To.sat (by repeat (first | exact .nil | exact .done .refl | (apply To.cons; · (repeat (first | exact .head | apply Sel.tail))) | exact .done (by repeat (first | exact .refl | apply Drop.skip)))))
                  ·
                    have hc41' := hc41
                    first | replace hc41' := of_decide_eq_true hc41' | replace hc41' := lt_f hc41' | replace hc41' := le_f hc41' | replace hc41' := dec_f hc41' | replace hc41' := nlt_t hc41' | replace hc41' := nle_t hc41' | replace hc41' := ndec_t hc41' | replace hc41' := ndec_f hc41' | replace hc41' := nn_t hc41' | replace hc41' := nn_f hc41' | skip
                    simp only [putO]
                    refine gl_gF rfl rfl hc41 rfl ?_
                    refine gl_gF rfl rfl hc41 rfl ?_
                    refine gl_gF rfl rfl hc41 rfl ?_
                    refine gl_gU rfl rfl rfl ?_
                    refine gl_gU rfl rfl rfl ?_
                    refine gl_gF rfl rfl hc41 rfl ?_
                    refine gl_gT rfl rfl hc40 ?_
                    refine gl_v rfl (o_pickT hc41 rfl rfl) ?_
                    refine gl_v rfl (o_pickT hc40 rfl rfl) ?_
                    refine gl_v rfl (o_assign rfl) ?_
                    refine gl_nil ?_
                    refine ge_then ?_
                    refine g_ret ?_
                    refine ge_then_ret ?_
                    refine ret1 (.inl rfl) rfl rfl _ (⟨bool_v (by rw [hvr, hvs, hvn, hvv, hvd] at *; unfold Pg.effW; simp_all), rfl⟩) (To.sat (by repeat (first | exact .nil | exact .done .refl | (apply To.cons; · (repeat (first | exact .head | apply Sel.tail))) | exact .done (by repeat (first | exact .refl | apply Drop.skip)))))
                ·
                  have hc40' := hc40
                  first | replace hc40' := of_decide_eq_true hc40' | replace hc40' := lt_f hc40' | replace hc40' := le_f hc40' | replace hc40' := dec_f hc40' | replace hc40' := nlt_t hc40' | replace hc40' := nle_t hc40' | replace hc40' := ndec_t hc40' | replace hc40' := ndec_f hc40' | replace hc40' := nn_t hc40' | replace hc40' := nn_f hc40' | skip
                  simp only [putO]
                  refine gl_gF rfl rfl hc40 rfl ?_
                  refine gl_gF rfl rfl hc40 rfl ?_
                  refine gl_gF rfl rfl hc40 rfl ?_
                  refine gl_gU rfl rfl rfl ?_
                  refine gl_gU rfl rfl rfl ?_
                  refine gl_gU rfl rfl rfl ?_
                  refine gl_gU rfl rfl rfl ?_
                  refine gl_gU rfl rfl rfl ?_
                  refine gl_gU rfl rfl rfl ?_
                  refine gl_gU rfl rfl rfl ?_
                  refine gl_gF rfl rfl hc40 rfl ?_
                  refine gl_v rfl (o_pickF hc40 rfl rfl) ?_
                  refine gl_v rfl (o_assign rfl) ?_
                  refine gl_nil ?_
                  refine ge_then ?_
                  refine g_ret ?_
                  refine ge_then_ret ?_
                  refine ret1 (.inl rfl) rfl rfl _ (⟨bool_v (by rw [hvr, hvs, hvn, hvv, hvd] at *; unfold Pg.effW; simp_all), rfl⟩) (To.sat (by repeat (first | exact .nil | exact .done .refl | (apply To.cons; · (repeat (first | exact .head | apply Sel.tail))) | exact .done (by repeat (first | exact .refl | apply Drop.skip)))))

set_option maxRecDepth 8000 in
set_option maxHeartbeats 1000000 in
theorem rrow_spec (pa : Option Addr) (pc : Nat) (KK : List Knd) (A : Assn) (hA : ∀ h, A h → PrgOk h pa pc KK) (hb : ∃ h, PrgOk h pa pc KK) (k : Knd) (hk : k ∈ KK) (s : Sta) (hs : s ∈ k.states) (i : Nat) (r : Row) (hri : s.rows[i]? = some r) : FnS Tryd.prog 21 [.slice s.ra s.rows.length s.rc, I64 i] [A] (fun u Bs => u = I64 (rowE s.rows i r) ∧ Bs = [A]) := by
  refine fn_body Tryd.func21 rfl rfl rfl ?_
  intro W0 R
  simp only [List.zipIdx_cons, List.zipIdx_nil, List.map_cons, List.map_nil, Nat.zero_add, Nat.reduceAdd, List.cons_append, List.nil_append]
  obtain ⟨h0, hb0⟩ := id hb
  have hKn := hb0.len; have hKc := hb0.rd.2
  haveI rK : RdA (.slice pa KK.length pc) A KK.length (KK.flatMap kndC) := ⟨fun h => (hA _ h).rd.1⟩
  have hkO := hb0.kinds k hk
  have hsc := hkO.rds.2; have hcc := hkO.rdc.2
  have hSn := hkO.lens; have hCn := hkO.lenc; have hkn := hkO.name
  haveI rS : RdA (.slice k.sa k.states.length k.sc) A k.states.length (k.states.flatMap staC) := ⟨fun h => ((hA _ h).kinds k hk).rds.1⟩
  haveI rC : RdA (.slice k.ca k.cases.length k.cc) A k.cases.length (k.cases.flatMap casC) := ⟨fun h => ((hA _ h).kinds k hk).rdc.1⟩
  have hsO := hkO.states s hs
  have hrc := hsO.rd.2
  have hRn := hsO.len; have hsn := hsO.name
  haveI rR : RdA (.slice s.ra s.rows.length s.rc) A s.rows.length (s.rows.flatMap rowC) := ⟨fun h => (((hA _ h).kinds k hk).states s hs).rd.1⟩
  have hr := List.mem_of_getElem? hri
  have hi := (List.getElem?_eq_some_iff.1 hri).1
  have hrO := hsO.rows r hr
  have hEn := hrO.len; have hrn := hrO.tag
  haveI rE : RdA (.slice r.ea r.effs.length r.ec) A r.effs.length (r.effs.flatMap effC) := ⟨fun h => ((((hA _ h).kinds k hk).states s hs).rows r hr).rd.1⟩
  unfold ok63 at *
  
  refine g_seq ?_
  refine g_region ?_
  refine gl_v rfl (o_assign rfl) ?_
  refine gl_nil ?_
  refine ge_then ?_
  refine g_seq ?_
  refine g_region ?_
  refine gl_v rfl (o_move rfl) ?_
  refine gl_v rfl (o_move rfl) ?_
  refine gl_v rfl (o_idxS rfl rfl (show i < s.rows.length by omega)) ?_
  refine gl_v rfl (o_loadSA rfl (flat_take rowC 4 rowC_len hri) rfl) ?_
  refine gl_n rfl (o_alloc) ?_
  rintro _ _ ⟨b5, rfl, rfl⟩
  first | refine gl_u (o_storeSA rfl rfl rfl rfl (by simp; omega) (by simp)) ?_ | refine gl_u (o_storeA rfl rfl rfl rfl rfl) ?_
  refine gl_nil ?_
  refine ge_then ?_
  refine g_seq ?_
  refine g_seq ?_
  refine g_region ?_
  first | refine gl_v rfl (o_fldS rfl) ?_ | refine gl_v rfl (o_fld rfl) ?_
  first | refine gl_v rfl (o_load rfl rfl) ?_ | refine gl_v rfl (o_loadS rfl rfl) ?_ | refine gl_v rfl (o_loadC rfl) ?_
  refine gl_c rfl (o_call rfl (empty_spec r.tag (by omega)) (by repeat (first | exact .nil | (apply Part.cons; · (repeat (first | exact .head | apply Sel.tail)))))) ?_
  rintro _ R ⟨_, ⟨rfl, rfl⟩, rfl⟩
  try simp only [List.cons_append, List.nil_append]
  refine gl_v rfl (o_not rfl) ?_
  refine gl_v rfl (o_move rfl) ?_
  refine gl_join (d := 44) 28 (.bool (r1 r)) ?_ (fun jk44 => ?_)
  rotate_left
  ·
    refine gl_g rfl rfl (fun hc1 => ?_) (fun hc1 => ?_) rfl
    ·
      have hc1' := hc1
      first | replace hc1' := of_decide_eq_true hc1' | replace hc1' := lt_f hc1' | replace hc1' := le_f hc1' | replace hc1' := dec_f hc1' | replace hc1' := nlt_t hc1' | replace hc1' := nle_t hc1' | replace hc1' := ndec_t hc1' | replace hc1' := ndec_f hc1' | replace hc1' := nn_t hc1' | replace hc1' := nn_f hc1' | skip
      first | refine gl_v rfl (o_fldS rfl) ?_ | refine gl_v rfl (o_fld rfl) ?_
      refine gl_gT rfl rfl hc1 ?_
      first | refine gl_v rfl (o_load rfl rfl) ?_ | refine gl_v rfl (o_loadS rfl rfl) ?_ | refine gl_v rfl (o_loadC rfl) ?_
      refine gl_gT rfl rfl hc1 ?_
      refine gl_v rfl (o_move rfl) ?_
      refine gl_g rfl rfl (fun hc2 => ?_) (fun hc2 => ?_) rfl
      ·
        have hc2' := hc2
        first | replace hc2' := of_decide_eq_true hc2' | replace hc2' := lt_f hc2' | replace hc2' := le_f hc2' | replace hc2' := dec_f hc2' | replace hc2' := nlt_t hc2' | replace hc2' := nle_t hc2' | replace hc2' := ndec_t hc2' | replace hc2' := ndec_f hc2' | replace hc2' := nn_t hc2' | replace hc2' := nn_f hc2' | skip
        first | refine gl_v rfl (o_fldS rfl) ?_ | refine gl_v rfl (o_fld rfl) ?_
        refine gl_gT rfl rfl hc2 ?_
        first | refine gl_v rfl (o_load rfl rfl) ?_ | refine gl_v rfl (o_loadS rfl rfl) ?_ | refine gl_v rfl (o_loadC rfl) ?_
        refine gl_gT rfl rfl hc2 ?_
        refine gl_v rfl (o_eqls rfl rfl) ?_
        refine gl_gT rfl rfl hc1 ?_
        refine gl_v rfl (o_pickT hc2 rfl rfl) ?_
        refine gl_v rfl (o_pickF hc1 rfl rfl) ?_
        refine gl_v rfl (o_move rfl) ?_
        refine gl_g rfl rfl (fun hc3 => ?_) (fun hc3 => ?_) rfl
        ·
          have hc3' := hc3
          first | replace hc3' := of_decide_eq_true hc3' | replace hc3' := lt_f hc3' | replace hc3' := le_f hc3' | replace hc3' := dec_f hc3' | replace hc3' := nlt_t hc3' | replace hc3' := nle_t hc3' | replace hc3' := ndec_t hc3' | replace hc3' := ndec_f hc3' | replace hc3' := nn_t hc3' | replace hc3' := nn_f hc3' | skip
          first | refine gl_v rfl (o_fldS rfl) ?_ | refine gl_v rfl (o_fld rfl) ?_
          refine gl_gT rfl rfl hc3 ?_
          first | refine gl_v rfl (o_load rfl rfl) ?_ | refine gl_v rfl (o_loadS rfl rfl) ?_ | refine gl_v rfl (o_loadC rfl) ?_
          refine gl_gT rfl rfl hc3 ?_
          refine gl_v rfl (o_lss rfl rfl) ?_
          refine gl_v rfl (o_pickF hc3 rfl rfl) ?_
          refine gl_v rfl (o_move rfl) ?_
          refine gl_g rfl rfl (fun hc4 => ?_) (fun hc4 => ?_) rfl
          ·
            have hc4' := hc4
            first | replace hc4' := of_decide_eq_true hc4' | replace hc4' := lt_f hc4' | replace hc4' := le_f hc4' | replace hc4' := dec_f hc4' | replace hc4' := nlt_t hc4' | replace hc4' := nle_t hc4' | replace hc4' := ndec_t hc4' | replace hc4' := ndec_f hc4' | replace hc4' := nn_t hc4' | replace hc4' := nn_f hc4' | skip
            first | refine gl_v rfl (o_fldS rfl) ?_ | refine gl_v rfl (o_fld rfl) ?_
            refine gl_gT rfl rfl hc4 ?_
            first | refine gl_v rfl (o_load rfl rfl) ?_ | refine gl_v rfl (o_loadS rfl rfl) ?_ | refine gl_v rfl (o_loadC rfl) ?_
            refine gl_gT rfl rfl hc4 ?_
            refine gl_v rfl (o_gtr rfl rfl) ?_
            refine gl_v rfl (o_pickF hc4 rfl rfl) ?_
            refine gl_v rfl (o_move rfl) ?_
            refine gl_g rfl rfl (fun hc5 => ?_) (fun hc5 => ?_) rfl
            ·
              have hc5' := hc5
              first | replace hc5' := of_decide_eq_true hc5' | replace hc5' := lt_f hc5' | replace hc5' := le_f hc5' | replace hc5' := dec_f hc5' | replace hc5' := nlt_t hc5' | replace hc5' := nle_t hc5' | replace hc5' := ndec_t hc5' | replace hc5' := ndec_f hc5' | replace hc5' := nn_t hc5' | replace hc5' := nn_f hc5' | skip
              first | refine gl_v rfl (o_fldS rfl) ?_ | refine gl_v rfl (o_fld rfl) ?_
              refine gl_gT rfl rfl hc5 ?_
              first | refine gl_v rfl (o_load rfl rfl) ?_ | refine gl_v rfl (o_loadS rfl rfl) ?_ | refine gl_v rfl (o_loadC rfl) ?_
              refine gl_gT rfl rfl hc5 ?_
              refine gl_v rfl (o_not rfl) ?_
              refine gl_gT rfl rfl hc5 ?_
              refine gl_v rfl (o_move rfl) ?_
              refine gl_g rfl rfl (fun hc6 => ?_) (fun hc6 => ?_) rfl
              ·
                have hc6' := hc6
                first | replace hc6' := of_decide_eq_true hc6' | replace hc6' := lt_f hc6' | replace hc6' := le_f hc6' | replace hc6' := dec_f hc6' | replace hc6' := nlt_t hc6' | replace hc6' := nle_t hc6' | replace hc6' := ndec_t hc6' | replace hc6' := ndec_f hc6' | replace hc6' := nn_t hc6' | replace hc6' := nn_f hc6' | skip
                first | refine gl_v rfl (o_fldS rfl) ?_ | refine gl_v rfl (o_fld rfl) ?_
                refine gl_gT rfl rfl hc6 ?_
                first | refine gl_v rfl (o_load rfl rfl) ?_ | refine gl_v rfl (o_loadS rfl rfl) ?_ | refine gl_v rfl (o_loadC rfl) ?_
                refine gl_gT rfl rfl hc6 ?_
                refine gl_v rfl (o_neq rfl rfl) ?_
                refine gl_gT rfl rfl hc5 ?_
                refine gl_v rfl (o_pickT hc6 rfl rfl) ?_
                refine gl_v rfl (o_pickF hc5 rfl rfl) ?_
                first | exact jk44 _ (KeepS.top (by repeat (first | exact KeepS.refl _ | refine KeepS.push ?_ rfl)) (jval (by first | rfl | (simp [hc1, hc2, hc3, hc4, hc5, hc6, r1]; done) | simp_all))) | exact gl_imp (To.sat (by repeat (first | exact .nil | exact .done .refl | (apply To.cons; · (repeat (first | exact .head | apply Sel.tail))) | exact .done (by repeat (first | exact .refl | apply Drop.skip))))) (jk44 _ (KeepS.top (by repeat (first | exact KeepS.refl _ | refine KeepS.push ?_ rfl)) (jval (by first | rfl | (simp [hc1, hc2, hc3, hc4, hc5, hc6, r1]; done) | simp_all))))
              ·
                have hc6' := hc6
                first | replace hc6' := of_decide_eq_true hc6' | replace hc6' := lt_f hc6' | replace hc6' := le_f hc6' | replace hc6' := dec_f hc6' | replace hc6' := nlt_t hc6' | replace hc6' := nle_t hc6' | replace hc6' := ndec_t hc6' | replace hc6' := ndec_f hc6' | replace hc6' := nn_t hc6' | replace hc6' := nn_f hc6' | skip
                simp only [putO]
                refine gl_gF rfl rfl hc6 rfl ?_
                refine gl_gF rfl rfl hc6 rfl ?_
                refine gl_gT rfl rfl hc5 ?_
                refine gl_v rfl (o_pickF hc6 rfl rfl) ?_
                refine gl_v rfl (o_pickF hc5 rfl rfl) ?_
                first | exact jk44 _ (KeepS.top (by repeat (first | exact KeepS.refl _ | refine KeepS.push ?_ rfl)) (jval (by first | rfl | (simp [hc1, hc2, hc3, hc4, hc5, hc6, r1]; done) | simp_all))) | exact gl_imp (To.sat (by repeat (first | exact .nil | exact .done .refl | (apply To.cons; · (repeat (first | exact .head | apply Sel.tail))) | exact .done (by repeat (first | exact .refl | apply Drop.skip))))) (jk44 _ (KeepS.top (by repeat (first | exact KeepS.refl _ | refine KeepS.push ?_ rfl)) (jval (by first | rfl | (simp [hc1, hc2, hc3, hc4, hc5, hc6, r1]; done) | simp_all))))
            ·
              have hc5' := hc5
              first | replace hc5' := of_decide_eq_true hc5' | replace hc5' := lt_f hc5' | replace hc5' := le_f hc5' | replace hc5' := dec_f hc5' | replace hc5' := nlt_t hc5' | replace hc5' := nle_t hc5' | replace hc5' := ndec_t hc5' | replace hc5' := ndec_f hc5' | replace hc5' := nn_t hc5' | replace hc5' := nn_f hc5' | skip
              simp only [putO]
              refine gl_gF rfl rfl hc5 rfl ?_
              refine gl_gF rfl rfl hc5 rfl ?_
              refine gl_gF rfl rfl hc5 rfl ?_
              refine gl_gU rfl rfl rfl ?_
              refine gl_gU rfl rfl rfl ?_
              refine gl_gU rfl rfl rfl ?_
              refine gl_gF rfl rfl hc5 rfl ?_
              refine gl_v rfl (o_pickT hc5 rfl rfl) ?_
              first | exact jk44 _ (KeepS.top (by repeat (first | exact KeepS.refl _ | refine KeepS.push ?_ rfl)) (jval (by first | rfl | (simp [hc1, hc2, hc3, hc4, hc5, r1]; done) | simp_all))) | exact gl_imp (To.sat (by repeat (first | exact .nil | exact .done .refl | (apply To.cons; · (repeat (first | exact .head | apply Sel.tail))) | exact .done (by repeat (first | exact .refl | apply Drop.skip))))) (jk44 _ (KeepS.top (by repeat (first | exact KeepS.refl _ | refine KeepS.push ?_ rfl)) (jval (by first | rfl | (simp [hc1, hc2, hc3, hc4, hc5, r1]; done) | simp_all))))
          ·
            have hc4' := hc4
            first | replace hc4' := of_decide_eq_true hc4' | replace hc4' := lt_f hc4' | replace hc4' := le_f hc4' | replace hc4' := dec_f hc4' | replace hc4' := nlt_t hc4' | replace hc4' := nle_t hc4' | replace hc4' := ndec_t hc4' | replace hc4' := ndec_f hc4' | replace hc4' := nn_t hc4' | replace hc4' := nn_f hc4' | skip
            simp only [putO]
            refine gl_gF rfl rfl hc4 rfl ?_
            refine gl_gF rfl rfl hc4 rfl ?_
            refine gl_v rfl (o_pickT hc4 rfl rfl) ?_
            refine gl_v rfl (o_move rfl) ?_
            refine gl_gF rfl rfl rfl rfl ?_
            refine gl_gF rfl rfl rfl rfl ?_
            refine gl_gF rfl rfl rfl rfl ?_
            refine gl_gF rfl rfl rfl rfl ?_
            refine gl_gU rfl rfl rfl ?_
            refine gl_gU rfl rfl rfl ?_
            refine gl_gU rfl rfl rfl ?_
            refine gl_gF rfl rfl rfl rfl ?_
            refine gl_v rfl (o_pickT rfl rfl rfl) ?_
            first | exact jk44 _ (KeepS.top (by repeat (first | exact KeepS.refl _ | refine KeepS.push ?_ rfl)) (jval (by first | rfl | (simp [hc1, hc2, hc3, hc4, r1]; done) | simp_all))) | exact gl_imp (To.sat (by repeat (first | exact .nil | exact .done .refl | (apply To.cons; · (repeat (first | exact .head | apply Sel.tail))) | exact .done (by repeat (first | exact .refl | apply Drop.skip))))) (jk44 _ (KeepS.top (by repeat (first | exact KeepS.refl _ | refine KeepS.push ?_ rfl)) (jval (by first | rfl | (simp [hc1, hc2, hc3, hc4, r1]; done) | simp_all))))
        ·
          have hc3' := hc3
          first | replace hc3' := of_decide_eq_true hc3' | replace hc3' := lt_f hc3' | replace hc3' := le_f hc3' | replace hc3' := dec_f hc3' | replace hc3' := nlt_t hc3' | replace hc3' := nle_t hc3' | replace hc3' := ndec_t hc3' | replace hc3' := ndec_f hc3' | replace hc3' := nn_t hc3' | replace hc3' := nn_f hc3' | skip
          simp only [putO]
          refine gl_gF rfl rfl hc3 rfl ?_
          refine gl_gF rfl rfl hc3 rfl ?_
          refine gl_v rfl (o_pickT hc3 rfl rfl) ?_
          refine gl_v rfl (o_move rfl) ?_
          refine gl_gF rfl rfl rfl rfl ?_
          refine gl_gF rfl rfl rfl rfl ?_
          refine gl_gF rfl rfl rfl rfl ?_
          refine gl_v rfl (o_pickT rfl rfl rfl) ?_
          refine gl_v rfl (o_move rfl) ?_
          refine gl_gF rfl rfl rfl rfl ?_
          refine gl_gF rfl rfl rfl rfl ?_
          refine gl_gF rfl rfl rfl rfl ?_
          refine gl_gF rfl rfl rfl rfl ?_
          refine gl_gU rfl rfl rfl ?_
          refine gl_gU rfl rfl rfl ?_
          refine gl_gU rfl rfl rfl ?_
          refine gl_gF rfl rfl rfl rfl ?_
          refine gl_v rfl (o_pickT rfl rfl rfl) ?_
          first | exact jk44 _ (KeepS.top (by repeat (first | exact KeepS.refl _ | refine KeepS.push ?_ rfl)) (jval (by first | rfl | (simp [hc1, hc2, hc3, r1]; done) | simp_all))) | exact gl_imp (To.sat (by repeat (first | exact .nil | exact .done .refl | (apply To.cons; · (repeat (first | exact .head | apply Sel.tail))) | exact .done (by repeat (first | exact .refl | apply Drop.skip))))) (jk44 _ (KeepS.top (by repeat (first | exact KeepS.refl _ | refine KeepS.push ?_ rfl)) (jval (by first | rfl | (simp [hc1, hc2, hc3, r1]; done) | simp_all))))
      ·
        have hc2' := hc2
        first | replace hc2' := of_decide_eq_true hc2' | replace hc2' := lt_f hc2' | replace hc2' := le_f hc2' | replace hc2' := dec_f hc2' | replace hc2' := nlt_t hc2' | replace hc2' := nle_t hc2' | replace hc2' := ndec_t hc2' | replace hc2' := ndec_f hc2' | replace hc2' := nn_t hc2' | replace hc2' := nn_f hc2' | skip
        simp only [putO]
        refine gl_gF rfl rfl hc2 rfl ?_
        refine gl_gF rfl rfl hc2 rfl ?_
        refine gl_gT rfl rfl hc1 ?_
        refine gl_v rfl (o_pickF hc2 rfl rfl) ?_
        refine gl_v rfl (o_pickF hc1 rfl rfl) ?_
        refine gl_v rfl (o_move rfl) ?_
        refine gl_gT rfl rfl rfl ?_
        first | refine gl_v rfl (o_fldS rfl) ?_ | refine gl_v rfl (o_fld rfl) ?_
        refine gl_gT rfl rfl rfl ?_
        first | refine gl_v rfl (o_load rfl rfl) ?_ | refine gl_v rfl (o_loadS rfl rfl) ?_ | refine gl_v rfl (o_loadC rfl) ?_
        refine gl_gT rfl rfl rfl ?_
        refine gl_v rfl (o_lss rfl rfl) ?_
        refine gl_v rfl (o_pickF rfl rfl rfl) ?_
        refine gl_v rfl (o_move rfl) ?_
        refine gl_g rfl rfl (fun hc7 => ?_) (fun hc7 => ?_) rfl
        ·
          have hc7' := hc7
          first | replace hc7' := of_decide_eq_true hc7' | replace hc7' := lt_f hc7' | replace hc7' := le_f hc7' | replace hc7' := dec_f hc7' | replace hc7' := nlt_t hc7' | replace hc7' := nle_t hc7' | replace hc7' := ndec_t hc7' | replace hc7' := ndec_f hc7' | replace hc7' := nn_t hc7' | replace hc7' := nn_f hc7' | skip
          first | refine gl_v rfl (o_fldS rfl) ?_ | refine gl_v rfl (o_fld rfl) ?_
          refine gl_gT rfl rfl hc7 ?_
          first | refine gl_v rfl (o_load rfl rfl) ?_ | refine gl_v rfl (o_loadS rfl rfl) ?_ | refine gl_v rfl (o_loadC rfl) ?_
          refine gl_gT rfl rfl hc7 ?_
          refine gl_v rfl (o_gtr rfl rfl) ?_
          refine gl_v rfl (o_pickF hc7 rfl rfl) ?_
          refine gl_v rfl (o_move rfl) ?_
          refine gl_g rfl rfl (fun hc8 => ?_) (fun hc8 => ?_) rfl
          ·
            have hc8' := hc8
            first | replace hc8' := of_decide_eq_true hc8' | replace hc8' := lt_f hc8' | replace hc8' := le_f hc8' | replace hc8' := dec_f hc8' | replace hc8' := nlt_t hc8' | replace hc8' := nle_t hc8' | replace hc8' := ndec_t hc8' | replace hc8' := ndec_f hc8' | replace hc8' := nn_t hc8' | replace hc8' := nn_f hc8' | skip
            first | refine gl_v rfl (o_fldS rfl) ?_ | refine gl_v rfl (o_fld rfl) ?_
            refine gl_gT rfl rfl hc8 ?_
            first | refine gl_v rfl (o_load rfl rfl) ?_ | refine gl_v rfl (o_loadS rfl rfl) ?_ | refine gl_v rfl (o_loadC rfl) ?_
            refine gl_gT rfl rfl hc8 ?_
            refine gl_v rfl (o_not rfl) ?_
            refine gl_gT rfl rfl hc8 ?_
            refine gl_v rfl (o_move rfl) ?_
            refine gl_g rfl rfl (fun hc9 => ?_) (fun hc9 => ?_) rfl
            ·
              have hc9' := hc9
              first | replace hc9' := of_decide_eq_true hc9' | replace hc9' := lt_f hc9' | replace hc9' := le_f hc9' | replace hc9' := dec_f hc9' | replace hc9' := nlt_t hc9' | replace hc9' := nle_t hc9' | replace hc9' := ndec_t hc9' | replace hc9' := ndec_f hc9' | replace hc9' := nn_t hc9' | replace hc9' := nn_f hc9' | skip
              first | refine gl_v rfl (o_fldS rfl) ?_ | refine gl_v rfl (o_fld rfl) ?_
              refine gl_gT rfl rfl hc9 ?_
              first | refine gl_v rfl (o_load rfl rfl) ?_ | refine gl_v rfl (o_loadS rfl rfl) ?_ | refine gl_v rfl (o_loadC rfl) ?_
              refine gl_gT rfl rfl hc9 ?_
              refine gl_v rfl (o_neq rfl rfl) ?_
              refine gl_gT rfl rfl hc8 ?_
              refine gl_v rfl (o_pickT hc9 rfl rfl) ?_
              refine gl_v rfl (o_pickF hc8 rfl rfl) ?_
              first | exact jk44 _ (KeepS.top (by repeat (first | exact KeepS.refl _ | refine KeepS.push ?_ rfl)) (jval (by first | rfl | (simp [hc1, hc2, hc7, hc8, hc9, r1]; done) | simp_all))) | exact gl_imp (To.sat (by repeat (first | exact .nil | exact .done .refl | (apply To.cons; · (repeat (first | exact .head | apply Sel.tail))) | exact .done (by repeat (first | exact .refl | apply Drop.skip))))) (jk44 _ (KeepS.top (by repeat (first | exact KeepS.refl _ | refine KeepS.push ?_ rfl)) (jval (by first | rfl | (simp [hc1, hc2, hc7, hc8, hc9, r1]; done) | simp_all))))
            ·
              have hc9' := hc9
              first | replace hc9' := of_decide_eq_true hc9' | replace hc9' := lt_f hc9' | replace hc9' := le_f hc9' | replace hc9' := dec_f hc9' | replace hc9' := nlt_t hc9' | replace hc9' := nle_t hc9' | replace hc9' := ndec_t hc9' | replace hc9' := ndec_f hc9' | replace hc9' := nn_t hc9' | replace hc9' := nn_f hc9' | skip
              simp only [putO]
              refine gl_gF rfl rfl hc9 rfl ?_
              refine gl_gF rfl rfl hc9 rfl ?_
              refine gl_gT rfl rfl hc8 ?_
              refine gl_v rfl (o_pickF hc9 rfl rfl) ?_
              refine gl_v rfl (o_pickF hc8 rfl rfl) ?_
              first | exact jk44 _ (KeepS.top (by repeat (first | exact KeepS.refl _ | refine KeepS.push ?_ rfl)) (jval (by first | rfl | (simp [hc1, hc2, hc7, hc8, hc9, r1]; done) | simp_all))) | exact gl_imp (To.sat (by repeat (first | exact .nil | exact .done .refl | (apply To.cons; · (repeat (first | exact .head | apply Sel.tail))) | exact .done (by repeat (first | exact .refl | apply Drop.skip))))) (jk44 _ (KeepS.top (by repeat (first | exact KeepS.refl _ | refine KeepS.push ?_ rfl)) (jval (by first | rfl | (simp [hc1, hc2, hc7, hc8, hc9, r1]; done) | simp_all))))
          ·
            have hc8' := hc8
            first | replace hc8' := of_decide_eq_true hc8' | replace hc8' := lt_f hc8' | replace hc8' := le_f hc8' | replace hc8' := dec_f hc8' | replace hc8' := nlt_t hc8' | replace hc8' := nle_t hc8' | replace hc8' := ndec_t hc8' | replace hc8' := ndec_f hc8' | replace hc8' := nn_t hc8' | replace hc8' := nn_f hc8' | skip
            simp only [putO]
            refine gl_gF rfl rfl hc8 rfl ?_
            refine gl_gF rfl rfl hc8 rfl ?_
            refine gl_gF rfl rfl hc8 rfl ?_
            refine gl_gU rfl rfl rfl ?_
            refine gl_gU rfl rfl rfl ?_
            refine gl_gU rfl rfl rfl ?_
            refine gl_gF rfl rfl hc8 rfl ?_
            refine gl_v rfl (o_pickT hc8 rfl rfl) ?_
            first | exact jk44 _ (KeepS.top (by repeat (first | exact KeepS.refl _ | refine KeepS.push ?_ rfl)) (jval (by first | rfl | (simp [hc1, hc2, hc7, hc8, r1]; done) | simp_all))) | exact gl_imp (To.sat (by repeat (first | exact .nil | exact .done .refl | (apply To.cons; · (repeat (first | exact .head | apply Sel.tail))) | exact .done (by repeat (first | exact .refl | apply Drop.skip))))) (jk44 _ (KeepS.top (by repeat (first | exact KeepS.refl _ | refine KeepS.push ?_ rfl)) (jval (by first | rfl | (simp [hc1, hc2, hc7, hc8, r1]; done) | simp_all))))
        ·
          have hc7' := hc7
          first | replace hc7' := of_decide_eq_true hc7' | replace hc7' := lt_f hc7' | replace hc7' := le_f hc7' | replace hc7' := dec_f hc7' | replace hc7' := nlt_t hc7' | replace hc7' := nle_t hc7' | replace hc7' := ndec_t hc7' | replace hc7' := ndec_f hc7' | replace hc7' := nn_t hc7' | replace hc7' := nn_f hc7' | skip
          simp only [putO]
          refine gl_gF rfl rfl hc7 rfl ?_
          refine gl_gF rfl rfl hc7 rfl ?_
          refine gl_v rfl (o_pickT hc7 rfl rfl) ?_
          refine gl_v rfl (o_move rfl) ?_
          refine gl_gF rfl rfl rfl rfl ?_
          refine gl_gF rfl rfl rfl rfl ?_
          refine gl_gF rfl rfl rfl rfl ?_
          refine gl_gF rfl rfl rfl rfl ?_
          refine gl_gU rfl rfl rfl ?_
          refine gl_gU rfl rfl rfl ?_
          refine gl_gU rfl rfl rfl ?_
          refine gl_gF rfl rfl rfl rfl ?_
          refine gl_v rfl (o_pickT rfl rfl rfl) ?_
          first | exact jk44 _ (KeepS.top (by repeat (first | exact KeepS.refl _ | refine KeepS.push ?_ rfl)) (jval (by first | rfl | (simp [hc1, hc2, hc7, r1]; done) | simp_all))) | exact gl_imp (To.sat (by repeat (first | exact .nil | exact .done .refl | (apply To.cons; · (repeat (first | exact .head | apply Sel.tail))) | exact .done (by repeat (first | exact .refl | apply Drop.skip))))) (jk44 _ (KeepS.top (by repeat (first | exact KeepS.refl _ | refine KeepS.push ?_ rfl)) (jval (by first | rfl | (simp [hc1, hc2, hc7, r1]; done) | simp_all))))
    ·
      have hc1' := hc1
      first | replace hc1' := of_decide_eq_true hc1' | replace hc1' := lt_f hc1' | replace hc1' := le_f hc1' | replace hc1' := dec_f hc1' | replace hc1' := nlt_t hc1' | replace hc1' := nle_t hc1' | replace hc1' := ndec_t hc1' | replace hc1' := ndec_f hc1' | replace hc1' := nn_t hc1' | replace hc1' := nn_f hc1' | skip
      simp only [putO]
      refine gl_gF rfl rfl hc1 rfl ?_
      refine gl_gF rfl rfl hc1 rfl ?_
      refine gl_gU rfl rfl rfl ?_
      refine gl_gU rfl rfl rfl ?_
      refine gl_gU rfl rfl rfl ?_
      refine gl_gF rfl rfl hc1 rfl ?_
      refine gl_v rfl (o_pickT hc1 rfl rfl) ?_
      refine gl_v rfl (o_move rfl) ?_
      refine gl_gF rfl rfl rfl rfl ?_
      refine gl_gF rfl rfl rfl rfl ?_
      refine gl_gF rfl rfl rfl rfl ?_
      refine gl_v rfl (o_pickT rfl rfl rfl) ?_
      refine gl_v rfl (o_move rfl) ?_
      refine gl_gF rfl rfl rfl rfl ?_
      refine gl_gF rfl rfl rfl rfl ?_
      refine gl_gF rfl rfl rfl rfl ?_
      refine gl_v rfl (o_pickT rfl rfl rfl) ?_
      refine gl_v rfl (o_move rfl) ?_
      refine gl_gF rfl rfl rfl rfl ?_
      refine gl_gF rfl rfl rfl rfl ?_
      refine gl_gF rfl rfl rfl rfl ?_
      refine gl_gF rfl rfl rfl rfl ?_
      refine gl_gU rfl rfl rfl ?_
      refine gl_gU rfl rfl rfl ?_
      refine gl_gU rfl rfl rfl ?_
      refine gl_gF rfl rfl rfl rfl ?_
      refine gl_v rfl (o_pickT rfl rfl rfl) ?_
      first | exact jk44 _ (KeepS.top (by repeat (first | exact KeepS.refl _ | refine KeepS.push ?_ rfl)) (jval (by first | rfl | (simp [hc1, r1]; done) | simp_all))) | exact gl_imp (To.sat (by repeat (first | exact .nil | exact .done .refl | (apply To.cons; · (repeat (first | exact .head | apply Sel.tail))) | exact .done (by repeat (first | exact .refl | apply Drop.skip))))) (jk44 _ (KeepS.top (by repeat (first | exact KeepS.refl _ | refine KeepS.push ?_ rfl)) (jval (by first | rfl | (simp [hc1, r1]; done) | simp_all))))
  refine gl_nil ?_
  refine ge_then ?_
  refine g_cond rfl (fun hc10 => ?_) (fun hc10 => ?_)
  ·
    first | replace hc10 := of_decide_eq_true hc10 | replace hc10 := lt_f hc10 | replace hc10 := le_f hc10 | replace hc10 := dec_f hc10 | replace hc10 := nlt_t hc10 | replace hc10 := nle_t hc10 | replace hc10 := ndec_t hc10 | replace hc10 := ndec_f hc10 | replace hc10 := nn_t hc10 | replace hc10 := nn_f hc10 | skip
    refine g_seq ?_
    refine g_region ?_
    refine gl_v rfl (o_assign rfl) ?_
    refine gl_nil ?_
    refine ge_then ?_
    refine g_ret ?_
    refine ge_then_ret ?_
    refine ret1 (.inl rfl) rfl rfl _ (⟨iv_eq (by unfold rowE; exact fr1 ((by assumption : r1 r = true))), rfl⟩) (To.sat (by repeat (first | exact .nil | exact .done .refl | (apply To.cons; · (repeat (first | exact .head | apply Sel.tail))) | exact .done (by repeat (first | exact .refl | apply Drop.skip)))))
  ·
    first | replace hc10 := of_decide_eq_true hc10 | replace hc10 := lt_f hc10 | replace hc10 := le_f hc10 | replace hc10 := dec_f hc10 | replace hc10 := nlt_t hc10 | replace hc10 := nle_t hc10 | replace hc10 := ndec_t hc10 | replace hc10 := ndec_f hc10 | replace hc10 := nn_t hc10 | replace hc10 := nn_f hc10 | skip
    refine g_skip ?_
    refine ge_then ?_
    refine g_seq ?_
    refine g_seq ?_
    refine g_region ?_
    refine gl_v rfl (o_assign rfl) ?_
    refine gl_nil ?_
    refine ge_then ?_
    refine g_block ?_
    refine g_loop (ι := Nat) (fun x => x ≤ i ∧ (s.rows.take x).any (fun o => sameR o r) = false) (fun x => [(6, I64 x), (5, ptr b5 0), (1, I64 i), (0, .slice s.ra s.rows.length s.rc)]) (fun _ => cel b5 47 (rowC r) :: A :: R) (fun x => i - x) 0 (⟨Nat.zero_le _, rfl⟩) (Keep.cons rfl (Keep.cons rfl (Keep.cons rfl (Keep.cons rfl (Keep.nil))))) (To.sat (by repeat (first | exact .nil | exact .done .refl | (apply To.cons; · (repeat (first | exact .head | apply Sel.tail))) | exact .done (by repeat (first | exact .refl | apply Drop.skip))))) ?_
    rintro x ⟨hx, hq⟩
    replace hx : x ≤ i := hx
    replace hq : (s.rows.take x).any (fun o => sameR o r) = false := hq
    refine g_seq ?_
    refine g_seq ?_
    refine g_region ?_
    refine gl_v rfl (o_move rfl) ?_
    refine gl_v rfl (o_move rfl) ?_
    refine gl_v rfl (o_lss rfl rfl) ?_
    refine gl_nil ?_
    refine ge_then ?_
    refine g_cond rfl (fun hc11 => ?_) (fun hc11 => ?_)
    ·
      first | replace hc11 := of_decide_eq_true hc11 | replace hc11 := lt_f hc11 | replace hc11 := le_f hc11 | replace hc11 := dec_f hc11 | replace hc11 := nlt_t hc11 | replace hc11 := nle_t hc11 | replace hc11 := ndec_t hc11 | replace hc11 := ndec_f hc11 | replace hc11 := nn_t hc11 | replace hc11 := nn_f hc11 | skip
      obtain ⟨t, ht⟩ : ∃ t, s.rows[x]? = some t := ⟨_, List.getElem?_eq_getElem (show x < s.rows.length by omega)⟩
      refine g_skip ?_
      refine ge_then ?_
      refine g_seq ?_
      refine g_block ?_
      refine g_seq ?_
      refine g_treeM [] [] (.loc 0 (.loc 1 (.loc 2 (.loc 3 (.loc 4 (.loc 5 (.loc 6 (.loc 7 (.loc 8 (.loc 9 (.loc 10 (.loc 11 (.loc 12 (.loc 13 (.loc 14 (.loc 15 (.loc 16 (.loc 17 (.loc 18 (.loc 19 (.loc 20 (.loc 21 (.loc 22 (.loc 23 (.loc 24 (.loc 25 (.loc 26 (.loc 27 .nil)))))))))))))))))))))))))))) [cel b5 47 (rowC r)] mixed (by kernel_rfl) ?_
      refine gt_v rfl .none rfl (o_move rfl) ?_
      refine gt_v rfl .none rfl (o_move rfl) ?_
      refine gt_v rfl .none rfl (o_idxS rfl rfl (show x < s.rows.length by omega)) ?_
      first | refine gt_v rfl .none rfl (o_fldS rfl) ?_ | refine gt_v rfl .none rfl (o_fld rfl) ?_
      refine gt_v rfl .none rfl (o_loadS rfl (flat_get rowC 4 rowC_len ht (show (rowC _)[0]? = some _ from rfl))) ?_
      first | refine gt_v rfl .none rfl (o_fldS rfl) ?_ | refine gt_v rfl .none rfl (o_fld rfl) ?_
      first | refine gt_v rfl .none rfl (o_load rfl rfl) ?_ | refine gt_v rfl .none rfl (o_loadS rfl rfl) ?_ | refine gt_v rfl .none rfl (o_loadC rfl) ?_
      refine gt_v rfl .none rfl (o_eqls rfl rfl) ?_
      refine gt_v rfl .none rfl (o_move rfl) ?_
      refine gt_join (d := 77) .nil (.bool (sameR t r)) ?_ (fun jk77 => ?_)
      rotate_left
      ·
        refine gt_split (j := 8) rfl rfl (fun hc12 => ?_) (fun hc12 => ?_)
        ·
          have hc12' := hc12
          first | replace hc12' := of_decide_eq_true hc12' | replace hc12' := lt_f hc12' | replace hc12' := le_f hc12' | replace hc12' := dec_f hc12' | replace hc12' := nlt_t hc12' | replace hc12' := nle_t hc12' | replace hc12' := ndec_t hc12' | replace hc12' := ndec_f hc12' | replace hc12' := nn_t hc12' | replace hc12' := nn_f hc12' | skip
          refine gt_v rfl (.yes rfl rfl hc12) rfl (o_move rfl) ?_
          refine gt_v rfl (.yes rfl rfl hc12) rfl (o_move rfl) ?_
          refine gt_v rfl (.yes rfl rfl hc12) rfl (o_idxS rfl rfl (show x < s.rows.length by omega)) ?_
          first | refine gt_v rfl (.yes rfl rfl hc12) rfl (o_fldS rfl) ?_ | refine gt_v rfl (.yes rfl rfl hc12) rfl (o_fld rfl) ?_
          refine gt_v rfl (.yes rfl rfl hc12) rfl (o_loadS rfl (flat_get rowC 4 rowC_len ht (show (rowC _)[1]? = some _ from rfl))) ?_
          first | refine gt_v rfl (.yes rfl rfl hc12) rfl (o_fldS rfl) ?_ | refine gt_v rfl (.yes rfl rfl hc12) rfl (o_fld rfl) ?_
          first | refine gt_v rfl (.yes rfl rfl hc12) rfl (o_load rfl rfl) ?_ | refine gt_v rfl (.yes rfl rfl hc12) rfl (o_loadS rfl rfl) ?_ | refine gt_v rfl (.yes rfl rfl hc12) rfl (o_loadC rfl) ?_
          refine gt_v rfl (.yes rfl rfl hc12) rfl (o_eqlb rfl rfl) ?_
          refine gt_v rfl .none rfl (o_pickT hc12 rfl rfl) ?_
          refine gt_v rfl .none rfl (o_move rfl) ?_
          refine gt_split (j := 18) rfl rfl (fun hc13 => ?_) (fun hc13 => ?_)
          ·
            have hc13' := hc13
            first | replace hc13' := of_decide_eq_true hc13' | replace hc13' := lt_f hc13' | replace hc13' := le_f hc13' | replace hc13' := dec_f hc13' | replace hc13' := nlt_t hc13' | replace hc13' := nle_t hc13' | replace hc13' := ndec_t hc13' | replace hc13' := ndec_f hc13' | replace hc13' := nn_t hc13' | replace hc13' := nn_f hc13' | skip
            refine gt_v rfl (.yes rfl rfl hc13) rfl (o_move rfl) ?_
            refine gt_v rfl (.yes rfl rfl hc13) rfl (o_move rfl) ?_
            refine gt_v rfl (.yes rfl rfl hc13) rfl (o_idxS rfl rfl (show x < s.rows.length by omega)) ?_
            first | refine gt_v rfl (.yes rfl rfl hc13) rfl (o_fldS rfl) ?_ | refine gt_v rfl (.yes rfl rfl hc13) rfl (o_fld rfl) ?_
            refine gt_v rfl (.yes rfl rfl hc13) rfl (o_loadS rfl (flat_get rowC 4 rowC_len ht (show (rowC _)[2]? = some _ from rfl))) ?_
            first | refine gt_v rfl (.yes rfl rfl hc13) rfl (o_fldS rfl) ?_ | refine gt_v rfl (.yes rfl rfl hc13) rfl (o_fld rfl) ?_
            first | refine gt_v rfl (.yes rfl rfl hc13) rfl (o_load rfl rfl) ?_ | refine gt_v rfl (.yes rfl rfl hc13) rfl (o_loadS rfl rfl) ?_ | refine gt_v rfl (.yes rfl rfl hc13) rfl (o_loadC rfl) ?_
            refine gt_v rfl (.yes rfl rfl hc13) rfl (o_eql rfl rfl) ?_
            refine gt_v rfl .none rfl (o_pickT hc13 rfl rfl) ?_
            first | exact jk77 _ (KeepS.top (by repeat (first | exact KeepS.refl _ | refine KeepS.push ?_ rfl)) (jval (by first | rfl | (simp [hc12, hc13, sameR]; done) | simp_all))) | exact gt_imp (To.sat (by repeat (first | exact .nil | exact .done .refl | (apply To.cons; · (repeat (first | exact .head | apply Sel.tail))) | exact .done (by repeat (first | exact .refl | apply Drop.skip))))) (jk77 _ (KeepS.top (by repeat (first | exact KeepS.refl _ | refine KeepS.push ?_ rfl)) (jval (by first | rfl | (simp [hc12, hc13, sameR]; done) | simp_all))))
          ·
            have hc13' := hc13
            first | replace hc13' := of_decide_eq_true hc13' | replace hc13' := lt_f hc13' | replace hc13' := le_f hc13' | replace hc13' := dec_f hc13' | replace hc13' := nlt_t hc13' | replace hc13' := nle_t hc13' | replace hc13' := ndec_t hc13' | replace hc13' := ndec_f hc13' | replace hc13' := nn_t hc13' | replace hc13' := nn_f hc13' | skip
            refine gt_skipL rfl (.no rfl rfl hc13) rfl ?_
            refine gt_skipL rfl (.no rfl rfl hc13) rfl ?_
            refine gt_skipL rfl (.no rfl rfl hc13) rfl ?_
            refine gt_skipL rfl (.no rfl rfl hc13) rfl ?_
            refine gt_skipL rfl (.no rfl rfl hc13) rfl ?_
            refine gt_skipL rfl (.no rfl rfl hc13) rfl ?_
            refine gt_skipL rfl (.no rfl rfl hc13) rfl ?_
            refine gt_skipL rfl (.no rfl rfl hc13) rfl ?_
            refine gt_v rfl .none rfl (o_pickF hc13 rfl rfl) ?_
            first | exact jk77 _ (KeepS.top (by repeat (first | exact KeepS.refl _ | refine KeepS.push ?_ rfl)) (jval (by first | rfl | (simp [hc12, hc13, sameR]; done) | simp_all))) | exact gt_imp (To.sat (by repeat (first | exact .nil | exact .done .refl | (apply To.cons; · (repeat (first | exact .head | apply Sel.tail))) | exact .done (by repeat (first | exact .refl | apply Drop.skip))))) (jk77 _ (KeepS.top (by repeat (first | exact KeepS.refl _ | refine KeepS.push ?_ rfl)) (jval (by first | rfl | (simp [hc12, hc13, sameR]; done) | simp_all))))
        ·
          have hc12' := hc12
          first | replace hc12' := of_decide_eq_true hc12' | replace hc12' := lt_f hc12' | replace hc12' := le_f hc12' | replace hc12' := dec_f hc12' | replace hc12' := nlt_t hc12' | replace hc12' := nle_t hc12' | replace hc12' := ndec_t hc12' | replace hc12' := ndec_f hc12' | replace hc12' := nn_t hc12' | replace hc12' := nn_f hc12' | skip
          refine gt_skipL rfl (.no rfl rfl hc12) rfl ?_
          refine gt_skipL rfl (.no rfl rfl hc12) rfl ?_
          refine gt_skipL rfl (.no rfl rfl hc12) rfl ?_
          refine gt_skipL rfl (.no rfl rfl hc12) rfl ?_
          refine gt_skipL rfl (.no rfl rfl hc12) rfl ?_
          refine gt_skipL rfl (.no rfl rfl hc12) rfl ?_
          refine gt_skipL rfl (.no rfl rfl hc12) rfl ?_
          refine gt_skipL rfl (.no rfl rfl hc12) rfl ?_
          refine gt_v rfl .none rfl (o_pickF hc12 rfl rfl) ?_
          refine gt_v rfl .none rfl (o_move rfl) ?_
          refine gt_skipL rfl (.no rfl rfl rfl) rfl ?_
          refine gt_skipL rfl (.no rfl rfl rfl) rfl ?_
          refine gt_skipL rfl (.no rfl rfl rfl) rfl ?_
          refine gt_skipL rfl (.no rfl rfl rfl) rfl ?_
          refine gt_skipL rfl (.no rfl rfl rfl) rfl ?_
          refine gt_skipL rfl (.no rfl rfl rfl) rfl ?_
          refine gt_skipL rfl (.no rfl rfl rfl) rfl ?_
          refine gt_skipL rfl (.no rfl rfl rfl) rfl ?_
          refine gt_v rfl .none rfl (o_pickF rfl rfl rfl) ?_
          first | exact jk77 _ (KeepS.top (by repeat (first | exact KeepS.refl _ | refine KeepS.push ?_ rfl)) (jval (by first | rfl | (simp [hc12, sameR]; done) | simp_all))) | exact gt_imp (To.sat (by repeat (first | exact .nil | exact .done .refl | (apply To.cons; · (repeat (first | exact .head | apply Sel.tail))) | exact .done (by repeat (first | exact .refl | apply Drop.skip))))) (jk77 _ (KeepS.top (by repeat (first | exact KeepS.refl _ | refine KeepS.push ?_ rfl)) (jval (by first | rfl | (simp [hc12, sameR]; done) | simp_all))))
      refine gt_keep (Keep.cons (t := 77) rfl (Keep.cons (t := 47) rfl (Keep.cons (t := 46) rfl (Keep.cons (t := 45) rfl (Keep.cons (t := 6) rfl (Keep.cons (t := 5) rfl (Keep.cons (t := 1) rfl (Keep.cons (t := 0) rfl (Keep.nil))))))))) ?_
      refine gt_nil ?_
      refine ge_then ?_
      refine g_cond rfl (fun hc14 => ?_) (fun hc14 => ?_)
      ·
        first | replace hc14 := of_decide_eq_true hc14 | replace hc14 := lt_f hc14 | replace hc14 := le_f hc14 | replace hc14 := dec_f hc14 | replace hc14 := nlt_t hc14 | replace hc14 := nle_t hc14 | replace hc14 := ndec_t hc14 | replace hc14 := ndec_f hc14 | replace hc14 := nn_t hc14 | replace hc14 := nn_f hc14 | skip
        refine g_seq ?_
        refine g_region ?_
        refine gl_v rfl (o_assign rfl) ?_
        refine gl_nil ?_
        refine ge_then ?_
        refine g_ret ?_
        refine ge_block_ret ?_
        refine ge_then_ret ?_
        refine ge_then_ret ?_
        refine ge_block_ret ?_
        refine ge_then_ret ?_
        refine ret1 (.inl rfl) rfl rfl _ (⟨iv_eq (by unfold rowE; exact fr0 ((by assumption : r1 r = false)) (fr1 (any_lt ht (by omega) (by assumption)))), rfl⟩) (To.sat (by repeat (first | exact .nil | exact .done .refl | (apply To.cons; · (repeat (first | exact .head | apply Sel.tail))) | exact .done (by repeat (first | exact .refl | apply Drop.skip)))))
      ·
        first | replace hc14 := of_decide_eq_true hc14 | replace hc14 := lt_f hc14 | replace hc14 := le_f hc14 | replace hc14 := dec_f hc14 | replace hc14 := nlt_t hc14 | replace hc14 := nle_t hc14 | replace hc14 := ndec_t hc14 | replace hc14 := ndec_f hc14 | replace hc14 := nn_t hc14 | replace hc14 := nn_f hc14 | skip
        refine g_skip ?_
        refine ge_block ?_
        refine ge_then ?_
        refine g_region ?_
        refine gl_v rfl (o_move rfl) ?_
        refine gl_v rfl (o_addR (((x + 1 : Nat) : Int)) (by rw [wr_i64 (by omega)]; omega) rfl rfl) ?_
        refine gl_v rfl (o_assign rfl) ?_
        refine gl_nil ?_
        refine ge_round (x + 1) ⟨show x + 1 ≤ i by omega, any_none ht hq (by assumption)⟩ (show i - (x + 1) < i - x by omega) (Keep.cons rfl (Keep.cons rfl (Keep.cons rfl (Keep.cons rfl (Keep.nil))))) (To.sat (by repeat (first | exact .nil | exact .done .refl | (apply To.cons; · (repeat (first | exact .head | apply Sel.tail))) | exact .done (by repeat (first | exact .refl | apply Drop.skip)))))
    ·
      first | replace hc11 := of_decide_eq_true hc11 | replace hc11 := lt_f hc11 | replace hc11 := le_f hc11 | replace hc11 := dec_f hc11 | replace hc11 := nlt_t hc11 | replace hc11 := nle_t hc11 | replace hc11 := ndec_t hc11 | replace hc11 := ndec_f hc11 | replace hc11 := nn_t hc11 | replace hc11 := nn_f hc11 | skip
      obtain rfl : x = i := by omega
      refine g_exit ?_
      refine ge_then_exit ?_
      refine ge_then_exit ?_
      refine ge_block_exit ?_
      refine ge_then ?_
      refine g_seq ?_
      refine g_seq ?_
      refine g_region ?_
      first | refine gl_v rfl (o_fldS rfl) ?_ | refine gl_v rfl (o_fld rfl) ?_
      first | refine gl_v rfl (o_load rfl rfl) ?_ | refine gl_v rfl (o_loadS rfl rfl) ?_ | refine gl_v rfl (o_loadC rfl) ?_
      first | refine gl_v rfl (o_len rfl) ?_ | refine gl_v rfl (o_lenL rfl) ?_
      refine gl_v rfl (o_gtr rfl rfl) ?_
      refine gl_nil ?_
      refine ge_then ?_
      refine g_cond rfl (fun hc15 => ?_) (fun hc15 => ?_)
      ·
        first | replace hc15 := of_decide_eq_true hc15 | replace hc15 := lt_f hc15 | replace hc15 := le_f hc15 | replace hc15 := dec_f hc15 | replace hc15 := nlt_t hc15 | replace hc15 := nle_t hc15 | replace hc15 := ndec_t hc15 | replace hc15 := ndec_f hc15 | replace hc15 := nn_t hc15 | replace hc15 := nn_f hc15 | skip
        refine g_seq ?_
        refine g_region ?_
        refine gl_v rfl (o_assign rfl) ?_
        refine gl_nil ?_
        refine ge_then ?_
        refine g_ret ?_
        refine ge_then_ret ?_
        refine ret1 (.inl rfl) rfl rfl _ (⟨iv_eq (by unfold rowE; exact fr0 ((by assumption : r1 r = false)) (fr0 (hq) (fr1 (decide_eq_true (by omega))))), rfl⟩) (To.sat (by repeat (first | exact .nil | exact .done .refl | (apply To.cons; · (repeat (first | exact .head | apply Sel.tail))) | exact .done (by repeat (first | exact .refl | apply Drop.skip)))))
      ·
        first | replace hc15 := of_decide_eq_true hc15 | replace hc15 := lt_f hc15 | replace hc15 := le_f hc15 | replace hc15 := dec_f hc15 | replace hc15 := nlt_t hc15 | replace hc15 := nle_t hc15 | replace hc15 := ndec_t hc15 | replace hc15 := ndec_f hc15 | replace hc15 := nn_t hc15 | replace hc15 := nn_f hc15 | skip
        refine g_skip ?_
        refine ge_then ?_
        refine g_seq ?_
        refine g_seq ?_
        refine g_region ?_
        refine gl_v rfl (o_assign rfl) ?_
        refine gl_nil ?_
        refine ge_then ?_
        refine g_block ?_
        refine g_loop (ι := Nat) (fun y => y ≤ r.effs.length ∧ (decide (1 < (r.effs.length : Int)) = true → (r.effs.take y).any (fun e => decide (e.do' = 4)) = false)) (fun y => [(7, I64 y), (5, ptr b5 0)]) (fun _ => cel b5 47 (rowC r) :: A :: R) (fun y => r.effs.length - y) 0 (⟨Nat.zero_le _, fun _ => rfl⟩) (Keep.cons rfl (Keep.cons rfl (Keep.nil))) (To.sat (by repeat (first | exact .nil | exact .done .refl | (apply To.cons; · (repeat (first | exact .head | apply Sel.tail))) | exact .done (by repeat (first | exact .refl | apply Drop.skip))))) ?_
        rintro y ⟨hy, hz⟩
        replace hy : y ≤ r.effs.length := hy
        replace hz : decide (1 < (r.effs.length : Int)) = true → (r.effs.take y).any (fun e => decide (e.do' = 4)) = false := hz
        refine g_seq ?_
        refine g_seq ?_
        refine g_region ?_
        refine gl_v rfl (o_move rfl) ?_
        first | refine gl_v rfl (o_fldS rfl) ?_ | refine gl_v rfl (o_fld rfl) ?_
        first | refine gl_v rfl (o_load rfl rfl) ?_ | refine gl_v rfl (o_loadS rfl rfl) ?_ | refine gl_v rfl (o_loadC rfl) ?_
        first | refine gl_v rfl (o_len rfl) ?_ | refine gl_v rfl (o_lenL rfl) ?_
        refine gl_v rfl (o_lss rfl rfl) ?_
        refine gl_nil ?_
        refine ge_then ?_
        refine g_cond rfl (fun hc16 => ?_) (fun hc16 => ?_)
        ·
          first | replace hc16 := of_decide_eq_true hc16 | replace hc16 := lt_f hc16 | replace hc16 := le_f hc16 | replace hc16 := dec_f hc16 | replace hc16 := nlt_t hc16 | replace hc16 := nle_t hc16 | replace hc16 := ndec_t hc16 | replace hc16 := ndec_f hc16 | replace hc16 := nn_t hc16 | replace hc16 := nn_f hc16 | skip
          obtain ⟨t, ht⟩ : ∃ t, r.effs[y]? = some t := ⟨_, List.getElem?_eq_getElem (show y < r.effs.length by omega)⟩
          refine g_skip ?_
          refine ge_then ?_
          refine g_seq ?_
          refine g_block ?_
          refine g_seq ?_
          refine g_region ?_
          first | refine gl_v rfl (o_fldS rfl) ?_ | refine gl_v rfl (o_fld rfl) ?_
          first | refine gl_v rfl (o_load rfl rfl) ?_ | refine gl_v rfl (o_loadS rfl rfl) ?_ | refine gl_v rfl (o_loadC rfl) ?_
          refine gl_v rfl (o_move rfl) ?_
          refine gl_v rfl (o_idxS rfl rfl (show y < r.effs.length by omega)) ?_
          first | refine gl_v rfl (o_fldS rfl) ?_ | refine gl_v rfl (o_fld rfl) ?_
          refine gl_v rfl (o_loadS rfl (flat_get effC 7 effC_len ht (show (effC _)[0]? = some _ from rfl))) ?_
          refine gl_v rfl (o_eql rfl rfl) ?_
          refine gl_v rfl (o_move rfl) ?_
          refine gl_g rfl rfl (fun hc17 => ?_) (fun hc17 => ?_) rfl
          ·
            have hc17' := hc17
            first | replace hc17' := of_decide_eq_true hc17' | replace hc17' := lt_f hc17' | replace hc17' := le_f hc17' | replace hc17' := dec_f hc17' | replace hc17' := nlt_t hc17' | replace hc17' := nle_t hc17' | replace hc17' := ndec_t hc17' | replace hc17' := ndec_f hc17' | replace hc17' := nn_t hc17' | replace hc17' := nn_f hc17' | skip
            first | refine gl_v rfl (o_fldS rfl) ?_ | refine gl_v rfl (o_fld rfl) ?_
            refine gl_gT rfl rfl hc17 ?_
            first | refine gl_v rfl (o_load rfl rfl) ?_ | refine gl_v rfl (o_loadS rfl rfl) ?_ | refine gl_v rfl (o_loadC rfl) ?_
            refine gl_gT rfl rfl hc17 ?_
            first | refine gl_v rfl (o_len rfl) ?_ | refine gl_v rfl (o_lenL rfl) ?_
            refine gl_gT rfl rfl hc17 ?_
            refine gl_v rfl (o_gtr rfl rfl) ?_
            refine gl_v rfl (o_pickT hc17 rfl rfl) ?_
            refine gl_nil ?_
            refine ge_then ?_
            refine g_cond rfl (fun hc18 => ?_) (fun hc18 => ?_)
            ·
              first | replace hc18 := of_decide_eq_true hc18 | replace hc18 := lt_f hc18 | replace hc18 := le_f hc18 | replace hc18 := dec_f hc18 | replace hc18 := nlt_t hc18 | replace hc18 := nle_t hc18 | replace hc18 := ndec_t hc18 | replace hc18 := ndec_f hc18 | replace hc18 := nn_t hc18 | replace hc18 := nn_f hc18 | skip
              refine g_seq ?_
              refine g_region ?_
              refine gl_v rfl (o_assign rfl) ?_
              refine gl_nil ?_
              refine ge_then ?_
              refine g_ret ?_
              refine ge_block_ret ?_
              refine ge_then_ret ?_
              refine ge_then_ret ?_
              refine ge_block_ret ?_
              refine ge_then_ret ?_
              refine ret1 (.inl rfl) rfl rfl _ (⟨iv_eq (by unfold rowE; exact fr0 ((by assumption : r1 r = false)) (fr0 (hq) (fr0 (decide_eq_false (by omega)) (fr1 (r4_t ht (by omega) (by omega)))))), rfl⟩) (To.sat (by repeat (first | exact .nil | exact .done .refl | (apply To.cons; · (repeat (first | exact .head | apply Sel.tail))) | exact .done (by repeat (first | exact .refl | apply Drop.skip)))))
            ·
              first | replace hc18 := of_decide_eq_true hc18 | replace hc18 := lt_f hc18 | replace hc18 := le_f hc18 | replace hc18 := dec_f hc18 | replace hc18 := nlt_t hc18 | replace hc18 := nle_t hc18 | replace hc18 := ndec_t hc18 | replace hc18 := ndec_f hc18 | replace hc18 := nn_t hc18 | replace hc18 := nn_f hc18 | skip
              refine g_skip ?_
              refine ge_block ?_
              refine ge_then ?_
              refine g_region ?_
              refine gl_v rfl (o_move rfl) ?_
              refine gl_v rfl (o_addR (((y + 1 : Nat) : Int)) (by rw [wr_i64 (by omega)]; omega) rfl rfl) ?_
              refine gl_v rfl (o_assign rfl) ?_
              refine gl_nil ?_
              refine ge_round (y + 1) ⟨show y + 1 ≤ r.effs.length by omega, fun h => any_none ht (hz h) (decide_eq_false (by have := of_decide_eq_true h; omega))⟩ (show r.effs.length - (y + 1) < r.effs.length - y by omega) (Keep.cons rfl (Keep.cons rfl (Keep.nil))) (To.sat (by repeat (first | exact .nil | exact .done .refl | (apply To.cons; · (repeat (first | exact .head | apply Sel.tail))) | exact .done (by repeat (first | exact .refl | apply Drop.skip)))))
          ·
            have hc17' := hc17
            first | replace hc17' := of_decide_eq_true hc17' | replace hc17' := lt_f hc17' | replace hc17' := le_f hc17' | replace hc17' := dec_f hc17' | replace hc17' := nlt_t hc17' | replace hc17' := nle_t hc17' | replace hc17' := ndec_t hc17' | replace hc17' := ndec_f hc17' | replace hc17' := nn_t hc17' | replace hc17' := nn_f hc17' | skip
            simp only [putO]
            refine gl_gF rfl rfl hc17 rfl ?_
            refine gl_gF rfl rfl hc17 rfl ?_
            refine gl_gF rfl rfl hc17 rfl ?_
            refine gl_v rfl (o_pickF hc17 rfl rfl) ?_
            refine gl_nil ?_
            refine ge_then ?_
            refine g_cond_false rfl ?_
            refine g_skip ?_
            refine ge_block ?_
            refine ge_then ?_
            refine g_region ?_
            refine gl_v rfl (o_move rfl) ?_
            refine gl_v rfl (o_addR (((y + 1 : Nat) : Int)) (by rw [wr_i64 (by omega)]; omega) rfl rfl) ?_
            refine gl_v rfl (o_assign rfl) ?_
            refine gl_nil ?_
            refine ge_round (y + 1) ⟨show y + 1 ≤ r.effs.length by omega, fun h => any_none ht (hz h) (decide_eq_false (by have := of_decide_eq_true h; omega))⟩ (show r.effs.length - (y + 1) < r.effs.length - y by omega) (Keep.cons rfl (Keep.cons rfl (Keep.nil))) (To.sat (by repeat (first | exact .nil | exact .done .refl | (apply To.cons; · (repeat (first | exact .head | apply Sel.tail))) | exact .done (by repeat (first | exact .refl | apply Drop.skip)))))
        ·
          first | replace hc16 := of_decide_eq_true hc16 | replace hc16 := lt_f hc16 | replace hc16 := le_f hc16 | replace hc16 := dec_f hc16 | replace hc16 := nlt_t hc16 | replace hc16 := nle_t hc16 | replace hc16 := ndec_t hc16 | replace hc16 := ndec_f hc16 | replace hc16 := nn_t hc16 | replace hc16 := nn_f hc16 | skip
          obtain rfl : y = r.effs.length := by omega
          refine g_exit ?_
          refine ge_then_exit ?_
          refine ge_then_exit ?_
          refine ge_block_exit ?_
          refine ge_then ?_
          refine g_seq ?_
          refine g_region ?_
          refine gl_v rfl (o_assign rfl) ?_
          refine gl_nil ?_
          refine ge_then ?_
          refine g_ret ?_
          refine ret1 (.inl rfl) rfl rfl _ (⟨iv_eq (by unfold rowE; exact fr0 ((by assumption : r1 r = false)) (fr0 (hq) (fr0 (decide_eq_false (by omega)) (fr0 (r4_f hz) (rfl))))), rfl⟩) (To.sat (by repeat (first | exact .nil | exact .done .refl | (apply To.cons; · (repeat (first | exact .head | apply Sel.tail))) | exact .done (by repeat (first | exact .refl | apply Drop.skip)))))

set_option maxRecDepth 8000 in
set_option maxHeartbeats 1000000 in
theorem rstate_spec (pa : Option Addr) (pc : Nat) (KK : List Knd) (A : Assn) (hA : ∀ h, A h → PrgOk h pa pc KK) (hb : ∃ h, PrgOk h pa pc KK) (k : Knd) (hk : k ∈ KK) (i : Nat) (s : Sta) (hsi : k.states[i]? = some s) : FnS Tryd.prog 20 [.agg (kndC k).toArray, I64 i] [A] (fun u Bs => u = I64 (staE k.states i s) ∧ Bs = [A]) := by
  refine fn_body Tryd.func20 rfl rfl rfl ?_
  intro W0 R
  simp only [List.zipIdx_cons, List.zipIdx_nil, List.map_cons, List.map_nil, Nat.zero_add, Nat.reduceAdd, List.cons_append, List.nil_append]
  obtain ⟨h0, hb0⟩ := id hb
  have hKn := hb0.len; have hKc := hb0.rd.2
  haveI rK : RdA (.slice pa KK.length pc) A KK.length (KK.flatMap kndC) := ⟨fun h => (hA _ h).rd.1⟩
  have hkO := hb0.kinds k hk
  have hsc := hkO.rds.2; have hcc := hkO.rdc.2
  have hSn := hkO.lens; have hCn := hkO.lenc; have hkn := hkO.name
  haveI rS : RdA (.slice k.sa k.states.length k.sc) A k.states.length (k.states.flatMap staC) := ⟨fun h => ((hA _ h).kinds k hk).rds.1⟩
  haveI rC : RdA (.slice k.ca k.cases.length k.cc) A k.cases.length (k.cases.flatMap casC) := ⟨fun h => ((hA _ h).kinds k hk).rdc.1⟩
  have hs := List.mem_of_getElem? hsi
  have hi := (List.getElem?_eq_some_iff.1 hsi).1
  have hsO := hkO.states s hs
  have hrc := hsO.rd.2
  have hRn := hsO.len; have hsn := hsO.name
  haveI rR : RdA (.slice s.ra s.rows.length s.rc) A s.rows.length (s.rows.flatMap rowC) := ⟨fun h => (((hA _ h).kinds k hk).states s hs).rd.1⟩
  unfold ok63 at *
  
  refine g_seq ?_
  refine g_region ?_
  refine gl_n rfl (o_boxA rfl) ?_
  rintro _ _ ⟨b2, rfl, rfl⟩
  refine gl_v rfl (o_assign rfl) ?_
  refine gl_nil ?_
  refine ge_then ?_
  refine g_seq ?_
  refine g_seq ?_
  refine g_region ?_
  first | refine gl_v rfl (o_fldS rfl) ?_ | refine gl_v rfl (o_fld rfl) ?_
  first | refine gl_v rfl (o_load rfl rfl) ?_ | refine gl_v rfl (o_loadS rfl rfl) ?_ | refine gl_v rfl (o_loadC rfl) ?_
  refine gl_v rfl (o_move rfl) ?_
  refine gl_v rfl (o_idxS rfl rfl (show i < k.states.length by omega)) ?_
  first | refine gl_v rfl (o_fldS rfl) ?_ | refine gl_v rfl (o_fld rfl) ?_
  refine gl_v rfl (o_loadS rfl (flat_get staC 2 staC_len hsi (show (staC _)[0]? = some _ from rfl))) ?_
  refine gl_c rfl (o_call rfl (RName_spec (s.name) (by omega)) (by repeat (first | exact .nil | (apply Part.cons; · (repeat (first | exact .head | apply Sel.tail)))))) ?_
  rintro _ R ⟨_, ⟨rfl, rfl⟩, rfl⟩
  try simp only [List.cons_append, List.nil_append]
  refine gl_v rfl (o_not rfl) ?_
  refine gl_nil ?_
  refine ge_then ?_
  refine g_cond rfl (fun hc1 => ?_) (fun hc1 => ?_)
  ·
    first | replace hc1 := of_decide_eq_true hc1 | replace hc1 := lt_f hc1 | replace hc1 := le_f hc1 | replace hc1 := dec_f hc1 | replace hc1 := nlt_t hc1 | replace hc1 := nle_t hc1 | replace hc1 := ndec_t hc1 | replace hc1 := ndec_f hc1 | replace hc1 := nn_t hc1 | replace hc1 := nn_f hc1 | skip
    refine g_seq ?_
    refine g_region ?_
    refine gl_v rfl (o_assign rfl) ?_
    refine gl_nil ?_
    refine ge_then ?_
    refine g_ret ?_
    refine ge_then_ret ?_
    refine ret1 (.inl rfl) rfl rfl _ (⟨iv_eq (by unfold staE; exact fr1 (by simp_all)), rfl⟩) (To.sat (by repeat (first | exact .nil | exact .done .refl | (apply To.cons; · (repeat (first | exact .head | apply Sel.tail))) | exact .done (by repeat (first | exact .refl | apply Drop.skip)))))
  ·
    first | replace hc1 := of_decide_eq_true hc1 | replace hc1 := lt_f hc1 | replace hc1 := le_f hc1 | replace hc1 := dec_f hc1 | replace hc1 := nlt_t hc1 | replace hc1 := nle_t hc1 | replace hc1 := ndec_t hc1 | replace hc1 := ndec_f hc1 | replace hc1 := nn_t hc1 | replace hc1 := nn_f hc1 | skip
    refine g_skip ?_
    refine ge_then ?_
    refine g_seq ?_
    refine g_seq ?_
    refine g_region ?_
    refine gl_v rfl (o_assign rfl) ?_
    refine gl_nil ?_
    refine ge_then ?_
    refine g_block ?_
    refine g_loop (ι := Nat) (fun x => x ≤ i ∧ (k.states.take x).any (fun o => decide (o.name = s.name)) = false) (fun x => [(5, I64 x), (2, ptr b2 0), (1, I64 i)]) (fun _ => cel b2 41 (kndC k) :: A :: R) (fun x => i - x) 0 (⟨Nat.zero_le _, rfl⟩) (Keep.cons rfl (Keep.cons rfl (Keep.cons rfl (Keep.nil)))) (To.sat (by repeat (first | exact .nil | exact .done .refl | (apply To.cons; · (repeat (first | exact .head | apply Sel.tail))) | exact .done (by repeat (first | exact .refl | apply Drop.skip))))) ?_
    rintro x ⟨hx, hq⟩
    replace hx : x ≤ i := hx
    replace hq : (k.states.take x).any (fun o => decide (o.name = s.name)) = false := hq
    refine g_seq ?_
    refine g_seq ?_
    refine g_region ?_
    refine gl_v rfl (o_move rfl) ?_
    refine gl_v rfl (o_move rfl) ?_
    refine gl_v rfl (o_lss rfl rfl) ?_
    refine gl_nil ?_
    refine ge_then ?_
    refine g_cond rfl (fun hc2 => ?_) (fun hc2 => ?_)
    ·
      first | replace hc2 := of_decide_eq_true hc2 | replace hc2 := lt_f hc2 | replace hc2 := le_f hc2 | replace hc2 := dec_f hc2 | replace hc2 := nlt_t hc2 | replace hc2 := nle_t hc2 | replace hc2 := ndec_t hc2 | replace hc2 := ndec_f hc2 | replace hc2 := nn_t hc2 | replace hc2 := nn_f hc2 | skip
      obtain ⟨t, ht⟩ : ∃ t, k.states[x]? = some t := ⟨_, List.getElem?_eq_getElem (show x < k.states.length by omega)⟩
      refine g_skip ?_
      refine ge_then ?_
      refine g_seq ?_
      refine g_block ?_
      refine g_seq ?_
      refine g_draw [] [] [(0, .loc), (1, .loc), (2, .loc), (3, .loc), (4, .loc), (5, .loc), (6, .loc), (7, .loc), (8, .loc), (9, .loc), (10, .loc), (11, .loc), (12, .loc)] [cel b2 41 (kndC k)] mixed (by kernel_rfl) ?_
      first | refine go_v rfl .none rfl (o_fldS rfl) ?_ | refine go_v rfl .none rfl (o_fld rfl) ?_
      first | refine go_v rfl .none rfl (o_load rfl rfl) ?_ | refine go_v rfl .none rfl (o_loadS rfl rfl) ?_ | refine go_v rfl .none rfl (o_loadC rfl) ?_
      refine go_v rfl .none rfl (o_move rfl) ?_
      refine go_v rfl .none rfl (o_idxS rfl rfl (show x < k.states.length by omega)) ?_
      first | refine go_v rfl .none rfl (o_fldS rfl) ?_ | refine go_v rfl .none rfl (o_fld rfl) ?_
      refine go_v rfl .none rfl (o_loadS rfl (flat_get staC 2 staC_len ht (show (staC _)[0]? = some _ from rfl))) ?_
      first | refine go_v rfl .none rfl (o_fldS rfl) ?_ | refine go_v rfl .none rfl (o_fld rfl) ?_
      first | refine go_v rfl .none rfl (o_load rfl rfl) ?_ | refine go_v rfl .none rfl (o_loadS rfl rfl) ?_ | refine go_v rfl .none rfl (o_loadC rfl) ?_
      refine go_v rfl .none rfl (o_move rfl) ?_
      refine go_v rfl .none rfl (o_idxS rfl rfl (show i < k.states.length by omega)) ?_
      first | refine go_v rfl .none rfl (o_fldS rfl) ?_ | refine go_v rfl .none rfl (o_fld rfl) ?_
      refine go_v rfl .none rfl (o_loadS rfl (flat_get staC 2 staC_len hsi (show (staC _)[0]? = some _ from rfl))) ?_
      refine go_v rfl .none rfl (o_eqls rfl rfl) ?_
      refine go_nil ?_
      refine ge_then ?_
      refine g_cond rfl (fun hc3 => ?_) (fun hc3 => ?_)
      ·
        first | replace hc3 := of_decide_eq_true hc3 | replace hc3 := lt_f hc3 | replace hc3 := le_f hc3 | replace hc3 := dec_f hc3 | replace hc3 := nlt_t hc3 | replace hc3 := nle_t hc3 | replace hc3 := ndec_t hc3 | replace hc3 := ndec_f hc3 | replace hc3 := nn_t hc3 | replace hc3 := nn_f hc3 | skip
        refine g_seq ?_
        refine g_region ?_
        refine gl_v rfl (o_assign rfl) ?_
        refine gl_nil ?_
        refine ge_then ?_
        refine g_ret ?_
        refine ge_block_ret ?_
        refine ge_then_ret ?_
        refine ge_then_ret ?_
        refine ge_block_ret ?_
        refine ge_then_ret ?_
        refine ret1 (.inl rfl) rfl rfl _ (⟨iv_eq (by unfold staE; exact fr0 (by simp_all) (fr1 (any_lt ht (by omega) (decide_eq_true (by assumption))))), rfl⟩) (To.sat (by repeat (first | exact .nil | exact .done .refl | (apply To.cons; · (repeat (first | exact .head | apply Sel.tail))) | exact .done (by repeat (first | exact .refl | apply Drop.skip)))))
      ·
        first | replace hc3 := of_decide_eq_true hc3 | replace hc3 := lt_f hc3 | replace hc3 := le_f hc3 | replace hc3 := dec_f hc3 | replace hc3 := nlt_t hc3 | replace hc3 := nle_t hc3 | replace hc3 := ndec_t hc3 | replace hc3 := ndec_f hc3 | replace hc3 := nn_t hc3 | replace hc3 := nn_f hc3 | skip
        refine g_skip ?_
        refine ge_block ?_
        refine ge_then ?_
        refine g_region ?_
        refine gl_v rfl (o_move rfl) ?_
        refine gl_v rfl (o_addR (((x + 1 : Nat) : Int)) (by rw [wr_i64 (by omega)]; omega) rfl rfl) ?_
        refine gl_v rfl (o_assign rfl) ?_
        refine gl_nil ?_
        refine ge_round (x + 1) ⟨show x + 1 ≤ i by omega, any_none ht hq (decide_eq_false (by assumption))⟩ (show i - (x + 1) < i - x by omega) (Keep.cons rfl (Keep.cons rfl (Keep.cons rfl (Keep.nil)))) (To.sat (by repeat (first | exact .nil | exact .done .refl | (apply To.cons; · (repeat (first | exact .head | apply Sel.tail))) | exact .done (by repeat (first | exact .refl | apply Drop.skip)))))
    ·
      first | replace hc2 := of_decide_eq_true hc2 | replace hc2 := lt_f hc2 | replace hc2 := le_f hc2 | replace hc2 := dec_f hc2 | replace hc2 := nlt_t hc2 | replace hc2 := nle_t hc2 | replace hc2 := ndec_t hc2 | replace hc2 := ndec_f hc2 | replace hc2 := nn_t hc2 | replace hc2 := nn_f hc2 | skip
      obtain rfl : x = i := by omega
      refine g_exit ?_
      refine ge_then_exit ?_
      refine ge_then_exit ?_
      refine ge_block_exit ?_
      refine ge_then ?_
      refine g_seq ?_
      refine g_seq ?_
      refine g_region ?_
      first | refine gl_v rfl (o_fldS rfl) ?_ | refine gl_v rfl (o_fld rfl) ?_
      first | refine gl_v rfl (o_load rfl rfl) ?_ | refine gl_v rfl (o_loadS rfl rfl) ?_ | refine gl_v rfl (o_loadC rfl) ?_
      refine gl_v rfl (o_move rfl) ?_
      refine gl_v rfl (o_idxS rfl rfl (show x < k.states.length by omega)) ?_
      first | refine gl_v rfl (o_fldS rfl) ?_ | refine gl_v rfl (o_fld rfl) ?_
      refine gl_v rfl (o_loadS rfl (flat_get staC 2 staC_len hsi (show (staC _)[1]? = some _ from rfl))) ?_
      first | refine gl_v rfl (o_len rfl) ?_ | refine gl_v rfl (o_lenL rfl) ?_
      refine gl_v rfl (o_gtr rfl rfl) ?_
      refine gl_nil ?_
      refine ge_then ?_
      refine g_cond rfl (fun hc4 => ?_) (fun hc4 => ?_)
      ·
        first | replace hc4 := of_decide_eq_true hc4 | replace hc4 := lt_f hc4 | replace hc4 := le_f hc4 | replace hc4 := dec_f hc4 | replace hc4 := nlt_t hc4 | replace hc4 := nle_t hc4 | replace hc4 := ndec_t hc4 | replace hc4 := ndec_f hc4 | replace hc4 := nn_t hc4 | replace hc4 := nn_f hc4 | skip
        refine g_seq ?_
        refine g_region ?_
        refine gl_v rfl (o_assign rfl) ?_
        refine gl_nil ?_
        refine ge_then ?_
        refine g_ret ?_
        refine ge_then_ret ?_
        refine ret1 (.inl rfl) rfl rfl _ (⟨iv_eq (by unfold staE; exact fr0 (by simp_all) (fr0 (hq) (fr1 (decide_eq_true (by omega))))), rfl⟩) (To.sat (by repeat (first | exact .nil | exact .done .refl | (apply To.cons; · (repeat (first | exact .head | apply Sel.tail))) | exact .done (by repeat (first | exact .refl | apply Drop.skip)))))
      ·
        first | replace hc4 := of_decide_eq_true hc4 | replace hc4 := lt_f hc4 | replace hc4 := le_f hc4 | replace hc4 := dec_f hc4 | replace hc4 := nlt_t hc4 | replace hc4 := nle_t hc4 | replace hc4 := ndec_t hc4 | replace hc4 := ndec_f hc4 | replace hc4 := nn_t hc4 | replace hc4 := nn_f hc4 | skip
        refine g_skip ?_
        refine ge_then ?_
        refine g_seq ?_
        refine g_region ?_
        refine gl_v rfl (o_assign rfl) ?_
        refine gl_nil ?_
        refine ge_then ?_
        refine g_ret ?_
        refine ret1 (.inl rfl) rfl rfl _ (⟨iv_eq (by unfold staE; exact fr0 (by simp_all) (fr0 (hq) (fr0 (decide_eq_false (by omega)) (rfl)))), rfl⟩) (To.sat (by repeat (first | exact .nil | exact .done .refl | (apply To.cons; · (repeat (first | exact .head | apply Sel.tail))) | exact .done (by repeat (first | exact .refl | apply Drop.skip)))))

set_option maxRecDepth 8000 in
set_option maxHeartbeats 4000000 in
theorem rkind_spec (pa : Option Addr) (pc : Nat) (KK : List Knd) (A : Assn) (hA : ∀ h, A h → PrgOk h pa pc KK) (hb : ∃ h, PrgOk h pa pc KK) (i : Nat) (k : Knd) (hki : KK[i]? = some k) : FnS Tryd.prog 19 [.agg #[.slice pa KK.length pc], I64 i] [A] (fun u Bs => u = I64 (kndE KK i k) ∧ Bs = [A]) := by
  refine fn_body Tryd.func19 rfl rfl rfl ?_
  intro W0 R
  simp only [List.zipIdx_cons, List.zipIdx_nil, List.map_cons, List.map_nil, Nat.zero_add, Nat.reduceAdd, List.cons_append, List.nil_append]
  obtain ⟨h0, hb0⟩ := id hb
  have hKn := hb0.len; have hKc := hb0.rd.2
  haveI rK : RdA (.slice pa KK.length pc) A KK.length (KK.flatMap kndC) := ⟨fun h => (hA _ h).rd.1⟩
  have hk := List.mem_of_getElem? hki
  have hi := (List.getElem?_eq_some_iff.1 hki).1
  have hkO := hb0.kinds k hk
  have hsc := hkO.rds.2; have hcc := hkO.rdc.2
  have hSn := hkO.lens; have hCn := hkO.lenc; have hkn := hkO.name
  haveI rS : RdA (.slice k.sa k.states.length k.sc) A k.states.length (k.states.flatMap staC) := ⟨fun h => ((hA _ h).kinds k hk).rds.1⟩
  haveI rC : RdA (.slice k.ca k.cases.length k.cc) A k.cases.length (k.cases.flatMap casC) := ⟨fun h => ((hA _ h).kinds k hk).rdc.1⟩
  unfold ok63 at *
  
  refine g_seq ?_
  refine g_region ?_
  refine gl_n rfl (o_boxA rfl) ?_
  rintro _ _ ⟨b2, rfl, rfl⟩
  refine gl_v rfl (o_assign rfl) ?_
  refine gl_nil ?_
  refine ge_then ?_
  refine g_seq ?_
  refine g_region ?_
  first | refine gl_v rfl (o_fldS rfl) ?_ | refine gl_v rfl (o_fld rfl) ?_
  first | refine gl_v rfl (o_load rfl rfl) ?_ | refine gl_v rfl (o_loadS rfl rfl) ?_ | refine gl_v rfl (o_loadC rfl) ?_
  refine gl_v rfl (o_move rfl) ?_
  refine gl_v rfl (o_idxS rfl rfl (show i < KK.length by omega)) ?_
  refine gl_v rfl (o_loadSA rfl (flat_take kndC 5 kndC_len hki) rfl) ?_
  refine gl_n rfl (o_alloc) ?_
  rintro _ _ ⟨b5, rfl, rfl⟩
  first | refine gl_u (o_storeSA rfl rfl rfl rfl (by simp; omega) (by simp)) ?_ | refine gl_u (o_storeA rfl rfl rfl rfl rfl) ?_
  refine gl_nil ?_
  refine ge_then ?_
  refine g_seq ?_
  refine g_seq ?_
  refine g_region ?_
  first | refine gl_v rfl (o_fldS rfl) ?_ | refine gl_v rfl (o_fld rfl) ?_
  first | refine gl_v rfl (o_load rfl rfl) ?_ | refine gl_v rfl (o_loadS rfl rfl) ?_ | refine gl_v rfl (o_loadC rfl) ?_
  refine gl_c rfl (o_call rfl (RName_spec (k.name) (by omega)) (by repeat (first | exact .nil | (apply Part.cons; · (repeat (first | exact .head | apply Sel.tail)))))) ?_
  rintro _ R ⟨_, ⟨rfl, rfl⟩, rfl⟩
  try simp only [List.cons_append, List.nil_append]
  refine gl_v rfl (o_not rfl) ?_
  refine gl_v rfl (o_move rfl) ?_
  refine gl_join (d := 38) 19 (.bool (k1 k)) ?_ (fun jk38 => ?_)
  rotate_left
  ·
    refine gl_g rfl rfl (fun hc1 => ?_) (fun hc1 => ?_) rfl
    ·
      have hc1' := hc1
      first | replace hc1' := of_decide_eq_true hc1' | replace hc1' := lt_f hc1' | replace hc1' := le_f hc1' | replace hc1' := dec_f hc1' | replace hc1' := nlt_t hc1' | replace hc1' := nle_t hc1' | replace hc1' := ndec_t hc1' | replace hc1' := ndec_f hc1' | replace hc1' := nn_t hc1' | replace hc1' := nn_f hc1' | skip
      first | refine gl_v rfl (o_fldS rfl) ?_ | refine gl_v rfl (o_fld rfl) ?_
      refine gl_gT rfl rfl hc1 ?_
      first | refine gl_v rfl (o_load rfl rfl) ?_ | refine gl_v rfl (o_loadS rfl rfl) ?_ | refine gl_v rfl (o_loadC rfl) ?_
      refine gl_gT rfl rfl hc1 ?_
      refine gl_v rfl (o_lss rfl rfl) ?_
      refine gl_v rfl (o_pickF hc1 rfl rfl) ?_
      refine gl_v rfl (o_move rfl) ?_
      refine gl_g rfl rfl (fun hc2 => ?_) (fun hc2 => ?_) rfl
      ·
        have hc2' := hc2
        first | replace hc2' := of_decide_eq_true hc2' | replace hc2' := lt_f hc2' | replace hc2' := le_f hc2' | replace hc2' := dec_f hc2' | replace hc2' := nlt_t hc2' | replace hc2' := nle_t hc2' | replace hc2' := ndec_t hc2' | replace hc2' := ndec_f hc2' | replace hc2' := nn_t hc2' | replace hc2' := nn_f hc2' | skip
        first | refine gl_v rfl (o_fldS rfl) ?_ | refine gl_v rfl (o_fld rfl) ?_
        refine gl_gT rfl rfl hc2 ?_
        first | refine gl_v rfl (o_load rfl rfl) ?_ | refine gl_v rfl (o_loadS rfl rfl) ?_ | refine gl_v rfl (o_loadC rfl) ?_
        refine gl_gT rfl rfl hc2 ?_
        refine gl_v rfl (o_gtr rfl rfl) ?_
        refine gl_v rfl (o_pickF hc2 rfl rfl) ?_
        refine gl_v rfl (o_move rfl) ?_
        refine gl_g rfl rfl (fun hc3 => ?_) (fun hc3 => ?_) rfl
        ·
          have hc3' := hc3
          first | replace hc3' := of_decide_eq_true hc3' | replace hc3' := lt_f hc3' | replace hc3' := le_f hc3' | replace hc3' := dec_f hc3' | replace hc3' := nlt_t hc3' | replace hc3' := nle_t hc3' | replace hc3' := ndec_t hc3' | replace hc3' := ndec_f hc3' | replace hc3' := nn_t hc3' | replace hc3' := nn_f hc3' | skip
          first | refine gl_v rfl (o_fldS rfl) ?_ | refine gl_v rfl (o_fld rfl) ?_
          refine gl_gT rfl rfl hc3 ?_
          first | refine gl_v rfl (o_load rfl rfl) ?_ | refine gl_v rfl (o_loadS rfl rfl) ?_ | refine gl_v rfl (o_loadC rfl) ?_
          refine gl_gT rfl rfl hc3 ?_
          refine gl_v rfl (o_lss rfl rfl) ?_
          refine gl_v rfl (o_pickF hc3 rfl rfl) ?_
          refine gl_v rfl (o_move rfl) ?_
          refine gl_g rfl rfl (fun hc4 => ?_) (fun hc4 => ?_) rfl
          ·
            have hc4' := hc4
            first | replace hc4' := of_decide_eq_true hc4' | replace hc4' := lt_f hc4' | replace hc4' := le_f hc4' | replace hc4' := dec_f hc4' | replace hc4' := nlt_t hc4' | replace hc4' := nle_t hc4' | replace hc4' := ndec_t hc4' | replace hc4' := ndec_f hc4' | replace hc4' := nn_t hc4' | replace hc4' := nn_f hc4' | skip
            first | refine gl_v rfl (o_fldS rfl) ?_ | refine gl_v rfl (o_fld rfl) ?_
            refine gl_gT rfl rfl hc4 ?_
            first | refine gl_v rfl (o_load rfl rfl) ?_ | refine gl_v rfl (o_loadS rfl rfl) ?_ | refine gl_v rfl (o_loadC rfl) ?_
            refine gl_gT rfl rfl hc4 ?_
            refine gl_v rfl (o_gtr rfl rfl) ?_
            refine gl_v rfl (o_pickF hc4 rfl rfl) ?_
            first | exact jk38 _ (KeepS.top (by repeat (first | exact KeepS.refl _ | refine KeepS.push ?_ rfl)) (jval (by first | rfl | (simp [hc1, hc2, hc3, hc4, k1]; done) | simp_all))) | exact gl_imp (To.sat (by repeat (first | exact .nil | exact .done .refl | (apply To.cons; · (repeat (first | exact .head | apply Sel.tail))) | exact .done (by repeat (first | exact .refl | apply Drop.skip))))) (jk38 _ (KeepS.top (by repeat (first | exact KeepS.refl _ | refine KeepS.push ?_ rfl)) (jval (by first | rfl | (simp [hc1, hc2, hc3, hc4, k1]; done) | simp_all))))
          ·
            have hc4' := hc4
            first | replace hc4' := of_decide_eq_true hc4' | replace hc4' := lt_f hc4' | replace hc4' := le_f hc4' | replace hc4' := dec_f hc4' | replace hc4' := nlt_t hc4' | replace hc4' := nle_t hc4' | replace hc4' := ndec_t hc4' | replace hc4' := ndec_f hc4' | replace hc4' := nn_t hc4' | replace hc4' := nn_f hc4' | skip
            simp only [putO]
            refine gl_gF rfl rfl hc4 rfl ?_
            refine gl_gF rfl rfl hc4 rfl ?_
            refine gl_v rfl (o_pickT hc4 rfl rfl) ?_
            first | exact jk38 _ (KeepS.top (by repeat (first | exact KeepS.refl _ | refine KeepS.push ?_ rfl)) (jval (by first | rfl | (simp [hc1, hc2, hc3, hc4, k1]; done) | simp_all))) | exact gl_imp (To.sat (by repeat (first | exact .nil | exact .done .refl | (apply To.cons; · (repeat (first | exact .head | apply Sel.tail))) | exact .done (by repeat (first | exact .refl | apply Drop.skip))))) (jk38 _ (KeepS.top (by repeat (first | exact KeepS.refl _ | refine KeepS.push ?_ rfl)) (jval (by first | rfl | (simp [hc1, hc2, hc3, hc4, k1]; done) | simp_all))))
        ·
          have hc3' := hc3
          first | replace hc3' := of_decide_eq_true hc3' | replace hc3' := lt_f hc3' | replace hc3' := le_f hc3' | replace hc3' := dec_f hc3' | replace hc3' := nlt_t hc3' | replace hc3' := nle_t hc3' | replace hc3' := ndec_t hc3' | replace hc3' := ndec_f hc3' | replace hc3' := nn_t hc3' | replace hc3' := nn_f hc3' | skip
          simp only [putO]
          refine gl_gF rfl rfl hc3 rfl ?_
          refine gl_gF rfl rfl hc3 rfl ?_
          refine gl_v rfl (o_pickT hc3 rfl rfl) ?_
          refine gl_v rfl (o_move rfl) ?_
          refine gl_gF rfl rfl rfl rfl ?_
          refine gl_gF rfl rfl rfl rfl ?_
          refine gl_gF rfl rfl rfl rfl ?_
          refine gl_v rfl (o_pickT rfl rfl rfl) ?_
          first | exact jk38 _ (KeepS.top (by repeat (first | exact KeepS.refl _ | refine KeepS.push ?_ rfl)) (jval (by first | rfl | (simp [hc1, hc2, hc3, k1]; done) | simp_all))) | exact gl_imp (To.sat (by repeat (first | exact .nil | exact .done .refl | (apply To.cons; · (repeat (first | exact .head | apply Sel.tail))) | exact .done (by repeat (first | exact .refl | apply Drop.skip))))) (jk38 _ (KeepS.top (by repeat (first | exact KeepS.refl _ | refine KeepS.push ?_ rfl)) (jval (by first | rfl | (simp [hc1, hc2, hc3, k1]; done) | simp_all))))
      ·
        have hc2' := hc2
        first | replace hc2' := of_decide_eq_true hc2' | replace hc2' := lt_f hc2' | replace hc2' := le_f hc2' | replace hc2' := dec_f hc2' | replace hc2' := nlt_t hc2' | replace hc2' := nle_t hc2' | replace hc2' := ndec_t hc2' | replace hc2' := ndec_f hc2' | replace hc2' := nn_t hc2' | replace hc2' := nn_f hc2' | skip
        simp only [putO]
        refine gl_gF rfl rfl hc2 rfl ?_
        refine gl_gF rfl rfl hc2 rfl ?_
        refine gl_v rfl (o_pickT hc2 rfl rfl) ?_
        refine gl_v rfl (o_move rfl) ?_
        refine gl_gF rfl rfl rfl rfl ?_
        refine gl_gF rfl rfl rfl rfl ?_
        refine gl_gF rfl rfl rfl rfl ?_
        refine gl_v rfl (o_pickT rfl rfl rfl) ?_
        refine gl_v rfl (o_move rfl) ?_
        refine gl_gF rfl rfl rfl rfl ?_
        refine gl_gF rfl rfl rfl rfl ?_
        refine gl_gF rfl rfl rfl rfl ?_
        refine gl_v rfl (o_pickT rfl rfl rfl) ?_
        first | exact jk38 _ (KeepS.top (by repeat (first | exact KeepS.refl _ | refine KeepS.push ?_ rfl)) (jval (by first | rfl | (simp [hc1, hc2, k1]; done) | simp_all))) | exact gl_imp (To.sat (by repeat (first | exact .nil | exact .done .refl | (apply To.cons; · (repeat (first | exact .head | apply Sel.tail))) | exact .done (by repeat (first | exact .refl | apply Drop.skip))))) (jk38 _ (KeepS.top (by repeat (first | exact KeepS.refl _ | refine KeepS.push ?_ rfl)) (jval (by first | rfl | (simp [hc1, hc2, k1]; done) | simp_all))))
    ·
      have hc1' := hc1
      first | replace hc1' := of_decide_eq_true hc1' | replace hc1' := lt_f hc1' | replace hc1' := le_f hc1' | replace hc1' := dec_f hc1' | replace hc1' := nlt_t hc1' | replace hc1' := nle_t hc1' | replace hc1' := ndec_t hc1' | replace hc1' := ndec_f hc1' | replace hc1' := nn_t hc1' | replace hc1' := nn_f hc1' | skip
      simp only [putO]
      refine gl_gF rfl rfl hc1 rfl ?_
      refine gl_gF rfl rfl hc1 rfl ?_
      refine gl_v rfl (o_pickT hc1 rfl rfl) ?_
      refine gl_v rfl (o_move rfl) ?_
      refine gl_gF rfl rfl rfl rfl ?_
      refine gl_gF rfl rfl rfl rfl ?_
      refine gl_gF rfl rfl rfl rfl ?_
      refine gl_v rfl (o_pickT rfl rfl rfl) ?_
      refine gl_v rfl (o_move rfl) ?_
      refine gl_gF rfl rfl rfl rfl ?_
      refine gl_gF rfl rfl rfl rfl ?_
      refine gl_gF rfl rfl rfl rfl ?_
      refine gl_v rfl (o_pickT rfl rfl rfl) ?_
      refine gl_v rfl (o_move rfl) ?_
      refine gl_gF rfl rfl rfl rfl ?_
      refine gl_gF rfl rfl rfl rfl ?_
      refine gl_gF rfl rfl rfl rfl ?_
      refine gl_v rfl (o_pickT rfl rfl rfl) ?_
      first | exact jk38 _ (KeepS.top (by repeat (first | exact KeepS.refl _ | refine KeepS.push ?_ rfl)) (jval (by first | rfl | (simp [hc1, k1]; done) | simp_all))) | exact gl_imp (To.sat (by repeat (first | exact .nil | exact .done .refl | (apply To.cons; · (repeat (first | exact .head | apply Sel.tail))) | exact .done (by repeat (first | exact .refl | apply Drop.skip))))) (jk38 _ (KeepS.top (by repeat (first | exact KeepS.refl _ | refine KeepS.push ?_ rfl)) (jval (by first | rfl | (simp [hc1, k1]; done) | simp_all))))
  refine gl_nil ?_
  refine ge_then ?_
  refine g_cond rfl (fun hc5 => ?_) (fun hc5 => ?_)
  ·
    first | replace hc5 := of_decide_eq_true hc5 | replace hc5 := lt_f hc5 | replace hc5 := le_f hc5 | replace hc5 := dec_f hc5 | replace hc5 := nlt_t hc5 | replace hc5 := nle_t hc5 | replace hc5 := ndec_t hc5 | replace hc5 := ndec_f hc5 | replace hc5 := nn_t hc5 | replace hc5 := nn_f hc5 | skip
    refine g_seq ?_
    refine g_region ?_
    refine gl_v rfl (o_assign rfl) ?_
    refine gl_nil ?_
    refine ge_then ?_
    refine g_ret ?_
    refine ge_then_ret ?_
    refine ret1 (.inl rfl) rfl rfl _ (⟨iv_eq (by unfold kndE; exact fr1 ((by assumption : k1 k = true))), rfl⟩) (To.sat (by repeat (first | exact .nil | exact .done .refl | (apply To.cons; · (repeat (first | exact .head | apply Sel.tail))) | exact .done (by repeat (first | exact .refl | apply Drop.skip)))))
  ·
    first | replace hc5 := of_decide_eq_true hc5 | replace hc5 := lt_f hc5 | replace hc5 := le_f hc5 | replace hc5 := dec_f hc5 | replace hc5 := nlt_t hc5 | replace hc5 := nle_t hc5 | replace hc5 := ndec_t hc5 | replace hc5 := ndec_f hc5 | replace hc5 := nn_t hc5 | replace hc5 := nn_f hc5 | skip
    refine g_skip ?_
    refine ge_then ?_
    refine g_seq ?_
    refine g_seq ?_
    refine g_region ?_
    refine gl_v rfl (o_assign rfl) ?_
    refine gl_nil ?_
    refine ge_then ?_
    refine g_block ?_
    refine g_loop (ι := Nat) (fun x => x ≤ i ∧ (KK.take x).any (fun o => decide (o.name = k.name)) = false) (fun x => [(6, I64 x), (5, ptr b5 0), (2, ptr b2 0), (1, I64 i)]) (fun _ => cel b5 41 (kndC k) :: cel b2 24 [.slice pa KK.length pc] :: A :: R) (fun x => i - x) 0 (⟨Nat.zero_le _, rfl⟩) (Keep.cons rfl (Keep.cons rfl (Keep.cons rfl (Keep.cons rfl (Keep.nil))))) (To.sat (by repeat (first | exact .nil | exact .done .refl | (apply To.cons; · (repeat (first | exact .head | apply Sel.tail))) | exact .done (by repeat (first | exact .refl | apply Drop.skip))))) ?_
    rintro x ⟨hx, hq⟩
    replace hx : x ≤ i := hx
    replace hq : (KK.take x).any (fun o => decide (o.name = k.name)) = false := hq
    refine g_seq ?_
    refine g_seq ?_
    refine g_region ?_
    refine gl_v rfl (o_move rfl) ?_
    refine gl_v rfl (o_move rfl) ?_
    refine gl_v rfl (o_lss rfl rfl) ?_
    refine gl_nil ?_
    refine ge_then ?_
    refine g_cond rfl (fun hc6 => ?_) (fun hc6 => ?_)
    ·
      first | replace hc6 := of_decide_eq_true hc6 | replace hc6 := lt_f hc6 | replace hc6 := le_f hc6 | replace hc6 := dec_f hc6 | replace hc6 := nlt_t hc6 | replace hc6 := nle_t hc6 | replace hc6 := ndec_t hc6 | replace hc6 := ndec_f hc6 | replace hc6 := nn_t hc6 | replace hc6 := nn_f hc6 | skip
      obtain ⟨t, ht⟩ : ∃ t, KK[x]? = some t := ⟨_, List.getElem?_eq_getElem (show x < KK.length by omega)⟩
      refine g_skip ?_
      refine ge_then ?_
      refine g_seq ?_
      refine g_block ?_
      refine g_seq ?_
      refine g_treeM [] [] (.loc 0 (.loc 1 (.loc 2 (.loc 3 (.loc 4 (.loc 5 (.loc 6 (.loc 7 (.loc 8 .nil))))))))) [cel b2 24 [.slice pa KK.length pc], cel b5 41 (kndC k)] mixed (by kernel_rfl) ?_
      first | refine gt_v rfl .none rfl (o_fldS rfl) ?_ | refine gt_v rfl .none rfl (o_fld rfl) ?_
      first | refine gt_v rfl .none rfl (o_load rfl rfl) ?_ | refine gt_v rfl .none rfl (o_loadS rfl rfl) ?_ | refine gt_v rfl .none rfl (o_loadC rfl) ?_
      refine gt_v rfl .none rfl (o_move rfl) ?_
      refine gt_v rfl .none rfl (o_idxS rfl rfl (show x < KK.length by omega)) ?_
      first | refine gt_v rfl .none rfl (o_fldS rfl) ?_ | refine gt_v rfl .none rfl (o_fld rfl) ?_
      refine gt_v rfl .none rfl (o_loadS rfl (flat_get kndC 5 kndC_len ht (show (kndC _)[0]? = some _ from rfl))) ?_
      first | refine gt_v rfl .none rfl (o_fldS rfl) ?_ | refine gt_v rfl .none rfl (o_fld rfl) ?_
      first | refine gt_v rfl .none rfl (o_load rfl rfl) ?_ | refine gt_v rfl .none rfl (o_loadS rfl rfl) ?_ | refine gt_v rfl .none rfl (o_loadC rfl) ?_
      refine gt_v rfl .none rfl (o_eqls rfl rfl) ?_
      refine gt_nil ?_
      refine ge_then ?_
      refine g_cond rfl (fun hc7 => ?_) (fun hc7 => ?_)
      ·
        first | replace hc7 := of_decide_eq_true hc7 | replace hc7 := lt_f hc7 | replace hc7 := le_f hc7 | replace hc7 := dec_f hc7 | replace hc7 := nlt_t hc7 | replace hc7 := nle_t hc7 | replace hc7 := ndec_t hc7 | replace hc7 := ndec_f hc7 | replace hc7 := nn_t hc7 | replace hc7 := nn_f hc7 | skip
        refine g_seq ?_
        refine g_region ?_
        refine gl_v rfl (o_assign rfl) ?_
        refine gl_nil ?_
        refine ge_then ?_
        refine g_ret ?_
        refine ge_block_ret ?_
        refine ge_then_ret ?_
        refine ge_then_ret ?_
        refine ge_block_ret ?_
        refine ge_then_ret ?_
        refine ret1 (.inl rfl) rfl rfl _ (⟨iv_eq (by unfold kndE; exact fr0 ((by assumption : k1 k = false)) (fr1 (any_lt ht (by omega) (decide_eq_true (by assumption))))), rfl⟩) (To.sat (by repeat (first | exact .nil | exact .done .refl | (apply To.cons; · (repeat (first | exact .head | apply Sel.tail))) | exact .done (by repeat (first | exact .refl | apply Drop.skip)))))
      ·
        first | replace hc7 := of_decide_eq_true hc7 | replace hc7 := lt_f hc7 | replace hc7 := le_f hc7 | replace hc7 := dec_f hc7 | replace hc7 := nlt_t hc7 | replace hc7 := nle_t hc7 | replace hc7 := ndec_t hc7 | replace hc7 := ndec_f hc7 | replace hc7 := nn_t hc7 | replace hc7 := nn_f hc7 | skip
        refine g_skip ?_
        refine ge_block ?_
        refine ge_then ?_
        refine g_region ?_
        refine gl_v rfl (o_move rfl) ?_
        refine gl_v rfl (o_addR (((x + 1 : Nat) : Int)) (by rw [wr_i64 (by omega)]; omega) rfl rfl) ?_
        refine gl_v rfl (o_assign rfl) ?_
        refine gl_nil ?_
        refine ge_round (x + 1) ⟨show x + 1 ≤ i by omega, any_none ht hq (decide_eq_false (by assumption))⟩ (show i - (x + 1) < i - x by omega) (Keep.cons rfl (Keep.cons rfl (Keep.cons rfl (Keep.cons rfl (Keep.nil))))) (To.sat (by repeat (first | exact .nil | exact .done .refl | (apply To.cons; · (repeat (first | exact .head | apply Sel.tail))) | exact .done (by repeat (first | exact .refl | apply Drop.skip)))))
    ·
      first | replace hc6 := of_decide_eq_true hc6 | replace hc6 := lt_f hc6 | replace hc6 := le_f hc6 | replace hc6 := dec_f hc6 | replace hc6 := nlt_t hc6 | replace hc6 := nle_t hc6 | replace hc6 := ndec_t hc6 | replace hc6 := ndec_f hc6 | replace hc6 := nn_t hc6 | replace hc6 := nn_f hc6 | skip
      obtain rfl : x = i := by omega
      refine g_exit ?_
      refine ge_then_exit ?_
      refine ge_then_exit ?_
      refine ge_block_exit ?_
      refine ge_then ?_
      refine g_seq ?_
      refine g_seq ?_
      refine g_region ?_
      first | refine gl_v rfl (o_fldS rfl) ?_ | refine gl_v rfl (o_fld rfl) ?_
      first | refine gl_v rfl (o_load rfl rfl) ?_ | refine gl_v rfl (o_loadS rfl rfl) ?_ | refine gl_v rfl (o_loadC rfl) ?_
      first | refine gl_v rfl (o_len rfl) ?_ | refine gl_v rfl (o_lenL rfl) ?_
      refine gl_v rfl (o_gtr rfl rfl) ?_
      refine gl_v rfl (o_move rfl) ?_
      refine gl_join (d := 68) 11 (.bool (k3 k)) ?_ (fun jk68 => ?_)
      rotate_left
      ·
        refine gl_g rfl rfl (fun hc8 => ?_) (fun hc8 => ?_) rfl
        ·
          have hc8' := hc8
          first | replace hc8' := of_decide_eq_true hc8' | replace hc8' := lt_f hc8' | replace hc8' := le_f hc8' | replace hc8' := dec_f hc8' | replace hc8' := nlt_t hc8' | replace hc8' := nle_t hc8' | replace hc8' := ndec_t hc8' | replace hc8' := ndec_f hc8' | replace hc8' := nn_t hc8' | replace hc8' := nn_f hc8' | skip
          first | refine gl_v rfl (o_fldS rfl) ?_ | refine gl_v rfl (o_fld rfl) ?_
          refine gl_gT rfl rfl hc8 ?_
          first | refine gl_v rfl (o_load rfl rfl) ?_ | refine gl_v rfl (o_loadS rfl rfl) ?_ | refine gl_v rfl (o_loadC rfl) ?_
          refine gl_gT rfl rfl hc8 ?_
          first | refine gl_v rfl (o_len rfl) ?_ | refine gl_v rfl (o_lenL rfl) ?_
          refine gl_gT rfl rfl hc8 ?_
          refine gl_v rfl (o_lss rfl rfl) ?_
          refine gl_v rfl (o_pickF hc8 rfl rfl) ?_
          refine gl_v rfl (o_move rfl) ?_
          refine gl_g rfl rfl (fun hc9 => ?_) (fun hc9 => ?_) rfl
          ·
            have hc9' := hc9
            first | replace hc9' := of_decide_eq_true hc9' | replace hc9' := lt_f hc9' | replace hc9' := le_f hc9' | replace hc9' := dec_f hc9' | replace hc9' := nlt_t hc9' | replace hc9' := nle_t hc9' | replace hc9' := ndec_t hc9' | replace hc9' := ndec_f hc9' | replace hc9' := nn_t hc9' | replace hc9' := nn_f hc9' | skip
            first | refine gl_v rfl (o_fldS rfl) ?_ | refine gl_v rfl (o_fld rfl) ?_
            refine gl_gT rfl rfl hc9 ?_
            first | refine gl_v rfl (o_load rfl rfl) ?_ | refine gl_v rfl (o_loadS rfl rfl) ?_ | refine gl_v rfl (o_loadC rfl) ?_
            refine gl_gT rfl rfl hc9 ?_
            first | refine gl_v rfl (o_len rfl) ?_ | refine gl_v rfl (o_lenL rfl) ?_
            refine gl_gT rfl rfl hc9 ?_
            refine gl_v rfl (o_gtr rfl rfl) ?_
            refine gl_v rfl (o_pickF hc9 rfl rfl) ?_
            first | exact jk68 _ (KeepS.top (by repeat (first | exact KeepS.refl _ | refine KeepS.push ?_ rfl)) (jval (by first | rfl | (simp [hc8, hc9, k3]; done) | simp_all))) | exact gl_imp (To.sat (by repeat (first | exact .nil | exact .done .refl | (apply To.cons; · (repeat (first | exact .head | apply Sel.tail))) | exact .done (by repeat (first | exact .refl | apply Drop.skip))))) (jk68 _ (KeepS.top (by repeat (first | exact KeepS.refl _ | refine KeepS.push ?_ rfl)) (jval (by first | rfl | (simp [hc8, hc9, k3]; done) | simp_all))))
          ·
            have hc9' := hc9
            first | replace hc9' := of_decide_eq_true hc9' | replace hc9' := lt_f hc9' | replace hc9' := le_f hc9' | replace hc9' := dec_f hc9' | replace hc9' := nlt_t hc9' | replace hc9' := nle_t hc9' | replace hc9' := ndec_t hc9' | replace hc9' := ndec_f hc9' | replace hc9' := nn_t hc9' | replace hc9' := nn_f hc9' | skip
            simp only [putO]
            refine gl_gF rfl rfl hc9 rfl ?_
            refine gl_gF rfl rfl hc9 rfl ?_
            refine gl_gF rfl rfl hc9 rfl ?_
            refine gl_v rfl (o_pickT hc9 rfl rfl) ?_
            first | exact jk68 _ (KeepS.top (by repeat (first | exact KeepS.refl _ | refine KeepS.push ?_ rfl)) (jval (by first | rfl | (simp [hc8, hc9, k3]; done) | simp_all))) | exact gl_imp (To.sat (by repeat (first | exact .nil | exact .done .refl | (apply To.cons; · (repeat (first | exact .head | apply Sel.tail))) | exact .done (by repeat (first | exact .refl | apply Drop.skip))))) (jk68 _ (KeepS.top (by repeat (first | exact KeepS.refl _ | refine KeepS.push ?_ rfl)) (jval (by first | rfl | (simp [hc8, hc9, k3]; done) | simp_all))))
        ·
          have hc8' := hc8
          first | replace hc8' := of_decide_eq_true hc8' | replace hc8' := lt_f hc8' | replace hc8' := le_f hc8' | replace hc8' := dec_f hc8' | replace hc8' := nlt_t hc8' | replace hc8' := nle_t hc8' | replace hc8' := ndec_t hc8' | replace hc8' := ndec_f hc8' | replace hc8' := nn_t hc8' | replace hc8' := nn_f hc8' | skip
          simp only [putO]
          refine gl_gF rfl rfl hc8 rfl ?_
          refine gl_gF rfl rfl hc8 rfl ?_
          refine gl_gF rfl rfl hc8 rfl ?_
          refine gl_v rfl (o_pickT hc8 rfl rfl) ?_
          refine gl_v rfl (o_move rfl) ?_
          refine gl_gF rfl rfl rfl rfl ?_
          refine gl_gF rfl rfl rfl rfl ?_
          refine gl_gF rfl rfl rfl rfl ?_
          refine gl_gF rfl rfl rfl rfl ?_
          refine gl_v rfl (o_pickT rfl rfl rfl) ?_
          first | exact jk68 _ (KeepS.top (by repeat (first | exact KeepS.refl _ | refine KeepS.push ?_ rfl)) (jval (by first | rfl | (simp [hc8, k3]; done) | simp_all))) | exact gl_imp (To.sat (by repeat (first | exact .nil | exact .done .refl | (apply To.cons; · (repeat (first | exact .head | apply Sel.tail))) | exact .done (by repeat (first | exact .refl | apply Drop.skip))))) (jk68 _ (KeepS.top (by repeat (first | exact KeepS.refl _ | refine KeepS.push ?_ rfl)) (jval (by first | rfl | (simp [hc8, k3]; done) | simp_all))))
      refine gl_nil ?_
      refine ge_then ?_
      refine g_cond rfl (fun hc10 => ?_) (fun hc10 => ?_)
      ·
        first | replace hc10 := of_decide_eq_true hc10 | replace hc10 := lt_f hc10 | replace hc10 := le_f hc10 | replace hc10 := dec_f hc10 | replace hc10 := nlt_t hc10 | replace hc10 := nle_t hc10 | replace hc10 := ndec_t hc10 | replace hc10 := ndec_f hc10 | replace hc10 := nn_t hc10 | replace hc10 := nn_f hc10 | skip
        refine g_seq ?_
        refine g_region ?_
        refine gl_v rfl (o_assign rfl) ?_
        refine gl_nil ?_
        refine ge_then ?_
        refine g_ret ?_
        refine ge_then_ret ?_
        refine ret1 (.inl rfl) rfl rfl _ (⟨iv_eq (by unfold kndE; exact fr0 ((by assumption : k1 k = false)) (fr0 (hq) (fr1 ((by assumption : k3 k = true))))), rfl⟩) (To.sat (by repeat (first | exact .nil | exact .done .refl | (apply To.cons; · (repeat (first | exact .head | apply Sel.tail))) | exact .done (by repeat (first | exact .refl | apply Drop.skip)))))
      ·
        first | replace hc10 := of_decide_eq_true hc10 | replace hc10 := lt_f hc10 | replace hc10 := le_f hc10 | replace hc10 := dec_f hc10 | replace hc10 := nlt_t hc10 | replace hc10 := nle_t hc10 | replace hc10 := ndec_t hc10 | replace hc10 := ndec_f hc10 | replace hc10 := nn_t hc10 | replace hc10 := nn_f hc10 | skip
        refine g_skip ?_
        refine ge_then ?_
        refine g_seq ?_
        refine g_region ?_
        refine gl_v rfl (o_assign rfl) ?_
        refine gl_nil ?_
        refine ge_then ?_
        refine g_seq ?_
        refine g_seq ?_
        refine g_region ?_
        refine gl_v rfl (o_assign rfl) ?_
        refine gl_nil ?_
        refine ge_then ?_
        refine g_block ?_
        refine g_loop (ι := Nat) (fun y => y ≤ k.cases.length ∧ (k.cases.take y).any casB = false) (fun y => [(8, I64 y), (7, .bool (twc k.cases y)), (5, ptr b5 0)]) (fun _ => cel b5 41 (kndC k) :: A :: R) (fun y => k.cases.length - y) 0 (⟨Nat.zero_le _, rfl⟩) (Keep.cons rfl (Keep.cons rfl (Keep.cons rfl (Keep.nil)))) (To.sat (by repeat (first | exact .nil | exact .done .refl | (apply To.cons; · (repeat (first | exact .head | apply Sel.tail))) | exact .done (by repeat (first | exact .refl | apply Drop.skip))))) ?_
        rintro y ⟨hy, hz⟩
        replace hy : y ≤ k.cases.length := hy
        replace hz : (k.cases.take y).any casB = false := hz
        refine g_seq ?_
        refine g_seq ?_
        refine g_region ?_
        refine gl_v rfl (o_move rfl) ?_
        first | refine gl_v rfl (o_fldS rfl) ?_ | refine gl_v rfl (o_fld rfl) ?_
        first | refine gl_v rfl (o_load rfl rfl) ?_ | refine gl_v rfl (o_loadS rfl rfl) ?_ | refine gl_v rfl (o_loadC rfl) ?_
        first | refine gl_v rfl (o_len rfl) ?_ | refine gl_v rfl (o_lenL rfl) ?_
        refine gl_v rfl (o_lss rfl rfl) ?_
        refine gl_nil ?_
        refine ge_then ?_
        refine g_cond rfl (fun hc11 => ?_) (fun hc11 => ?_)
        ·
          first | replace hc11 := of_decide_eq_true hc11 | replace hc11 := lt_f hc11 | replace hc11 := le_f hc11 | replace hc11 := dec_f hc11 | replace hc11 := nlt_t hc11 | replace hc11 := nle_t hc11 | replace hc11 := ndec_t hc11 | replace hc11 := ndec_f hc11 | replace hc11 := nn_t hc11 | replace hc11 := nn_f hc11 | skip
          obtain ⟨c, hc⟩ : ∃ c, k.cases[y]? = some c := ⟨_, List.getElem?_eq_getElem (show y < k.cases.length by omega)⟩
          refine g_skip ?_
          refine ge_then ?_
          refine g_seq ?_
          refine g_block ?_
          refine g_seq ?_
          refine g_seq ?_
          refine g_region ?_
          first | refine gl_v rfl (o_fldS rfl) ?_ | refine gl_v rfl (o_fld rfl) ?_
          first | refine gl_v rfl (o_load rfl rfl) ?_ | refine gl_v rfl (o_loadS rfl rfl) ?_ | refine gl_v rfl (o_loadC rfl) ?_
          refine gl_v rfl (o_move rfl) ?_
          refine gl_v rfl (o_idxS rfl rfl (show y < k.cases.length by omega)) ?_
          first | refine gl_v rfl (o_fldS rfl) ?_ | refine gl_v rfl (o_fld rfl) ?_
          refine gl_v rfl (o_loadS rfl (flat_get casC 2 casC_len hc (show (casC _)[0]? = some _ from rfl))) ?_
          refine gl_c rfl (o_call rfl (empty_spec c.reason (by have := hkO.cases c (List.mem_of_getElem? hc); unfold ok63 at this; omega)) (by repeat (first | exact .nil | (apply Part.cons; · (repeat (first | exact .head | apply Sel.tail)))))) ?_
          rintro _ R ⟨_, ⟨rfl, rfl⟩, rfl⟩
          try simp only [List.cons_append, List.nil_append]
          refine gl_v rfl (o_not rfl) ?_
          refine gl_v rfl (o_move rfl) ?_
          refine gl_join (d := 101) 17 (.bool (casB c)) ?_ (fun jk101 => ?_)
          rotate_left
          ·
            refine gl_g rfl rfl (fun hc12 => ?_) (fun hc12 => ?_) rfl
            ·
              have hc12' := hc12
              first | replace hc12' := of_decide_eq_true hc12' | replace hc12' := lt_f hc12' | replace hc12' := le_f hc12' | replace hc12' := dec_f hc12' | replace hc12' := nlt_t hc12' | replace hc12' := nle_t hc12' | replace hc12' := ndec_t hc12' | replace hc12' := ndec_f hc12' | replace hc12' := nn_t hc12' | replace hc12' := nn_f hc12' | skip
              first | refine gl_v rfl (o_fldS rfl) ?_ | refine gl_v rfl (o_fld rfl) ?_
              refine gl_gT rfl rfl hc12 ?_
              first | refine gl_v rfl (o_load rfl rfl) ?_ | refine gl_v rfl (o_loadS rfl rfl) ?_ | refine gl_v rfl (o_loadC rfl) ?_
              refine gl_gT rfl rfl hc12 ?_
              refine gl_v rfl (o_move rfl) ?_
              refine gl_gT rfl rfl hc12 ?_
              refine gl_v rfl (o_idxS rfl rfl (show y < k.cases.length by omega)) ?_
              refine gl_gT rfl rfl hc12 ?_
              first | refine gl_v rfl (o_fldS rfl) ?_ | refine gl_v rfl (o_fld rfl) ?_
              refine gl_gT rfl rfl hc12 ?_
              refine gl_v rfl (o_loadS rfl (flat_get casC 2 casC_len hc (show (casC _)[1]? = some _ from rfl))) ?_
              refine gl_gT rfl rfl hc12 ?_
              refine gl_v rfl (o_lss rfl rfl) ?_
              refine gl_v rfl (o_pickF hc12 rfl rfl) ?_
              refine gl_v rfl (o_move rfl) ?_
              refine gl_g rfl rfl (fun hc13 => ?_) (fun hc13 => ?_) rfl
              ·
                have hc13' := hc13
                first | replace hc13' := of_decide_eq_true hc13' | replace hc13' := lt_f hc13' | replace hc13' := le_f hc13' | replace hc13' := dec_f hc13' | replace hc13' := nlt_t hc13' | replace hc13' := nle_t hc13' | replace hc13' := ndec_t hc13' | replace hc13' := ndec_f hc13' | replace hc13' := nn_t hc13' | replace hc13' := nn_f hc13' | skip
                first | refine gl_v rfl (o_fldS rfl) ?_ | refine gl_v rfl (o_fld rfl) ?_
                refine gl_gT rfl rfl hc13 ?_
                first | refine gl_v rfl (o_load rfl rfl) ?_ | refine gl_v rfl (o_loadS rfl rfl) ?_ | refine gl_v rfl (o_loadC rfl) ?_
                refine gl_gT rfl rfl hc13 ?_
                refine gl_v rfl (o_move rfl) ?_
                refine gl_gT rfl rfl hc13 ?_
                refine gl_v rfl (o_idxS rfl rfl (show y < k.cases.length by omega)) ?_
                refine gl_gT rfl rfl hc13 ?_
                first | refine gl_v rfl (o_fldS rfl) ?_ | refine gl_v rfl (o_fld rfl) ?_
                refine gl_gT rfl rfl hc13 ?_
                refine gl_v rfl (o_loadS rfl (flat_get casC 2 casC_len hc (show (casC _)[1]? = some _ from rfl))) ?_
                refine gl_gT rfl rfl hc13 ?_
                refine gl_v rfl (o_gtr rfl rfl) ?_
                refine gl_v rfl (o_pickF hc13 rfl rfl) ?_
                first | exact jk101 _ (KeepS.top (by repeat (first | exact KeepS.refl _ | refine KeepS.push ?_ rfl)) (jval (by first | rfl | (simp [hc12, hc13, casB]; done) | simp_all))) | exact gl_imp (To.sat (by repeat (first | exact .nil | exact .done .refl | (apply To.cons; · (repeat (first | exact .head | apply Sel.tail))) | exact .done (by repeat (first | exact .refl | apply Drop.skip))))) (jk101 _ (KeepS.top (by repeat (first | exact KeepS.refl _ | refine KeepS.push ?_ rfl)) (jval (by first | rfl | (simp [hc12, hc13, casB]; done) | simp_all))))
              ·
                have hc13' := hc13
                first | replace hc13' := of_decide_eq_true hc13' | replace hc13' := lt_f hc13' | replace hc13' := le_f hc13' | replace hc13' := dec_f hc13' | replace hc13' := nlt_t hc13' | replace hc13' := nle_t hc13' | replace hc13' := ndec_t hc13' | replace hc13' := ndec_f hc13' | replace hc13' := nn_t hc13' | replace hc13' := nn_f hc13' | skip
                simp only [putO]
                refine gl_gF rfl rfl hc13 rfl ?_
                refine gl_gF rfl rfl hc13 rfl ?_
                refine gl_gF rfl rfl hc13 rfl ?_
                refine gl_gF rfl rfl hc13 rfl ?_
                refine gl_gF rfl rfl hc13 rfl ?_
                refine gl_gF rfl rfl hc13 rfl ?_
                refine gl_v rfl (o_pickT hc13 rfl rfl) ?_
                first | exact jk101 _ (KeepS.top (by repeat (first | exact KeepS.refl _ | refine KeepS.push ?_ rfl)) (jval (by first | rfl | (simp [hc12, hc13, casB]; done) | simp_all))) | exact gl_imp (To.sat (by repeat (first | exact .nil | exact .done .refl | (apply To.cons; · (repeat (first | exact .head | apply Sel.tail))) | exact .done (by repeat (first | exact .refl | apply Drop.skip))))) (jk101 _ (KeepS.top (by repeat (first | exact KeepS.refl _ | refine KeepS.push ?_ rfl)) (jval (by first | rfl | (simp [hc12, hc13, casB]; done) | simp_all))))
            ·
              have hc12' := hc12
              first | replace hc12' := of_decide_eq_true hc12' | replace hc12' := lt_f hc12' | replace hc12' := le_f hc12' | replace hc12' := dec_f hc12' | replace hc12' := nlt_t hc12' | replace hc12' := nle_t hc12' | replace hc12' := ndec_t hc12' | replace hc12' := ndec_f hc12' | replace hc12' := nn_t hc12' | replace hc12' := nn_f hc12' | skip
              simp only [putO]
              refine gl_gF rfl rfl hc12 rfl ?_
              refine gl_gF rfl rfl hc12 rfl ?_
              refine gl_gF rfl rfl hc12 rfl ?_
              refine gl_gF rfl rfl hc12 rfl ?_
              refine gl_gF rfl rfl hc12 rfl ?_
              refine gl_gF rfl rfl hc12 rfl ?_
              refine gl_v rfl (o_pickT hc12 rfl rfl) ?_
              refine gl_v rfl (o_move rfl) ?_
              refine gl_gF rfl rfl rfl rfl ?_
              refine gl_gF rfl rfl rfl rfl ?_
              refine gl_gF rfl rfl rfl rfl ?_
              refine gl_gF rfl rfl rfl rfl ?_
              refine gl_gF rfl rfl rfl rfl ?_
              refine gl_gF rfl rfl rfl rfl ?_
              refine gl_gF rfl rfl rfl rfl ?_
              refine gl_v rfl (o_pickT rfl rfl rfl) ?_
              first | exact jk101 _ (KeepS.top (by repeat (first | exact KeepS.refl _ | refine KeepS.push ?_ rfl)) (jval (by first | rfl | (simp [hc12, casB]; done) | simp_all))) | exact gl_imp (To.sat (by repeat (first | exact .nil | exact .done .refl | (apply To.cons; · (repeat (first | exact .head | apply Sel.tail))) | exact .done (by repeat (first | exact .refl | apply Drop.skip))))) (jk101 _ (KeepS.top (by repeat (first | exact KeepS.refl _ | refine KeepS.push ?_ rfl)) (jval (by first | rfl | (simp [hc12, casB]; done) | simp_all))))
          refine gl_nil ?_
          refine ge_then ?_
          refine g_cond rfl (fun hc14 => ?_) (fun hc14 => ?_)
          ·
            first | replace hc14 := of_decide_eq_true hc14 | replace hc14 := lt_f hc14 | replace hc14 := le_f hc14 | replace hc14 := dec_f hc14 | replace hc14 := nlt_t hc14 | replace hc14 := nle_t hc14 | replace hc14 := ndec_t hc14 | replace hc14 := ndec_f hc14 | replace hc14 := nn_t hc14 | replace hc14 := nn_f hc14 | skip
            refine g_seq ?_
            refine g_region ?_
            refine gl_v rfl (o_assign rfl) ?_
            refine gl_nil ?_
            refine ge_then ?_
            refine g_ret ?_
            refine ge_then_ret ?_
            refine ge_block_ret ?_
            refine ge_then_ret ?_
            refine ge_then_ret ?_
            refine ge_block_ret ?_
            refine ge_then_ret ?_
            refine ret1 (.inl rfl) rfl rfl _ (⟨iv_eq (by unfold kndE; exact fr0 ((by assumption : k1 k = false)) (fr0 (hq) (fr0 ((by assumption : k3 k = false)) (fr1 (List.any_eq_true.2 ⟨c, List.mem_of_getElem? hc, by assumption⟩))))), rfl⟩) (To.sat (by repeat (first | exact .nil | exact .done .refl | (apply To.cons; · (repeat (first | exact .head | apply Sel.tail))) | exact .done (by repeat (first | exact .refl | apply Drop.skip)))))
          ·
            first | replace hc14 := of_decide_eq_true hc14 | replace hc14 := lt_f hc14 | replace hc14 := le_f hc14 | replace hc14 := dec_f hc14 | replace hc14 := nlt_t hc14 | replace hc14 := nle_t hc14 | replace hc14 := ndec_t hc14 | replace hc14 := ndec_f hc14 | replace hc14 := nn_t hc14 | replace hc14 := nn_f hc14 | skip
            refine g_skip ?_
            refine ge_then ?_
            refine g_seq ?_
            refine g_region ?_
            refine gl_v rfl (o_assign rfl) ?_
            refine gl_nil ?_
            rw [show twc k.cases y = (twc k.cases y || (k.cases.take 0).any (fun d => decide (d.reason = c.reason))) from (Bool.or_false _).symm]
            refine ge_then ?_
            refine g_block ?_
            refine g_loop (ι := Nat) (fun z => z ≤ y) (fun z => [(9, I64 z), (8, I64 y), (7, .bool (twc k.cases y || (k.cases.take z).any (fun d => decide (d.reason = c.reason)))), (5, ptr b5 0)]) (fun _ => cel b5 41 (kndC k) :: A :: R) (fun z => y - z) 0 (Nat.zero_le _) (Keep.cons rfl (Keep.cons rfl (Keep.cons rfl (Keep.cons rfl (Keep.nil))))) (To.sat (by repeat (first | exact .nil | exact .done .refl | (apply To.cons; · (repeat (first | exact .head | apply Sel.tail))) | exact .done (by repeat (first | exact .refl | apply Drop.skip))))) ?_
            rintro z hzy
            replace hzy : z ≤ y := hzy
            refine g_seq ?_
            refine g_seq ?_
            refine g_region ?_
            refine gl_v rfl (o_move rfl) ?_
            refine gl_v rfl (o_move rfl) ?_
            refine gl_v rfl (o_lss rfl rfl) ?_
            refine gl_nil ?_
            refine ge_then ?_
            refine g_cond rfl (fun hc15 => ?_) (fun hc15 => ?_)
            ·
              first | replace hc15 := of_decide_eq_true hc15 | replace hc15 := lt_f hc15 | replace hc15 := le_f hc15 | replace hc15 := dec_f hc15 | replace hc15 := nlt_t hc15 | replace hc15 := nle_t hc15 | replace hc15 := ndec_t hc15 | replace hc15 := ndec_f hc15 | replace hc15 := nn_t hc15 | replace hc15 := nn_f hc15 | skip
              obtain ⟨d, hd⟩ : ∃ d, k.cases[z]? = some d := ⟨_, List.getElem?_eq_getElem (show z < k.cases.length by omega)⟩
              refine g_skip ?_
              refine ge_then ?_
              refine g_seq ?_
              refine g_block ?_
              refine g_treeM [] [] (.loc 0 (.loc 1 (.loc 2 (.loc 3 (.loc 4 (.loc 5 (.loc 6 (.loc 7 (.loc 8 (.loc 9 (.loc 10 (.loc 11 (.loc 12 (.loc 13 (.loc 14 (.loc 15 (.loc 16 .nil))))))))))))))))) [cel b5 41 (kndC k)] mixed (by kernel_rfl) ?_
              refine gt_v rfl .none rfl (o_move rfl) ?_
              refine gt_v rfl .none rfl (o_move rfl) ?_
              refine gt_join (d := 122) (.loc 16 .nil) (.bool ((twc k.cases y || (k.cases.take z).any (fun d => decide (d.reason = c.reason))) || decide (d.reason = c.reason))) ?_ (fun jk122 => ?_)
              rotate_left
              ·
                refine gt_split (j := 1) rfl rfl (fun hc16 => ?_) (fun hc16 => ?_)
                ·
                  have hc16' := hc16
                  first | replace hc16' := of_decide_eq_true hc16' | replace hc16' := lt_f hc16' | replace hc16' := le_f hc16' | replace hc16' := dec_f hc16' | replace hc16' := nlt_t hc16' | replace hc16' := nle_t hc16' | replace hc16' := ndec_t hc16' | replace hc16' := ndec_f hc16' | replace hc16' := nn_t hc16' | replace hc16' := nn_f hc16' | skip
                  refine gt_skipL rfl (.no rfl rfl hc16) rfl ?_
                  refine gt_skipL rfl (.no rfl rfl hc16) rfl ?_
                  refine gt_skipL rfl (.no rfl rfl hc16) rfl ?_
                  refine gt_skipL rfl (.no rfl rfl hc16) rfl ?_
                  refine gt_skipL rfl (.no rfl rfl hc16) rfl ?_
                  refine gt_skipL rfl (.no rfl rfl hc16) rfl ?_
                  refine gt_skipL rfl (.no rfl rfl hc16) rfl ?_
                  refine gt_skipL rfl (.no rfl rfl hc16) rfl ?_
                  refine gt_skipL rfl (.no rfl rfl hc16) rfl ?_
                  refine gt_skipL rfl (.no rfl rfl hc16) rfl ?_
                  refine gt_skipL rfl (.no rfl rfl hc16) rfl ?_
                  refine gt_skipL rfl (.no rfl rfl hc16) rfl ?_
                  refine gt_skipL rfl (.no rfl rfl hc16) rfl ?_
                  refine gt_v rfl .none rfl (o_pickT hc16 rfl rfl) ?_
                  first | exact jk122 _ (KeepS.top (by repeat (first | exact KeepS.refl _ | refine KeepS.push ?_ rfl)) (jval (by first | rfl | (simp [hc16, ]; done) | simp_all))) | exact gt_imp (To.sat (by repeat (first | exact .nil | exact .done .refl | (apply To.cons; · (repeat (first | exact .head | apply Sel.tail))) | exact .done (by repeat (first | exact .refl | apply Drop.skip))))) (jk122 _ (KeepS.top (by repeat (first | exact KeepS.refl _ | refine KeepS.push ?_ rfl)) (jval (by first | rfl | (simp [hc16, ]; done) | simp_all))))
                ·
                  have hc16' := hc16
                  first | replace hc16' := of_decide_eq_true hc16' | replace hc16' := lt_f hc16' | replace hc16' := le_f hc16' | replace hc16' := dec_f hc16' | replace hc16' := nlt_t hc16' | replace hc16' := nle_t hc16' | replace hc16' := ndec_t hc16' | replace hc16' := ndec_f hc16' | replace hc16' := nn_t hc16' | replace hc16' := nn_f hc16' | skip
                  first | refine gt_v rfl (.yes rfl rfl hc16) rfl (o_fldS rfl) ?_ | refine gt_v rfl (.yes rfl rfl hc16) rfl (o_fld rfl) ?_
                  first | refine gt_v rfl (.yes rfl rfl hc16) rfl (o_load rfl rfl) ?_ | refine gt_v rfl (.yes rfl rfl hc16) rfl (o_loadS rfl rfl) ?_ | refine gt_v rfl (.yes rfl rfl hc16) rfl (o_loadC rfl) ?_
                  refine gt_v rfl (.yes rfl rfl hc16) rfl (o_move rfl) ?_
                  refine gt_v rfl (.yes rfl rfl hc16) rfl (o_idxS rfl rfl (show z < k.cases.length by omega)) ?_
                  first | refine gt_v rfl (.yes rfl rfl hc16) rfl (o_fldS rfl) ?_ | refine gt_v rfl (.yes rfl rfl hc16) rfl (o_fld rfl) ?_
                  refine gt_v rfl (.yes rfl rfl hc16) rfl (o_loadS rfl (flat_get casC 2 casC_len hd (show (casC _)[0]? = some _ from rfl))) ?_
                  first | refine gt_v rfl (.yes rfl rfl hc16) rfl (o_fldS rfl) ?_ | refine gt_v rfl (.yes rfl rfl hc16) rfl (o_fld rfl) ?_
                  first | refine gt_v rfl (.yes rfl rfl hc16) rfl (o_load rfl rfl) ?_ | refine gt_v rfl (.yes rfl rfl hc16) rfl (o_loadS rfl rfl) ?_ | refine gt_v rfl (.yes rfl rfl hc16) rfl (o_loadC rfl) ?_
                  refine gt_v rfl (.yes rfl rfl hc16) rfl (o_move rfl) ?_
                  refine gt_v rfl (.yes rfl rfl hc16) rfl (o_idxS rfl rfl (show y < k.cases.length by omega)) ?_
                  first | refine gt_v rfl (.yes rfl rfl hc16) rfl (o_fldS rfl) ?_ | refine gt_v rfl (.yes rfl rfl hc16) rfl (o_fld rfl) ?_
                  refine gt_v rfl (.yes rfl rfl hc16) rfl (o_loadS rfl (flat_get casC 2 casC_len hc (show (casC _)[0]? = some _ from rfl))) ?_
                  refine gt_v rfl (.yes rfl rfl hc16) rfl (o_eqls rfl rfl) ?_
                  refine gt_v rfl .none rfl (o_pickF hc16 rfl rfl) ?_
                  first | exact jk122 _ (KeepS.top (by repeat (first | exact KeepS.refl _ | refine KeepS.push ?_ rfl)) (jval (by first | rfl | (simp [hc16, ]; done) | simp_all))) | exact gt_imp (To.sat (by repeat (first | exact .nil | exact .done .refl | (apply To.cons; · (repeat (first | exact .head | apply Sel.tail))) | exact .done (by repeat (first | exact .refl | apply Drop.skip))))) (jk122 _ (KeepS.top (by repeat (first | exact KeepS.refl _ | refine KeepS.push ?_ rfl)) (jval (by first | rfl | (simp [hc16, ]; done) | simp_all))))
              refine gt_keep (Keep.cons (t := 122) rfl (Keep.cons (t := 104) rfl (Keep.cons (t := 103) rfl (Keep.cons (t := 102) rfl (Keep.cons (t := 9) rfl (Keep.cons (t := 8) rfl (Keep.cons (t := 7) rfl (Keep.cons (t := 5) rfl (Keep.nil))))))))) ?_
              refine gt_v rfl .none rfl (o_assign rfl) ?_
              refine gt_nil ?_
              refine ge_block ?_
              refine ge_then ?_
              refine g_region ?_
              refine gl_v rfl (o_move rfl) ?_
              refine gl_v rfl (o_addR (((z + 1 : Nat) : Int)) (by rw [wr_i64 (by omega)]; omega) rfl rfl) ?_
              refine gl_v rfl (o_assign rfl) ?_
              refine gl_nil ?_
              rw [Bool.or_assoc, ← any_succ (q := fun d => decide (d.reason = c.reason)) hd]
              refine ge_round (z + 1) (show z + 1 ≤ y by omega) (show y - (z + 1) < y - z by omega) (Keep.cons rfl (Keep.cons rfl (Keep.cons rfl (Keep.cons rfl (Keep.nil))))) (To.sat (by repeat (first | exact .nil | exact .done .refl | (apply To.cons; · (repeat (first | exact .head | apply Sel.tail))) | exact .done (by repeat (first | exact .refl | apply Drop.skip)))))
            ·
              first | replace hc15 := of_decide_eq_true hc15 | replace hc15 := lt_f hc15 | replace hc15 := le_f hc15 | replace hc15 := dec_f hc15 | replace hc15 := nlt_t hc15 | replace hc15 := nle_t hc15 | replace hc15 := ndec_t hc15 | replace hc15 := ndec_f hc15 | replace hc15 := nn_t hc15 | replace hc15 := nn_f hc15 | skip
              obtain rfl : y = z := by omega
              rw [← twc_succ hc]
              refine g_exit ?_
              refine ge_then_exit ?_
              refine ge_then_exit ?_
              refine ge_block_exit ?_
              refine ge_block ?_
              refine ge_then ?_
              refine g_region ?_
              refine gl_v rfl (o_move rfl) ?_
              refine gl_v rfl (o_addR (((y + 1 : Nat) : Int)) (by rw [wr_i64 (by omega)]; omega) rfl rfl) ?_
              refine gl_v rfl (o_assign rfl) ?_
              refine gl_nil ?_
              refine ge_round (y + 1) ⟨show y + 1 ≤ k.cases.length by omega, any_none hc hz (by assumption)⟩ (show k.cases.length - (y + 1) < k.cases.length - y by omega) (Keep.cons rfl (Keep.cons rfl (Keep.cons rfl (Keep.nil)))) (To.sat (by repeat (first | exact .nil | exact .done .refl | (apply To.cons; · (repeat (first | exact .head | apply Sel.tail))) | exact .done (by repeat (first | exact .refl | apply Drop.skip)))))
        ·
          first | replace hc11 := of_decide_eq_true hc11 | replace hc11 := lt_f hc11 | replace hc11 := le_f hc11 | replace hc11 := dec_f hc11 | replace hc11 := nlt_t hc11 | replace hc11 := nle_t hc11 | replace hc11 := ndec_t hc11 | replace hc11 := ndec_f hc11 | replace hc11 := nn_t hc11 | replace hc11 := nn_f hc11 | skip
          obtain rfl : y = k.cases.length := by omega
          rw [List.take_length] at hz
          refine g_exit ?_
          refine ge_then_exit ?_
          refine ge_then_exit ?_
          refine ge_block_exit ?_
          refine ge_then ?_
          refine g_seq ?_
          refine g_seq ?_
          refine g_region ?_
          refine gl_v rfl (o_move rfl) ?_
          refine gl_nil ?_
          refine ge_then ?_
          refine g_cond rfl (fun hc17 => ?_) (fun hc17 => ?_)
          ·
            first | replace hc17 := of_decide_eq_true hc17 | replace hc17 := lt_f hc17 | replace hc17 := le_f hc17 | replace hc17 := dec_f hc17 | replace hc17 := nlt_t hc17 | replace hc17 := nle_t hc17 | replace hc17 := ndec_t hc17 | replace hc17 := ndec_f hc17 | replace hc17 := nn_t hc17 | replace hc17 := nn_f hc17 | skip
            refine g_seq ?_
            refine g_region ?_
            refine gl_v rfl (o_assign rfl) ?_
            refine gl_nil ?_
            refine ge_then ?_
            refine g_ret ?_
            refine ge_then_ret ?_
            refine ret1 (.inl rfl) rfl rfl _ (⟨iv_eq (by unfold kndE; exact fr0 ((by assumption : k1 k = false)) (fr0 (hq) (fr0 ((by assumption : k3 k = false)) (fr0 (hz) (fr1 (by assumption)))))), rfl⟩) (To.sat (by repeat (first | exact .nil | exact .done .refl | (apply To.cons; · (repeat (first | exact .head | apply Sel.tail))) | exact .done (by repeat (first | exact .refl | apply Drop.skip)))))
          ·
            first | replace hc17 := of_decide_eq_true hc17 | replace hc17 := lt_f hc17 | replace hc17 := le_f hc17 | replace hc17 := dec_f hc17 | replace hc17 := nlt_t hc17 | replace hc17 := nle_t hc17 | replace hc17 := ndec_t hc17 | replace hc17 := ndec_f hc17 | replace hc17 := nn_t hc17 | replace hc17 := nn_f hc17 | skip
            refine g_skip ?_
            refine ge_then ?_
            refine g_seq ?_
            refine g_region ?_
            refine gl_v rfl (o_assign rfl) ?_
            refine gl_nil ?_
            refine ge_then ?_
            refine g_ret ?_
            refine ret1 (.inl rfl) rfl rfl _ (⟨iv_eq (by unfold kndE; exact fr0 ((by assumption : k1 k = false)) (fr0 (hq) (fr0 ((by assumption : k3 k = false)) (fr0 (hz) (fr0 (by assumption) (rfl)))))), rfl⟩) (To.sat (by repeat (first | exact .nil | exact .done .refl | (apply To.cons; · (repeat (first | exact .head | apply Sel.tail))) | exact .done (by repeat (first | exact .refl | apply Drop.skip)))))

end Go.Proofs.YtgmdlhlmffdbhaaDoor.L
