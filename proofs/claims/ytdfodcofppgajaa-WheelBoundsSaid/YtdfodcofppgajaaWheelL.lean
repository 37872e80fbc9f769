/-
  The wheel's laws that ask no reference: what each comes to. Own work, printed in part by a program of its own.
-/
import Derived.Test.YtdfodcofppgajaaWheelB
import Derived.Test.YtdfodcofppgajaaWheelQ
namespace Go.Proofs.Ytdfodcofppgajaa.L
open Go.L Go.L.Whl
theorem emod_of_tmod {a b : Int} (hb : 0 < b) : (if a.tmod b < 0 then a.tmod b + b else a.tmod b) = a % b := by
  have h1 := Int.emod_nonneg a (by omega : b ≠ 0)
  have h2 := Int.emod_lt_of_pos a hb
  have h3 := Int.tmod_eq_emod (a := a) (b := b)
  by_cases h : 0 ≤ a ∨ b ∣ a
  · rw [if_pos h] at h3
    rw [h3, if_neg (by omega)]; omega
  · rw [if_neg h] at h3
    rw [h3, if_pos (by omega)]; omega

set_option maxRecDepth 8000 in
theorem mod_spec (a b : Int) (hb : 0 < b ∧ b ≤ 1000000) (ha : -9223372036854775808 ≤ a ∧ a ≤ 9223372036854775807) : FnS Try.prog 11 [I64 a, I64 b] [] (fun u Bs => u = I64 (a % b) ∧ Bs = []) := by
  refine fn_body Try.func11 rfl rfl rfl ?_
  intro W0 R
  simp only [List.zipIdx_cons, List.zipIdx_nil, List.map_cons, List.map_nil, Nat.zero_add, Nat.reduceAdd, List.cons_append, List.nil_append]
  have hm := emod_of_tmod (a := a) hb.1
  have hl := Int.lt_tmod_of_pos a hb.1
  have hl2 := Int.tmod_lt_of_pos a hb.1
  refine g_seq ?_
  refine g_region ?_
  refine gl_v rfl (o_assign rfl) ?_
  refine gl_nil ?_
  refine ge_then ?_
  refine g_seq ?_
  refine g_region ?_
  refine gl_v rfl (o_move rfl) ?_
  refine gl_v rfl (o_move rfl) ?_
  refine gl_v rfl (o_remR (a.tmod b) rfl rfl rfl (by omega)) ?_
  refine gl_v rfl (o_assign rfl) ?_
  refine gl_nil ?_
  refine ge_then ?_
  refine g_seq ?_
  refine g_seq ?_
  refine g_region ?_
  refine gl_v rfl (o_move rfl) ?_
  refine gl_v rfl (o_lss rfl rfl) ?_
  refine gl_nil ?_
  refine ge_then ?_
  refine g_cond rfl (fun hc1 => ?_) (fun hc1 => ?_)
  ·
    first | replace hc1 := of_decide_eq_true hc1 | replace hc1 := lt_f hc1 | replace hc1 := le_f hc1 | replace hc1 := dec_f hc1 | replace hc1 := nlt_t hc1 | replace hc1 := nle_t hc1 | replace hc1 := ndec_t hc1 | replace hc1 := ndec_f hc1 | replace hc1 := nn_t hc1 | replace hc1 := nn_f hc1 | skip
    refine g_seq ?_
    refine g_region ?_
    refine gl_v rfl (o_move rfl) ?_
    refine gl_v rfl (o_move rfl) ?_
    refine gl_v rfl (o_addR (a.tmod b + b) (by rw [wr_i64 (by omega)]) rfl rfl) ?_
    refine gl_v rfl (o_assign rfl) ?_
    refine gl_nil ?_
    refine ge_then ?_
    refine g_ret ?_
    refine ge_then_ret ?_
    refine ret1 (.inl rfl) rfl rfl _ (⟨by rw [← hm, if_pos (by omega)], rfl⟩) (To.sat (by repeat (first | exact .nil | exact .done .refl | (apply To.cons; · (repeat (first | exact .head | apply Sel.tail))) | exact .done (by repeat (first | exact .refl | apply Drop.skip)))))
  ·
    first | replace hc1 := of_decide_eq_true hc1 | replace hc1 := lt_f hc1 | replace hc1 := le_f hc1 | replace hc1 := dec_f hc1 | replace hc1 := nlt_t hc1 | replace hc1 := nle_t hc1 | replace hc1 := ndec_t hc1 | replace hc1 := ndec_f hc1 | replace hc1 := nn_t hc1 | replace hc1 := nn_f hc1 | skip
    refine g_skip ?_
    refine ge_then ?_
    refine g_seq ?_
    refine g_region ?_
    refine gl_v rfl (o_move rfl) ?_
    refine gl_v rfl (o_assign rfl) ?_
    refine gl_nil ?_
    refine ge_then ?_
    refine g_ret ?_
    refine ret1 (.inl rfl) rfl rfl _ (⟨by rw [← hm, if_neg (by omega)], rfl⟩) (To.sat (by repeat (first | exact .nil | exact .done .refl | (apply To.cons; · (repeat (first | exact .head | apply Sel.tail))) | exact .done (by repeat (first | exact .refl | apply Drop.skip)))))

def wA1 : Wh := ⟨0, 1, [⟨5, 3, 1⟩]⟩
def wA2 : Wh := ⟨0, 2, [⟨5, 3, 1⟩, ⟨7, 20, 2⟩]⟩
theorem wA1_ok : WOk wA1 := WOk.nil.add 5 3
theorem wA2_ok : WOk wA2 := wA1_ok.add 7 20
set_option maxRecDepth 8000 in
theorem alive_spec : FnS Try.prog 9 [] [] (fun u Bs => u = .bool true ∧ Bs = []) := by
  refine fn_body Try.func9 rfl rfl rfl ?_
  intro W0 R
  simp only [List.zipIdx_cons, List.zipIdx_nil, List.map_cons, List.map_nil, Nat.zero_add, Nat.reduceAdd, List.cons_append, List.nil_append]
  refine g_seq ?_
  refine g_region ?_
  refine gl_v rfl (o_assign rfl) ?_
  refine gl_nil ?_
  refine ge_then ?_
  refine g_seq ?_
  refine g_region ?_
  refine gl_c rfl (o_call rfl (WNew_spec) (by repeat (first | exact .nil | (apply Part.cons; · (repeat (first | exact .head | apply Sel.tail)))))) ?_
  rintro _ R ⟨_, ⟨p, rfl, rfl⟩, rfl⟩
  try simp only [List.cons_append, List.nil_append]
  refine gl_v rfl (o_assign rfl) ?_
  refine gl_nil ?_
  refine ge_then ?_
  refine g_seq ?_
  refine g_seq ?_
  refine g_region ?_
  refine gl_v rfl (o_move rfl) ?_
  refine gl_v rfl (o_is (c := false) (by rfl) (o_eqlPn rfl rfl)) ?_
  refine gl_v rfl (o_move rfl) ?_
  refine gl_gT rfl rfl rfl ?_
  refine gl_v rfl (o_move rfl) ?_
  refine gl_gT rfl rfl rfl ?_
  refine gl_c rfl (o_call rfl (FnS.mono (post' := fun u Bs => u = I64 0 ∧ Bs = [wheel p wA1]) (Add_spec p ⟨0, 0, []⟩ 5 3 WOk.nil (by decide) (by decide)) (fun u Bs h => h)) (by repeat (first | exact .nil | (apply Part.cons; · (repeat (first | exact .head | apply Sel.tail)))))) ?_
  rintro _ R ⟨_, ⟨rfl, rfl⟩, rfl⟩
  try simp only [List.cons_append, List.nil_append]
  refine gl_gT rfl rfl rfl ?_
  refine gl_v rfl (o_is (c := false) (by rfl) (o_neq rfl rfl)) ?_
  refine gl_v rfl (o_pickF rfl rfl rfl) ?_
  refine gl_v rfl (o_move rfl) ?_
  refine gl_gT rfl rfl rfl ?_
  refine gl_v rfl (o_move rfl) ?_
  refine gl_gT rfl rfl rfl ?_
  refine gl_c rfl (o_call rfl (FnS.mono (post' := fun u Bs => u = I64 0 ∧ Bs = [wheel p wA2]) (Add_spec p wA1 7 20 wA1_ok (by decide) (by decide)) (fun u Bs h => h)) (by repeat (first | exact .nil | (apply Part.cons; · (repeat (first | exact .head | apply Sel.tail)))))) ?_
  rintro _ R ⟨_, ⟨rfl, rfl⟩, rfl⟩
  try simp only [List.cons_append, List.nil_append]
  refine gl_gT rfl rfl rfl ?_
  refine gl_v rfl (o_is (c := false) (by rfl) (o_neq rfl rfl)) ?_
  refine gl_v rfl (o_pickF rfl rfl rfl) ?_
  refine gl_v rfl (o_move rfl) ?_
  refine gl_gT rfl rfl rfl ?_
  refine gl_v rfl (o_move rfl) ?_
  refine gl_gT rfl rfl rfl ?_
  refine gl_c rfl (o_call rfl (FnS.mono (post' := fun u Bs => u = I64 3 ∧ Bs = [wheel p wA2]) (Add_spec p wA2 5 1 wA2_ok (by decide) (by decide)) (fun u Bs h => h)) (by repeat (first | exact .nil | (apply Part.cons; · (repeat (first | exact .head | apply Sel.tail)))))) ?_
  rintro _ R ⟨_, ⟨rfl, rfl⟩, rfl⟩
  try simp only [List.cons_append, List.nil_append]
  refine gl_gT rfl rfl rfl ?_
  refine gl_v rfl (o_is (c := false) (by rfl) (o_neq rfl rfl)) ?_
  refine gl_v rfl (o_pickF rfl rfl rfl) ?_
  refine gl_nil ?_
  refine ge_then ?_
  refine g_cond_false rfl ?_
  refine g_skip ?_
  refine ge_then ?_
  refine g_seq ?_
  refine g_region ?_
  refine gl_v rfl (o_move rfl) ?_
  refine gl_c rfl (o_call rfl (FnS.mono (post' := fun u Bs => u = .tuple #[I64 1, I64 2, .bool true] ∧ Bs = [wheel p wA2]) (WWhere_spec p wA2 7 wA2_ok) (fun u Bs h => h)) (by repeat (first | exact .nil | (apply Part.cons; · (repeat (first | exact .head | apply Sel.tail)))))) ?_
  rintro _ R ⟨_, ⟨rfl, rfl⟩, rfl⟩
  try simp only [List.cons_append, List.nil_append]
  refine gl_v rfl (o_move rfl) ?_
  refine gl_v rfl (o_extract rfl rfl) ?_
  refine gl_v rfl (o_extract rfl rfl) ?_
  refine gl_v rfl (o_extract rfl rfl) ?_
  refine gl_v rfl (o_assign rfl) ?_
  refine gl_v rfl (o_assign rfl) ?_
  refine gl_v rfl (o_assign rfl) ?_
  refine gl_nil ?_
  refine ge_then ?_
  refine g_seq ?_
  refine g_region ?_
  refine gl_v rfl (o_assign rfl) ?_
  refine gl_nil ?_
  refine ge_then ?_
  refine g_seq ?_
  refine g_seq ?_
  refine g_region ?_
  refine gl_v rfl (o_assign rfl) ?_
  refine gl_nil ?_
  refine ge_then ?_
  refine g_block ?_
  refine g_loop (ι := Nat) (fun i => i ≤ 3) (fun i => [(6, I64 i), (5, I64 ((tcnt i wA2 : Nat) : Int)), (1, ptr p 0), (2, I64 1), (3, I64 2), (4, .bool true)]) (fun i => wheel p (tkN i wA2) :: R) (fun i => 3 - i) 0 (Nat.zero_le _) (Keep.cons rfl (Keep.cons rfl (Keep.cons rfl (Keep.cons rfl (Keep.cons rfl (Keep.cons rfl (Keep.nil))))))) (To.sat (by repeat (first | exact .nil | exact .done .refl | (apply To.cons; · (repeat (first | exact .head | apply Sel.tail))) | exact .done (by repeat (first | exact .refl | apply Drop.skip))))) ?_
  intro i hi
  refine g_seq ?_
  refine g_seq ?_
  refine g_region ?_
  refine gl_v rfl (o_move rfl) ?_
  refine gl_v rfl (o_lss rfl rfl) ?_
  refine gl_nil ?_
  refine ge_then ?_
  refine g_cond rfl (fun hc1 => ?_) (fun hc1 => ?_)
  ·
    first | replace hc1 := of_decide_eq_true hc1 | replace hc1 := lt_f hc1 | replace hc1 := le_f hc1 | replace hc1 := dec_f hc1 | replace hc1 := nlt_t hc1 | replace hc1 := nle_t hc1 | replace hc1 := ndec_t hc1 | replace hc1 := ndec_f hc1 | replace hc1 := nn_t hc1 | replace hc1 := nn_f hc1 | skip
    refine g_skip ?_
    refine ge_then ?_
    refine g_seq ?_
    refine g_block ?_
    refine g_region ?_
    refine gl_v rfl (o_move rfl) ?_
    refine gl_v rfl (o_move rfl) ?_
    refine gl_c rfl (o_call rfl (Tick_spec p (tkN i wA2) (tkN_ok wA2_ok i) (by rw [tkN_now]; show 0 + i < _; omega) (by rw [tkN_seq]; decide)) (by repeat (first | exact .nil | (apply Part.cons; · (repeat (first | exact .head | apply Sel.tail)))))) ?_
    rintro _ R ⟨_, ⟨a3, c3, rfl, rfl⟩, rfl⟩
    try simp only [List.cons_append, List.nil_append]
    refine gl_v rfl (o_lenL rfl) ?_
    refine gl_v rfl (o_addR ((tcnt (i + 1) wA2 : Nat) : Int) (by have h1 := tcnt_len wA2 (i + 1); have h2 : wA2.T.length = 2 := rfl; have h3 : tcnt (i + 1) wA2 = tcnt i wA2 + (dueL (tkN i wA2)).length := rfl; rw [wr_i64 (by omega)]; omega) rfl rfl) ?_
    refine gl_v rfl (o_assign rfl) ?_
    refine gl_nil ?_
    refine ge_block ?_
    refine ge_then ?_
    refine g_region ?_
    refine gl_v rfl (o_move rfl) ?_
    refine gl_v rfl (o_addR ((i + 1 : Nat) : Int) (by rw [wr_i64 (by omega)]; omega) rfl rfl) ?_
    refine gl_v rfl (o_assign rfl) ?_
    refine gl_nil ?_
    refine ge_round (i + 1) (show i + 1 ≤ 3 by omega) (by omega) (Keep.cons rfl (Keep.cons rfl (Keep.cons rfl (Keep.cons rfl (Keep.cons rfl (Keep.cons rfl (Keep.nil))))))) (To.sat (by repeat (first | exact .nil | exact .done .refl | (apply To.cons; · (repeat (first | exact .head | apply Sel.tail))) | exact .done (by repeat (first | exact .refl | apply Drop.skip)))))
  ·
    first | replace hc1 := of_decide_eq_true hc1 | replace hc1 := lt_f hc1 | replace hc1 := le_f hc1 | replace hc1 := dec_f hc1 | replace hc1 := nlt_t hc1 | replace hc1 := nle_t hc1 | replace hc1 := ndec_t hc1 | replace hc1 := ndec_f hc1 | replace hc1 := nn_t hc1 | replace hc1 := nn_f hc1 | skip
    refine g_exit ?_
    refine ge_then_exit ?_
    refine ge_then_exit ?_
    refine ge_block_exit ?_
    refine ge_then ?_
    refine g_seq ?_
    obtain rfl : i = 3 := by omega
    refine g_region ?_
    refine gl_v rfl (o_move rfl) ?_
    refine gl_v rfl (o_is (c := true) (by rfl) (o_eql rfl rfl)) ?_
    refine gl_v rfl (o_move rfl) ?_
    refine gl_gT rfl rfl rfl ?_
    refine gl_v rfl (o_move rfl) ?_
    refine gl_gT rfl rfl rfl ?_
    refine gl_v rfl (o_is (c := true) (by rfl) (o_eql rfl rfl)) ?_
    refine gl_v rfl (o_pickT rfl rfl rfl) ?_
    refine gl_v rfl (o_move rfl) ?_
    refine gl_gT rfl rfl rfl ?_
    refine gl_v rfl (o_move rfl) ?_
    refine gl_v rfl (o_pickT rfl rfl rfl) ?_
    refine gl_v rfl (o_move rfl) ?_
    refine gl_gT rfl rfl rfl ?_
    refine gl_v rfl (o_move rfl) ?_
    refine gl_gT rfl rfl rfl ?_
    refine gl_v rfl (o_is (c := true) (by rfl) (o_eql rfl rfl)) ?_
    refine gl_v rfl (o_pickT rfl rfl rfl) ?_
    refine gl_v rfl (o_move rfl) ?_
    refine gl_gT rfl rfl rfl ?_
    refine gl_v rfl (o_move rfl) ?_
    refine gl_gT rfl rfl rfl ?_
    refine gl_c rfl (o_call rfl (FnS.mono (post' := fun u Bs => u = I64 3 ∧ Bs = [wheel p (tkN 3 wA2)]) (Now_spec p (tkN 3 wA2)) (fun u Bs h => h)) (by repeat (first | exact .nil | (apply Part.cons; · (repeat (first | exact .head | apply Sel.tail)))))) ?_
    rintro _ R ⟨_, ⟨rfl, rfl⟩, rfl⟩
    try simp only [List.cons_append, List.nil_append]
    refine gl_gT rfl rfl rfl ?_
    refine gl_v rfl (o_is (c := true) (by rfl) (o_eql rfl rfl)) ?_
    refine gl_v rfl (o_pickT rfl rfl rfl) ?_
    refine gl_v rfl (o_move rfl) ?_
    refine gl_gT rfl rfl rfl ?_
    refine gl_v rfl (o_move rfl) ?_
    refine gl_gT rfl rfl rfl ?_
    refine gl_c rfl (o_call rfl (FnS.mono (post' := fun u Bs => u = I64 1 ∧ Bs = [wheel p (tkN 3 wA2)]) (WLen_spec p (tkN 3 wA2) (tkN_ok wA2_ok 3)) (fun u Bs h => h)) (by repeat (first | exact .nil | (apply Part.cons; · (repeat (first | exact .head | apply Sel.tail)))))) ?_
    rintro _ R ⟨_, ⟨rfl, rfl⟩, rfl⟩
    try simp only [List.cons_append, List.nil_append]
    refine gl_gT rfl rfl rfl ?_
    refine gl_v rfl (o_is (c := true) (by rfl) (o_eql rfl rfl)) ?_
    refine gl_v rfl (o_pickT rfl rfl rfl) ?_
    refine gl_v rfl (o_assign rfl) ?_
    refine gl_nil ?_
    refine ge_then ?_
    refine g_ret ?_
    refine ret1 (.inl rfl) rfl rfl _ (⟨rfl, rfl⟩) (To.sat (by repeat (first | exact .nil | exact .done .refl | (apply To.cons; · (repeat (first | exact .head | apply Sel.tail))) | exact .done (by repeat (first | exact .refl | apply Drop.skip)))))

def wB (id : Int) : Wh := ⟨0, 1, [⟨id, 7, 1⟩]⟩
theorem wB_ok (id : Int) : WOk (wB id) := WOk.nil.add id 7
theorem wB_get (id : Int) : (wB id).get id = some ⟨id, 7, 1⟩ := get_some (wB_ok id) (List.mem_singleton.2 rfl) rfl
theorem wB_no {id j : Int} (h : j ≠ id) : (wB id).get j = none := get_none.2 fun t ht => by
  obtain rfl := List.mem_singleton.1 ht; exact Ne.symm h
def nx (id : Int) : Int := IntKind.u64.wrap (id + 1)
theorem nx_ne {id : Int} (h : 0 ≤ id ∧ id ≤ 18446744073709551615) : nx id ≠ id := by
  unfold nx IntKind.wrap; simp [IntKind.bits, IntKind.signed]; omega
def wB2 (id d : Int) : Wh := ⟨0, 2, [⟨id, 7, 1⟩, ⟨nx id, d.toNat, 2⟩]⟩
theorem wB2_of {id d : Int} (h : 0 ≤ id ∧ id ≤ 18446744073709551615) (hd : ¬ (d < 1 ∨ 4095 < d)) : addR (wB id) (nx id) d = wB2 id d := by
  unfold addR; rw [if_pos (addE_z hd (wB_no (nx_ne h)) (show ¬ 64 ≤ 1 by decide))]; simp [wB, wB2]
set_option maxRecDepth 8000 in
theorem bounds_spec (id d : Int) (hid : 0 ≤ id ∧ id ≤ 18446744073709551615) (hd : -9223372036854775808 ≤ d ∧ d ≤ 9223372036854775807) : FnS Try.prog 5 [U64 id, I64 d] [] (fun u Bs => u = .bool true ∧ Bs = []) := by
  refine fn_body Try.func5 rfl rfl rfl ?_
  intro W0 R
  simp only [List.zipIdx_cons, List.zipIdx_nil, List.map_cons, List.map_nil, Nat.zero_add, Nat.reduceAdd, List.cons_append, List.nil_append]
  refine g_seq ?_
  refine g_region ?_
  refine gl_v rfl (o_assign rfl) ?_
  refine gl_nil ?_
  refine ge_then ?_
  refine g_seq ?_
  refine g_seq ?_
  refine g_region ?_
  refine gl_c rfl (o_call rfl (alive_spec) (by repeat (first | exact .nil | (apply Part.cons; · (repeat (first | exact .head | apply Sel.tail)))))) ?_
  rintro _ R ⟨_, ⟨rfl, rfl⟩, rfl⟩
  try simp only [List.cons_append, List.nil_append]
  refine gl_v rfl (o_is (c := false) (by rfl) (o_not rfl)) ?_
  refine gl_nil ?_
  refine ge_then ?_
  refine g_cond_false rfl ?_
  refine g_skip ?_
  refine ge_then ?_
  refine g_seq ?_
  refine g_region ?_
  refine gl_c rfl (o_call rfl (WNew_spec) (by repeat (first | exact .nil | (apply Part.cons; · (repeat (first | exact .head | apply Sel.tail)))))) ?_
  rintro _ R ⟨_, ⟨p, rfl, rfl⟩, rfl⟩
  try simp only [List.cons_append, List.nil_append]
  refine gl_v rfl (o_assign rfl) ?_
  refine gl_nil ?_
  refine ge_then ?_
  refine g_seq ?_
  refine g_seq ?_
  refine g_region ?_
  refine gl_v rfl (o_move rfl) ?_
  refine gl_v rfl (o_move rfl) ?_
  refine gl_c rfl (o_call rfl (FnS.mono (post' := fun u Bs => u = I64 0 ∧ Bs = [wheel p (wB id)]) (Add_spec p ⟨0, 0, []⟩ id 7 WOk.nil (by decide) (by decide)) (fun u Bs h => h)) (by repeat (first | exact .nil | (apply Part.cons; · (repeat (first | exact .head | apply Sel.tail)))))) ?_
  rintro _ R ⟨_, ⟨rfl, rfl⟩, rfl⟩
  try simp only [List.cons_append, List.nil_append]
  refine gl_v rfl (o_is (c := false) (by rfl) (o_neq rfl rfl)) ?_
  refine gl_nil ?_
  refine ge_then ?_
  refine g_cond_false rfl ?_
  refine g_skip ?_
  refine ge_then ?_
  refine g_seq ?_
  refine g_region ?_
  refine gl_v rfl (o_move rfl) ?_
  refine gl_v rfl (o_move rfl) ?_
  refine gl_v rfl (o_add rfl rfl) ?_
  refine gl_v rfl (o_move rfl) ?_
  refine gl_c rfl (o_call rfl (Add_spec p (wB id) (nx id) d (wB_ok id) (by show 0 < _; decide) (by show 1 < _; decide)) (by repeat (first | exact .nil | (apply Part.cons; · (repeat (first | exact .head | apply Sel.tail)))))) ?_
  rintro _ R ⟨_, ⟨rfl, rfl⟩, rfl⟩
  try simp only [List.cons_append, List.nil_append]
  refine gl_v rfl (o_assign rfl) ?_
  refine gl_nil ?_
  refine ge_then ?_
  refine g_seq ?_
  refine g_region ?_
  refine gl_v rfl (o_move rfl) ?_
  refine gl_v rfl (o_move rfl) ?_
  refine gl_v rfl (o_add rfl rfl) ?_
  refine gl_c rfl (o_call rfl (Due_spec p (addR (wB id) (nx id) d) (nx id) ((wB_ok id).add _ _)) (by repeat (first | exact .nil | (apply Part.cons; · (repeat (first | exact .head | apply Sel.tail)))))) ?_
  rintro _ R ⟨_, ⟨rfl, rfl⟩, rfl⟩
  try simp only [List.cons_append, List.nil_append]
  refine gl_v rfl (o_move rfl) ?_
  refine gl_v rfl (o_extract (v := I64 (match (addR (wB id) (nx id) d).get (nx id) with | some t => (t.due : Int) | none => 0)) (vs := [I64 (match (addR (wB id) (nx id) d).get (nx id) with | some t => (t.due : Int) | none => 0), .bool ((addR (wB id) (nx id) d).get (nx id)).isSome]) (by simp only [opv, slk, Nat.beq]; unfold dueV; cases (addR (wB id) (nx id) d).get (nx id) <;> rfl) rfl) ?_
  refine gl_v rfl (o_extract (v := .bool ((addR (wB id) (nx id) d).get (nx id)).isSome) (vs := [I64 (match (addR (wB id) (nx id) d).get (nx id) with | some t => (t.due : Int) | none => 0), .bool ((addR (wB id) (nx id) d).get (nx id)).isSome]) (by simp only [opv, slk, Nat.beq]; unfold dueV; cases (addR (wB id) (nx id) d).get (nx id) <;> rfl) rfl) ?_
  refine gl_v rfl (o_assign rfl) ?_
  refine gl_v rfl (o_assign rfl) ?_
  refine gl_nil ?_
  refine ge_then ?_
  refine g_seq ?_
  refine g_seq ?_
  refine g_region ?_
  refine gl_v rfl (o_move rfl) ?_
  refine gl_v rfl (o_lss rfl rfl) ?_
  refine gl_v rfl (o_move rfl) ?_
  refine gl_g rfl rfl (fun hc1 => ?_) (fun hc1 => ?_) rfl
  ·
    have hc1' := hc1
    first | replace hc1' := of_decide_eq_true hc1' | replace hc1' := lt_f hc1' | replace hc1' := le_f hc1' | replace hc1' := dec_f hc1' | replace hc1' := nlt_t hc1' | replace hc1' := nle_t hc1' | replace hc1' := ndec_t hc1' | replace hc1' := ndec_f hc1' | replace hc1' := nn_t hc1' | replace hc1' := nn_f hc1' | skip
    refine gl_v rfl (o_move rfl) ?_
    refine gl_gT rfl rfl hc1 ?_
    refine gl_v rfl (o_gtr rfl rfl) ?_
    refine gl_v rfl (o_pickF hc1 rfl rfl) ?_
    refine gl_nil ?_
    refine ge_then ?_
    refine g_cond rfl (fun hc2 => ?_) (fun hc2 => ?_)
    ·
      first | replace hc2 := of_decide_eq_true hc2 | replace hc2 := lt_f hc2 | replace hc2 := le_f hc2 | replace hc2 := dec_f hc2 | replace hc2 := nlt_t hc2 | replace hc2 := nle_t hc2 | replace hc2 := ndec_t hc2 | replace hc2 := ndec_f hc2 | replace hc2 := nn_t hc2 | replace hc2 := nn_f hc2 | skip
      refine g_seq ?_
      have hbad : d < 1 ∨ 4095 < d := by omega
      have hr : addR (wB id) (nx id) d = wB id := addR_ne (by rw [addE_1 hbad]; decide)
      refine g_region ?_
      refine gl_v rfl (o_move rfl) ?_
      refine gl_v rfl (o_is (c := true) (by rw [addE_1 hbad]; rfl) (o_eql rfl rfl)) ?_
      refine gl_v rfl (o_move rfl) ?_
      refine gl_gT rfl rfl rfl ?_
      refine gl_v rfl (o_move rfl) ?_
      refine gl_gT rfl rfl rfl ?_
      refine gl_v rfl (o_move rfl) ?_
      refine gl_gT rfl rfl rfl ?_
      refine gl_v rfl (o_move rfl) ?_
      refine gl_gT rfl rfl rfl ?_
      refine gl_c rfl (o_call rfl (Add_spec p (addR (wB id) (nx id) d) id d ((wB_ok id).add _ _) (by rw [hr]; show 0 < _; decide) (by rw [hr]; show 1 < _; decide)) (by repeat (first | exact .nil | (apply Part.cons; · (repeat (first | exact .head | apply Sel.tail)))))) ?_
      rintro _ R ⟨_, ⟨rfl, rfl⟩, rfl⟩
      try simp only [List.cons_append, List.nil_append]
      refine gl_gT rfl rfl rfl ?_
      refine gl_v rfl (o_is (c := true) (by rw [addE_1 hbad]; rfl) (o_eql rfl rfl)) ?_
      refine gl_v rfl (o_pickT rfl rfl rfl) ?_
      refine gl_v rfl (o_move rfl) ?_
      refine gl_gT rfl rfl rfl ?_
      refine gl_v rfl (o_move rfl) ?_
      refine gl_gT rfl rfl rfl ?_
      refine gl_v rfl (o_is (c := true) (by rw [hr, wB_no (nx_ne hid)]; rfl) (o_not rfl)) ?_
      refine gl_v rfl (o_pickT rfl rfl rfl) ?_
      refine gl_v rfl (o_move rfl) ?_
      refine gl_gT rfl rfl rfl ?_
      refine gl_v rfl (o_move rfl) ?_
      refine gl_gT rfl rfl rfl ?_
      refine gl_c rfl (o_call rfl (WLen_spec p (addR (addR (wB id) (nx id) d) id d) (((wB_ok id).add _ _).add _ _)) (by repeat (first | exact .nil | (apply Part.cons; · (repeat (first | exact .head | apply Sel.tail)))))) ?_
      rintro _ R ⟨_, ⟨rfl, rfl⟩, rfl⟩
      try simp only [List.cons_append, List.nil_append]
      refine gl_gT rfl rfl rfl ?_
      refine gl_v rfl (o_is (c := true) (by rw [hr, addR_ne (by rw [addE_1 hbad]; decide)]; rfl) (o_eql rfl rfl)) ?_
      refine gl_v rfl (o_pickT rfl rfl rfl) ?_
      refine gl_v rfl (o_assign rfl) ?_
      refine gl_nil ?_
      refine ge_then ?_
      refine g_ret ?_
      refine ge_then_ret ?_
      refine ret1 (.inl rfl) rfl rfl _ (⟨rfl, rfl⟩) (To.sat (by repeat (first | exact .nil | exact .done .refl | (apply To.cons; · (repeat (first | exact .head | apply Sel.tail))) | exact .done (by repeat (first | exact .refl | apply Drop.skip)))))
    ·
      first | replace hc2 := of_decide_eq_true hc2 | replace hc2 := lt_f hc2 | replace hc2 := le_f hc2 | replace hc2 := dec_f hc2 | replace hc2 := nlt_t hc2 | replace hc2 := nle_t hc2 | replace hc2 := ndec_t hc2 | replace hc2 := ndec_f hc2 | replace hc2 := nn_t hc2 | replace hc2 := nn_f hc2 | skip
      refine g_skip ?_
      refine ge_then ?_
      refine g_seq ?_
      have hgood : ¬ (d < 1 ∨ 4095 < d) := by omega
      have hr := wB2_of hid hgood
      have hok : WOk (wB2 id d) := by rw [← hr]; exact (wB_ok id).add _ _
      have hg1 : (wB2 id d).get (nx id) = some ⟨nx id, d.toNat, 2⟩ := get_some hok (by simp [wB2]) rfl
      have hg2 : (wB2 id d).get id = some ⟨id, 7, 1⟩ := get_some hok (by simp [wB2]) rfl
      refine g_region ?_
      refine gl_v rfl (o_move rfl) ?_
      refine gl_v rfl (o_is (c := true) (by rw [addE_z hgood (wB_no (nx_ne hid)) (show ¬ 64 ≤ 1 by decide)]; rfl) (o_eql rfl rfl)) ?_
      refine gl_v rfl (o_move rfl) ?_
      refine gl_gT rfl rfl rfl ?_
      refine gl_v rfl (o_move rfl) ?_
      refine gl_gT rfl rfl rfl ?_
      refine gl_v rfl (o_move rfl) ?_
      refine gl_gT rfl rfl rfl ?_
      refine gl_v rfl (o_move rfl) ?_
      refine gl_gT rfl rfl rfl ?_
      refine gl_c rfl (o_call rfl (Add_spec p (addR (wB id) (nx id) d) id d ((wB_ok id).add _ _) (by rw [hr]; show 0 < _; decide) (by rw [hr]; show 2 < _; decide)) (by repeat (first | exact .nil | (apply Part.cons; · (repeat (first | exact .head | apply Sel.tail)))))) ?_
      rintro _ R ⟨_, ⟨rfl, rfl⟩, rfl⟩
      try simp only [List.cons_append, List.nil_append]
      refine gl_gT rfl rfl rfl ?_
      refine gl_v rfl (o_is (c := true) (by rw [hr, addE_3 hgood hg2]; rfl) (o_eql rfl rfl)) ?_
      refine gl_v rfl (o_pickT rfl rfl rfl) ?_
      refine gl_v rfl (o_move rfl) ?_
      refine gl_gT rfl rfl rfl ?_
      refine gl_v rfl (o_is (c := true) (by rw [hr, hg1]; rfl) (o_move rfl)) ?_
      refine gl_v rfl (o_pickT rfl rfl rfl) ?_
      refine gl_v rfl (o_move rfl) ?_
      refine gl_gT rfl rfl rfl ?_
      refine gl_v rfl (o_move rfl) ?_
      refine gl_gT rfl rfl rfl ?_
      refine gl_v rfl (o_move rfl) ?_
      refine gl_gT rfl rfl rfl ?_
      refine gl_v rfl (o_is (c := true) (by rw [hr, hg1]; show decide (((d.toNat : Nat) : Int) = d) = true; rw [decide_eq_true_eq]; omega) (o_eql rfl rfl)) ?_
      refine gl_v rfl (o_pickT rfl rfl rfl) ?_
      refine gl_v rfl (o_move rfl) ?_
      refine gl_gT rfl rfl rfl ?_
      refine gl_v rfl (o_move rfl) ?_
      refine gl_gT rfl rfl rfl ?_
      refine gl_c rfl (o_call rfl (WLen_spec p (addR (addR (wB id) (nx id) d) id d) (((wB_ok id).add _ _).add _ _)) (by repeat (first | exact .nil | (apply Part.cons; · (repeat (first | exact .head | apply Sel.tail)))))) ?_
      rintro _ R ⟨_, ⟨rfl, rfl⟩, rfl⟩
      try simp only [List.cons_append, List.nil_append]
      refine gl_gT rfl rfl rfl ?_
      refine gl_v rfl (o_is (c := true) (by rw [hr, addR_ne (by rw [addE_3 hgood hg2]; decide)]; rfl) (o_eql rfl rfl)) ?_
      refine gl_v rfl (o_pickT rfl rfl rfl) ?_
      refine gl_v rfl (o_assign rfl) ?_
      refine gl_nil ?_
      refine ge_then ?_
      refine g_ret ?_
      refine ret1 (.inl rfl) rfl rfl _ (⟨rfl, rfl⟩) (To.sat (by repeat (first | exact .nil | exact .done .refl | (apply To.cons; · (repeat (first | exact .head | apply Sel.tail))) | exact .done (by repeat (first | exact .refl | apply Drop.skip)))))
  ·
    have hc1' := hc1
    first | replace hc1' := of_decide_eq_true hc1' | replace hc1' := lt_f hc1' | replace hc1' := le_f hc1' | replace hc1' := dec_f hc1' | replace hc1' := nlt_t hc1' | replace hc1' := nle_t hc1' | replace hc1' := ndec_t hc1' | replace hc1' := ndec_f hc1' | replace hc1' := nn_t hc1' | replace hc1' := nn_f hc1' | skip
    simp only [putO]
    refine gl_gF rfl rfl hc1 rfl ?_
    refine gl_v rfl (o_pickT hc1 rfl rfl) ?_
    refine gl_nil ?_
    refine ge_then ?_
    refine g_cond_true rfl ?_
    refine g_seq ?_
    have hbad : d < 1 ∨ 4095 < d := by omega
    have hr : addR (wB id) (nx id) d = wB id := addR_ne (by rw [addE_1 hbad]; decide)
    refine g_region ?_
    refine gl_v rfl (o_move rfl) ?_
    refine gl_v rfl (o_is (c := true) (by rw [addE_1 hbad]; rfl) (o_eql rfl rfl)) ?_
    refine gl_v rfl (o_move rfl) ?_
    refine gl_gT rfl rfl rfl ?_
    refine gl_v rfl (o_move rfl) ?_
    refine gl_gT rfl rfl rfl ?_
    refine gl_v rfl (o_move rfl) ?_
    refine gl_gT rfl rfl rfl ?_
    refine gl_v rfl (o_move rfl) ?_
    refine gl_gT rfl rfl rfl ?_
    refine gl_c rfl (o_call rfl (Add_spec p (addR (wB id) (nx id) d) id d ((wB_ok id).add _ _) (by rw [hr]; show 0 < _; decide) (by rw [hr]; show 1 < _; decide)) (by repeat (first | exact .nil | (apply Part.cons; · (repeat (first | exact .head | apply Sel.tail)))))) ?_
    rintro _ R ⟨_, ⟨rfl, rfl⟩, rfl⟩
    try simp only [List.cons_append, List.nil_append]
    refine gl_gT rfl rfl rfl ?_
    refine gl_v rfl (o_is (c := true) (by rw [addE_1 hbad]; rfl) (o_eql rfl rfl)) ?_
    refine gl_v rfl (o_pickT rfl rfl rfl) ?_
    refine gl_v rfl (o_move rfl) ?_
    refine gl_gT rfl rfl rfl ?_
    refine gl_v rfl (o_move rfl) ?_
    refine gl_gT rfl rfl rfl ?_
    refine gl_v rfl (o_is (c := true) (by rw [hr, wB_no (nx_ne hid)]; rfl) (o_not rfl)) ?_
    refine gl_v rfl (o_pickT rfl rfl rfl) ?_
    refine gl_v rfl (o_move rfl) ?_
    refine gl_gT rfl rfl rfl ?_
    refine gl_v rfl (o_move rfl) ?_
    refine gl_gT rfl rfl rfl ?_
    refine gl_c rfl (o_call rfl (WLen_spec p (addR (addR (wB id) (nx id) d) id d) (((wB_ok id).add _ _).add _ _)) (by repeat (first | exact .nil | (apply Part.cons; · (repeat (first | exact .head | apply Sel.tail)))))) ?_
    rintro _ R ⟨_, ⟨rfl, rfl⟩, rfl⟩
    try simp only [List.cons_append, List.nil_append]
    refine gl_gT rfl rfl rfl ?_
    refine gl_v rfl (o_is (c := true) (by rw [hr, addR_ne (by rw [addE_1 hbad]; decide)]; rfl) (o_eql rfl rfl)) ?_
    refine gl_v rfl (o_pickT rfl rfl rfl) ?_
    refine gl_v rfl (o_assign rfl) ?_
    refine gl_nil ?_
    refine ge_then ?_
    refine g_ret ?_
    refine ge_then_ret ?_
    refine ret1 (.inl rfl) rfl rfl _ (⟨rfl, rfl⟩) (To.sat (by repeat (first | exact .nil | exact .done .refl | (apply To.cons; · (repeat (first | exact .head | apply Sel.tail))) | exact .done (by repeat (first | exact .refl | apply Drop.skip)))))

end Go.Proofs.Ytdfodcofppgajaa.L

