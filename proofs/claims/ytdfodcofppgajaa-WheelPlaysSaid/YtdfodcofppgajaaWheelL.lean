/-
  The wheel's laws that ask no reference: what each comes to. Own work, printed in part by a program of its own.
-/
import Derived.Test.YtdfodcofppgajaaWheelB
import Derived.Test.YtdfodcofppgajaaWheelQ
namespace Go.Proofs.Ytdfodcofppgajaa.L
open Go.L Go.L.Whl
theorem emod_of_tmod {a b : Int} (hb : 0 < b) : (if a.tmod b < 0 then a.tmod b + b else a.tmod b) = a % b := by
  have h1 := Int.emod_nonneg a (by omega : b ≠ 0)
  have h2 := Int.emod_lt_of_pos a hb
  have h3 := Int.tmod_eq_emod (a := a) (b := b)
  by_cases h : 0 ≤ a ∨ b ∣ a
  · rw [if_pos h] at h3
    rw [h3, if_neg (by omega)]; omega
  · rw [if_neg h] at h3
    rw [h3, if_pos (by omega)]; omega

set_option maxRecDepth 8000 in
theorem mod_spec (a b : Int) (hb : 0 < b ∧ b ≤ 1000000) (ha : -9223372036854775808 ≤ a ∧ a ≤ 9223372036854775807) : FnS Try.prog 11 [I64 a, I64 b] [] (fun u Bs => u = I64 (a % b) ∧ Bs = []) := by
  refine fn_body Try.func11 rfl rfl rfl ?_
  intro W0 R
  simp only [List.zipIdx_cons, List.zipIdx_nil, List.map_cons, List.map_nil, Nat.zero_add, Nat.reduceAdd, List.cons_append, List.nil_append]
  have hm := emod_of_tmod (a := a) hb.1
  have hl := Int.lt_tmod_of_pos a hb.1
  have hl2 := Int.tmod_lt_of_pos a hb.1
  refine g_seq ?_
  refine g_region ?_
  refine gl_v rfl (o_assign rfl) ?_
  refine gl_nil ?_
  refine ge_then ?_
  refine g_seq ?_
  refine g_region ?_
  refine gl_v rfl (o_move rfl) ?_
  refine gl_v rfl (o_move rfl) ?_
  refine gl_v rfl (o_remR (a.tmod b) rfl rfl rfl (by omega)) ?_
  refine gl_v rfl (o_assign rfl) ?_
  refine gl_nil ?_
  refine ge_then ?_
  refine g_seq ?_
  refine g_seq ?_
  refine g_region ?_
  refine gl_v rfl (o_move rfl) ?_
  refine gl_v rfl (o_lss rfl rfl) ?_
  refine gl_nil ?_
  refine ge_then ?_
  refine g_cond rfl (fun hc1 => ?_) (fun hc1 => ?_)
  ·
    first | replace hc1 := of_decide_eq_true hc1 | replace hc1 := lt_f hc1 | replace hc1 := le_f hc1 | replace hc1 := dec_f hc1 | replace hc1 := nlt_t hc1 | replace hc1 := nle_t hc1 | replace hc1 := ndec_t hc1 | replace hc1 := ndec_f hc1 | replace hc1 := nn_t hc1 | replace hc1 := nn_f hc1 | skip
    refine g_seq ?_
    refine g_region ?_
    refine gl_v rfl (o_move rfl) ?_
    refine gl_v rfl (o_move rfl) ?_
    refine gl_v rfl (o_addR (a.tmod b + b) (by rw [wr_i64 (by omega)]) rfl rfl) ?_
    refine gl_v rfl (o_assign rfl) ?_
    refine gl_nil ?_
    refine ge_then ?_
    refine g_ret ?_
    refine ge_then_ret ?_
    refine ret1 (.inl rfl) rfl rfl _ (⟨by rw [← hm, if_pos (by omega)], rfl⟩) (To.sat (by repeat (first | exact .nil | exact .done .refl | (apply To.cons; · (repeat (first | exact .head | apply Sel.tail))) | exact .done (by repeat (first | exact .refl | apply Drop.skip)))))
  ·
    first | replace hc1 := of_decide_eq_true hc1 | replace hc1 := lt_f hc1 | replace hc1 := le_f hc1 | replace hc1 := dec_f hc1 | replace hc1 := nlt_t hc1 | replace hc1 := nle_t hc1 | replace hc1 := ndec_t hc1 | replace hc1 := ndec_f hc1 | replace hc1 := nn_t hc1 | replace hc1 := nn_f hc1 | skip
    refine g_skip ?_
    refine ge_then ?_
    refine g_seq ?_
    refine g_region ?_
    refine gl_v rfl (o_move rfl) ?_
    refine gl_v rfl (o_assign rfl) ?_
    refine gl_nil ?_
    refine ge_then ?_
    refine g_ret ?_
    refine ret1 (.inl rfl) rfl rfl _ (⟨by rw [← hm, if_neg (by omega)], rfl⟩) (To.sat (by repeat (first | exact .nil | exact .done .refl | (apply To.cons; · (repeat (first | exact .head | apply Sel.tail))) | exact .done (by repeat (first | exact .refl | apply Drop.skip)))))

def wA1 : Wh := ⟨0, 1, [⟨5, 3, 1⟩]⟩
def wA2 : Wh := ⟨0, 2, [⟨5, 3, 1⟩, ⟨7, 20, 2⟩]⟩
theorem wA1_ok : WOk wA1 := WOk.nil.add 5 3
theorem wA2_ok : WOk wA2 := wA1_ok.add 7 20
set_option maxRecDepth 8000 in
theorem alive_spec : FnS Try.prog 9 [] [] (fun u Bs => u = .bool true ∧ Bs = []) := by
  refine fn_body Try.func9 rfl rfl rfl ?_
  intro W0 R
  simp only [List.zipIdx_cons, List.zipIdx_nil, List.map_cons, List.map_nil, Nat.zero_add, Nat.reduceAdd, List.cons_append, List.nil_append]
  refine g_seq ?_
  refine g_region ?_
  refine gl_v rfl (o_assign rfl) ?_
  refine gl_nil ?_
  refine ge_then ?_
  refine g_seq ?_
  refine g_region ?_
  refine gl_c rfl (o_call rfl (WNew_spec) (by repeat (first | exact .nil | (apply Part.cons; · (repeat (first | exact .head | apply Sel.tail)))))) ?_
  rintro _ R ⟨_, ⟨p, rfl, rfl⟩, rfl⟩
  try simp only [List.cons_append, List.nil_append]
  refine gl_v rfl (o_assign rfl) ?_
  refine gl_nil ?_
  refine ge_then ?_
  refine g_seq ?_
  refine g_seq ?_
  refine g_region ?_
  refine gl_v rfl (o_move rfl) ?_
  refine gl_v rfl (o_is (c := false) (by rfl) (o_eqlPn rfl rfl)) ?_
  refine gl_v rfl (o_move rfl) ?_
  refine gl_gT rfl rfl rfl ?_
  refine gl_v rfl (o_move rfl) ?_
  refine gl_gT rfl rfl rfl ?_
  refine gl_c rfl (o_call rfl (FnS.mono (post' := fun u Bs => u = I64 0 ∧ Bs = [wheel p wA1]) (Add_spec p ⟨0, 0, []⟩ 5 3 WOk.nil (by decide) (by decide)) (fun u Bs h => h)) (by repeat (first | exact .nil | (apply Part.cons; · (repeat (first | exact .head | apply Sel.tail)))))) ?_
  rintro _ R ⟨_, ⟨rfl, rfl⟩, rfl⟩
  try simp only [List.cons_append, List.nil_append]
  refine gl_gT rfl rfl rfl ?_
  refine gl_v rfl (o_is (c := false) (by rfl) (o_neq rfl rfl)) ?_
  refine gl_v rfl (o_pickF rfl rfl rfl) ?_
  refine gl_v rfl (o_move rfl) ?_
  refine gl_gT rfl rfl rfl ?_
  refine gl_v rfl (o_move rfl) ?_
  refine gl_gT rfl rfl rfl ?_
  refine gl_c rfl (o_call rfl (FnS.mono (post' := fun u Bs => u = I64 0 ∧ Bs = [wheel p wA2]) (Add_spec p wA1 7 20 wA1_ok (by decide) (by decide)) (fun u Bs h => h)) (by repeat (first | exact .nil | (apply Part.cons; · (repeat (first | exact .head | apply Sel.tail)))))) ?_
  rintro _ R ⟨_, ⟨rfl, rfl⟩, rfl⟩
  try simp only [List.cons_append, List.nil_append]
  refine gl_gT rfl rfl rfl ?_
  refine gl_v rfl (o_is (c := false) (by rfl) (o_neq rfl rfl)) ?_
  refine gl_v rfl (o_pickF rfl rfl rfl) ?_
  refine gl_v rfl (o_move rfl) ?_
  refine gl_gT rfl rfl rfl ?_
  refine gl_v rfl (o_move rfl) ?_
  refine gl_gT rfl rfl rfl ?_
  refine gl_c rfl (o_call rfl (FnS.mono (post' := fun u Bs => u = I64 3 ∧ Bs = [wheel p wA2]) (Add_spec p wA2 5 1 wA2_ok (by decide) (by decide)) (fun u Bs h => h)) (by repeat (first | exact .nil | (apply Part.cons; · (repeat (first | exact .head | apply Sel.tail)))))) ?_
  rintro _ R ⟨_, ⟨rfl, rfl⟩, rfl⟩
  try simp only [List.cons_append, List.nil_append]
  refine gl_gT rfl rfl rfl ?_
  refine gl_v rfl (o_is (c := false) (by rfl) (o_neq rfl rfl)) ?_
  refine gl_v rfl (o_pickF rfl rfl rfl) ?_
  refine gl_nil ?_
  refine ge_then ?_
  refine g_cond_false rfl ?_
  refine g_skip ?_
  refine ge_then ?_
  refine g_seq ?_
  refine g_region ?_
  refine gl_v rfl (o_move rfl) ?_
  refine gl_c rfl (o_call rfl (FnS.mono (post' := fun u Bs => u = .tuple #[I64 1, I64 2, .bool true] ∧ Bs = [wheel p wA2]) (WWhere_spec p wA2 7 wA2_ok) (fun u Bs h => h)) (by repeat (first | exact .nil | (apply Part.cons; · (repeat (first | exact .head | apply Sel.tail)))))) ?_
  rintro _ R ⟨_, ⟨rfl, rfl⟩, rfl⟩
  try simp only [List.cons_append, List.nil_append]
  refine gl_v rfl (o_move rfl) ?_
  refine gl_v rfl (o_extract rfl rfl) ?_
  refine gl_v rfl (o_extract rfl rfl) ?_
  refine gl_v rfl (o_extract rfl rfl) ?_
  refine gl_v rfl (o_assign rfl) ?_
  refine gl_v rfl (o_assign rfl) ?_
  refine gl_v rfl (o_assign rfl) ?_
  refine gl_nil ?_
  refine ge_then ?_
  refine g_seq ?_
  refine g_region ?_
  refine gl_v rfl (o_assign rfl) ?_
  refine gl_nil ?_
  refine ge_then ?_
  refine g_seq ?_
  refine g_seq ?_
  refine g_region ?_
  refine gl_v rfl (o_assign rfl) ?_
  refine gl_nil ?_
  refine ge_then ?_
  refine g_block ?_
  refine g_loop (ι := Nat) (fun i => i ≤ 3) (fun i => [(6, I64 i), (5, I64 ((tcnt i wA2 : Nat) : Int)), (1, ptr p 0), (2, I64 1), (3, I64 2), (4, .bool true)]) (fun i => wheel p (tkN i wA2) :: R) (fun i => 3 - i) 0 (Nat.zero_le _) (Keep.cons rfl (Keep.cons rfl (Keep.cons rfl (Keep.cons rfl (Keep.cons rfl (Keep.cons rfl (Keep.nil))))))) (To.sat (by repeat (first | exact .nil | exact .done .refl | (apply To.cons; · (repeat (first | exact .head | apply Sel.tail))) | exact .done (by repeat (first | exact .refl | apply Drop.skip))))) ?_
  intro i hi
  refine g_seq ?_
  refine g_seq ?_
  refine g_region ?_
  refine gl_v rfl (o_move rfl) ?_
  refine gl_v rfl (o_lss rfl rfl) ?_
  refine gl_nil ?_
  refine ge_then ?_
  refine g_cond rfl (fun hc1 => ?_) (fun hc1 => ?_)
  ·
    first | replace hc1 := of_decide_eq_true hc1 | replace hc1 := lt_f hc1 | replace hc1 := le_f hc1 | replace hc1 := dec_f hc1 | replace hc1 := nlt_t hc1 | replace hc1 := nle_t hc1 | replace hc1 := ndec_t hc1 | replace hc1 := ndec_f hc1 | replace hc1 := nn_t hc1 | replace hc1 := nn_f hc1 | skip
    refine g_skip ?_
    refine ge_then ?_
    refine g_seq ?_
    refine g_block ?_
    refine g_region ?_
    refine gl_v rfl (o_move rfl) ?_
    refine gl_v rfl (o_move rfl) ?_
    refine gl_c rfl (o_call rfl (Tick_spec p (tkN i wA2) (tkN_ok wA2_ok i) (by rw [tkN_now]; show 0 + i < _; omega) (by rw [tkN_seq]; decide)) (by repeat (first | exact .nil | (apply Part.cons; · (repeat (first | exact .head | apply Sel.tail)))))) ?_
    rintro _ R ⟨_, ⟨a3, c3, rfl, rfl⟩, rfl⟩
    try simp only [List.cons_append, List.nil_append]
    refine gl_v rfl (o_lenL rfl) ?_
    refine gl_v rfl (o_addR ((tcnt (i + 1) wA2 : Nat) : Int) (by have h1 := tcnt_len wA2 (i + 1); have h2 : wA2.T.length = 2 := rfl; have h3 : tcnt (i + 1) wA2 = tcnt i wA2 + (dueL (tkN i wA2)).length := rfl; rw [wr_i64 (by omega)]; omega) rfl rfl) ?_
    refine gl_v rfl (o_assign rfl) ?_
    refine gl_nil ?_
    refine ge_block ?_
    refine ge_then ?_
    refine g_region ?_
    refine gl_v rfl (o_move rfl) ?_
    refine gl_v rfl (o_addR ((i + 1 : Nat) : Int) (by rw [wr_i64 (by omega)]; omega) rfl rfl) ?_
    refine gl_v rfl (o_assign rfl) ?_
    refine gl_nil ?_
    refine ge_round (i + 1) (show i + 1 ≤ 3 by omega) (by omega) (Keep.cons rfl (Keep.cons rfl (Keep.cons rfl (Keep.cons rfl (Keep.cons rfl (Keep.cons rfl (Keep.nil))))))) (To.sat (by repeat (first | exact .nil | exact .done .refl | (apply To.cons; · (repeat (first | exact .head | apply Sel.tail))) | exact .done (by repeat (first | exact .refl | apply Drop.skip)))))
  ·
    first | replace hc1 := of_decide_eq_true hc1 | replace hc1 := lt_f hc1 | replace hc1 := le_f hc1 | replace hc1 := dec_f hc1 | replace hc1 := nlt_t hc1 | replace hc1 := nle_t hc1 | replace hc1 := ndec_t hc1 | replace hc1 := ndec_f hc1 | replace hc1 := nn_t hc1 | replace hc1 := nn_f hc1 | skip
    refine g_exit ?_
    refine ge_then_exit ?_
    refine ge_then_exit ?_
    refine ge_block_exit ?_
    refine ge_then ?_
    refine g_seq ?_
    obtain rfl : i = 3 := by omega
    refine g_region ?_
    refine gl_v rfl (o_move rfl) ?_
    refine gl_v rfl (o_is (c := true) (by rfl) (o_eql rfl rfl)) ?_
    refine gl_v rfl (o_move rfl) ?_
    refine gl_gT rfl rfl rfl ?_
    refine gl_v rfl (o_move rfl) ?_
    refine gl_gT rfl rfl rfl ?_
    refine gl_v rfl (o_is (c := true) (by rfl) (o_eql rfl rfl)) ?_
    refine gl_v rfl (o_pickT rfl rfl rfl) ?_
    refine gl_v rfl (o_move rfl) ?_
    refine gl_gT rfl rfl rfl ?_
    refine gl_v rfl (o_move rfl) ?_
    refine gl_v rfl (o_pickT rfl rfl rfl) ?_
    refine gl_v rfl (o_move rfl) ?_
    refine gl_gT rfl rfl rfl ?_
    refine gl_v rfl (o_move rfl) ?_
    refine gl_gT rfl rfl rfl ?_
    refine gl_v rfl (o_is (c := true) (by rfl) (o_eql rfl rfl)) ?_
    refine gl_v rfl (o_pickT rfl rfl rfl) ?_
    refine gl_v rfl (o_move rfl) ?_
    refine gl_gT rfl rfl rfl ?_
    refine gl_v rfl (o_move rfl) ?_
    refine gl_gT rfl rfl rfl ?_
    refine gl_c rfl (o_call rfl (FnS.mono (post' := fun u Bs => u = I64 3 ∧ Bs = [wheel p (tkN 3 wA2)]) (Now_spec p (tkN 3 wA2)) (fun u Bs h => h)) (by repeat (first | exact .nil | (apply Part.cons; · (repeat (first | exact .head | apply Sel.tail)))))) ?_
    rintro _ R ⟨_, ⟨rfl, rfl⟩, rfl⟩
    try simp only [List.cons_append, List.nil_append]
    refine gl_gT rfl rfl rfl ?_
    refine gl_v rfl (o_is (c := true) (by rfl) (o_eql rfl rfl)) ?_
    refine gl_v rfl (o_pickT rfl rfl rfl) ?_
    refine gl_v rfl (o_move rfl) ?_
    refine gl_gT rfl rfl rfl ?_
    refine gl_v rfl (o_move rfl) ?_
    refine gl_gT rfl rfl rfl ?_
    refine gl_c rfl (o_call rfl (FnS.mono (post' := fun u Bs => u = I64 1 ∧ Bs = [wheel p (tkN 3 wA2)]) (WLen_spec p (tkN 3 wA2) (tkN_ok wA2_ok 3)) (fun u Bs h => h)) (by repeat (first | exact .nil | (apply Part.cons; · (repeat (first | exact .head | apply Sel.tail)))))) ?_
    rintro _ R ⟨_, ⟨rfl, rfl⟩, rfl⟩
    try simp only [List.cons_append, List.nil_append]
    refine gl_gT rfl rfl rfl ?_
    refine gl_v rfl (o_is (c := true) (by rfl) (o_eql rfl rfl)) ?_
    refine gl_v rfl (o_pickT rfl rfl rfl) ?_
    refine gl_v rfl (o_assign rfl) ?_
    refine gl_nil ?_
    refine ge_then ?_
    refine g_ret ?_
    refine ret1 (.inl rfl) rfl rfl _ (⟨rfl, rfl⟩) (To.sat (by repeat (first | exact .nil | exact .done .refl | (apply To.cons; · (repeat (first | exact .head | apply Sel.tail))) | exact .done (by repeat (first | exact .refl | apply Drop.skip)))))

def wB (id : Int) : Wh := ⟨0, 1, [⟨id, 7, 1⟩]⟩
theorem wB_ok (id : Int) : WOk (wB id) := WOk.nil.add id 7
theorem wB_get (id : Int) : (wB id).get id = some ⟨id, 7, 1⟩ := get_some (wB_ok id) (List.mem_singleton.2 rfl) rfl
theorem wB_no {id j : Int} (h : j ≠ id) : (wB id).get j = none := get_none.2 fun t ht => by
  obtain rfl := List.mem_singleton.1 ht; exact Ne.symm h
def nx (id : Int) : Int := IntKind.u64.wrap (id + 1)
theorem nx_ne {id : Int} (h : 0 ≤ id ∧ id ≤ 18446744073709551615) : nx id ≠ id := by
  unfold nx IntKind.wrap; simp [IntKind.bits, IntKind.signed]; omega
def wB2 (id d : Int) : Wh := ⟨0, 2, [⟨id, 7, 1⟩, ⟨nx id, d.toNat, 2⟩]⟩
theorem wB2_of {id d : Int} (h : 0 ≤ id ∧ id ≤ 18446744073709551615) (hd : ¬ (d < 1 ∨ 4095 < d)) : addR (wB id) (nx id) d = wB2 id d := by
  unfold addR; rw [if_pos (addE_z hd (wB_no (nx_ne h)) (show ¬ 64 ≤ 1 by decide))]; simp [wB, wB2]
set_option maxRecDepth 8000 in
theorem bounds_spec (id d : Int) (hid : 0 ≤ id ∧ id ≤ 18446744073709551615) (hd : -9223372036854775808 ≤ d ∧ d ≤ 9223372036854775807) : FnS Try.prog 5 [U64 id, I64 d] [] (fun u Bs => u = .bool true ∧ Bs = []) := by
  refine fn_body Try.func5 rfl rfl rfl ?_
  intro W0 R
  simp only [List.zipIdx_cons, List.zipIdx_nil, List.map_cons, List.map_nil, Nat.zero_add, Nat.reduceAdd, List.cons_append, List.nil_append]
  refine g_seq ?_
  refine g_region ?_
  refine gl_v rfl (o_assign rfl) ?_
  refine gl_nil ?_
  refine ge_then ?_
  refine g_seq ?_
  refine g_seq ?_
  refine g_region ?_
  refine gl_c rfl (o_call rfl (alive_spec) (by repeat (first | exact .nil | (apply Part.cons; · (repeat (first | exact .head | apply Sel.tail)))))) ?_
  rintro _ R ⟨_, ⟨rfl, rfl⟩, rfl⟩
  try simp only [List.cons_append, List.nil_append]
  refine gl_v rfl (o_is (c := false) (by rfl) (o_not rfl)) ?_
  refine gl_nil ?_
  refine ge_then ?_
  refine g_cond_false rfl ?_
  refine g_skip ?_
  refine ge_then ?_
  refine g_seq ?_
  refine g_region ?_
  refine gl_c rfl (o_call rfl (WNew_spec) (by repeat (first | exact .nil | (apply Part.cons; · (repeat (first | exact .head | apply Sel.tail)))))) ?_
  rintro _ R ⟨_, ⟨p, rfl, rfl⟩, rfl⟩
  try simp only [List.cons_append, List.nil_append]
  refine gl_v rfl (o_assign rfl) ?_
  refine gl_nil ?_
  refine ge_then ?_
  refine g_seq ?_
  refine g_seq ?_
  refine g_region ?_
  refine gl_v rfl (o_move rfl) ?_
  refine gl_v rfl (o_move rfl) ?_
  refine gl_c rfl (o_call rfl (FnS.mono (post' := fun u Bs => u = I64 0 ∧ Bs = [wheel p (wB id)]) (Add_spec p ⟨0, 0, []⟩ id 7 WOk.nil (by decide) (by decide)) (fun u Bs h => h)) (by repeat (first | exact .nil | (apply Part.cons; · (repeat (first | exact .head | apply Sel.tail)))))) ?_
  rintro _ R ⟨_, ⟨rfl, rfl⟩, rfl⟩
  try simp only [List.cons_append, List.nil_append]
  refine gl_v rfl (o_is (c := false) (by rfl) (o_neq rfl rfl)) ?_
  refine gl_nil ?_
  refine ge_then ?_
  refine g_cond_false rfl ?_
  refine g_skip ?_
  refine ge_then ?_
  refine g_seq ?_
  refine g_region ?_
  refine gl_v rfl (o_move rfl) ?_
  refine gl_v rfl (o_move rfl) ?_
  refine gl_v rfl (o_add rfl rfl) ?_
  refine gl_v rfl (o_move rfl) ?_
  refine gl_c rfl (o_call rfl (Add_spec p (wB id) (nx id) d (wB_ok id) (by show 0 < _; decide) (by show 1 < _; decide)) (by repeat (first | exact .nil | (apply Part.cons; · (repeat (first | exact .head | apply Sel.tail)))))) ?_
  rintro _ R ⟨_, ⟨rfl, rfl⟩, rfl⟩
  try simp only [List.cons_append, List.nil_append]
  refine gl_v rfl (o_assign rfl) ?_
  refine gl_nil ?_
  refine ge_then ?_
  refine g_seq ?_
  refine g_region ?_
  refine gl_v rfl (o_move rfl) ?_
  refine gl_v rfl (o_move rfl) ?_
  refine gl_v rfl (o_add rfl rfl) ?_
  refine gl_c rfl (o_call rfl (Due_spec p (addR (wB id) (nx id) d) (nx id) ((wB_ok id).add _ _)) (by repeat (first | exact .nil | (apply Part.cons; · (repeat (first | exact .head | apply Sel.tail)))))) ?_
  rintro _ R ⟨_, ⟨rfl, rfl⟩, rfl⟩
  try simp only [List.cons_append, List.nil_append]
  refine gl_v rfl (o_move rfl) ?_
  refine gl_v rfl (o_extract (v := I64 (match (addR (wB id) (nx id) d).get (nx id) with | some t => (t.due : Int) | none => 0)) (vs := [I64 (match (addR (wB id) (nx id) d).get (nx id) with | some t => (t.due : Int) | none => 0), .bool ((addR (wB id) (nx id) d).get (nx id)).isSome]) (by simp only [opv, slk, Nat.beq]; unfold dueV; cases (addR (wB id) (nx id) d).get (nx id) <;> rfl) rfl) ?_
  refine gl_v rfl (o_extract (v := .bool ((addR (wB id) (nx id) d).get (nx id)).isSome) (vs := [I64 (match (addR (wB id) (nx id) d).get (nx id) with | some t => (t.due : Int) | none => 0), .bool ((addR (wB id) (nx id) d).get (nx id)).isSome]) (by simp only [opv, slk, Nat.beq]; unfold dueV; cases (addR (wB id) (nx id) d).get (nx id) <;> rfl) rfl) ?_
  refine gl_v rfl (o_assign rfl) ?_
  refine gl_v rfl (o_assign rfl) ?_
  refine gl_nil ?_
  refine ge_then ?_
  refine g_seq ?_
  refine g_seq ?_
  refine g_region ?_
  refine gl_v rfl (o_move rfl) ?_
  refine gl_v rfl (o_lss rfl rfl) ?_
  refine gl_v rfl (o_move rfl) ?_
  refine gl_g rfl rfl (fun hc1 => ?_) (fun hc1 => ?_) rfl
  ·
    have hc1' := hc1
    first | replace hc1' := of_decide_eq_true hc1' | replace hc1' := lt_f hc1' | replace hc1' := le_f hc1' | replace hc1' := dec_f hc1' | replace hc1' := nlt_t hc1' | replace hc1' := nle_t hc1' | replace hc1' := ndec_t hc1' | replace hc1' := ndec_f hc1' | replace hc1' := nn_t hc1' | replace hc1' := nn_f hc1' | skip
    refine gl_v rfl (o_move rfl) ?_
    refine gl_gT rfl rfl hc1 ?_
    refine gl_v rfl (o_gtr rfl rfl) ?_
    refine gl_v rfl (o_pickF hc1 rfl rfl) ?_
    refine gl_nil ?_
    refine ge_then ?_
    refine g_cond rfl (fun hc2 => ?_) (fun hc2 => ?_)
    ·
      first | replace hc2 := of_decide_eq_true hc2 | replace hc2 := lt_f hc2 | replace hc2 := le_f hc2 | replace hc2 := dec_f hc2 | replace hc2 := nlt_t hc2 | replace hc2 := nle_t hc2 | replace hc2 := ndec_t hc2 | replace hc2 := ndec_f hc2 | replace hc2 := nn_t hc2 | replace hc2 := nn_f hc2 | skip
      refine g_seq ?_
      have hbad : d < 1 ∨ 4095 < d := by omega
      have hr : addR (wB id) (nx id) d = wB id := addR_ne (by rw [addE_1 hbad]; decide)
      refine g_region ?_
      refine gl_v rfl (o_move rfl) ?_
      refine gl_v rfl (o_is (c := true) (by rw [addE_1 hbad]; rfl) (o_eql rfl rfl)) ?_
      refine gl_v rfl (o_move rfl) ?_
      refine gl_gT rfl rfl rfl ?_
      refine gl_v rfl (o_move rfl) ?_
      refine gl_gT rfl rfl rfl ?_
      refine gl_v rfl (o_move rfl) ?_
      refine gl_gT rfl rfl rfl ?_
      refine gl_v rfl (o_move rfl) ?_
      refine gl_gT rfl rfl rfl ?_
      refine gl_c rfl (o_call rfl (Add_spec p (addR (wB id) (nx id) d) id d ((wB_ok id).add _ _) (by rw [hr]; show 0 < _; decide) (by rw [hr]; show 1 < _; decide)) (by repeat (first | exact .nil | (apply Part.cons; · (repeat (first | exact .head | apply Sel.tail)))))) ?_
      rintro _ R ⟨_, ⟨rfl, rfl⟩, rfl⟩
      try simp only [List.cons_append, List.nil_append]
      refine gl_gT rfl rfl rfl ?_
      refine gl_v rfl (o_is (c := true) (by rw [addE_1 hbad]; rfl) (o_eql rfl rfl)) ?_
      refine gl_v rfl (o_pickT rfl rfl rfl) ?_
      refine gl_v rfl (o_move rfl) ?_
      refine gl_gT rfl rfl rfl ?_
      refine gl_v rfl (o_move rfl) ?_
      refine gl_gT rfl rfl rfl ?_
      refine gl_v rfl (o_is (c := true) (by rw [hr, wB_no (nx_ne hid)]; rfl) (o_not rfl)) ?_
      refine gl_v rfl (o_pickT rfl rfl rfl) ?_
      refine gl_v rfl (o_move rfl) ?_
      refine gl_gT rfl rfl rfl ?_
      refine gl_v rfl (o_move rfl) ?_
      refine gl_gT rfl rfl rfl ?_
      refine gl_c rfl (o_call rfl (WLen_spec p (addR (addR (wB id) (nx id) d) id d) (((wB_ok id).add _ _).add _ _)) (by repeat (first | exact .nil | (apply Part.cons; · (repeat (first | exact .head | apply Sel.tail)))))) ?_
      rintro _ R ⟨_, ⟨rfl, rfl⟩, rfl⟩
      try simp only [List.cons_append, List.nil_append]
      refine gl_gT rfl rfl rfl ?_
      refine gl_v rfl (o_is (c := true) (by rw [hr, addR_ne (by rw [addE_1 hbad]; decide)]; rfl) (o_eql rfl rfl)) ?_
      refine gl_v rfl (o_pickT rfl rfl rfl) ?_
      refine gl_v rfl (o_assign rfl) ?_
      refine gl_nil ?_
      refine ge_then ?_
      refine g_ret ?_
      refine ge_then_ret ?_
      refine ret1 (.inl rfl) rfl rfl _ (⟨rfl, rfl⟩) (To.sat (by repeat (first | exact .nil | exact .done .refl | (apply To.cons; · (repeat (first | exact .head | apply Sel.tail))) | exact .done (by repeat (first | exact .refl | apply Drop.skip)))))
    ·
      first | replace hc2 := of_decide_eq_true hc2 | replace hc2 := lt_f hc2 | replace hc2 := le_f hc2 | replace hc2 := dec_f hc2 | replace hc2 := nlt_t hc2 | replace hc2 := nle_t hc2 | replace hc2 := ndec_t hc2 | replace hc2 := ndec_f hc2 | replace hc2 := nn_t hc2 | replace hc2 := nn_f hc2 | skip
      refine g_skip ?_
      refine ge_then ?_
      refine g_seq ?_
      have hgood : ¬ (d < 1 ∨ 4095 < d) := by omega
      have hr := wB2_of hid hgood
      have hok : WOk (wB2 id d) := by rw [← hr]; exact (wB_ok id).add _ _
      have hg1 : (wB2 id d).get (nx id) = some ⟨nx id, d.toNat, 2⟩ := get_some hok (by simp [wB2]) rfl
      have hg2 : (wB2 id d).get id = some ⟨id, 7, 1⟩ := get_some hok (by simp [wB2]) rfl
      refine g_region ?_
      refine gl_v rfl (o_move rfl) ?_
      refine gl_v rfl (o_is (c := true) (by rw [addE_z hgood (wB_no (nx_ne hid)) (show ¬ 64 ≤ 1 by decide)]; rfl) (o_eql rfl rfl)) ?_
      refine gl_v rfl (o_move rfl) ?_
      refine gl_gT rfl rfl rfl ?_
      refine gl_v rfl (o_move rfl) ?_
      refine gl_gT rfl rfl rfl ?_
      refine gl_v rfl (o_move rfl) ?_
      refine gl_gT rfl rfl rfl ?_
      refine gl_v rfl (o_move rfl) ?_
      refine gl_gT rfl rfl rfl ?_
      refine gl_c rfl (o_call rfl (Add_spec p (addR (wB id) (nx id) d) id d ((wB_ok id).add _ _) (by rw [hr]; show 0 < _; decide) (by rw [hr]; show 2 < _; decide)) (by repeat (first | exact .nil | (apply Part.cons; · (repeat (first | exact .head | apply Sel.tail)))))) ?_
      rintro _ R ⟨_, ⟨rfl, rfl⟩, rfl⟩
      try simp only [List.cons_append, List.nil_append]
      refine gl_gT rfl rfl rfl ?_
      refine gl_v rfl (o_is (c := true) (by rw [hr, addE_3 hgood hg2]; rfl) (o_eql rfl rfl)) ?_
      refine gl_v rfl (o_pickT rfl rfl rfl) ?_
      refine gl_v rfl (o_move rfl) ?_
      refine gl_gT rfl rfl rfl ?_
      refine gl_v rfl (o_is (c := true) (by rw [hr, hg1]; rfl) (o_move rfl)) ?_
      refine gl_v rfl (o_pickT rfl rfl rfl) ?_
      refine gl_v rfl (o_move rfl) ?_
      refine gl_gT rfl rfl rfl ?_
      refine gl_v rfl (o_move rfl) ?_
      refine gl_gT rfl rfl rfl ?_
      refine gl_v rfl (o_move rfl) ?_
      refine gl_gT rfl rfl rfl ?_
      refine gl_v rfl (o_is (c := true) (by rw [hr, hg1]; show decide (((d.toNat : Nat) : Int) = d) = true; rw [decide_eq_true_eq]; omega) (o_eql rfl rfl)) ?_
      refine gl_v rfl (o_pickT rfl rfl rfl) ?_
      refine gl_v rfl (o_move rfl) ?_
      refine gl_gT rfl rfl rfl ?_
      refine gl_v rfl (o_move rfl) ?_
      refine gl_gT rfl rfl rfl ?_
      refine gl_c rfl (o_call rfl (WLen_spec p (addR (addR (wB id) (nx id) d) id d) (((wB_ok id).add _ _).add _ _)) (by repeat (first | exact .nil | (apply Part.cons; · (repeat (first | exact .head | apply Sel.tail)))))) ?_
      rintro _ R ⟨_, ⟨rfl, rfl⟩, rfl⟩
      try simp only [List.cons_append, List.nil_append]
      refine gl_gT rfl rfl rfl ?_
      refine gl_v rfl (o_is (c := true) (by rw [hr, addR_ne (by rw [addE_3 hgood hg2]; decide)]; rfl) (o_eql rfl rfl)) ?_
      refine gl_v rfl (o_pickT rfl rfl rfl) ?_
      refine gl_v rfl (o_assign rfl) ?_
      refine gl_nil ?_
      refine ge_then ?_
      refine g_ret ?_
      refine ret1 (.inl rfl) rfl rfl _ (⟨rfl, rfl⟩) (To.sat (by repeat (first | exact .nil | exact .done .refl | (apply To.cons; · (repeat (first | exact .head | apply Sel.tail))) | exact .done (by repeat (first | exact .refl | apply Drop.skip)))))
  ·
    have hc1' := hc1
    first | replace hc1' := of_decide_eq_true hc1' | replace hc1' := lt_f hc1' | replace hc1' := le_f hc1' | replace hc1' := dec_f hc1' | replace hc1' := nlt_t hc1' | replace hc1' := nle_t hc1' | replace hc1' := ndec_t hc1' | replace hc1' := ndec_f hc1' | replace hc1' := nn_t hc1' | replace hc1' := nn_f hc1' | skip
    simp only [putO]
    refine gl_gF rfl rfl hc1 rfl ?_
    refine gl_v rfl (o_pickT hc1 rfl rfl) ?_
    refine gl_nil ?_
    refine ge_then ?_
    refine g_cond_true rfl ?_
    refine g_seq ?_
    have hbad : d < 1 ∨ 4095 < d := by omega
    have hr : addR (wB id) (nx id) d = wB id := addR_ne (by rw [addE_1 hbad]; decide)
    refine g_region ?_
    refine gl_v rfl (o_move rfl) ?_
    refine gl_v rfl (o_is (c := true) (by rw [addE_1 hbad]; rfl) (o_eql rfl rfl)) ?_
    refine gl_v rfl (o_move rfl) ?_
    refine gl_gT rfl rfl rfl ?_
    refine gl_v rfl (o_move rfl) ?_
    refine gl_gT rfl rfl rfl ?_
    refine gl_v rfl (o_move rfl) ?_
    refine gl_gT rfl rfl rfl ?_
    refine gl_v rfl (o_move rfl) ?_
    refine gl_gT rfl rfl rfl ?_
    refine gl_c rfl (o_call rfl (Add_spec p (addR (wB id) (nx id) d) id d ((wB_ok id).add _ _) (by rw [hr]; show 0 < _; decide) (by rw [hr]; show 1 < _; decide)) (by repeat (first | exact .nil | (apply Part.cons; · (repeat (first | exact .head | apply Sel.tail)))))) ?_
    rintro _ R ⟨_, ⟨rfl, rfl⟩, rfl⟩
    try simp only [List.cons_append, List.nil_append]
    refine gl_gT rfl rfl rfl ?_
    refine gl_v rfl (o_is (c := true) (by rw [addE_1 hbad]; rfl) (o_eql rfl rfl)) ?_
    refine gl_v rfl (o_pickT rfl rfl rfl) ?_
    refine gl_v rfl (o_move rfl) ?_
    refine gl_gT rfl rfl rfl ?_
    refine gl_v rfl (o_move rfl) ?_
    refine gl_gT rfl rfl rfl ?_
    refine gl_v rfl (o_is (c := true) (by rw [hr, wB_no (nx_ne hid)]; rfl) (o_not rfl)) ?_
    refine gl_v rfl (o_pickT rfl rfl rfl) ?_
    refine gl_v rfl (o_move rfl) ?_
    refine gl_gT rfl rfl rfl ?_
    refine gl_v rfl (o_move rfl) ?_
    refine gl_gT rfl rfl rfl ?_
    refine gl_c rfl (o_call rfl (WLen_spec p (addR (addR (wB id) (nx id) d) id d) (((wB_ok id).add _ _).add _ _)) (by repeat (first | exact .nil | (apply Part.cons; · (repeat (first | exact .head | apply Sel.tail)))))) ?_
    rintro _ R ⟨_, ⟨rfl, rfl⟩, rfl⟩
    try simp only [List.cons_append, List.nil_append]
    refine gl_gT rfl rfl rfl ?_
    refine gl_v rfl (o_is (c := true) (by rw [hr, addR_ne (by rw [addE_1 hbad]; decide)]; rfl) (o_eql rfl rfl)) ?_
    refine gl_v rfl (o_pickT rfl rfl rfl) ?_
    refine gl_v rfl (o_assign rfl) ?_
    refine gl_nil ?_
    refine ge_then ?_
    refine g_ret ?_
    refine ge_then_ret ?_
    refine ret1 (.inl rfl) rfl rfl _ (⟨rfl, rfl⟩) (To.sat (by repeat (first | exact .nil | exact .done .refl | (apply To.cons; · (repeat (first | exact .head | apply Sel.tail))) | exact .done (by repeat (first | exact .refl | apply Drop.skip)))))

theorem whereV_some {w : Wh} {id : Int} {t : Tm} (h : w.get id = some t) : whereV w id = .tuple #[I64 ((posn w.now t.due / 8 : Nat) : Int), I64 ((posn w.now t.due % 8 : Nat) : Int), .bool true] := by unfold whereV; rw [h]
theorem one_spec (p n d : Nat) (id : Int) (hd : 1 ≤ d ∧ d ≤ 4095) (hn : n < 3000000000000000000) : FnS Try.prog 13 [ptr p 0, U64 id, I64 d] [wheel p ⟨n, 0, []⟩] (fun u Bs => u = I64 0 ∧ Bs = [wheel p (oneW n d id)]) := by
  have h := Add_spec p ⟨n, 0, []⟩ id d (nil_ok n) hn (show 0 < 4611686018427387903 by decide)
  rw [(one_add hd).1, (one_add hd).2] at h; exact h
theorem tick0_spec (p i : Nat) (hi : i < 3000000000000000000) : FnS Try.prog 12 [ptr p 0] [wheel p ⟨i, 0, []⟩] (fun u Bs => ∃ a' c', u = .slice a' 0 c' ∧ Bs = [own (.slice a' 0 c') 31 1 0 [], wheel p ⟨i + 1, 0, []⟩]) :=
  Tick_spec p ⟨i, 0, []⟩ (nil_ok i) hi (show 0 < 4611686018427387904 by decide)
theorem adds_spec (p now n : Nat) (d : Nat → Nat) (hd : ∀ k, 1 ≤ d k ∧ d k ≤ 4095) (hn : n < 64) (hw : now < 3000000000000000000) : FnS Try.prog 13 [ptr p 0, U64 (n : Int), I64 (d n : Int)] [wheel p ⟨now, n, adds now d n⟩] (fun u Bs => u = I64 0 ∧ Bs = [wheel p ⟨now, n + 1, adds now d (n + 1)⟩]) := by
  have h := Add_spec p ⟨now, n, adds now d n⟩ (n : Int) (d n : Int) (adds_ok hd n (by omega)) hw (show n < 4611686018427387903 by omega)
  rw [(adds_step hn (hd n)).1, (adds_step hn (hd n)).2] at h; exact h
theorem pow8w {j : Nat} (h : j ≤ 2) : IntKind.i64.wrap (((8 ^ j : Nat) : Int) * 8) = ((8 ^ (j + 1) : Nat) : Int) := by rcases (show j = 0 ∨ j = 1 ∨ j = 2 by omega) with rfl | rfl | rfl <;> decide
theorem pow8n {j : Nat} (h : j ≤ 3) : ((8 ^ j : Nat) : Int) ≠ 0 := by rcases (show j = 0 ∨ j = 1 ∨ j = 2 ∨ j = 3 by omega) with rfl | rfl | rfl | rfl <;> decide
theorem occ_tk (l : List Int) (j : Nat) (k : Int) : occ (l.take j) k ≤ l.length := Nat.le_trans (occ_le _ _) (by rw [List.length_take]; omega)
set_option maxRecDepth 8000 in
theorem down_spec (a b : Int) (ha : -9223372036854775808 ≤ a ∧ a ≤ 9223372036854775807) (hb : -9223372036854775808 ≤ b ∧ b ≤ 9223372036854775807) : FnS Try.prog 4 [I64 a, I64 b] [] (fun u Bs => u = .bool true ∧ Bs = []) := by
  refine fn_body Try.func4 rfl rfl rfl ?_
  intro W0 R
  simp only [List.zipIdx_cons, List.zipIdx_nil, List.map_cons, List.map_nil, Nat.zero_add, Nat.reduceAdd, List.cons_append, List.nil_append]
  obtain ⟨NA, hNA⟩ : ∃ n : Nat, (n : Int) = a % 5000 := ⟨(a % 5000).toNat, by omega⟩
  obtain ⟨D, hD⟩ : ∃ n : Nat, (n : Int) = 1 + b % 4095 := ⟨(1 + b % 4095).toNat, by omega⟩
  have hd : 1 ≤ D ∧ D ≤ 4095 := by omega
  refine g_seq ?_
  refine g_region ?_
  refine gl_v rfl (o_assign rfl) ?_
  refine gl_nil ?_
  refine ge_then ?_
  refine g_seq ?_
  refine g_seq ?_
  refine g_region ?_
  refine gl_c rfl (o_call rfl (alive_spec) (by repeat (first | exact .nil | (apply Part.cons; · (repeat (first | exact .head | apply Sel.tail)))))) ?_
  rintro _ R ⟨_, ⟨rfl, rfl⟩, rfl⟩
  try simp only [List.cons_append, List.nil_append]
  refine gl_v rfl (o_is (c := false) (by rfl) (o_not rfl)) ?_
  refine gl_nil ?_
  refine ge_then ?_
  refine g_cond_false rfl ?_
  refine g_skip ?_
  refine ge_then ?_
  refine g_seq ?_
  refine g_region ?_
  refine gl_c rfl (o_call rfl (WNew_spec) (by repeat (first | exact .nil | (apply Part.cons; · (repeat (first | exact .head | apply Sel.tail)))))) ?_
  rintro _ R ⟨_, ⟨p, rfl, rfl⟩, rfl⟩
  try simp only [List.cons_append, List.nil_append]
  refine gl_v rfl (o_assign rfl) ?_
  refine gl_nil ?_
  refine ge_then ?_
  refine g_seq ?_
  refine g_seq ?_
  refine g_region ?_
  refine gl_v rfl (o_assign rfl) ?_
  refine gl_nil ?_
  refine ge_then ?_
  refine g_block ?_
  refine g_loop (ι := Nat) (fun i => i ≤ NA) (fun i => [(6, I64 i), (5, ptr p 0), (0, I64 a), (1, I64 b)]) (fun i => wheel p ⟨i, 0, []⟩ :: R) (fun i => NA - i) 0 (Nat.zero_le _) (Keep.cons rfl (Keep.cons rfl (Keep.cons rfl (Keep.cons rfl (Keep.nil))))) (To.sat (by repeat (first | exact .nil | exact .done .refl | (apply To.cons; · (repeat (first | exact .head | apply Sel.tail))) | exact .done (by repeat (first | exact .refl | apply Drop.skip))))) ?_
  intro i hi
  refine g_seq ?_
  refine g_seq ?_
  refine g_region ?_
  refine gl_v rfl (o_move rfl) ?_
  refine gl_v rfl (o_move rfl) ?_
  refine gl_c rfl (o_call rfl (mod_spec a 5000 (by decide) (by omega)) (by repeat (first | exact .nil | (apply Part.cons; · (repeat (first | exact .head | apply Sel.tail)))))) ?_
  rintro _ R ⟨_, ⟨rfl, rfl⟩, rfl⟩
  try simp only [List.cons_append, List.nil_append]
  refine gl_v rfl (o_lss rfl rfl) ?_
  refine gl_nil ?_
  refine ge_then ?_
  refine g_cond rfl (fun hc1 => ?_) (fun hc1 => ?_)
  ·
    first | replace hc1 := of_decide_eq_true hc1 | replace hc1 := lt_f hc1 | replace hc1 := le_f hc1 | replace hc1 := dec_f hc1 | replace hc1 := nlt_t hc1 | replace hc1 := nle_t hc1 | replace hc1 := ndec_t hc1 | replace hc1 := ndec_f hc1 | replace hc1 := nn_t hc1 | replace hc1 := nn_f hc1 | skip
    refine g_skip ?_
    refine ge_then ?_
    refine g_seq ?_
    refine g_block ?_
    refine g_region ?_
    refine gl_v rfl (o_move rfl) ?_
    refine gl_c rfl (o_call rfl (tick0_spec p i (by omega)) (by repeat (first | exact .nil | (apply Part.cons; · (repeat (first | exact .head | apply Sel.tail)))))) ?_
    rintro _ R ⟨_, ⟨a', c', rfl, rfl⟩, rfl⟩
    try simp only [List.cons_append, List.nil_append]
    refine gl_nil ?_
    refine ge_block ?_
    refine ge_then ?_
    refine g_region ?_
    refine gl_v rfl (o_move rfl) ?_
    refine gl_v rfl (o_addR ((i + 1 : Nat) : Int) (by rw [wr_i64 (by omega)]; omega) rfl rfl) ?_
    refine gl_v rfl (o_assign rfl) ?_
    refine gl_nil ?_
    refine ge_round (i + 1) (show i + 1 ≤ NA by omega) (by omega) (Keep.cons rfl (Keep.cons rfl (Keep.cons rfl (Keep.cons rfl (Keep.nil))))) (To.sat (by repeat (first | exact .nil | exact .done .refl | (apply To.cons; · (repeat (first | exact .head | apply Sel.tail))) | exact .done (by repeat (first | exact .refl | apply Drop.skip)))))
  ·
    first | replace hc1 := of_decide_eq_true hc1 | replace hc1 := lt_f hc1 | replace hc1 := le_f hc1 | replace hc1 := dec_f hc1 | replace hc1 := nlt_t hc1 | replace hc1 := nle_t hc1 | replace hc1 := ndec_t hc1 | replace hc1 := ndec_f hc1 | replace hc1 := nn_t hc1 | replace hc1 := nn_f hc1 | skip
    refine g_exit ?_
    refine ge_then_exit ?_
    refine ge_then_exit ?_
    refine ge_block_exit ?_
    refine ge_then ?_
    refine g_seq ?_
    obtain rfl : NA = i := by omega
    refine g_region ?_
    refine gl_v rfl (o_move rfl) ?_
    refine gl_c rfl (o_call rfl (mod_spec b 4095 (by decide) (by omega)) (by repeat (first | exact .nil | (apply Part.cons; · (repeat (first | exact .head | apply Sel.tail)))))) ?_
    rintro _ R ⟨_, ⟨rfl, rfl⟩, rfl⟩
    try simp only [List.cons_append, List.nil_append]
    refine gl_v rfl (o_addR (D : Int) (by rw [wr_i64 (by omega)]; omega) rfl rfl) ?_
    refine gl_v rfl (o_assign rfl) ?_
    refine gl_nil ?_
    refine ge_then ?_
    refine g_seq ?_
    refine g_seq ?_
    refine g_region ?_
    refine gl_v rfl (o_move rfl) ?_
    refine gl_v rfl (o_move rfl) ?_
    refine gl_c rfl (o_call rfl (one_spec p NA D 9 hd (by omega)) (by repeat (first | exact .nil | (apply Part.cons; · (repeat (first | exact .head | apply Sel.tail)))))) ?_
    rintro _ R ⟨_, ⟨rfl, rfl⟩, rfl⟩
    try simp only [List.cons_append, List.nil_append]
    refine gl_v rfl (o_is (c := false) (by rfl) (o_neq rfl rfl)) ?_
    refine gl_nil ?_
    refine ge_then ?_
    refine g_cond_false rfl ?_
    refine g_skip ?_
    refine ge_then ?_
    refine g_seq ?_
    refine g_region ?_
    refine gl_v rfl (o_move rfl) ?_
    refine gl_c rfl (o_call rfl (WWhere_spec p (oneW NA D 9) 9 (one_ok hd)) (by repeat (first | exact .nil | (apply Part.cons; · (repeat (first | exact .head | apply Sel.tail)))))) ?_
    rintro _ R ⟨_, ⟨rfl, rfl⟩, rfl⟩
    try simp only [List.cons_append, List.nil_append]
    rw [whereV_some (show (oneW NA D 9).get 9 = some ⟨9, NA + D, 1⟩ from one_get (m := 0) hd hd.1)]
    rw [show (oneW NA D 9).now = NA + 0 from rfl]
    refine gl_v rfl (o_move rfl) ?_
    refine gl_v rfl (o_extract rfl rfl) ?_
    refine gl_v rfl (o_extract rfl rfl) ?_
    refine gl_v rfl (o_extract rfl rfl) ?_
    refine gl_v rfl (o_assign rfl) ?_
    refine gl_v rfl (o_assign rfl) ?_
    refine gl_v rfl (o_assign rfl) ?_
    refine gl_nil ?_
    refine ge_then ?_
    refine g_seq ?_
    refine g_seq ?_
    refine g_region ?_
    refine gl_v rfl (o_assign rfl) ?_
    refine gl_nil ?_
    refine ge_then ?_
    refine g_block ?_
    refine g_loop (ι := Nat) (fun m => m + 1 ≤ D) (fun m => [(11, I64 ((m + 1 : Nat) : Int)), (8, I64 ((posn (NA + m) (NA + D) / 8 : Nat) : Int)), (10, .bool true), (7, I64 D), (5, ptr p 0)]) (fun m => wheel p (tkN m (oneW NA D 9)) :: R) (fun m => D - m) 0 (hd.1) (Keep.cons rfl (Keep.cons rfl (Keep.cons rfl (Keep.cons rfl (Keep.cons rfl (Keep.nil)))))) (To.sat (by repeat (first | exact .nil | exact .done .refl | (apply To.cons; · (repeat (first | exact .head | apply Sel.tail))) | exact .done (by repeat (first | exact .refl | apply Drop.skip))))) ?_
    intro m hm
    refine g_seq ?_
    refine g_seq ?_
    refine g_region ?_
    refine gl_v rfl (o_move rfl) ?_
    refine gl_v rfl (o_move rfl) ?_
    refine gl_v rfl (o_lss rfl rfl) ?_
    refine gl_v rfl (o_move rfl) ?_
    refine gl_g rfl rfl (fun hc2 => ?_) (fun hc2 => ?_) rfl
    ·
      have hc2' := hc2
      first | replace hc2' := of_decide_eq_true hc2' | replace hc2' := lt_f hc2' | replace hc2' := le_f hc2' | replace hc2' := dec_f hc2' | replace hc2' := nlt_t hc2' | replace hc2' := nle_t hc2' | replace hc2' := ndec_t hc2' | replace hc2' := ndec_f hc2' | replace hc2' := nn_t hc2' | replace hc2' := nn_f hc2' | skip
      refine gl_v rfl (o_move rfl) ?_
      refine gl_v rfl (o_pickT hc2 rfl rfl) ?_
      refine gl_nil ?_
      refine ge_then ?_
      refine g_cond_true rfl ?_
      refine g_skip ?_
      refine ge_then ?_
      refine g_seq ?_
      refine g_block ?_
      refine g_seq ?_
      have hpd := posn_down (now := NA + m) (due := NA + D) (by omega) (by omega)
      rw [show NA + m + 1 = NA + (m + 1) by omega] at hpd
      refine g_region ?_
      refine gl_v rfl (o_move rfl) ?_
      refine gl_c rfl (o_call rfl (Tick_spec p (tkN m (oneW NA D 9)) (tkN_ok (one_ok hd) m) (by rw [tkN_now]; show NA + m < _; omega) (by rw [tkN_seq]; show 1 < _; decide)) (by repeat (first | exact .nil | (apply Part.cons; · (repeat (first | exact .head | apply Sel.tail)))))) ?_
      rintro _ R ⟨_, ⟨a', c', rfl, rfl⟩, rfl⟩
      try simp only [List.cons_append, List.nil_append]
      refine gl_nil ?_
      refine ge_then ?_
      refine g_seq ?_
      refine g_region ?_
      refine gl_v rfl (o_move rfl) ?_
      refine gl_c rfl (o_call rfl (WWhere_spec p (tkN (m + 1) (oneW NA D 9)) 9 (tkN_ok (one_ok hd) (m + 1))) (by repeat (first | exact .nil | (apply Part.cons; · (repeat (first | exact .head | apply Sel.tail)))))) ?_
      rintro _ R ⟨_, ⟨rfl, rfl⟩, rfl⟩
      try simp only [List.cons_append, List.nil_append]
      rw [whereV_some (one_get (m := m + 1) hd (by omega)), tkN_now]
      rw [show (oneW NA D 9).now = NA from rfl]
      refine gl_v rfl (o_move rfl) ?_
      refine gl_v rfl (o_extract rfl rfl) ?_
      refine gl_v rfl (o_extract rfl rfl) ?_
      refine gl_v rfl (o_extract rfl rfl) ?_
      refine gl_v rfl (o_assign rfl) ?_
      refine gl_v rfl (o_assign rfl) ?_
      refine gl_v rfl (o_assign rfl) ?_
      refine gl_nil ?_
      refine ge_then ?_
      refine g_seq ?_
      refine g_region ?_
      refine gl_v rfl (o_assign rfl) ?_
      refine gl_nil ?_
      refine ge_then ?_
      refine g_seq ?_
      refine g_seq ?_
      refine g_region ?_
      refine gl_v rfl (o_assign rfl) ?_
      refine gl_nil ?_
      refine ge_then ?_
      refine g_block ?_
      refine g_loop (ι := Nat) (fun j => j ≤ posn (NA + m) (NA + D) / 8) (fun j => [(16, I64 j), (15, I64 ((8 ^ j : Nat) : Int)), (12, I64 ((posn (NA + (m + 1)) (NA + D) / 8 : Nat) : Int)), (13, I64 ((posn (NA + (m + 1)) (NA + D) % 8 : Nat) : Int)), (14, .bool true), (11, I64 ((m + 1 : Nat) : Int)), (8, I64 ((posn (NA + m) (NA + D) / 8 : Nat) : Int)), (10, .bool true), (7, I64 D), (5, ptr p 0)]) (fun _ => wheel p (tkN (m + 1) (oneW NA D 9)) :: R) (fun j => posn (NA + m) (NA + D) / 8 - j) 0 (Nat.zero_le _) (Keep.cons rfl (Keep.cons rfl (Keep.cons rfl (Keep.cons rfl (Keep.cons rfl (Keep.cons rfl (Keep.cons rfl (Keep.cons rfl (Keep.cons rfl (Keep.cons rfl (Keep.nil))))))))))) (To.sat (by repeat (first | exact .nil | exact .done .refl | (apply To.cons; · (repeat (first | exact .head | apply Sel.tail))) | exact .done (by repeat (first | exact .refl | apply Drop.skip))))) ?_
      intro j hj
      refine g_seq ?_
      refine g_seq ?_
      refine g_region ?_
      refine gl_v rfl (o_move rfl) ?_
      refine gl_v rfl (o_move rfl) ?_
      refine gl_v rfl (o_lss rfl rfl) ?_
      refine gl_nil ?_
      refine ge_then ?_
      refine g_cond rfl (fun hc3 => ?_) (fun hc3 => ?_)
      ·
        first | replace hc3 := of_decide_eq_true hc3 | replace hc3 := lt_f hc3 | replace hc3 := le_f hc3 | replace hc3 := dec_f hc3 | replace hc3 := nlt_t hc3 | replace hc3 := nle_t hc3 | replace hc3 := ndec_t hc3 | replace hc3 := ndec_f hc3 | replace hc3 := nn_t hc3 | replace hc3 := nn_f hc3 | skip
        refine g_skip ?_
        refine ge_then ?_
        refine g_seq ?_
        refine g_block ?_
        refine g_region ?_
        refine gl_v rfl (o_move rfl) ?_
        refine gl_v rfl (o_mulR ((8 ^ (j + 1) : Nat) : Int) (pow8w (by omega)) rfl rfl) ?_
        refine gl_v rfl (o_assign rfl) ?_
        refine gl_nil ?_
        refine ge_block ?_
        refine ge_then ?_
        refine g_region ?_
        refine gl_v rfl (o_move rfl) ?_
        refine gl_v rfl (o_addR ((j + 1 : Nat) : Int) (by rw [wr_i64 (by omega)]; omega) rfl rfl) ?_
        refine gl_v rfl (o_assign rfl) ?_
        refine gl_nil ?_
        refine ge_round (j + 1) (show j + 1 ≤ posn (NA + m) (NA + D) / 8 by omega) (by omega) (Keep.cons rfl (Keep.cons rfl (Keep.cons rfl (Keep.cons rfl (Keep.cons rfl (Keep.cons rfl (Keep.cons rfl (Keep.cons rfl (Keep.cons rfl (Keep.cons rfl (Keep.nil))))))))))) (To.sat (by repeat (first | exact .nil | exact .done .refl | (apply To.cons; · (repeat (first | exact .head | apply Sel.tail))) | exact .done (by repeat (first | exact .refl | apply Drop.skip)))))
      ·
        first | replace hc3 := of_decide_eq_true hc3 | replace hc3 := lt_f hc3 | replace hc3 := le_f hc3 | replace hc3 := dec_f hc3 | replace hc3 := nlt_t hc3 | replace hc3 := nle_t hc3 | replace hc3 := ndec_t hc3 | replace hc3 := ndec_f hc3 | replace hc3 := nn_t hc3 | replace hc3 := nn_f hc3 | skip
        refine g_exit ?_
        refine ge_then_exit ?_
        refine ge_then_exit ?_
        refine ge_block_exit ?_
        refine ge_then ?_
        refine g_seq ?_
        refine g_seq ?_
        obtain rfl : j = posn (NA + m) (NA + D) / 8 := by omega
        refine g_region ?_
        refine gl_v rfl (o_move rfl) ?_
        refine gl_v rfl (o_is (c := false) (by rfl) (o_not rfl)) ?_
        refine gl_v rfl (o_move rfl) ?_
        refine gl_gT rfl rfl rfl ?_
        refine gl_v rfl (o_move rfl) ?_
        refine gl_gT rfl rfl rfl ?_
        refine gl_v rfl (o_move rfl) ?_
        refine gl_gT rfl rfl rfl ?_
        refine gl_v rfl (o_is (c := false) (by rw [decide_eq_false_iff_not]; omega) (o_gtr rfl rfl)) ?_
        refine gl_v rfl (o_pickF rfl rfl rfl) ?_
        refine gl_v rfl (o_move rfl) ?_
        refine gl_gT rfl rfl rfl ?_
        refine gl_v rfl (o_move rfl) ?_
        refine gl_gT rfl rfl rfl ?_
        refine gl_v rfl (o_move rfl) ?_
        refine gl_gT rfl rfl rfl ?_
        refine gl_v rfl (o_lss rfl rfl) ?_
        refine gl_gT rfl rfl rfl ?_
        refine gl_v rfl (o_move rfl) ?_
        refine gl_g rfl rfl (fun hc4 => ?_) (fun hc4 => ?_) rfl
        ·
          have hc4' := hc4
          first | replace hc4' := of_decide_eq_true hc4' | replace hc4' := lt_f hc4' | replace hc4' := le_f hc4' | replace hc4' := dec_f hc4' | replace hc4' := nlt_t hc4' | replace hc4' := nle_t hc4' | replace hc4' := ndec_t hc4' | replace hc4' := ndec_f hc4' | replace hc4' := nn_t hc4' | replace hc4' := nn_f hc4' | skip
          refine gl_v rfl (o_move rfl) ?_
          refine gl_gT rfl rfl hc4 ?_
          refine gl_c rfl (o_call rfl (Now_spec p (tkN (m + 1) (oneW NA D 9))) (by repeat (first | exact .nil | (apply Part.cons; · (repeat (first | exact .head | apply Sel.tail)))))) ?_
          rintro _ R ⟨_, ⟨rfl, rfl⟩, rfl⟩
          try simp only [List.cons_append, List.nil_append]
          rw [tkN_now]
          rw [show (oneW NA D 9).now = NA from rfl]
          refine gl_gT rfl rfl hc4 ?_
          refine gl_v rfl (o_move rfl) ?_
          refine gl_gT rfl rfl hc4 ?_
          refine gl_v rfl (o_remR (((NA + (m + 1)) % 8 ^ (posn (NA + m) (NA + D) / 8) : Nat) : Int) (tmodn _ _) rfl rfl (pow8n (by omega))) ?_
          refine gl_gT rfl rfl hc4 ?_
          refine gl_v rfl (o_is (c := false) (by rw [hpd.2.1 (by omega)]; rfl) (o_neq rfl rfl)) ?_
          refine gl_gT rfl rfl rfl ?_
          refine gl_v rfl (o_pickT hc4 rfl rfl) ?_
          refine gl_v rfl (o_pickF rfl rfl rfl) ?_
          refine gl_v rfl (o_move rfl) ?_
          refine gl_gT rfl rfl rfl ?_
          refine gl_v rfl (o_move rfl) ?_
          refine gl_gT rfl rfl rfl ?_
          refine gl_v rfl (o_is (c := false) (by rw [decide_eq_false_iff_not]; omega) (o_lss rfl rfl)) ?_
          refine gl_v rfl (o_pickF rfl rfl rfl) ?_
          refine gl_v rfl (o_move rfl) ?_
          refine gl_gT rfl rfl rfl ?_
          refine gl_v rfl (o_move rfl) ?_
          refine gl_gT rfl rfl rfl ?_
          refine gl_v rfl (o_is (c := false) (by rw [decide_eq_false_iff_not]; omega) (o_gtr rfl rfl)) ?_
          refine gl_v rfl (o_pickF rfl rfl rfl) ?_
          refine gl_nil ?_
          refine ge_then ?_
          refine g_cond_false rfl ?_
          refine g_skip ?_
          refine ge_then ?_
          refine g_region ?_
          refine gl_v rfl (o_move rfl) ?_
          refine gl_v rfl (o_assign rfl) ?_
          refine gl_nil ?_
          refine ge_block ?_
          refine ge_then ?_
          refine g_region ?_
          refine gl_v rfl (o_move rfl) ?_
          refine gl_v rfl (o_addR ((m + 1 + 1 : Nat) : Int) (by rw [wr_i64 (by omega)]; omega) rfl rfl) ?_
          refine gl_v rfl (o_assign rfl) ?_
          refine gl_nil ?_
          refine ge_round (m + 1) (show m + 1 + 1 ≤ D by omega) (by omega) (Keep.cons rfl (Keep.cons rfl (Keep.cons rfl (Keep.cons rfl (Keep.cons rfl (Keep.nil)))))) (To.sat (by repeat (first | exact .nil | exact .done .refl | (apply To.cons; · (repeat (first | exact .head | apply Sel.tail))) | exact .done (by repeat (first | exact .refl | apply Drop.skip)))))
        ·
          have hc4' := hc4
          first | replace hc4' := of_decide_eq_true hc4' | replace hc4' := lt_f hc4' | replace hc4' := le_f hc4' | replace hc4' := dec_f hc4' | replace hc4' := nlt_t hc4' | replace hc4' := nle_t hc4' | replace hc4' := ndec_t hc4' | replace hc4' := ndec_f hc4' | replace hc4' := nn_t hc4' | replace hc4' := nn_f hc4' | skip
          simp only [putO]
          refine gl_gF rfl rfl hc4 rfl ?_
          refine gl_gF rfl rfl hc4 rfl ?_
          refine gl_gF rfl rfl hc4 rfl ?_
          refine gl_gF rfl rfl hc4 rfl ?_
          refine gl_gT rfl rfl rfl ?_
          refine gl_v rfl (o_pickF hc4 rfl rfl) ?_
          refine gl_v rfl (o_pickF rfl rfl rfl) ?_
          refine gl_v rfl (o_move rfl) ?_
          refine gl_gT rfl rfl rfl ?_
          refine gl_v rfl (o_move rfl) ?_
          refine gl_gT rfl rfl rfl ?_
          refine gl_v rfl (o_is (c := false) (by rw [decide_eq_false_iff_not]; omega) (o_lss rfl rfl)) ?_
          refine gl_v rfl (o_pickF rfl rfl rfl) ?_
          refine gl_v rfl (o_move rfl) ?_
          refine gl_gT rfl rfl rfl ?_
          refine gl_v rfl (o_move rfl) ?_
          refine gl_gT rfl rfl rfl ?_
          refine gl_v rfl (o_is (c := false) (by rw [decide_eq_false_iff_not]; omega) (o_gtr rfl rfl)) ?_
          refine gl_v rfl (o_pickF rfl rfl rfl) ?_
          refine gl_nil ?_
          refine ge_then ?_
          refine g_cond_false rfl ?_
          refine g_skip ?_
          refine ge_then ?_
          refine g_region ?_
          refine gl_v rfl (o_move rfl) ?_
          refine gl_v rfl (o_assign rfl) ?_
          refine gl_nil ?_
          refine ge_block ?_
          refine ge_then ?_
          refine g_region ?_
          refine gl_v rfl (o_move rfl) ?_
          refine gl_v rfl (o_addR ((m + 1 + 1 : Nat) : Int) (by rw [wr_i64 (by omega)]; omega) rfl rfl) ?_
          refine gl_v rfl (o_assign rfl) ?_
          refine gl_nil ?_
          refine ge_round (m + 1) (show m + 1 + 1 ≤ D by omega) (by omega) (Keep.cons rfl (Keep.cons rfl (Keep.cons rfl (Keep.cons rfl (Keep.cons rfl (Keep.nil)))))) (To.sat (by repeat (first | exact .nil | exact .done .refl | (apply To.cons; · (repeat (first | exact .head | apply Sel.tail))) | exact .done (by repeat (first | exact .refl | apply Drop.skip)))))
    ·
      have hc2' := hc2
      first | replace hc2' := of_decide_eq_true hc2' | replace hc2' := lt_f hc2' | replace hc2' := le_f hc2' | replace hc2' := dec_f hc2' | replace hc2' := nlt_t hc2' | replace hc2' := nle_t hc2' | replace hc2' := ndec_t hc2' | replace hc2' := ndec_f hc2' | replace hc2' := nn_t hc2' | replace hc2' := nn_f hc2' | skip
      simp only [putO]
      refine gl_v rfl (o_pickF hc2 rfl rfl) ?_
      refine gl_nil ?_
      refine ge_then ?_
      refine g_cond_false rfl ?_
      refine g_exit ?_
      refine ge_then_exit ?_
      refine ge_then_exit ?_
      refine ge_block_exit ?_
      refine ge_then ?_
      refine g_seq ?_
      refine g_region ?_
      refine gl_v rfl (o_move rfl) ?_
      refine gl_c rfl (o_call rfl (Tick_spec p (tkN m (oneW NA D 9)) (tkN_ok (one_ok hd) m) (by rw [tkN_now]; show NA + m < _; omega) (by rw [tkN_seq]; show 1 < _; decide)) (by repeat (first | exact .nil | (apply Part.cons; · (repeat (first | exact .head | apply Sel.tail)))))) ?_
      rintro _ R ⟨_, ⟨a', c', rfl, rfl⟩, rfl⟩
      try simp only [List.cons_append, List.nil_append]
      rw [one_due hd, if_pos (show m + 1 = D by omega)]
      refine gl_v rfl (o_assign rfl) ?_
      refine gl_nil ?_
      refine ge_then ?_
      refine g_seq ?_
      refine g_region ?_
      refine gl_v rfl (o_move rfl) ?_
      refine gl_v rfl (o_move rfl) ?_
      refine gl_gT rfl rfl rfl ?_
      refine gl_v rfl (o_move rfl) ?_
      refine gl_gT rfl rfl rfl ?_
      refine gl_v rfl (o_lenL rfl) ?_
      refine gl_gT rfl rfl rfl ?_
      refine gl_v rfl (o_is (c := true) (by rfl) (o_eql rfl rfl)) ?_
      refine gl_v rfl (o_pickT rfl rfl rfl) ?_
      refine gl_v rfl (o_move rfl) ?_
      refine gl_gT rfl rfl rfl ?_
      refine gl_v rfl (o_move rfl) ?_
      refine gl_gT rfl rfl rfl ?_
      refine gl_v rfl (o_idxS (j := 0) rfl rfl (show 0 < 1 by decide)) ?_
      refine gl_gT rfl rfl rfl ?_
      first | refine gl_v rfl (o_load rfl rfl) ?_ | refine gl_v rfl (o_loadS rfl rfl) ?_ | refine gl_v rfl (o_loadC rfl) ?_
      refine gl_gT rfl rfl rfl ?_
      refine gl_v rfl (o_is (c := true) (by rfl) (o_eql rfl rfl)) ?_
      refine gl_v rfl (o_pickT rfl rfl rfl) ?_
      refine gl_v rfl (o_assign rfl) ?_
      refine gl_nil ?_
      refine ge_then ?_
      refine g_ret ?_
      refine ret1 (.inl rfl) rfl rfl _ (⟨rfl, rfl⟩) (To.sat (by repeat (first | exact .nil | exact .done .refl | (apply To.cons; · (repeat (first | exact .head | apply Sel.tail))) | exact .done (by repeat (first | exact .refl | apply Drop.skip)))))

def dl (s : List Int) (k : Nat) : Nat := (1 + s.getD k 0 % 4095).toNat
theorem dl_b (s : List Int) (k : Nat) : 1 ≤ dl s k ∧ dl s k ≤ 4095 := by unfold dl; omega
theorem dl_at {s : List Int} {k : Nat} : (dl s k : Int) = 1 + s.getD k 0 % 4095 := by unfold dl; omega
set_option maxRecDepth 8000 in
theorem ontime_spec (a c : Int) (ad : Option Addr) (cap : Nat) (s : List Int) (W : World) (ha : -9223372036854775808 ≤ a ∧ a ≤ 9223372036854775807) (hc : -9223372036854775808 ≤ c ∧ c ≤ 9223372036854775807) (hg : ∀ q ∈ s, -9223372036854775808 ≤ q ∧ q ≤ 9223372036854775807) (hm : s.length ≤ 9223372036854775807)
    [InS W (.slice ad s.length cap) s.length (s.map fun x : Int => Value.int .i64 x)] : FnS Try.prog 3 [I64 a, .slice ad s.length cap, I64 c] [base W] (fun u Bs => u = .bool true ∧ Bs = [base W]) := by
  refine fn_body Try.func3 rfl rfl rfl ?_
  intro W0 R
  simp only [List.zipIdx_cons, List.zipIdx_nil, List.map_cons, List.map_nil, Nat.zero_add, Nat.reduceAdd, List.cons_append, List.nil_append]
  obtain ⟨NA, hNA⟩ : ∃ n : Nat, (n : Int) = a % 5000 := ⟨(a % 5000).toNat, by omega⟩
  obtain ⟨nn, hnn⟩ : ∃ n : Nat, n = min s.length 20 := ⟨_, rfl⟩
  refine g_seq ?_
  refine g_region ?_
  refine gl_v rfl (o_assign rfl) ?_
  refine gl_nil ?_
  refine ge_then ?_
  refine g_seq ?_
  refine g_seq ?_
  refine g_region ?_
  refine gl_c rfl (o_call rfl (alive_spec) (by repeat (first | exact .nil | (apply Part.cons; · (repeat (first | exact .head | apply Sel.tail)))))) ?_
  rintro _ R ⟨_, ⟨rfl, rfl⟩, rfl⟩
  try simp only [List.cons_append, List.nil_append]
  refine gl_v rfl (o_is (c := false) (by rfl) (o_not rfl)) ?_
  refine gl_nil ?_
  refine ge_then ?_
  refine g_cond_false rfl ?_
  refine g_skip ?_
  refine ge_then ?_
  refine g_seq ?_
  refine g_region ?_
  refine gl_c rfl (o_call rfl (WNew_spec) (by repeat (first | exact .nil | (apply Part.cons; · (repeat (first | exact .head | apply Sel.tail)))))) ?_
  rintro _ R ⟨_, ⟨p, rfl, rfl⟩, rfl⟩
  try simp only [List.cons_append, List.nil_append]
  refine gl_v rfl (o_assign rfl) ?_
  refine gl_nil ?_
  refine ge_then ?_
  refine g_seq ?_
  refine g_seq ?_
  refine g_region ?_
  refine gl_v rfl (o_assign rfl) ?_
  refine gl_nil ?_
  refine ge_then ?_
  refine g_block ?_
  refine g_loop (ι := Nat) (fun i => i ≤ NA) (fun i => [(8, I64 i), (7, ptr p 0), (0, I64 a), (1, .slice ad s.length cap), (2, I64 c)]) (fun i => wheel p ⟨i, 0, []⟩ :: base W :: R) (fun i => NA - i) 0 (Nat.zero_le _) (Keep.cons rfl (Keep.cons rfl (Keep.cons rfl (Keep.cons rfl (Keep.cons rfl (Keep.nil)))))) (To.sat (by repeat (first | exact .nil | exact .done .refl | (apply To.cons; · (repeat (first | exact .head | apply Sel.tail))) | exact .done (by repeat (first | exact .refl | apply Drop.skip))))) ?_
  intro i hi
  refine g_seq ?_
  refine g_seq ?_
  refine g_region ?_
  refine gl_v rfl (o_move rfl) ?_
  refine gl_v rfl (o_move rfl) ?_
  refine gl_c rfl (o_call rfl (mod_spec a 5000 (by decide) (by omega)) (by repeat (first | exact .nil | (apply Part.cons; · (repeat (first | exact .head | apply Sel.tail)))))) ?_
  rintro _ R ⟨_, ⟨rfl, rfl⟩, rfl⟩
  try simp only [List.cons_append, List.nil_append]
  refine gl_v rfl (o_lss rfl rfl) ?_
  refine gl_nil ?_
  refine ge_then ?_
  refine g_cond rfl (fun hc1 => ?_) (fun hc1 => ?_)
  ·
    first | replace hc1 := of_decide_eq_true hc1 | replace hc1 := lt_f hc1 | replace hc1 := le_f hc1 | replace hc1 := dec_f hc1 | replace hc1 := nlt_t hc1 | replace hc1 := nle_t hc1 | replace hc1 := ndec_t hc1 | replace hc1 := ndec_f hc1 | replace hc1 := nn_t hc1 | replace hc1 := nn_f hc1 | skip
    refine g_skip ?_
    refine ge_then ?_
    refine g_seq ?_
    refine g_block ?_
    refine g_seq ?_
    refine g_region ?_
    refine gl_v rfl (o_move rfl) ?_
    refine gl_c rfl (o_call rfl (tick0_spec p i (by omega)) (by repeat (first | exact .nil | (apply Part.cons; · (repeat (first | exact .head | apply Sel.tail)))))) ?_
    rintro _ R ⟨_, ⟨a', c', rfl, rfl⟩, rfl⟩
    try simp only [List.cons_append, List.nil_append]
    refine gl_v rfl (o_lenL rfl) ?_
    refine gl_v rfl (o_is (c := false) (by rfl) (o_neq rfl rfl)) ?_
    refine gl_nil ?_
    refine ge_then ?_
    refine g_cond_false rfl ?_
    refine g_skip ?_
    refine ge_block ?_
    refine ge_then ?_
    refine g_region ?_
    refine gl_v rfl (o_move rfl) ?_
    refine gl_v rfl (o_addR ((i + 1 : Nat) : Int) (by rw [wr_i64 (by omega)]; omega) rfl rfl) ?_
    refine gl_v rfl (o_assign rfl) ?_
    refine gl_nil ?_
    refine ge_round (i + 1) (show i + 1 ≤ NA by omega) (by omega) (Keep.cons rfl (Keep.cons rfl (Keep.cons rfl (Keep.cons rfl (Keep.cons rfl (Keep.nil)))))) (To.sat (by repeat (first | exact .nil | exact .done .refl | (apply To.cons; · (repeat (first | exact .head | apply Sel.tail))) | exact .done (by repeat (first | exact .refl | apply Drop.skip)))))
  ·
    first | replace hc1 := of_decide_eq_true hc1 | replace hc1 := lt_f hc1 | replace hc1 := le_f hc1 | replace hc1 := dec_f hc1 | replace hc1 := nlt_t hc1 | replace hc1 := nle_t hc1 | replace hc1 := ndec_t hc1 | replace hc1 := ndec_f hc1 | replace hc1 := nn_t hc1 | replace hc1 := nn_f hc1 | skip
    refine g_exit ?_
    refine ge_then_exit ?_
    refine ge_then_exit ?_
    refine ge_block_exit ?_
    refine ge_then ?_
    refine g_seq ?_
    obtain rfl : NA = i := by omega
    refine g_region ?_
    refine gl_v rfl (o_move rfl) ?_
    first | refine gl_v rfl (o_len rfl) ?_ | refine gl_v rfl (o_lenL rfl) ?_
    refine gl_v rfl (o_min (nn : Int) (by omega) rfl rfl) ?_
    refine gl_v rfl (o_assign rfl) ?_
    refine gl_nil ?_
    refine ge_then ?_
    refine g_seq ?_
    refine g_region ?_
    refine gl_v rfl (o_assign rfl) ?_
    refine gl_nil ?_
    refine ge_then ?_
    refine g_seq ?_
    refine g_seq ?_
    refine g_region ?_
    refine gl_v rfl (o_assign rfl) ?_
    refine gl_nil ?_
    refine ge_then ?_
    refine g_block ?_
    refine g_loop (ι := Nat) (fun i => i ≤ nn) (fun i => [(11, I64 i), (10, I64 ((mx (dl s) i : Nat) : Int)), (9, I64 nn), (7, ptr p 0), (1, .slice ad s.length cap), (2, I64 c)]) (fun i => wheel p ⟨NA, i, adds NA (dl s) i⟩ :: base W :: R) (fun i => nn - i) 0 (Nat.zero_le _) (Keep.cons rfl (Keep.cons rfl (Keep.cons rfl (Keep.cons rfl (Keep.cons rfl (Keep.cons rfl (Keep.nil))))))) (To.sat (by repeat (first | exact .nil | exact .done .refl | (apply To.cons; · (repeat (first | exact .head | apply Sel.tail))) | exact .done (by repeat (first | exact .refl | apply Drop.skip))))) ?_
    intro i hi
    refine g_seq ?_
    refine g_seq ?_
    refine g_region ?_
    refine gl_v rfl (o_move rfl) ?_
    refine gl_v rfl (o_move rfl) ?_
    refine gl_v rfl (o_lss rfl rfl) ?_
    refine gl_nil ?_
    refine ge_then ?_
    refine g_cond rfl (fun hc2 => ?_) (fun hc2 => ?_)
    ·
      first | replace hc2 := of_decide_eq_true hc2 | replace hc2 := lt_f hc2 | replace hc2 := le_f hc2 | replace hc2 := dec_f hc2 | replace hc2 := nlt_t hc2 | replace hc2 := nle_t hc2 | replace hc2 := ndec_t hc2 | replace hc2 := ndec_f hc2 | replace hc2 := nn_t hc2 | replace hc2 := nn_f hc2 | skip
      refine g_skip ?_
      refine ge_then ?_
      refine g_seq ?_
      refine g_block ?_
      refine g_seq ?_
      refine g_region ?_
      refine gl_v rfl (o_move rfl) ?_
      refine gl_v rfl (o_move rfl) ?_
      refine gl_v rfl (o_idxS rfl rfl (show i < s.length by omega)) ?_
      refine gl_v rfl (o_loadS rfl (map_at (d := 0) (show i < s.length by omega))) ?_
      refine gl_c rfl (o_call rfl (mod_spec (s.getD i 0) 4095 (by decide) (by have := hg _ (List.getElem_mem (show i < s.length by omega)); rw [List.getD_eq_getElem?_getD, List.getElem?_eq_getElem (show i < s.length by omega)]; exact this)) (by repeat (first | exact .nil | (apply Part.cons; · (repeat (first | exact .head | apply Sel.tail)))))) ?_
      rintro _ R ⟨_, ⟨rfl, rfl⟩, rfl⟩
      try simp only [List.cons_append, List.nil_append]
      refine gl_v rfl (o_addR (dl s i : Int) (by have := dl_b s i; have h2 := dl_at (s := s) (k := i); rw [wr_i64 (by omega)]; omega) rfl rfl) ?_
      refine gl_v rfl (o_assign rfl) ?_
      refine gl_nil ?_
      refine ge_then ?_
      refine g_seq ?_
      refine g_region ?_
      refine gl_v rfl (o_move rfl) ?_
      refine gl_v rfl (o_move rfl) ?_
      refine gl_v rfl (o_max ((mx (dl s) (i + 1) : Nat) : Int) (by simp only [mx]; omega) rfl rfl) ?_
      refine gl_v rfl (o_assign rfl) ?_
      refine gl_nil ?_
      refine ge_then ?_
      refine g_seq ?_
      refine g_region ?_
      refine gl_v rfl (o_move rfl) ?_
      refine gl_v rfl (o_move rfl) ?_
      refine gl_v rfl (o_convR (i : Int) (wr_u64 (by omega)) rfl) ?_
      refine gl_v rfl (o_move rfl) ?_
      refine gl_c rfl (o_call rfl (adds_spec p NA i (dl s) (dl_b s) (by omega) (by omega)) (by repeat (first | exact .nil | (apply Part.cons; · (repeat (first | exact .head | apply Sel.tail)))))) ?_
      rintro _ R ⟨_, ⟨rfl, rfl⟩, rfl⟩
      try simp only [List.cons_append, List.nil_append]
      refine gl_v rfl (o_is (c := false) (by rfl) (o_neq rfl rfl)) ?_
      refine gl_nil ?_
      refine ge_then ?_
      refine g_cond_false rfl ?_
      refine g_skip ?_
      refine ge_block ?_
      refine ge_then ?_
      refine g_region ?_
      refine gl_v rfl (o_move rfl) ?_
      refine gl_v rfl (o_addR ((i + 1 : Nat) : Int) (by rw [wr_i64 (by omega)]; omega) rfl rfl) ?_
      refine gl_v rfl (o_assign rfl) ?_
      refine gl_nil ?_
      refine ge_round (i + 1) (show i + 1 ≤ nn by omega) (by omega) (Keep.cons rfl (Keep.cons rfl (Keep.cons rfl (Keep.cons rfl (Keep.cons rfl (Keep.cons rfl (Keep.nil))))))) (To.sat (by repeat (first | exact .nil | exact .done .refl | (apply To.cons; · (repeat (first | exact .head | apply Sel.tail))) | exact .done (by repeat (first | exact .refl | apply Drop.skip)))))
    ·
      first | replace hc2 := of_decide_eq_true hc2 | replace hc2 := lt_f hc2 | replace hc2 := le_f hc2 | replace hc2 := dec_f hc2 | replace hc2 := nlt_t hc2 | replace hc2 := nle_t hc2 | replace hc2 := ndec_t hc2 | replace hc2 := ndec_f hc2 | replace hc2 := nn_t hc2 | replace hc2 := nn_f hc2 | skip
      refine g_exit ?_
      refine ge_then_exit ?_
      refine ge_then_exit ?_
      refine ge_block_exit ?_
      refine ge_then ?_
      refine g_seq ?_
      refine g_seq ?_
      obtain rfl : nn = i := by omega
      refine g_region ?_
      refine gl_v rfl (o_move rfl) ?_
      refine gl_v rfl (o_eql rfl rfl) ?_
      refine gl_nil ?_
      refine ge_then ?_
      refine g_cond rfl (fun hc3 => ?_) (fun hc3 => ?_)
      ·
        first | replace hc3 := of_decide_eq_true hc3 | replace hc3 := lt_f hc3 | replace hc3 := le_f hc3 | replace hc3 := dec_f hc3 | replace hc3 := nlt_t hc3 | replace hc3 := nle_t hc3 | replace hc3 := ndec_t hc3 | replace hc3 := ndec_f hc3 | replace hc3 := nn_t hc3 | replace hc3 := nn_f hc3 | skip
        refine g_seq ?_
        refine g_region ?_
        refine gl_v rfl (o_assign rfl) ?_
        refine gl_nil ?_
        refine ge_then ?_
        refine g_ret ?_
        refine ge_then_ret ?_
        refine ret1 (.inl rfl) rfl rfl _ (⟨rfl, rfl⟩) (To.sat (by repeat (first | exact .nil | exact .done .refl | (apply To.cons; · (repeat (first | exact .head | apply Sel.tail))) | exact .done (by repeat (first | exact .refl | apply Drop.skip)))))
      ·
        first | replace hc3 := of_decide_eq_true hc3 | replace hc3 := lt_f hc3 | replace hc3 := le_f hc3 | replace hc3 := dec_f hc3 | replace hc3 := nlt_t hc3 | replace hc3 := nle_t hc3 | replace hc3 := ndec_t hc3 | replace hc3 := ndec_f hc3 | replace hc3 := nn_t hc3 | replace hc3 := nn_f hc3 | skip
        obtain ⟨kk, hkk⟩ : ∃ n : Nat, (n : Int) = c % nn := ⟨(c % nn).toNat, by have := Int.emod_nonneg c (show (nn : Int) ≠ 0 by omega); omega⟩
        have hkn : kk < nn := by have := Int.emod_lt_of_pos c (show (0 : Int) < nn by omega); omega
        refine g_skip ?_
        refine ge_then ?_
        refine g_seq ?_
        refine g_region ?_
        refine gl_v rfl (o_move rfl) ?_
        refine gl_v rfl (o_move rfl) ?_
        refine gl_c rfl (o_call rfl (mod_spec c nn (by omega) hc) (by repeat (first | exact .nil | (apply Part.cons; · (repeat (first | exact .head | apply Sel.tail)))))) ?_
        rintro _ R ⟨_, ⟨rfl, rfl⟩, rfl⟩
        try simp only [List.cons_append, List.nil_append]
        rw [← hkk]
        refine gl_v rfl (o_assign rfl) ?_
        refine gl_nil ?_
        refine ge_then ?_
        refine g_seq ?_
        refine g_seq ?_
        refine g_region ?_
        refine gl_v rfl (o_assign rfl) ?_
        refine gl_nil ?_
        refine ge_then ?_
        refine g_block ?_
        refine g_loop (ι := Nat) (fun m => m ≤ mx (dl s) nn) (fun m => [(14, I64 ((m + 1 : Nat) : Int)), (13, I64 (kk : Nat)), (10, I64 ((mx (dl s) nn : Nat) : Int)), (7, ptr p 0), (1, .slice ad s.length cap)]) (fun m => wheel p (tkN m (⟨NA, nn, adds NA (dl s) nn⟩ : Wh)) :: base W :: R) (fun m => mx (dl s) nn - m) 0 (Nat.zero_le _) (Keep.cons rfl (Keep.cons rfl (Keep.cons rfl (Keep.cons rfl (Keep.cons rfl (Keep.nil)))))) (To.sat (by repeat (first | exact .nil | exact .done .refl | (apply To.cons; · (repeat (first | exact .head | apply Sel.tail))) | exact .done (by repeat (first | exact .refl | apply Drop.skip))))) ?_
        intro m hmm
        refine g_seq ?_
        refine g_seq ?_
        refine g_region ?_
        refine gl_v rfl (o_move rfl) ?_
        refine gl_v rfl (o_move rfl) ?_
        refine gl_v rfl (o_leq rfl rfl) ?_
        refine gl_nil ?_
        refine ge_then ?_
        refine g_cond rfl (fun hc4 => ?_) (fun hc4 => ?_)
        ·
          first | replace hc4 := of_decide_eq_true hc4 | replace hc4 := lt_f hc4 | replace hc4 := le_f hc4 | replace hc4 := dec_f hc4 | replace hc4 := nlt_t hc4 | replace hc4 := nle_t hc4 | replace hc4 := ndec_t hc4 | replace hc4 := ndec_f hc4 | replace hc4 := nn_t hc4 | replace hc4 := nn_f hc4 | skip
          refine g_skip ?_
          refine ge_then ?_
          refine g_seq ?_
          refine g_block ?_
          refine g_seq ?_
          refine g_region ?_
          refine gl_v rfl (o_move rfl) ?_
          refine gl_c rfl (o_call rfl (Tick_spec p (tkN m (⟨NA, nn, adds NA (dl s) nn⟩ : Wh)) (tkN_ok (adds_ok (dl_b s) nn (by omega)) m) (by have := mx_b (dl_b s) nn; rw [tkN_now]; show NA + m < _; omega) (by rw [tkN_seq]; show nn < _; omega)) (by repeat (first | exact .nil | (apply Part.cons; · (repeat (first | exact .head | apply Sel.tail)))))) ?_
          rintro _ R ⟨_, ⟨a', c', rfl, rfl⟩, rfl⟩
          try simp only [List.cons_append, List.nil_append]
          obtain ⟨ll, hll⟩ : ∃ ll, ll = (dueL (tkN m (⟨NA, nn, adds NA (dl s) nn⟩ : Wh))).map (·.id) := ⟨_, rfl⟩
          have hlen : (dueL (tkN m (⟨NA, nn, adds NA (dl s) nn⟩ : Wh))).length = ll.length := by rw [hll, List.length_map]
          have hocc := adds_due (now := NA) (dl_b s) (show nn ≤ 64 by omega) hkn m
          rw [← hll] at hocc
          rw [show ((dueL (tkN m (⟨NA, nn, adds NA (dl s) nn⟩ : Wh))).map fun t => U64 t.id) = ll.map U64 by rw [hll, List.map_map]; rfl, hlen]
          have hll2 : ll.length ≤ 64 := by rw [← hlen]; have h1 := (tkN_ok (adds_ok (now := NA) (dl_b s) nn (by omega)) m).len; have h2 := List.length_filter_le (fun t => decide (t.due = (tkN m (⟨NA, nn, adds NA (dl s) nn⟩ : Wh)).now + 1)) (tkN m (⟨NA, nn, adds NA (dl s) nn⟩ : Wh)).T; exact Nat.le_trans h2 h1
          refine gl_v rfl (o_assign rfl) ?_
          refine gl_nil ?_
          refine ge_then ?_
          refine g_seq ?_
          refine g_region ?_
          refine gl_v rfl (o_assign rfl) ?_
          refine gl_nil ?_
          refine ge_then ?_
          refine g_seq ?_
          refine g_seq ?_
          refine g_region ?_
          refine gl_v rfl (o_assign rfl) ?_
          refine gl_nil ?_
          refine ge_then ?_
          refine g_block ?_
          refine g_loop (ι := Nat) (fun j => j ≤ ll.length) (fun j => [(17, I64 j), (16, I64 ((occ (ll.take j) (kk : Nat) : Nat) : Int)), (15, .slice a' ll.length c'), (14, I64 ((m + 1 : Nat) : Int)), (13, I64 (kk : Nat)), (10, I64 ((mx (dl s) nn : Nat) : Int)), (7, ptr p 0), (1, .slice ad s.length cap)]) (fun _ => own (.slice a' ll.length c') 31 1 ll.length (ll.map U64) :: wheel p (tkN (m + 1) (⟨NA, nn, adds NA (dl s) nn⟩ : Wh)) :: base W :: R) (fun j => ll.length - j) 0 (Nat.zero_le _) (Keep.cons rfl (Keep.cons rfl (Keep.cons rfl (Keep.cons rfl (Keep.cons rfl (Keep.cons rfl (Keep.cons rfl (Keep.cons rfl (Keep.nil))))))))) (To.sat (by repeat (first | exact .nil | exact .done .refl | (apply To.cons; · (repeat (first | exact .head | apply Sel.tail))) | exact .done (by repeat (first | exact .refl | apply Drop.skip))))) ?_
          intro j hj
          refine g_seq ?_
          refine g_seq ?_
          refine g_region ?_
          refine gl_v rfl (o_move rfl) ?_
          refine gl_v rfl (o_move rfl) ?_
          refine gl_v rfl (o_lenL rfl) ?_
          refine gl_v rfl (o_lss rfl rfl) ?_
          refine gl_nil ?_
          refine ge_then ?_
          refine g_cond rfl (fun hc5 => ?_) (fun hc5 => ?_)
          ·
            first | replace hc5 := of_decide_eq_true hc5 | replace hc5 := lt_f hc5 | replace hc5 := le_f hc5 | replace hc5 := dec_f hc5 | replace hc5 := nlt_t hc5 | replace hc5 := nle_t hc5 | replace hc5 := ndec_t hc5 | replace hc5 := ndec_f hc5 | replace hc5 := nn_t hc5 | replace hc5 := nn_f hc5 | skip
            obtain ⟨x, hx⟩ : ∃ x, ll[j]? = some x := ⟨_, List.getElem?_eq_getElem (by omega)⟩
            refine g_skip ?_
            refine ge_then ?_
            refine g_seq ?_
            refine g_block ?_
            refine g_seq ?_
            refine g_region ?_
            refine gl_v rfl (o_move rfl) ?_
            refine gl_v rfl (o_move rfl) ?_
            refine gl_v rfl (o_idxS rfl rfl (show j < ll.length by omega)) ?_
            refine gl_v rfl (o_loadS rfl (map_at' (f := U64) (show ll[j * 1]? = some x by rw [Nat.mul_one]; exact hx))) ?_
            refine gl_v rfl (o_move rfl) ?_
            refine gl_v rfl (o_convR ((kk : Nat) : Int) (wr_u64 (by omega)) rfl) ?_
            refine gl_v rfl (o_eql rfl rfl) ?_
            refine gl_nil ?_
            refine ge_then ?_
            refine g_cond rfl (fun hc6 => ?_) (fun hc6 => ?_)
            ·
              first | replace hc6 := of_decide_eq_true hc6 | replace hc6 := lt_f hc6 | replace hc6 := le_f hc6 | replace hc6 := dec_f hc6 | replace hc6 := nlt_t hc6 | replace hc6 := nle_t hc6 | replace hc6 := ndec_t hc6 | replace hc6 := ndec_f hc6 | replace hc6 := nn_t hc6 | replace hc6 := nn_f hc6 | skip
              refine g_region ?_
              refine gl_v rfl (o_move rfl) ?_
              refine gl_v rfl (o_addR ((occ (ll.take j) (kk : Nat) + 1 : Nat) : Int) (by have h1 := occ_tk ll j (kk : Nat); rw [wr_i64 (by omega)]; omega) rfl rfl) ?_
              refine gl_v rfl (o_assign rfl) ?_
              refine gl_nil ?_
              refine ge_block ?_
              refine ge_then ?_
              refine g_region ?_
              refine gl_v rfl (o_move rfl) ?_
              refine gl_v rfl (o_addR ((j + 1 : Nat) : Int) (by rw [wr_i64 (by omega)]; omega) rfl rfl) ?_
              refine gl_v rfl (o_assign rfl) ?_
              refine gl_nil ?_
              have ho := occ_take (k := (kk : Nat)) hx
              refine ge_round (j + 1) (show j + 1 ≤ ll.length by omega) (by omega) (Keep.cons rfl (Keep.cons (by rw [ho, if_pos (by omega)]; rfl) (Keep.cons rfl (Keep.cons rfl (Keep.cons rfl (Keep.cons rfl (Keep.cons rfl (Keep.cons rfl (Keep.nil))))))))) (To.sat (by repeat (first | exact .nil | exact .done .refl | (apply To.cons; · (repeat (first | exact .head | apply Sel.tail))) | exact .done (by repeat (first | exact .refl | apply Drop.skip)))))
            ·
              first | replace hc6 := of_decide_eq_true hc6 | replace hc6 := lt_f hc6 | replace hc6 := le_f hc6 | replace hc6 := dec_f hc6 | replace hc6 := nlt_t hc6 | replace hc6 := nle_t hc6 | replace hc6 := ndec_t hc6 | replace hc6 := ndec_f hc6 | replace hc6 := nn_t hc6 | replace hc6 := nn_f hc6 | skip
              refine g_skip ?_
              refine ge_block ?_
              refine ge_then ?_
              refine g_region ?_
              refine gl_v rfl (o_move rfl) ?_
              refine gl_v rfl (o_addR ((j + 1 : Nat) : Int) (by rw [wr_i64 (by omega)]; omega) rfl rfl) ?_
              refine gl_v rfl (o_assign rfl) ?_
              refine gl_nil ?_
              have ho := occ_take (k := (kk : Nat)) hx
              refine ge_round (j + 1) (show j + 1 ≤ ll.length by omega) (by omega) (Keep.cons rfl (Keep.cons (by rw [ho, if_neg (by omega)]; rfl) (Keep.cons rfl (Keep.cons rfl (Keep.cons rfl (Keep.cons rfl (Keep.cons rfl (Keep.cons rfl (Keep.nil))))))))) (To.sat (by repeat (first | exact .nil | exact .done .refl | (apply To.cons; · (repeat (first | exact .head | apply Sel.tail))) | exact .done (by repeat (first | exact .refl | apply Drop.skip)))))
          ·
            first | replace hc5 := of_decide_eq_true hc5 | replace hc5 := lt_f hc5 | replace hc5 := le_f hc5 | replace hc5 := dec_f hc5 | replace hc5 := nlt_t hc5 | replace hc5 := nle_t hc5 | replace hc5 := ndec_t hc5 | replace hc5 := ndec_f hc5 | replace hc5 := nn_t hc5 | replace hc5 := nn_f hc5 | skip
            refine g_exit ?_
            refine ge_then_exit ?_
            refine ge_then_exit ?_
            refine ge_block_exit ?_
            refine ge_then ?_
            refine g_seq ?_
            obtain rfl : j = ll.length := by omega
            rw [List.take_length]
            refine g_region ?_
            refine gl_v rfl (o_move rfl) ?_
            refine gl_v rfl (o_move rfl) ?_
            refine gl_v rfl (o_move rfl) ?_
            refine gl_v rfl (o_idxS rfl rfl (show kk < s.length by omega)) ?_
            refine gl_v rfl (o_loadS rfl (map_at (d := 0) (show kk < s.length by omega))) ?_
            refine gl_c rfl (o_call rfl (mod_spec (s.getD kk 0) 4095 (by decide) (by have := hg _ (List.getElem_mem (show kk < s.length by omega)); rw [List.getD_eq_getElem?_getD, List.getElem?_eq_getElem (show kk < s.length by omega)]; exact this)) (by repeat (first | exact .nil | (apply Part.cons; · (repeat (first | exact .head | apply Sel.tail)))))) ?_
            rintro _ R ⟨_, ⟨rfl, rfl⟩, rfl⟩
            try simp only [List.cons_append, List.nil_append]
            refine gl_v rfl (o_addR (dl s kk : Int) (by have := dl_b s kk; have h2 := dl_at (s := s) (k := kk); rw [wr_i64 (by omega)]; omega) rfl rfl) ?_
            refine gl_v rfl (o_eql rfl rfl) ?_
            refine gl_v rfl (o_move rfl) ?_
            refine gl_g rfl rfl (fun hc7 => ?_) (fun hc7 => ?_) rfl
            ·
              have hc7' := hc7
              first | replace hc7' := of_decide_eq_true hc7' | replace hc7' := lt_f hc7' | replace hc7' := le_f hc7' | replace hc7' := dec_f hc7' | replace hc7' := nlt_t hc7' | replace hc7' := nle_t hc7' | replace hc7' := ndec_t hc7' | replace hc7' := ndec_f hc7' | replace hc7' := nn_t hc7' | replace hc7' := nn_f hc7' | skip
              refine gl_v rfl (o_move rfl) ?_
              refine gl_gT rfl rfl hc7 ?_
              refine gl_v rfl (o_is (c := false) (by rw [hocc, if_pos (by omega)]; rfl) (o_neq rfl rfl)) ?_
              refine gl_v rfl (o_pickT hc7 rfl rfl) ?_
              refine gl_v rfl (o_move rfl) ?_
              refine gl_gT rfl rfl rfl ?_
              refine gl_v rfl (o_move rfl) ?_
              refine gl_gT rfl rfl rfl ?_
              refine gl_v rfl (o_move rfl) ?_
              refine gl_gT rfl rfl rfl ?_
              refine gl_v rfl (o_move rfl) ?_
              refine gl_gT rfl rfl rfl ?_
              refine gl_v rfl (o_idxS rfl rfl (show kk < s.length by omega)) ?_
              refine gl_gT rfl rfl rfl ?_
              refine gl_v rfl (o_loadS rfl (map_at (d := 0) (show kk < s.length by omega))) ?_
              refine gl_gT rfl rfl rfl ?_
              refine gl_c rfl (o_call rfl (mod_spec (s.getD kk 0) 4095 (by decide) (by have := hg _ (List.getElem_mem (show kk < s.length by omega)); rw [List.getD_eq_getElem?_getD, List.getElem?_eq_getElem (show kk < s.length by omega)]; exact this)) (by repeat (first | exact .nil | (apply Part.cons; · (repeat (first | exact .head | apply Sel.tail)))))) ?_
              rintro _ R ⟨_, ⟨rfl, rfl⟩, rfl⟩
              try simp only [List.cons_append, List.nil_append]
              refine gl_gT rfl rfl rfl ?_
              refine gl_v rfl (o_addR (dl s kk : Int) (by have := dl_b s kk; have h2 := dl_at (s := s) (k := kk); rw [wr_i64 (by omega)]; omega) rfl rfl) ?_
              refine gl_gT rfl rfl rfl ?_
              refine gl_v rfl (o_neq rfl rfl) ?_
              refine gl_gT rfl rfl rfl ?_
              refine gl_v rfl (o_move rfl) ?_
              refine gl_gF rfl rfl (by simp; omega) rfl ?_
              refine gl_gF rfl rfl (by simp; omega) rfl ?_
              refine gl_gT rfl rfl rfl ?_
              refine gl_v rfl (o_pickF (by simp; omega) rfl rfl) ?_
              refine gl_v rfl (o_pickF rfl rfl rfl) ?_
              refine gl_nil ?_
              refine ge_then ?_
              refine g_cond_false rfl ?_
              refine g_skip ?_
              refine ge_block ?_
              refine ge_then ?_
              refine g_region ?_
              refine gl_v rfl (o_move rfl) ?_
              refine gl_v rfl (o_addR ((m + 1 + 1 : Nat) : Int) (by have := mx_b (dl_b s) nn; rw [wr_i64 (by omega)]; omega) rfl rfl) ?_
              refine gl_v rfl (o_assign rfl) ?_
              refine gl_nil ?_
              refine ge_round (m + 1) (show m + 1 ≤ mx (dl s) nn by omega) (by omega) (Keep.cons rfl (Keep.cons rfl (Keep.cons rfl (Keep.cons rfl (Keep.cons rfl (Keep.nil)))))) (To.sat (by repeat (first | exact .nil | exact .done .refl | (apply To.cons; · (repeat (first | exact .head | apply Sel.tail))) | exact .done (by repeat (first | exact .refl | apply Drop.skip)))))
            ·
              have hc7' := hc7
              first | replace hc7' := of_decide_eq_true hc7' | replace hc7' := lt_f hc7' | replace hc7' := le_f hc7' | replace hc7' := dec_f hc7' | replace hc7' := nlt_t hc7' | replace hc7' := nle_t hc7' | replace hc7' := ndec_t hc7' | replace hc7' := ndec_f hc7' | replace hc7' := nn_t hc7' | replace hc7' := nn_f hc7' | skip
              simp only [putO]
              refine gl_gF rfl rfl hc7 rfl ?_
              refine gl_v rfl (o_pickF hc7 rfl rfl) ?_
              refine gl_v rfl (o_move rfl) ?_
              refine gl_gT rfl rfl rfl ?_
              refine gl_v rfl (o_move rfl) ?_
              refine gl_gT rfl rfl rfl ?_
              refine gl_v rfl (o_move rfl) ?_
              refine gl_gT rfl rfl rfl ?_
              refine gl_v rfl (o_move rfl) ?_
              refine gl_gT rfl rfl rfl ?_
              refine gl_v rfl (o_idxS rfl rfl (show kk < s.length by omega)) ?_
              refine gl_gT rfl rfl rfl ?_
              refine gl_v rfl (o_loadS rfl (map_at (d := 0) (show kk < s.length by omega))) ?_
              refine gl_gT rfl rfl rfl ?_
              refine gl_c rfl (o_call rfl (mod_spec (s.getD kk 0) 4095 (by decide) (by have := hg _ (List.getElem_mem (show kk < s.length by omega)); rw [List.getD_eq_getElem?_getD, List.getElem?_eq_getElem (show kk < s.length by omega)]; exact this)) (by repeat (first | exact .nil | (apply Part.cons; · (repeat (first | exact .head | apply Sel.tail)))))) ?_
              rintro _ R ⟨_, ⟨rfl, rfl⟩, rfl⟩
              try simp only [List.cons_append, List.nil_append]
              refine gl_gT rfl rfl rfl ?_
              refine gl_v rfl (o_addR (dl s kk : Int) (by have := dl_b s kk; have h2 := dl_at (s := s) (k := kk); rw [wr_i64 (by omega)]; omega) rfl rfl) ?_
              refine gl_gT rfl rfl rfl ?_
              refine gl_v rfl (o_neq rfl rfl) ?_
              refine gl_gT rfl rfl rfl ?_
              refine gl_v rfl (o_move rfl) ?_
              refine gl_gT rfl rfl (by simp; omega) ?_
              refine gl_v rfl (o_move rfl) ?_
              refine gl_gT rfl rfl (by simp; omega) ?_
              refine gl_v rfl (o_is (c := false) (by rw [hocc, if_neg (by omega)]; rfl) (o_neq rfl rfl)) ?_
              refine gl_gT rfl rfl rfl ?_
              refine gl_v rfl (o_pickT (by simp; omega) rfl rfl) ?_
              refine gl_v rfl (o_pickF rfl rfl rfl) ?_
              refine gl_nil ?_
              refine ge_then ?_
              refine g_cond_false rfl ?_
              refine g_skip ?_
              refine ge_block ?_
              refine ge_then ?_
              refine g_region ?_
              refine gl_v rfl (o_move rfl) ?_
              refine gl_v rfl (o_addR ((m + 1 + 1 : Nat) : Int) (by have := mx_b (dl_b s) nn; rw [wr_i64 (by omega)]; omega) rfl rfl) ?_
              refine gl_v rfl (o_assign rfl) ?_
              refine gl_nil ?_
              refine ge_round (m + 1) (show m + 1 ≤ mx (dl s) nn by omega) (by omega) (Keep.cons rfl (Keep.cons rfl (Keep.cons rfl (Keep.cons rfl (Keep.cons rfl (Keep.nil)))))) (To.sat (by repeat (first | exact .nil | exact .done .refl | (apply To.cons; · (repeat (first | exact .head | apply Sel.tail))) | exact .done (by repeat (first | exact .refl | apply Drop.skip)))))
        ·
          first | replace hc4 := of_decide_eq_true hc4 | replace hc4 := lt_f hc4 | replace hc4 := le_f hc4 | replace hc4 := dec_f hc4 | replace hc4 := nlt_t hc4 | replace hc4 := nle_t hc4 | replace hc4 := ndec_t hc4 | replace hc4 := ndec_f hc4 | replace hc4 := nn_t hc4 | replace hc4 := nn_f hc4 | skip
          refine g_exit ?_
          refine ge_then_exit ?_
          refine ge_then_exit ?_
          refine ge_block_exit ?_
          refine ge_then ?_
          refine g_seq ?_
          obtain rfl : m = mx (dl s) nn := by omega
          refine g_region ?_
          refine gl_v rfl (o_move rfl) ?_
          refine gl_c rfl (o_call rfl (WLen_spec p (tkN (mx (dl s) nn) (⟨NA, nn, adds NA (dl s) nn⟩ : Wh)) (tkN_ok (adds_ok (dl_b s) nn (by omega)) (mx (dl s) nn))) (by repeat (first | exact .nil | (apply Part.cons; · (repeat (first | exact .head | apply Sel.tail)))))) ?_
          rintro _ R ⟨_, ⟨rfl, rfl⟩, rfl⟩
          try simp only [List.cons_append, List.nil_append]
          refine gl_v rfl (o_eql rfl rfl) ?_
          refine gl_v rfl (o_assign rfl) ?_
          refine gl_nil ?_
          refine ge_then ?_
          refine g_ret ?_
          refine ret1 (.inl rfl) rfl rfl _ (⟨by rw [adds_end (dl_b s) (by omega) (fun k hk => mx_le hk)]; rfl, rfl⟩) (To.sat (by repeat (first | exact .nil | exact .done .refl | (apply To.cons; · (repeat (first | exact .head | apply Sel.tail))) | exact .done (by repeat (first | exact .refl | apply Drop.skip)))))

/-- sixty-four timers, then one away and another one there -/
def wF (d : Nat) : Wh := ⟨0, 64, adds 0 (fun _ => d) 64⟩
theorem wF_ok {d : Nat} (hd : 1 ≤ d ∧ d ≤ 4095) : WOk (wF d) := adds_ok (fun _ => hd) 64 (Nat.le_refl _)
theorem wF_no {d : Nat} : (wF d).get 64 = none := get_none.2 fun t ht => by
  obtain ⟨k, hk, rfl⟩ := adds_mem.1 ht; show (k : Int) ≠ 64; omega
theorem wF_has {d c : Nat} (hd : 1 ≤ d ∧ d ≤ 4095) (hc : c < 64) : (wF d).get (c : Int) = some ⟨(c : Int), 0 + d, c + 1⟩ := get_some (wF_ok hd) (adds_mem.2 ⟨c, hc, rfl⟩) rfl
theorem wF_len (d : Nat) : (wF d).T.length = 64 := adds_len 0 (fun _ => d) 64
def wG (d c : Nat) : Wh := cutR (wF d) (c : Int)
theorem wG_ok {d c : Nat} (hd : 1 ≤ d ∧ d ≤ 4095) : WOk (wG d c) := (wF_ok hd).cut _
theorem cut_mem {w : Wh} {id : Int} {t : Tm} (h : t ∈ (cutR w id).T) : t ∈ w.T ∧ t.id ≠ id := by
  unfold cutR at h; have := List.mem_filter.1 h; exact ⟨this.1, by simpa using this.2⟩
theorem wG_no {d c : Nat} : (wG d c).get (c : Int) = none := get_none.2 fun t ht => (cut_mem ht).2
theorem wG_no2 {d c : Nat} : (wG d c).get 64 = none := get_none.2 fun t ht => get_none.1 (wF_no (d := d)) t (cut_mem ht).1
theorem wF_mem {d : Nat} {t : Tm} (h : t ∈ (wF d).T) : t.due = d := by
  unfold wF at h; obtain ⟨k, hk, rfl⟩ := adds_mem.1 h; show 0 + d = d; omega
theorem cut_len {w : Wh} (h : WOk w) {id : Int} {t : Tm} (hg : w.get id = some t) : (cutR w id).T.length + 1 = w.T.length := by
  have h1 := filter_two w.T (fun t => t.id = id)
  have h2 : (w.T.filter fun t => t.id = id).length = 1 := by
    have := occ_nodup h.nd id
    unfold occ at this
    rw [List.filter_map, List.length_map, if_pos (by obtain ⟨g1, g2⟩ := get_mem hg; rw [← g2]; exact List.mem_map_of_mem g1)] at this
    exact this
  show (w.T.filter fun t => ¬ t.id = id).length + 1 = _
  omega
theorem wG_len {d c : Nat} (hd : 1 ≤ d ∧ d ≤ 4095) (hc : c < 64) : (wG d c).T.length = 63 := by
  have h1 := cut_len (wF_ok hd) (wF_has hd hc); have h2 := wF_len d; unfold wG; omega
def wH (d c : Nat) : Wh := addR (wG d c) 64 (d : Int)
theorem wH_z {d c : Nat} (hd : 1 ≤ d ∧ d ≤ 4095) (hc : c < 64) : addE (wG d c) 64 (d : Int) = 0 := addE_z (by omega) wG_no2 (by rw [wG_len hd hc]; decide)
theorem wH_eq {d c : Nat} (hd : 1 ≤ d ∧ d ≤ 4095) (hc : c < 64) : wH d c = ⟨0, 65, (wG d c).T ++ [⟨64, 0 + d, 65⟩]⟩ := by
  unfold wH addR; rw [if_pos (wH_z hd hc)]; simp [wG, cutR, wF]
theorem wH_ok {d c : Nat} (hd : 1 ≤ d ∧ d ≤ 4095) : WOk (wH d c) := (wG_ok hd).add _ _
theorem wH_end {d c : Nat} (hd : 1 ≤ d ∧ d ≤ 4095) (hc : c < 64) : (tkN d (wH d c)).T = [] := by
  rw [tkN_T (wH_ok hd), List.filter_eq_nil_iff, wH_eq hd hc]
  intro t ht
  show ¬ decide (0 + d < t.due) = true
  have : t.due = d := by
    rcases List.mem_append.1 ht with h | h
    · exact wF_mem (cut_mem h).1
    · obtain rfl := List.mem_singleton.1 h; show 0 + d = d; omega
  simp [this]
theorem wH_told {d c : Nat} (hd : 1 ≤ d ∧ d ≤ 4095) (hc : c < 64) : tcnt d (wH d c) = 64 := by
  have h := tcnt_len (wH d c) d
  rw [wH_end hd hc, wH_eq hd hc, List.length_append, wG_len hd hc] at h
  rw [wH_eq hd hc]; simpa using h
theorem tcnt_64 {w : Wh} (h : WOk w) (n : Nat) : tcnt n w ≤ 64 := by have := tcnt_len w n; have := h.len; omega
theorem due_none (p : Nat) {w : Wh} {id : Int} (hw : WOk w) (h : w.get id = none) : FnS Try.prog 17 [ptr p 0, U64 id] [wheel p w] (fun u Bs => u = .tuple #[I64 0, .bool false] ∧ Bs = [wheel p w]) := by
  have h1 := Due_spec p w id hw
  rw [show dueV w id = .tuple #[I64 0, .bool false] by unfold dueV; rw [h]] at h1; exact h1
theorem add_eq (p : Nat) {w : Wh} {id d : Int} (e : Int) (w2 : Wh) (hw : WOk w) (hn : w.now < 3000000000000000000) (hq : w.seq < 4611686018427387903) (he : addE w id d = e) (h2 : addR w id d = w2) : FnS Try.prog 13 [ptr p 0, U64 id, I64 d] [wheel p w] (fun u Bs => u = I64 e ∧ Bs = [wheel p w2]) := by
  have h1 := Add_spec p w id d hw hn hq
  rw [he, h2] at h1; exact h1
theorem cut_eq (p : Nat) {w : Wh} {id : Int} (b : Bool) (w2 : Wh) (hw : WOk w) (hb : (w.get id).isSome = b) (h2 : cutR w id = w2) : FnS Try.prog 18 [ptr p 0, U64 id] [wheel p w] (fun u Bs => u = .bool b ∧ Bs = [wheel p w2]) := by
  have h1 := Cut_spec p w id hw
  rw [hb, h2] at h1; exact h1
theorem len_eq (p : Nat) {w : Wh} (n : Nat) (hw : WOk w) (h : w.T.length = n) : FnS Try.prog 14 [ptr p 0] [wheel p w] (fun u Bs => u = I64 n ∧ Bs = [wheel p w]) := by
  have h1 := WLen_spec p w hw
  rw [h] at h1; exact h1
theorem wF_b (d : Nat) : (wF d).now < 3000000000000000000 ∧ (wF d).seq < 4611686018427387903 := ⟨show 0 < 3000000000000000000 by decide, show 64 < 4611686018427387903 by decide⟩
theorem wG_b (d c : Nat) : (wG d c).now < 3000000000000000000 ∧ (wG d c).seq < 4611686018427387903 := ⟨show 0 < 3000000000000000000 by decide, show 64 < 4611686018427387903 by decide⟩
theorem wH_b {d c : Nat} (hd : 1 ≤ d ∧ d ≤ 4095) (hc : c < 64) {i : Nat} (hi : i ≤ d) : (tkN i (wH d c)).now < 3000000000000000000 ∧ (tkN i (wH d c)).seq < 4611686018427387903 := by
  rw [tkN_now, tkN_seq, wH_eq hd hc]; exact ⟨show 0 + i < _ by omega, show 65 < 4611686018427387903 by decide⟩
theorem wF_full {d : Nat} (hd : 1 ≤ d ∧ d ≤ 4095) : addE (wF d) 64 (d : Int) = 4 := addE_4 (by omega) wF_no (by rw [wF_len]; exact Nat.le_refl _)
theorem wF_there {d c : Nat} (hd : 1 ≤ d ∧ d ≤ 4095) (hc : c < 64) : addE (wF d) (c : Int) (d : Int) = 3 := addE_3 (by omega) (wF_has hd hc)
theorem wH_room {d c : Nat} (hd : 1 ≤ d ∧ d ≤ 4095) (hc : c < 64) : addE (tkN d (wH d c)) 64 1 = 0 := addE_z (by decide) (get_none.2 (by rw [wH_end hd hc]; intro t ht; cases ht)) (by rw [wH_end hd hc]; exact (show ¬ 64 ≤ 0 by decide))
theorem wF_eq (p d : Nat) : wheel p ⟨0, 64, adds 0 (fun _ => d) 64⟩ = wheel p (wF d) := rfl
set_option maxRecDepth 8000 in
theorem full_spec (b : Int) (cc : Nat) (hb : -9223372036854775808 ≤ b ∧ b ≤ 9223372036854775807) (hcc : cc ≤ 255) : FnS Try.prog 7 [I64 b, .int .u8 cc] [] (fun u Bs => u = .bool true ∧ Bs = []) := by
  refine fn_body Try.func7 rfl rfl rfl ?_
  intro W0 R
  simp only [List.zipIdx_cons, List.zipIdx_nil, List.map_cons, List.map_nil, Nat.zero_add, Nat.reduceAdd, List.cons_append, List.nil_append]
  obtain ⟨D, hD⟩ : ∃ n : Nat, (n : Int) = 1 + b % 4095 := ⟨(1 + b % 4095).toNat, by omega⟩
  have hd : 1 ≤ D ∧ D ≤ 4095 := by omega
  obtain ⟨c, hc⟩ : ∃ c, c = cc % 64 := ⟨_, rfl⟩
  have hc64 : c < 64 := by omega
  refine g_seq ?_
  refine g_region ?_
  refine gl_v rfl (o_assign rfl) ?_
  refine gl_nil ?_
  refine ge_then ?_
  refine g_seq ?_
  refine g_seq ?_
  refine g_region ?_
  refine gl_c rfl (o_call rfl (alive_spec) (by repeat (first | exact .nil | (apply Part.cons; · (repeat (first | exact .head | apply Sel.tail)))))) ?_
  rintro _ R ⟨_, ⟨rfl, rfl⟩, rfl⟩
  try simp only [List.cons_append, List.nil_append]
  refine gl_v rfl (o_is (c := false) (by rfl) (o_not rfl)) ?_
  refine gl_nil ?_
  refine ge_then ?_
  refine g_cond_false rfl ?_
  refine g_skip ?_
  refine ge_then ?_
  refine g_seq ?_
  refine g_region ?_
  refine gl_c rfl (o_call rfl (WNew_spec) (by repeat (first | exact .nil | (apply Part.cons; · (repeat (first | exact .head | apply Sel.tail)))))) ?_
  rintro _ R ⟨_, ⟨p, rfl, rfl⟩, rfl⟩
  try simp only [List.cons_append, List.nil_append]
  refine gl_v rfl (o_assign rfl) ?_
  refine gl_nil ?_
  refine ge_then ?_
  refine g_seq ?_
  refine g_region ?_
  refine gl_v rfl (o_move rfl) ?_
  refine gl_c rfl (o_call rfl (mod_spec b 4095 (by decide) (by omega)) (by repeat (first | exact .nil | (apply Part.cons; · (repeat (first | exact .head | apply Sel.tail)))))) ?_
  rintro _ R ⟨_, ⟨rfl, rfl⟩, rfl⟩
  try simp only [List.cons_append, List.nil_append]
  refine gl_v rfl (o_addR (D : Int) (by rw [wr_i64 (by omega)]; omega) rfl rfl) ?_
  refine gl_v rfl (o_assign rfl) ?_
  refine gl_nil ?_
  refine ge_then ?_
  refine g_seq ?_
  refine g_seq ?_
  refine g_region ?_
  refine gl_v rfl (o_assign rfl) ?_
  refine gl_nil ?_
  refine ge_then ?_
  refine g_block ?_
  refine g_loop (ι := Nat) (fun i => i ≤ 64) (fun i => [(7, I64 i), (6, I64 D), (5, ptr p 0), (1, .int .u8 cc)]) (fun i => wheel p ⟨0, i, adds 0 (fun _ => D) i⟩ :: R) (fun i => 64 - i) 0 (Nat.zero_le _) (Keep.cons rfl (Keep.cons rfl (Keep.cons rfl (Keep.cons rfl (Keep.nil))))) (To.sat (by repeat (first | exact .nil | exact .done .refl | (apply To.cons; · (repeat (first | exact .head | apply Sel.tail))) | exact .done (by repeat (first | exact .refl | apply Drop.skip))))) ?_
  intro i hi
  refine g_seq ?_
  refine g_seq ?_
  refine g_region ?_
  refine gl_v rfl (o_move rfl) ?_
  refine gl_v rfl (o_lss rfl rfl) ?_
  refine gl_nil ?_
  refine ge_then ?_
  refine g_cond rfl (fun hc1 => ?_) (fun hc1 => ?_)
  ·
    first | replace hc1 := of_decide_eq_true hc1 | replace hc1 := lt_f hc1 | replace hc1 := le_f hc1 | replace hc1 := dec_f hc1 | replace hc1 := nlt_t hc1 | replace hc1 := nle_t hc1 | replace hc1 := ndec_t hc1 | replace hc1 := ndec_f hc1 | replace hc1 := nn_t hc1 | replace hc1 := nn_f hc1 | skip
    refine g_skip ?_
    refine ge_then ?_
    refine g_seq ?_
    refine g_block ?_
    refine g_seq ?_
    refine g_region ?_
    refine gl_v rfl (o_move rfl) ?_
    refine gl_v rfl (o_move rfl) ?_
    refine gl_v rfl (o_convR (i : Int) (wr_u64 (by omega)) rfl) ?_
    refine gl_v rfl (o_move rfl) ?_
    refine gl_c rfl (o_call rfl (adds_spec p 0 i (fun _ => D) (fun _ => hd) (by omega) (by decide)) (by repeat (first | exact .nil | (apply Part.cons; · (repeat (first | exact .head | apply Sel.tail)))))) ?_
    rintro _ R ⟨_, ⟨rfl, rfl⟩, rfl⟩
    try simp only [List.cons_append, List.nil_append]
    refine gl_v rfl (o_is (c := false) (by rfl) (o_neq rfl rfl)) ?_
    refine gl_nil ?_
    refine ge_then ?_
    refine g_cond_false rfl ?_
    refine g_skip ?_
    refine ge_block ?_
    refine ge_then ?_
    refine g_region ?_
    refine gl_v rfl (o_move rfl) ?_
    refine gl_v rfl (o_addR ((i + 1 : Nat) : Int) (by rw [wr_i64 (by omega)]; omega) rfl rfl) ?_
    refine gl_v rfl (o_assign rfl) ?_
    refine gl_nil ?_
    refine ge_round (i + 1) (show i + 1 ≤ 64 by omega) (by omega) (Keep.cons rfl (Keep.cons rfl (Keep.cons rfl (Keep.cons rfl (Keep.nil))))) (To.sat (by repeat (first | exact .nil | exact .done .refl | (apply To.cons; · (repeat (first | exact .head | apply Sel.tail))) | exact .done (by repeat (first | exact .refl | apply Drop.skip)))))
  ·
    first | replace hc1 := of_decide_eq_true hc1 | replace hc1 := lt_f hc1 | replace hc1 := le_f hc1 | replace hc1 := dec_f hc1 | replace hc1 := nlt_t hc1 | replace hc1 := nle_t hc1 | replace hc1 := ndec_t hc1 | replace hc1 := ndec_f hc1 | replace hc1 := nn_t hc1 | replace hc1 := nn_f hc1 | skip
    refine g_exit ?_
    refine ge_then_exit ?_
    refine ge_then_exit ?_
    refine ge_block_exit ?_
    refine ge_then ?_
    refine g_seq ?_
    obtain rfl : i = 64 := by omega
    rw [wF_eq]
    refine g_region ?_
    refine gl_v rfl (o_move rfl) ?_
    refine gl_v rfl (o_convR (cc : Int) (wr_u64 (by omega)) rfl) ?_
    refine gl_v rfl (o_remR (c : Int) (by rw [hc]; exact tmodn cc 64) rfl rfl (by decide)) ?_
    refine gl_v rfl (o_assign rfl) ?_
    refine gl_nil ?_
    refine ge_then ?_
    refine g_seq ?_
    refine g_region ?_
    refine gl_v rfl (o_move rfl) ?_
    refine gl_c rfl (o_call rfl (due_none p (wF_ok hd) wF_no) (by repeat (first | exact .nil | (apply Part.cons; · (repeat (first | exact .head | apply Sel.tail)))))) ?_
    rintro _ R ⟨_, ⟨rfl, rfl⟩, rfl⟩
    try simp only [List.cons_append, List.nil_append]
    refine gl_v rfl (o_move rfl) ?_
    refine gl_v rfl (o_extract rfl rfl) ?_
    refine gl_v rfl (o_extract rfl rfl) ?_
    refine gl_v rfl (o_assign rfl) ?_
    refine gl_v rfl (o_assign rfl) ?_
    refine gl_nil ?_
    refine ge_then ?_
    refine g_seq ?_
    refine g_seq ?_
    refine g_region ?_
    refine gl_v rfl (o_move rfl) ?_
    refine gl_v rfl (o_move rfl) ?_
    refine gl_c rfl (o_call rfl (add_eq p 4 (wF D) (wF_ok hd) (wF_b D).1 (wF_b D).2 (wF_full hd) (addR_ne (by rw [wF_full hd]; decide))) (by repeat (first | exact .nil | (apply Part.cons; · (repeat (first | exact .head | apply Sel.tail)))))) ?_
    rintro _ R ⟨_, ⟨rfl, rfl⟩, rfl⟩
    try simp only [List.cons_append, List.nil_append]
    refine gl_v rfl (o_is (c := false) (by rfl) (o_neq rfl rfl)) ?_
    refine gl_v rfl (o_move rfl) ?_
    refine gl_gT rfl rfl rfl ?_
    refine gl_v rfl (o_move rfl) ?_
    refine gl_v rfl (o_pickF rfl rfl rfl) ?_
    refine gl_v rfl (o_move rfl) ?_
    refine gl_gT rfl rfl rfl ?_
    refine gl_v rfl (o_move rfl) ?_
    refine gl_gT rfl rfl rfl ?_
    refine gl_c rfl (o_call rfl (len_eq p 64 (wF_ok hd) (wF_len D)) (by repeat (first | exact .nil | (apply Part.cons; · (repeat (first | exact .head | apply Sel.tail)))))) ?_
    rintro _ R ⟨_, ⟨rfl, rfl⟩, rfl⟩
    try simp only [List.cons_append, List.nil_append]
    refine gl_gT rfl rfl rfl ?_
    refine gl_v rfl (o_is (c := false) (by rfl) (o_neq rfl rfl)) ?_
    refine gl_v rfl (o_pickF rfl rfl rfl) ?_
    refine gl_v rfl (o_move rfl) ?_
    refine gl_gT rfl rfl rfl ?_
    refine gl_v rfl (o_move rfl) ?_
    refine gl_gT rfl rfl rfl ?_
    refine gl_v rfl (o_move rfl) ?_
    refine gl_gT rfl rfl rfl ?_
    refine gl_v rfl (o_move rfl) ?_
    refine gl_gT rfl rfl rfl ?_
    refine gl_c rfl (o_call rfl (add_eq p 3 (wF D) (wF_ok hd) (wF_b D).1 (wF_b D).2 (wF_there hd hc64) (addR_ne (by rw [wF_there hd hc64]; decide))) (by repeat (first | exact .nil | (apply Part.cons; · (repeat (first | exact .head | apply Sel.tail)))))) ?_
    rintro _ R ⟨_, ⟨rfl, rfl⟩, rfl⟩
    try simp only [List.cons_append, List.nil_append]
    refine gl_gT rfl rfl rfl ?_
    refine gl_v rfl (o_is (c := false) (by rfl) (o_neq rfl rfl)) ?_
    refine gl_v rfl (o_pickF rfl rfl rfl) ?_
    refine gl_v rfl (o_move rfl) ?_
    refine gl_gT rfl rfl rfl ?_
    refine gl_v rfl (o_move rfl) ?_
    refine gl_gT rfl rfl rfl ?_
    refine gl_v rfl (o_move rfl) ?_
    refine gl_gT rfl rfl rfl ?_
    refine gl_c rfl (o_call rfl (cut_eq p true (wG D c) (wF_ok hd) (by rw [wF_has hd hc64]; rfl) rfl) (by repeat (first | exact .nil | (apply Part.cons; · (repeat (first | exact .head | apply Sel.tail)))))) ?_
    rintro _ R ⟨_, ⟨rfl, rfl⟩, rfl⟩
    try simp only [List.cons_append, List.nil_append]
    refine gl_gT rfl rfl rfl ?_
    refine gl_v rfl (o_is (c := false) (by rfl) (o_not rfl)) ?_
    refine gl_v rfl (o_pickF rfl rfl rfl) ?_
    refine gl_v rfl (o_move rfl) ?_
    refine gl_gT rfl rfl rfl ?_
    refine gl_v rfl (o_move rfl) ?_
    refine gl_gT rfl rfl rfl ?_
    refine gl_v rfl (o_move rfl) ?_
    refine gl_gT rfl rfl rfl ?_
    refine gl_c rfl (o_call rfl (cut_eq p false (wG D c) (wG_ok hd) (by rw [wG_no]; rfl) (cutR_none wG_no)) (by repeat (first | exact .nil | (apply Part.cons; · (repeat (first | exact .head | apply Sel.tail)))))) ?_
    rintro _ R ⟨_, ⟨rfl, rfl⟩, rfl⟩
    try simp only [List.cons_append, List.nil_append]
    refine gl_v rfl (o_pickF rfl rfl rfl) ?_
    refine gl_v rfl (o_move rfl) ?_
    refine gl_gT rfl rfl rfl ?_
    refine gl_v rfl (o_move rfl) ?_
    refine gl_gT rfl rfl rfl ?_
    refine gl_v rfl (o_move rfl) ?_
    refine gl_gT rfl rfl rfl ?_
    refine gl_c rfl (o_call rfl (add_eq p 0 (wH D c) (wG_ok hd) (wG_b D c).1 (wG_b D c).2 (wH_z hd hc64) rfl) (by repeat (first | exact .nil | (apply Part.cons; · (repeat (first | exact .head | apply Sel.tail)))))) ?_
    rintro _ R ⟨_, ⟨rfl, rfl⟩, rfl⟩
    try simp only [List.cons_append, List.nil_append]
    refine gl_gT rfl rfl rfl ?_
    refine gl_v rfl (o_is (c := false) (by rfl) (o_neq rfl rfl)) ?_
    refine gl_v rfl (o_pickF rfl rfl rfl) ?_
    refine gl_nil ?_
    refine ge_then ?_
    refine g_cond_false rfl ?_
    refine g_skip ?_
    refine ge_then ?_
    refine g_seq ?_
    refine g_region ?_
    refine gl_v rfl (o_assign rfl) ?_
    refine gl_nil ?_
    refine ge_then ?_
    refine g_seq ?_
    refine g_seq ?_
    refine g_region ?_
    refine gl_v rfl (o_assign rfl) ?_
    refine gl_nil ?_
    refine ge_then ?_
    refine g_block ?_
    refine g_loop (ι := Nat) (fun i => i ≤ D) (fun i => [(12, I64 i), (11, I64 ((tcnt i (wH D c) : Nat) : Int)), (6, I64 D), (5, ptr p 0)]) (fun i => wheel p (tkN i (wH D c)) :: R) (fun i => D - i) 0 (Nat.zero_le _) (Keep.cons rfl (Keep.cons rfl (Keep.cons rfl (Keep.cons rfl (Keep.nil))))) (To.sat (by repeat (first | exact .nil | exact .done .refl | (apply To.cons; · (repeat (first | exact .head | apply Sel.tail))) | exact .done (by repeat (first | exact .refl | apply Drop.skip))))) ?_
    intro i hi
    refine g_seq ?_
    refine g_seq ?_
    refine g_region ?_
    refine gl_v rfl (o_move rfl) ?_
    refine gl_v rfl (o_move rfl) ?_
    refine gl_v rfl (o_lss rfl rfl) ?_
    refine gl_nil ?_
    refine ge_then ?_
    refine g_cond rfl (fun hc2 => ?_) (fun hc2 => ?_)
    ·
      first | replace hc2 := of_decide_eq_true hc2 | replace hc2 := lt_f hc2 | replace hc2 := le_f hc2 | replace hc2 := dec_f hc2 | replace hc2 := nlt_t hc2 | replace hc2 := nle_t hc2 | replace hc2 := ndec_t hc2 | replace hc2 := ndec_f hc2 | replace hc2 := nn_t hc2 | replace hc2 := nn_f hc2 | skip
      refine g_skip ?_
      refine ge_then ?_
      refine g_seq ?_
      refine g_block ?_
      refine g_region ?_
      refine gl_v rfl (o_move rfl) ?_
      refine gl_v rfl (o_move rfl) ?_
      refine gl_c rfl (o_call rfl (Tick_spec p (tkN i (wH D c)) (tkN_ok (wH_ok hd) i) (wH_b hd hc64 (by omega)).1 (by have := (wH_b hd hc64 (i := i) (by omega)).2; omega)) (by repeat (first | exact .nil | (apply Part.cons; · (repeat (first | exact .head | apply Sel.tail)))))) ?_
      rintro _ R ⟨_, ⟨a', c', rfl, rfl⟩, rfl⟩
      try simp only [List.cons_append, List.nil_append]
      refine gl_v rfl (o_lenL rfl) ?_
      refine gl_v rfl (o_addR ((tcnt (i + 1) (wH D c) : Nat) : Int) (by have h1 := tcnt_64 (wH_ok (c := c) hd) (i + 1); have h3 : tcnt (i + 1) (wH D c) = tcnt i (wH D c) + (dueL (tkN i (wH D c))).length := rfl; rw [wr_i64 (by omega)]; omega) rfl rfl) ?_
      refine gl_v rfl (o_assign rfl) ?_
      refine gl_nil ?_
      refine ge_block ?_
      refine ge_then ?_
      refine g_region ?_
      refine gl_v rfl (o_move rfl) ?_
      refine gl_v rfl (o_addR ((i + 1 : Nat) : Int) (by rw [wr_i64 (by omega)]; omega) rfl rfl) ?_
      refine gl_v rfl (o_assign rfl) ?_
      refine gl_nil ?_
      refine ge_round (i + 1) (show i + 1 ≤ D by omega) (by omega) (Keep.cons rfl (Keep.cons rfl (Keep.cons rfl (Keep.cons rfl (Keep.nil))))) (To.sat (by repeat (first | exact .nil | exact .done .refl | (apply To.cons; · (repeat (first | exact .head | apply Sel.tail))) | exact .done (by repeat (first | exact .refl | apply Drop.skip)))))
    ·
      first | replace hc2 := of_decide_eq_true hc2 | replace hc2 := lt_f hc2 | replace hc2 := le_f hc2 | replace hc2 := dec_f hc2 | replace hc2 := nlt_t hc2 | replace hc2 := nle_t hc2 | replace hc2 := ndec_t hc2 | replace hc2 := ndec_f hc2 | replace hc2 := nn_t hc2 | replace hc2 := nn_f hc2 | skip
      refine g_exit ?_
      refine ge_then_exit ?_
      refine ge_then_exit ?_
      refine ge_block_exit ?_
      refine ge_then ?_
      refine g_seq ?_
      obtain rfl : D = i := by omega
      refine g_region ?_
      refine gl_v rfl (o_move rfl) ?_
      refine gl_v rfl (o_is (c := true) (by rw [wH_told hd hc64]; rfl) (o_eql rfl rfl)) ?_
      refine gl_v rfl (o_move rfl) ?_
      refine gl_gT rfl rfl rfl ?_
      refine gl_v rfl (o_move rfl) ?_
      refine gl_gT rfl rfl rfl ?_
      refine gl_c rfl (o_call rfl (len_eq p 0 (tkN_ok (wH_ok hd) D) (by rw [wH_end hd hc64]; rfl)) (by repeat (first | exact .nil | (apply Part.cons; · (repeat (first | exact .head | apply Sel.tail)))))) ?_
      rintro _ R ⟨_, ⟨rfl, rfl⟩, rfl⟩
      try simp only [List.cons_append, List.nil_append]
      refine gl_gT rfl rfl rfl ?_
      refine gl_v rfl (o_is (c := true) (by rfl) (o_eql rfl rfl)) ?_
      refine gl_v rfl (o_pickT rfl rfl rfl) ?_
      refine gl_v rfl (o_move rfl) ?_
      refine gl_gT rfl rfl rfl ?_
      refine gl_v rfl (o_move rfl) ?_
      refine gl_gT rfl rfl rfl ?_
      refine gl_c rfl (o_call rfl (add_eq p 0 _ (tkN_ok (wH_ok hd) D) (wH_b hd hc64 (Nat.le_refl _)).1 (wH_b hd hc64 (Nat.le_refl _)).2 (wH_room hd hc64) rfl) (by repeat (first | exact .nil | (apply Part.cons; · (repeat (first | exact .head | apply Sel.tail)))))) ?_
      rintro _ R ⟨_, ⟨rfl, rfl⟩, rfl⟩
      try simp only [List.cons_append, List.nil_append]
      refine gl_gT rfl rfl rfl ?_
      refine gl_v rfl (o_is (c := true) (by rfl) (o_eql rfl rfl)) ?_
      refine gl_v rfl (o_pickT rfl rfl rfl) ?_
      refine gl_v rfl (o_assign rfl) ?_
      refine gl_nil ?_
      refine ge_then ?_
      refine g_ret ?_
      refine ret1 (.inl rfl) rfl rfl _ (⟨rfl, rfl⟩) (To.sat (by repeat (first | exact .nil | exact .done .refl | (apply To.cons; · (repeat (first | exact .head | apply Sel.tail))) | exact .done (by repeat (first | exact .refl | apply Drop.skip)))))

/-- a timer of number 1 among others -/
structure AP (u : Wh) (m d : Nat) : Prop where
  ok : WOk u
  now : u.now = m
  sq : u.seq ≤ 31
  has : m < d → ∃ q, u.get 1 = some ⟨1, d, q⟩
structure AQ (u : Wh) (i : Nat) : Prop where
  ok : WOk u
  now : u.now = 0
  sq : u.seq ≤ i
  len : u.T.length ≤ i
  ids : ∀ t ∈ u.T, 100 ≤ t.id
theorem AQ.nil : AQ ⟨0, 0, []⟩ 0 := ⟨WOk.nil, rfl, Nat.le_refl _, Nat.le_refl _, fun t ht => by cases ht⟩
theorem AQ.add {u : Wh} {i : Nat} (h : AQ u i) {id d : Int} (hid : 100 ≤ id) : AQ (addR u id d) (i + 1) := by
  have ok := h.ok.add id d
  have h1 := h.sq; have h2 := h.len
  unfold addR at ok ⊢
  by_cases e : addE u id d = 0
  · rw [if_pos e] at ok ⊢
    refine ⟨ok, h.now, by show u.seq + 1 ≤ i + 1; omega, by show (u.T ++ [_]).length ≤ i + 1; simp; omega, fun t ht => ?_⟩
    rcases List.mem_append.1 ht with x | x
    · exact h.ids t x
    · obtain rfl := List.mem_singleton.1 x; exact hid
  · rw [if_neg e] at ok ⊢
    exact ⟨ok, h.now, by omega, by omega, h.ids⟩
theorem AQ.one {u : Wh} {i d : Nat} (h : AQ u i) (hi : i ≤ 30) (hd : 1 ≤ d ∧ d ≤ 4095) : addE u 1 (d : Int) = 0 ∧ AP (addR u 1 (d : Int)) 0 d := by
  have h1 := h.sq; have h2 := h.len
  have e : addE u 1 (d : Int) = 0 := addE_z (by omega) (get_none.2 fun t ht => by have := h.ids t ht; omega) (by omega)
  have ok := h.ok.add 1 (d : Int)
  refine ⟨e, ok, ?_, ?_, fun _ => ⟨u.seq + 1, get_some ok ?_ rfl⟩⟩
  · unfold addR; rw [if_pos e]; exact h.now
  · unfold addR; rw [if_pos e]; exact (show u.seq + 1 ≤ 31 by omega)
  · unfold addR; rw [if_pos e]; refine List.mem_append.2 (.inr (List.mem_singleton.2 ?_)); rw [h.now, Int.toNat_natCast, Nat.zero_add]
theorem AP.cut {u : Wh} {m d : Nat} (h : AP u m d) {id : Int} (hid : id ≠ 1) : AP (cutR u id) m d := by
  refine ⟨h.ok.cut id, h.now, h.sq, fun hm => ?_⟩
  obtain ⟨q, hq⟩ := h.has hm
  obtain ⟨h1, h2⟩ := get_mem hq
  refine ⟨q, get_some (h.ok.cut id) ?_ rfl⟩
  unfold cutR; exact List.mem_filter.2 ⟨h1, by simpa using Ne.symm hid⟩
theorem AP.tick {u : Wh} {m d : Nat} (h : AP u m d) (hm : m < d) : AP (tickR u) (m + 1) d := by
  refine ⟨h.ok.tick, by show u.now + 1 = _; rw [h.now], h.sq, fun h2 => ?_⟩
  obtain ⟨q, hq⟩ := h.has hm
  exact ⟨q, get_tick h.ok hq (by rw [h.now]; show d ≠ m + 1; omega)⟩
theorem AP.due {u : Wh} {m d : Nat} (h : AP u m d) (hm : m < d) : ((1 : Int) ∈ (dueL u).map (·.id)) ↔ m + 1 = d := by
  obtain ⟨q, hq⟩ := h.has hm
  obtain ⟨h1, h2⟩ := get_mem hq
  constructor
  · intro h3
    obtain ⟨t, ht, e⟩ := List.mem_map.1 h3
    have h4 := List.mem_filter.1 ht
    have h5 : t = ⟨1, d, q⟩ := id_inj h.ok.nd h4.1 h1 e
    subst h5
    have h6 : d = u.now + 1 := by simpa using h4.2
    rw [h.now] at h6; omega
  · intro h3
    exact List.mem_map.2 ⟨_, List.mem_filter.2 ⟨h1, by simp [h.now, h3]⟩, rfl⟩
theorem mem_succ {l : List Int} {j : Nat} {x k : Int} (h : l[j]? = some x) : decide (k ∈ l.take (j + 1)) = (decide (k ∈ l.take j) || decide (x = k)) := by
  obtain ⟨hj, e⟩ := List.getElem?_eq_some_iff.1 h
  rw [List.take_succ_eq_append_getElem hj, e, Bool.eq_iff_iff, Bool.or_eq_true, decide_eq_true_eq, decide_eq_true_eq, decide_eq_true_eq, List.mem_append, List.mem_singleton]
  constructor
  · rintro (h | h)
    · exact .inl h
    · exact .inr h.symm
  · rintro (h | h)
    · exact .inl h
    · exact .inr h.symm
set_option maxRecDepth 8000 in
theorem apart_spec (b : Int) (ad ad2 : Option Addr) (cap cap2 : Nat) (s : List Int) (s2 : List Bool) (W : World) (hb : -9223372036854775808 ≤ b ∧ b ≤ 9223372036854775807) (hm : s.length ≤ 9223372036854775807) (hm2 : s2.length ≤ 9223372036854775807)
    [InS W (.slice ad s.length cap) s.length (s.map fun x : Int => Value.int .i64 x)] [InS W (.slice ad2 s2.length cap2) s2.length (s2.map fun x : Bool => Value.bool x)] : FnS Try.prog 6 [I64 b, .slice ad s.length cap, .slice ad2 s2.length cap2] [base W] (fun u Bs => u = .bool true ∧ Bs = [base W]) := by
  refine fn_body Try.func6 rfl rfl rfl ?_
  intro W0 R
  simp only [List.zipIdx_cons, List.zipIdx_nil, List.map_cons, List.map_nil, Nat.zero_add, Nat.reduceAdd, List.cons_append, List.nil_append]
  obtain ⟨D, hD⟩ : ∃ n : Nat, (n : Int) = 1 + b % 4095 := ⟨(1 + b % 4095).toNat, by omega⟩
  have hd : 1 ≤ D ∧ D ≤ 4095 := by omega
  refine g_seq ?_
  refine g_region ?_
  refine gl_v rfl (o_assign rfl) ?_
  refine gl_nil ?_
  refine ge_then ?_
  refine g_seq ?_
  refine g_seq ?_
  refine g_region ?_
  refine gl_c rfl (o_call rfl (alive_spec) (by repeat (first | exact .nil | (apply Part.cons; · (repeat (first | exact .head | apply Sel.tail)))))) ?_
  rintro _ R ⟨_, ⟨rfl, rfl⟩, rfl⟩
  try simp only [List.cons_append, List.nil_append]
  refine gl_v rfl (o_is (c := false) (by rfl) (o_not rfl)) ?_
  refine gl_nil ?_
  refine ge_then ?_
  refine g_cond_false rfl ?_
  refine g_skip ?_
  refine ge_then ?_
  refine g_seq ?_
  refine g_region ?_
  refine gl_c rfl (o_call rfl (WNew_spec) (by repeat (first | exact .nil | (apply Part.cons; · (repeat (first | exact .head | apply Sel.tail)))))) ?_
  rintro _ R ⟨_, ⟨p, rfl, rfl⟩, rfl⟩
  try simp only [List.cons_append, List.nil_append]
  refine gl_c rfl (o_call rfl (WNew_spec) (by repeat (first | exact .nil | (apply Part.cons; · (repeat (first | exact .head | apply Sel.tail)))))) ?_
  rintro _ R ⟨_, ⟨q, rfl, rfl⟩, rfl⟩
  try simp only [List.cons_append, List.nil_append]
  refine gl_v rfl (o_assign rfl) ?_
  refine gl_v rfl (o_assign rfl) ?_
  refine gl_nil ?_
  refine ge_then ?_
  refine g_seq ?_
  refine g_region ?_
  refine gl_v rfl (o_move rfl) ?_
  refine gl_c rfl (o_call rfl (mod_spec b 4095 (by decide) (by omega)) (by repeat (first | exact .nil | (apply Part.cons; · (repeat (first | exact .head | apply Sel.tail)))))) ?_
  rintro _ R ⟨_, ⟨rfl, rfl⟩, rfl⟩
  try simp only [List.cons_append, List.nil_append]
  refine gl_v rfl (o_addR (D : Int) (by rw [wr_i64 (by omega)]; omega) rfl rfl) ?_
  refine gl_v rfl (o_assign rfl) ?_
  refine gl_nil ?_
  refine ge_then ?_
  refine g_cut (fun act wo => ∃ (i : Nat) (u : Wh), i ≤ 30 ∧ AQ u i ∧ HasSl Try.f6.ntmps [(9, I64 D), (8, ptr q 0), (7, ptr p 0), (1, .slice ad s.length cap), (2, .slice ad2 s2.length cap2)] act ∧ St W0 (wheel q u :: wheel p ⟨0, 0, []⟩ :: base W :: R) wo) ?_ ?_
  ·
    refine g_seq ?_
    refine g_region ?_
    refine gl_v rfl (o_assign rfl) ?_
    refine gl_nil ?_
    refine ge_then ?_
    refine g_block ?_
    refine g_loop (ι := Nat × Wh) (fun x => x.1 ≤ s.length ∧ x.1 ≤ 30 ∧ AQ x.2 x.1) (fun x => [(10, I64 x.1), (9, I64 D), (8, ptr q 0), (7, ptr p 0), (1, .slice ad s.length cap), (2, .slice ad2 s2.length cap2)]) (fun x => wheel q x.2 :: wheel p ⟨0, 0, []⟩ :: base W :: R) (fun x => 30 - x.1) (0, ⟨0, 0, []⟩) (⟨Nat.zero_le _, Nat.zero_le _, AQ.nil⟩) (Keep.cons rfl (Keep.cons rfl (Keep.cons rfl (Keep.cons rfl (Keep.cons rfl (Keep.cons rfl (Keep.nil))))))) (To.sat (by repeat (first | exact .nil | exact .done .refl | (apply To.cons; · (repeat (first | exact .head | apply Sel.tail))) | exact .done (by repeat (first | exact .refl | apply Drop.skip))))) ?_
    rintro ⟨i, u⟩ ⟨hi, hi30, hq⟩
    replace hi : i ≤ s.length := hi
    replace hi30 : i ≤ 30 := hi30
    replace hq : AQ u i := hq
    dsimp only
    refine g_seq ?_
    refine g_seq ?_
    refine g_region ?_
    refine gl_v rfl (o_move rfl) ?_
    refine gl_v rfl (o_move rfl) ?_
    refine gl_v rfl (o_lenL rfl) ?_
    refine gl_v rfl (o_lss rfl rfl) ?_
    refine gl_v rfl (o_move rfl) ?_
    refine gl_g rfl rfl (fun hc1 => ?_) (fun hc1 => ?_) rfl
    ·
      have hc1' := hc1
      first | replace hc1' := of_decide_eq_true hc1' | replace hc1' := lt_f hc1' | replace hc1' := le_f hc1' | replace hc1' := dec_f hc1' | replace hc1' := nlt_t hc1' | replace hc1' := nle_t hc1' | replace hc1' := ndec_t hc1' | replace hc1' := ndec_f hc1' | replace hc1' := nn_t hc1' | replace hc1' := nn_f hc1' | skip
      refine gl_v rfl (o_move rfl) ?_
      refine gl_gT rfl rfl hc1 ?_
      refine gl_v rfl (o_lss rfl rfl) ?_
      refine gl_v rfl (o_pickT hc1 rfl rfl) ?_
      refine gl_nil ?_
      refine ge_then ?_
      refine g_cond rfl (fun hc2 => ?_) (fun hc2 => ?_)
      ·
        first | replace hc2 := of_decide_eq_true hc2 | replace hc2 := lt_f hc2 | replace hc2 := le_f hc2 | replace hc2 := dec_f hc2 | replace hc2 := nlt_t hc2 | replace hc2 := nle_t hc2 | replace hc2 := ndec_t hc2 | replace hc2 := ndec_f hc2 | replace hc2 := nn_t hc2 | replace hc2 := nn_f hc2 | skip
        refine g_skip ?_
        refine ge_then ?_
        refine g_seq ?_
        refine g_block ?_
        refine g_region ?_
        refine gl_v rfl (o_move rfl) ?_
        refine gl_v rfl (o_move rfl) ?_
        refine gl_v rfl (o_addR (100 + (i : Int)) (wr_i64 (by omega)) rfl rfl) ?_
        refine gl_v rfl (o_convR (100 + (i : Int)) (wr_u64 (by omega)) rfl) ?_
        refine gl_v rfl (o_move rfl) ?_
        refine gl_v rfl (o_move rfl) ?_
        refine gl_v rfl (o_idxS rfl rfl (show i < s.length by omega)) ?_
        refine gl_v rfl (o_loadS rfl (map_at (d := 0) (show i < s.length by omega))) ?_
        refine gl_c rfl (o_call rfl (Add_spec q u (100 + (i : Int)) (s.getD i 0) hq.ok (by rw [hq.now]; decide) (by have := hq.sq; omega)) (by repeat (first | exact .nil | (apply Part.cons; · (repeat (first | exact .head | apply Sel.tail)))))) ?_
        rintro _ R ⟨_, ⟨rfl, rfl⟩, rfl⟩
        try simp only [List.cons_append, List.nil_append]
        refine gl_nil ?_
        refine ge_block ?_
        refine ge_then ?_
        refine g_region ?_
        refine gl_v rfl (o_move rfl) ?_
        refine gl_v rfl (o_addR ((i + 1 : Nat) : Int) (by rw [wr_i64 (by omega)]; omega) rfl rfl) ?_
        refine gl_v rfl (o_assign rfl) ?_
        refine gl_nil ?_
        refine ge_round (i + 1, addR u (100 + (i : Int)) (s.getD i 0)) ⟨show i + 1 ≤ s.length by omega, show i + 1 ≤ 30 by omega, hq.add (by omega)⟩ (show 30 - (i + 1) < 30 - i by omega) (Keep.cons rfl (Keep.cons rfl (Keep.cons rfl (Keep.cons rfl (Keep.cons rfl (Keep.cons rfl (Keep.nil))))))) (To.sat (by repeat (first | exact .nil | exact .done .refl | (apply To.cons; · (repeat (first | exact .head | apply Sel.tail))) | exact .done (by repeat (first | exact .refl | apply Drop.skip)))))
      ·
        first | replace hc2 := of_decide_eq_true hc2 | replace hc2 := lt_f hc2 | replace hc2 := le_f hc2 | replace hc2 := dec_f hc2 | replace hc2 := nlt_t hc2 | replace hc2 := nle_t hc2 | replace hc2 := ndec_t hc2 | replace hc2 := ndec_f hc2 | replace hc2 := nn_t hc2 | replace hc2 := nn_f hc2 | skip
        refine g_exit ?_
        refine ge_then_exit ?_
        refine ge_then_exit ?_
        refine ge_block_exit ?_
        exact fun act wo hsl st => ⟨i, u, hi30, hq, hsl.keep (Keep.cons rfl (Keep.cons rfl (Keep.cons rfl (Keep.cons rfl (Keep.cons rfl (Keep.nil)))))), st.imp (To.sat (by repeat (first | exact .nil | exact .done .refl | (apply To.cons; · (repeat (first | exact .head | apply Sel.tail))) | exact .done (by repeat (first | exact .refl | apply Drop.skip)))))⟩
    ·
      have hc1' := hc1
      first | replace hc1' := of_decide_eq_true hc1' | replace hc1' := lt_f hc1' | replace hc1' := le_f hc1' | replace hc1' := dec_f hc1' | replace hc1' := nlt_t hc1' | replace hc1' := nle_t hc1' | replace hc1' := ndec_t hc1' | replace hc1' := ndec_f hc1' | replace hc1' := nn_t hc1' | replace hc1' := nn_f hc1' | skip
      simp only [putO]
      refine gl_gF rfl rfl hc1 rfl ?_
      refine gl_v rfl (o_pickF hc1 rfl rfl) ?_
      refine gl_nil ?_
      refine ge_then ?_
      refine g_cond_false rfl ?_
      refine g_exit ?_
      refine ge_then_exit ?_
      refine ge_then_exit ?_
      refine ge_block_exit ?_
      exact fun act wo hsl st => ⟨i, u, hi30, hq, hsl.keep (Keep.cons rfl (Keep.cons rfl (Keep.cons rfl (Keep.cons rfl (Keep.cons rfl (Keep.nil)))))), st.imp (To.sat (by repeat (first | exact .nil | exact .done .refl | (apply To.cons; · (repeat (first | exact .head | apply Sel.tail))) | exact .done (by repeat (first | exact .refl | apply Drop.skip)))))⟩
  ·
    rintro act wo ⟨i, u, hi30, hq, hsl, st⟩
    refine g_of ?_ hsl st
    clear hsl st act wo
    refine g_seq ?_
    refine g_seq ?_
    refine g_region ?_
    refine gl_v rfl (o_move rfl) ?_
    refine gl_v rfl (o_move rfl) ?_
    refine gl_c rfl (o_call rfl (one_spec p 0 D 1 hd (by decide)) (by repeat (first | exact .nil | (apply Part.cons; · (repeat (first | exact .head | apply Sel.tail)))))) ?_
    rintro _ R ⟨_, ⟨rfl, rfl⟩, rfl⟩
    try simp only [List.cons_append, List.nil_append]
    refine gl_v rfl (o_is (c := false) (by rfl) (o_neq rfl rfl)) ?_
    refine gl_v rfl (o_move rfl) ?_
    refine gl_gT rfl rfl rfl ?_
    refine gl_v rfl (o_move rfl) ?_
    refine gl_gT rfl rfl rfl ?_
    refine gl_v rfl (o_move rfl) ?_
    refine gl_gT rfl rfl rfl ?_
    refine gl_c rfl (o_call rfl (add_eq q 0 _ hq.ok (by rw [hq.now]; decide) (by have := hq.sq; omega) (hq.one hi30 hd).1 rfl) (by repeat (first | exact .nil | (apply Part.cons; · (repeat (first | exact .head | apply Sel.tail)))))) ?_
    rintro _ R ⟨_, ⟨rfl, rfl⟩, rfl⟩
    try simp only [List.cons_append, List.nil_append]
    refine gl_gT rfl rfl rfl ?_
    refine gl_v rfl (o_is (c := false) (by rfl) (o_neq rfl rfl)) ?_
    refine gl_v rfl (o_pickF rfl rfl rfl) ?_
    refine gl_nil ?_
    refine ge_then ?_
    refine g_cond_false rfl ?_
    refine g_skip ?_
    refine ge_then ?_
    refine g_cut (fun act wo => ∃ v : Wh, AP v 0 D ∧ HasSl Try.f6.ntmps [(9, I64 D), (8, ptr q 0), (7, ptr p 0)] act ∧ St W0 (wheel q v :: wheel p (oneW 0 D 1) :: base W :: R) wo) ?_ ?_
    ·
      refine g_seq ?_
      refine g_region ?_
      refine gl_v rfl (o_assign rfl) ?_
      refine gl_nil ?_
      refine ge_then ?_
      refine g_block ?_
      refine g_loop (ι := Nat × Wh) (fun x => x.1 ≤ s2.length ∧ x.1 ≤ 30 ∧ AP x.2 0 D) (fun x => [(11, I64 x.1), (9, I64 D), (8, ptr q 0), (7, ptr p 0), (1, .slice ad s.length cap), (2, .slice ad2 s2.length cap2)]) (fun x => wheel q x.2 :: wheel p (oneW 0 D 1) :: base W :: R) (fun x => 30 - x.1) (0, addR u 1 D) (⟨Nat.zero_le _, Nat.zero_le _, (hq.one hi30 hd).2⟩) (Keep.cons rfl (Keep.cons rfl (Keep.cons rfl (Keep.cons rfl (Keep.cons rfl (Keep.cons rfl (Keep.nil))))))) (To.sat (by repeat (first | exact .nil | exact .done .refl | (apply To.cons; · (repeat (first | exact .head | apply Sel.tail))) | exact .done (by repeat (first | exact .refl | apply Drop.skip))))) ?_
      rintro ⟨j, v⟩ ⟨hj, hj30, hv⟩
      replace hj : j ≤ s2.length := hj
      replace hj30 : j ≤ 30 := hj30
      replace hv : AP v 0 D := hv
      dsimp only
      refine g_seq ?_
      refine g_seq ?_
      refine g_region ?_
      refine gl_v rfl (o_move rfl) ?_
      refine gl_v rfl (o_move rfl) ?_
      refine gl_v rfl (o_lenL rfl) ?_
      refine gl_v rfl (o_lss rfl rfl) ?_
      refine gl_v rfl (o_move rfl) ?_
      refine gl_g rfl rfl (fun hc3 => ?_) (fun hc3 => ?_) rfl
      ·
        have hc3' := hc3
        first | replace hc3' := of_decide_eq_true hc3' | replace hc3' := lt_f hc3' | replace hc3' := le_f hc3' | replace hc3' := dec_f hc3' | replace hc3' := nlt_t hc3' | replace hc3' := nle_t hc3' | replace hc3' := ndec_t hc3' | replace hc3' := ndec_f hc3' | replace hc3' := nn_t hc3' | replace hc3' := nn_f hc3' | skip
        refine gl_v rfl (o_move rfl) ?_
        refine gl_gT rfl rfl hc3 ?_
        refine gl_v rfl (o_lss rfl rfl) ?_
        refine gl_v rfl (o_pickT hc3 rfl rfl) ?_
        refine gl_nil ?_
        refine ge_then ?_
        refine g_cond rfl (fun hc4 => ?_) (fun hc4 => ?_)
        ·
          first | replace hc4 := of_decide_eq_true hc4 | replace hc4 := lt_f hc4 | replace hc4 := le_f hc4 | replace hc4 := dec_f hc4 | replace hc4 := nlt_t hc4 | replace hc4 := nle_t hc4 | replace hc4 := ndec_t hc4 | replace hc4 := ndec_f hc4 | replace hc4 := nn_t hc4 | replace hc4 := nn_f hc4 | skip
          refine g_skip ?_
          refine ge_then ?_
          refine g_seq ?_
          refine g_block ?_
          refine g_seq ?_
          refine g_region ?_
          refine gl_v rfl (o_move rfl) ?_
          refine gl_v rfl (o_move rfl) ?_
          refine gl_v rfl (o_idxS rfl rfl (show j < s2.length by omega)) ?_
          refine gl_v rfl (o_loadS rfl (map_at (d := false) (show j < s2.length by omega))) ?_
          refine gl_nil ?_
          refine ge_then ?_
          refine g_cond rfl (fun hc5 => ?_) (fun hc5 => ?_)
          ·
            first | replace hc5 := of_decide_eq_true hc5 | replace hc5 := lt_f hc5 | replace hc5 := le_f hc5 | replace hc5 := dec_f hc5 | replace hc5 := nlt_t hc5 | replace hc5 := nle_t hc5 | replace hc5 := ndec_t hc5 | replace hc5 := ndec_f hc5 | replace hc5 := nn_t hc5 | replace hc5 := nn_f hc5 | skip
            refine g_region ?_
            refine gl_v rfl (o_move rfl) ?_
            refine gl_v rfl (o_move rfl) ?_
            refine gl_v rfl (o_addR (100 + (j : Int)) (wr_i64 (by omega)) rfl rfl) ?_
            refine gl_v rfl (o_convR (100 + (j : Int)) (wr_u64 (by omega)) rfl) ?_
            refine gl_c rfl (o_call rfl (Cut_spec q v (100 + (j : Int)) hv.ok) (by repeat (first | exact .nil | (apply Part.cons; · (repeat (first | exact .head | apply Sel.tail)))))) ?_
            rintro _ R ⟨_, ⟨rfl, rfl⟩, rfl⟩
            try simp only [List.cons_append, List.nil_append]
            refine gl_nil ?_
            refine ge_block ?_
            refine ge_then ?_
            refine g_region ?_
            refine gl_v rfl (o_move rfl) ?_
            refine gl_v rfl (o_addR ((j + 1 : Nat) : Int) (by rw [wr_i64 (by omega)]; omega) rfl rfl) ?_
            refine gl_v rfl (o_assign rfl) ?_
            refine gl_nil ?_
            refine ge_round (j + 1, cutR v (100 + (j : Int))) ⟨show j + 1 ≤ s2.length by omega, show j + 1 ≤ 30 by omega, hv.cut (by omega)⟩ (show 30 - (j + 1) < 30 - j by omega) (Keep.cons rfl (Keep.cons rfl (Keep.cons rfl (Keep.cons rfl (Keep.cons rfl (Keep.cons rfl (Keep.nil))))))) (To.sat (by repeat (first | exact .nil | exact .done .refl | (apply To.cons; · (repeat (first | exact .head | apply Sel.tail))) | exact .done (by repeat (first | exact .refl | apply Drop.skip)))))
          ·
            first | replace hc5 := of_decide_eq_true hc5 | replace hc5 := lt_f hc5 | replace hc5 := le_f hc5 | replace hc5 := dec_f hc5 | replace hc5 := nlt_t hc5 | replace hc5 := nle_t hc5 | replace hc5 := ndec_t hc5 | replace hc5 := ndec_f hc5 | replace hc5 := nn_t hc5 | replace hc5 := nn_f hc5 | skip
            refine g_skip ?_
            refine ge_block ?_
            refine ge_then ?_
            refine g_region ?_
            refine gl_v rfl (o_move rfl) ?_
            refine gl_v rfl (o_addR ((j + 1 : Nat) : Int) (by rw [wr_i64 (by omega)]; omega) rfl rfl) ?_
            refine gl_v rfl (o_assign rfl) ?_
            refine gl_nil ?_
            refine ge_round (j + 1, v) ⟨show j + 1 ≤ s2.length by omega, show j + 1 ≤ 30 by omega, hv⟩ (show 30 - (j + 1) < 30 - j by omega) (Keep.cons rfl (Keep.cons rfl (Keep.cons rfl (Keep.cons rfl (Keep.cons rfl (Keep.cons rfl (Keep.nil))))))) (To.sat (by repeat (first | exact .nil | exact .done .refl | (apply To.cons; · (repeat (first | exact .head | apply Sel.tail))) | exact .done (by repeat (first | exact .refl | apply Drop.skip)))))
        ·
          first | replace hc4 := of_decide_eq_true hc4 | replace hc4 := lt_f hc4 | replace hc4 := le_f hc4 | replace hc4 := dec_f hc4 | replace hc4 := nlt_t hc4 | replace hc4 := nle_t hc4 | replace hc4 := ndec_t hc4 | replace hc4 := ndec_f hc4 | replace hc4 := nn_t hc4 | replace hc4 := nn_f hc4 | skip
          refine g_exit ?_
          refine ge_then_exit ?_
          refine ge_then_exit ?_
          refine ge_block_exit ?_
          exact fun act wo hsl st => ⟨v, hv, hsl.keep (Keep.cons rfl (Keep.cons rfl (Keep.cons rfl (Keep.nil)))), st.imp (To.sat (by repeat (first | exact .nil | exact .done .refl | (apply To.cons; · (repeat (first | exact .head | apply Sel.tail))) | exact .done (by repeat (first | exact .refl | apply Drop.skip)))))⟩
      ·
        have hc3' := hc3
        first | replace hc3' := of_decide_eq_true hc3' | replace hc3' := lt_f hc3' | replace hc3' := le_f hc3' | replace hc3' := dec_f hc3' | replace hc3' := nlt_t hc3' | replace hc3' := nle_t hc3' | replace hc3' := ndec_t hc3' | replace hc3' := ndec_f hc3' | replace hc3' := nn_t hc3' | replace hc3' := nn_f hc3' | skip
        simp only [putO]
        refine gl_gF rfl rfl hc3 rfl ?_
        refine gl_v rfl (o_pickF hc3 rfl rfl) ?_
        refine gl_nil ?_
        refine ge_then ?_
        refine g_cond_false rfl ?_
        refine g_exit ?_
        refine ge_then_exit ?_
        refine ge_then_exit ?_
        refine ge_block_exit ?_
        exact fun act wo hsl st => ⟨v, hv, hsl.keep (Keep.cons rfl (Keep.cons rfl (Keep.cons rfl (Keep.nil)))), st.imp (To.sat (by repeat (first | exact .nil | exact .done .refl | (apply To.cons; · (repeat (first | exact .head | apply Sel.tail))) | exact .done (by repeat (first | exact .refl | apply Drop.skip)))))⟩
    ·
      rintro act wo ⟨v, hv, hsl, st⟩
      refine g_of ?_ hsl st
      clear hsl st act wo
      refine g_seq ?_
      refine g_seq ?_
      refine g_region ?_
      refine gl_v rfl (o_assign rfl) ?_
      refine gl_nil ?_
      refine ge_then ?_
      refine g_block ?_
      refine g_loop (ι := Nat × Wh) (fun x => x.1 ≤ D ∧ AP x.2 x.1 D) (fun x => [(12, I64 x.1), (9, I64 D), (8, ptr q 0), (7, ptr p 0)]) (fun x => wheel q x.2 :: wheel p (tkN x.1 (oneW 0 D 1)) :: base W :: R) (fun x => D - x.1) (0, v) (⟨Nat.zero_le _, hv⟩) (Keep.cons rfl (Keep.cons rfl (Keep.cons rfl (Keep.cons rfl (Keep.nil))))) (To.sat (by repeat (first | exact .nil | exact .done .refl | (apply To.cons; · (repeat (first | exact .head | apply Sel.tail))) | exact .done (by repeat (first | exact .refl | apply Drop.skip))))) ?_
      rintro ⟨m, y⟩ ⟨hmd, hy⟩
      replace hmd : m ≤ D := hmd
      replace hy : AP y m D := hy
      dsimp only
      refine g_seq ?_
      refine g_seq ?_
      refine g_region ?_
      refine gl_v rfl (o_move rfl) ?_
      refine gl_v rfl (o_move rfl) ?_
      refine gl_v rfl (o_lss rfl rfl) ?_
      refine gl_nil ?_
      refine ge_then ?_
      refine g_cond rfl (fun hc6 => ?_) (fun hc6 => ?_)
      ·
        first | replace hc6 := of_decide_eq_true hc6 | replace hc6 := lt_f hc6 | replace hc6 := le_f hc6 | replace hc6 := dec_f hc6 | replace hc6 := nlt_t hc6 | replace hc6 := nle_t hc6 | replace hc6 := ndec_t hc6 | replace hc6 := ndec_f hc6 | replace hc6 := nn_t hc6 | replace hc6 := nn_f hc6 | skip
        refine g_skip ?_
        refine ge_then ?_
        refine g_seq ?_
        refine g_block ?_
        refine g_seq ?_
        refine g_region ?_
        refine gl_v rfl (o_move rfl) ?_
        refine gl_c rfl (o_call rfl (Tick_spec p (tkN m (oneW 0 D 1)) (tkN_ok (one_ok hd) m) (by rw [tkN_now]; show 0 + m < _; omega) (by rw [tkN_seq]; show 1 < _; decide)) (by repeat (first | exact .nil | (apply Part.cons; · (repeat (first | exact .head | apply Sel.tail)))))) ?_
        rintro _ R ⟨_, ⟨a1, c1, rfl, rfl⟩, rfl⟩
        try simp only [List.cons_append, List.nil_append]
        refine gl_v rfl (o_move rfl) ?_
        refine gl_c rfl (o_call rfl (Tick_spec q y hy.ok (by rw [hy.now]; omega) (by have := hy.sq; omega)) (by repeat (first | exact .nil | (apply Part.cons; · (repeat (first | exact .head | apply Sel.tail)))))) ?_
        rintro _ R ⟨_, ⟨a2, c2, rfl, rfl⟩, rfl⟩
        try simp only [List.cons_append, List.nil_append]
        obtain ⟨ll, hll⟩ : ∃ ll, ll = (dueL y).map (·.id) := ⟨_, rfl⟩
        have hlen : (dueL y).length = ll.length := by rw [hll, List.length_map]
        have hdue := hy.due (show m < D by omega)
        rw [← hll] at hdue
        rw [show ((dueL y).map fun t => U64 t.id) = ll.map U64 by rw [hll, List.map_map]; rfl, hlen]
        have hll2 : ll.length ≤ 64 := by rw [← hlen]; exact Nat.le_trans (List.length_filter_le _ _) hy.ok.len
        obtain ⟨n1, hn1⟩ : ∃ n, n = (dueL (tkN m (oneW 0 D 1))).length := ⟨_, rfl⟩
        obtain ⟨xs1, hxs1⟩ : ∃ l, l = ((dueL (tkN m (oneW 0 D 1))).map fun t => U64 t.id) := ⟨_, rfl⟩
        rw [← hxs1, ← hn1]
        have hone : n1 = if m + 1 = D then 1 else 0 := by rw [hn1, one_due hd]; split <;> rfl
        refine gl_v rfl (o_assign rfl) ?_
        refine gl_v rfl (o_assign rfl) ?_
        refine gl_nil ?_
        refine ge_then ?_
        refine g_seq ?_
        refine g_region ?_
        refine gl_v rfl (o_assign rfl) ?_
        refine gl_nil ?_
        refine ge_then ?_
        refine g_seq ?_
        refine g_seq ?_
        refine g_region ?_
        refine gl_v rfl (o_assign rfl) ?_
        refine gl_nil ?_
        refine ge_then ?_
        refine g_block ?_
        refine g_loop (ι := Nat) (fun k => k ≤ ll.length) (fun k => [(16, I64 k), (15, .bool (decide ((1 : Int) ∈ ll.take k))), (14, .slice a2 ll.length c2), (13, .slice a1 n1 c1), (12, I64 m), (9, I64 D), (8, ptr q 0), (7, ptr p 0)]) (fun _ => own (.slice a2 ll.length c2) 31 1 ll.length (ll.map U64) :: wheel q (tickR y) :: own (.slice a1 n1 c1) 31 1 n1 xs1 :: wheel p (tkN (m + 1) (oneW 0 D 1)) :: base W :: R) (fun k => ll.length - k) 0 (Nat.zero_le _) (Keep.cons rfl (Keep.cons rfl (Keep.cons rfl (Keep.cons rfl (Keep.cons rfl (Keep.cons rfl (Keep.cons rfl (Keep.cons rfl (Keep.nil))))))))) (To.sat (by repeat (first | exact .nil | exact .done .refl | (apply To.cons; · (repeat (first | exact .head | apply Sel.tail))) | exact .done (by repeat (first | exact .refl | apply Drop.skip))))) ?_
        intro k hk
        refine g_seq ?_
        refine g_seq ?_
        refine g_region ?_
        refine gl_v rfl (o_move rfl) ?_
        refine gl_v rfl (o_move rfl) ?_
        refine gl_v rfl (o_lenL rfl) ?_
        refine gl_v rfl (o_lss rfl rfl) ?_
        refine gl_nil ?_
        refine ge_then ?_
        refine g_cond rfl (fun hc7 => ?_) (fun hc7 => ?_)
        ·
          first | replace hc7 := of_decide_eq_true hc7 | replace hc7 := lt_f hc7 | replace hc7 := le_f hc7 | replace hc7 := dec_f hc7 | replace hc7 := nlt_t hc7 | replace hc7 := nle_t hc7 | replace hc7 := ndec_t hc7 | replace hc7 := ndec_f hc7 | replace hc7 := nn_t hc7 | replace hc7 := nn_f hc7 | skip
          obtain ⟨x, hx⟩ : ∃ x, ll[k]? = some x := ⟨_, List.getElem?_eq_getElem (by omega)⟩
          refine g_skip ?_
          refine ge_then ?_
          refine g_seq ?_
          refine g_block ?_
          refine g_region ?_
          refine gl_v rfl (o_move rfl) ?_
          refine gl_v rfl (o_move rfl) ?_
          refine gl_g rfl rfl (fun hc8 => ?_) (fun hc8 => ?_) rfl
          ·
            have hc8' := hc8
            first | replace hc8' := of_decide_eq_true hc8' | replace hc8' := lt_f hc8' | replace hc8' := le_f hc8' | replace hc8' := dec_f hc8' | replace hc8' := nlt_t hc8' | replace hc8' := nle_t hc8' | replace hc8' := ndec_t hc8' | replace hc8' := ndec_f hc8' | replace hc8' := nn_t hc8' | replace hc8' := nn_f hc8' | skip
            refine gl_v rfl (o_move rfl) ?_
            refine gl_gT rfl rfl hc8 ?_
            refine gl_v rfl (o_move rfl) ?_
            refine gl_gT rfl rfl hc8 ?_
            refine gl_v rfl (o_idxS rfl rfl (show k < ll.length by omega)) ?_
            refine gl_gT rfl rfl hc8 ?_
            refine gl_v rfl (o_loadS rfl (map_at' (f := U64) (show ll[k * 1]? = some x by rw [Nat.mul_one]; exact hx))) ?_
            refine gl_gT rfl rfl hc8 ?_
            refine gl_v rfl (o_eql rfl rfl) ?_
            refine gl_v rfl (o_pickF hc8 rfl rfl) ?_
            refine gl_v rfl (o_assign rfl) ?_
            refine gl_nil ?_
            refine ge_block ?_
            refine ge_then ?_
            refine g_region ?_
            refine gl_v rfl (o_move rfl) ?_
            refine gl_v rfl (o_addR ((k + 1 : Nat) : Int) (by rw [wr_i64 (by omega)]; omega) rfl rfl) ?_
            refine gl_v rfl (o_assign rfl) ?_
            refine gl_nil ?_
            have ho := mem_succ (k := 1) hx
            have ht : decide ((1 : Int) ∈ ll.take k) = false := by assumption
            refine ge_round (k + 1) (show k + 1 ≤ ll.length by omega) (by omega) (Keep.cons rfl (Keep.cons (by rw [ho, ht]; rfl) (Keep.cons rfl (Keep.cons rfl (Keep.cons rfl (Keep.cons rfl (Keep.cons rfl (Keep.cons rfl (Keep.nil))))))))) (To.sat (by repeat (first | exact .nil | exact .done .refl | (apply To.cons; · (repeat (first | exact .head | apply Sel.tail))) | exact .done (by repeat (first | exact .refl | apply Drop.skip)))))
          ·
            have hc8' := hc8
            first | replace hc8' := of_decide_eq_true hc8' | replace hc8' := lt_f hc8' | replace hc8' := le_f hc8' | replace hc8' := dec_f hc8' | replace hc8' := nlt_t hc8' | replace hc8' := nle_t hc8' | replace hc8' := ndec_t hc8' | replace hc8' := ndec_f hc8' | replace hc8' := nn_t hc8' | replace hc8' := nn_f hc8' | skip
            simp only [putO]
            refine gl_gF rfl rfl hc8 rfl ?_
            refine gl_gF rfl rfl hc8 rfl ?_
            refine gl_gF rfl rfl hc8 rfl ?_
            refine gl_gF rfl rfl hc8 rfl ?_
            refine gl_v rfl (o_pickT hc8 rfl rfl) ?_
            refine gl_v rfl (o_assign rfl) ?_
            refine gl_nil ?_
            refine ge_block ?_
            refine ge_then ?_
            refine g_region ?_
            refine gl_v rfl (o_move rfl) ?_
            refine gl_v rfl (o_addR ((k + 1 : Nat) : Int) (by rw [wr_i64 (by omega)]; omega) rfl rfl) ?_
            refine gl_v rfl (o_assign rfl) ?_
            refine gl_nil ?_
            have ho := mem_succ (k := 1) hx
            have ht : decide ((1 : Int) ∈ ll.take k) = true := by assumption
            refine ge_round (k + 1) (show k + 1 ≤ ll.length by omega) (by omega) (Keep.cons rfl (Keep.cons (by rw [ho, ht]; rfl) (Keep.cons rfl (Keep.cons rfl (Keep.cons rfl (Keep.cons rfl (Keep.cons rfl (Keep.cons rfl (Keep.nil))))))))) (To.sat (by repeat (first | exact .nil | exact .done .refl | (apply To.cons; · (repeat (first | exact .head | apply Sel.tail))) | exact .done (by repeat (first | exact .refl | apply Drop.skip)))))
        ·
          first | replace hc7 := of_decide_eq_true hc7 | replace hc7 := lt_f hc7 | replace hc7 := le_f hc7 | replace hc7 := dec_f hc7 | replace hc7 := nlt_t hc7 | replace hc7 := nle_t hc7 | replace hc7 := ndec_t hc7 | replace hc7 := ndec_f hc7 | replace hc7 := nn_t hc7 | replace hc7 := nn_f hc7 | skip
          refine g_exit ?_
          refine ge_then_exit ?_
          refine ge_then_exit ?_
          refine ge_block_exit ?_
          refine ge_then ?_
          refine g_seq ?_
          obtain rfl : k = ll.length := by omega
          rw [List.take_length]
          have hall : (!(decide ((1 : Int) ∈ ll) == decide ((n1 : Int) = 1))) = false := by
            rw [hone]
            by_cases e : m + 1 = D
            · rw [if_pos e]; simp [hdue, e]
            · rw [if_neg e]; simp [hdue, e]
          refine g_region ?_
          refine gl_v rfl (o_move rfl) ?_
          refine gl_v rfl (o_move rfl) ?_
          refine gl_v rfl (o_lenL rfl) ?_
          refine gl_v rfl (o_eql rfl rfl) ?_
          refine gl_v rfl (o_is (c := false) hall (o_neqb rfl rfl)) ?_
          refine gl_nil ?_
          refine ge_then ?_
          refine g_cond_false rfl ?_
          refine g_skip ?_
          refine ge_block ?_
          refine ge_then ?_
          refine g_region ?_
          refine gl_v rfl (o_move rfl) ?_
          refine gl_v rfl (o_addR ((m + 1 : Nat) : Int) (by rw [wr_i64 (by omega)]; omega) rfl rfl) ?_
          refine gl_v rfl (o_assign rfl) ?_
          refine gl_nil ?_
          refine ge_round (m + 1, tickR y) ⟨show m + 1 ≤ D by omega, hy.tick (by omega)⟩ (show D - (m + 1) < D - m by omega) (Keep.cons rfl (Keep.cons rfl (Keep.cons rfl (Keep.cons rfl (Keep.nil))))) (To.sat (by repeat (first | exact .nil | exact .done .refl | (apply To.cons; · (repeat (first | exact .head | apply Sel.tail))) | exact .done (by repeat (first | exact .refl | apply Drop.skip)))))
      ·
        first | replace hc6 := of_decide_eq_true hc6 | replace hc6 := lt_f hc6 | replace hc6 := le_f hc6 | replace hc6 := dec_f hc6 | replace hc6 := nlt_t hc6 | replace hc6 := nle_t hc6 | replace hc6 := ndec_t hc6 | replace hc6 := ndec_f hc6 | replace hc6 := nn_t hc6 | replace hc6 := nn_f hc6 | skip
        refine g_exit ?_
        refine ge_then_exit ?_
        refine ge_then_exit ?_
        refine ge_block_exit ?_
        refine ge_then ?_
        refine g_seq ?_
        obtain rfl : D = m := by omega
        refine g_region ?_
        refine gl_v rfl (o_move rfl) ?_
        refine gl_c rfl (o_call rfl (len_eq p 0 (tkN_ok (one_ok hd) D) (by rw [tkN_T (one_ok hd)]; show ([(⟨1, 0 + D, 1⟩ : Tm)].filter fun t => decide (0 + D < t.due)).length = 0; simp)) (by repeat (first | exact .nil | (apply Part.cons; · (repeat (first | exact .head | apply Sel.tail)))))) ?_
        rintro _ R ⟨_, ⟨rfl, rfl⟩, rfl⟩
        try simp only [List.cons_append, List.nil_append]
        refine gl_v rfl (o_eql rfl rfl) ?_
        refine gl_v rfl (o_assign rfl) ?_
        refine gl_nil ?_
        refine ge_then ?_
        refine g_ret ?_
        refine ret1 (.inl rfl) rfl rfl _ (⟨rfl, rfl⟩) (To.sat (by repeat (first | exact .nil | exact .done .refl | (apply To.cons; · (repeat (first | exact .head | apply Sel.tail))) | exact .done (by repeat (first | exact .refl | apply Drop.skip)))))

end Go.Proofs.Ytdfodcofppgajaa.L

