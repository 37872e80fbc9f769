/-
  ClockCancels. Own work, printed in part by a program of its own.
-/
import Derived.Test.YtmohikdmdmplaaaGreatClkA
import Derived.Test.YtmohikdmdmplaaaGreatClockR
set_option linter.unusedSimpArgs false
set_option linter.unusedVariables false
set_option linter.unusedSectionVars false
namespace Go.Proofs.YtmohikdmdmplaaaGreat.L
open Go.L Go.L.Ring Go.L.Post Go.L.Clk Go.L.Whl

theorem emod_of_tmod {a b : Int} (hb : 0 < b) : (if a.tmod b < 0 then a.tmod b + b else a.tmod b) = a % b := by
  have h1 := Int.emod_nonneg a (by omega : b ≠ 0)
  have h2 := Int.emod_lt_of_pos a hb
  have h3 := Int.tmod_eq_emod (a := a) (b := b)
  by_cases h : 0 ≤ a ∨ b ∣ a
  · rw [if_pos h] at h3
    rw [h3, if_neg (by omega)]; omega
  · rw [if_neg h] at h3
    rw [h3, if_pos (by omega)]; omega

set_option maxRecDepth 8000 in
theorem mod_spec (a b : Int) (hb : 0 < b ∧ b ≤ 1000000) (ha : -9223372036854775808 ≤ a ∧ a ≤ 9223372036854775807) : FnS Tryz.prog 10 [I64 a, I64 b] [] (fun u Bs => u = I64 (a % b) ∧ Bs = []) := by
 refine fn_body Tryz.func10 rfl rfl rfl ?_
 intro W0 R
 simp only [List.zipIdx_cons, List.zipIdx_nil, List.map_cons, List.map_nil, Nat.zero_add, Nat.reduceAdd, List.cons_append, List.nil_append]
 have hm := emod_of_tmod (a := a) hb.1
 have hl := Int.lt_tmod_of_pos a hb.1
 have hl2 := Int.tmod_lt_of_pos a hb.1
 refine g_seq ?_
 refine g_region ?_
 refine gl_v rfl (o_assign rfl) ?_
 refine gl_nil ?_
 refine ge_then ?_
 refine g_seq ?_
 refine g_region ?_
 refine gl_v rfl (o_move rfl) ?_
 refine gl_v rfl (o_move rfl) ?_
 refine gl_v rfl (o_remR (a.tmod b) rfl rfl rfl (by omega)) ?_
 refine gl_v rfl (o_assign rfl) ?_
 refine gl_nil ?_
 refine ge_then ?_
 refine g_seq ?_
 refine g_seq ?_
 refine g_region ?_
 refine gl_v rfl (o_move rfl) ?_
 refine gl_v rfl (o_lss rfl rfl) ?_
 refine gl_nil ?_
 refine ge_then ?_
 refine g_cond rfl (fun hc1 => ?_) (fun hc1 => ?_)
 ·
  first | replace hc1 := of_decide_eq_true hc1 | replace hc1 := lt_f hc1 | replace hc1 := le_f hc1 | replace hc1 := dec_f hc1 | replace hc1 := nlt_t hc1 | replace hc1 := nle_t hc1 | replace hc1 := ndec_t hc1 | replace hc1 := ndec_f hc1 | replace hc1 := nn_t hc1 | replace hc1 := nn_f hc1 | skip
  refine g_seq ?_
  refine g_region ?_
  refine gl_v rfl (o_move rfl) ?_
  refine gl_v rfl (o_move rfl) ?_
  refine gl_v rfl (o_addR (a.tmod b + b) (by rw [wr_i64 (by omega)]) rfl rfl) ?_
  refine gl_v rfl (o_assign rfl) ?_
  refine gl_nil ?_
  refine ge_then ?_
  refine g_ret ?_
  refine ge_then_ret ?_
  refine ret1 (.inl rfl) rfl rfl _ (⟨by rw [← hm, if_pos (by omega)], rfl⟩) (To.sat (by repeat (first | exact .nil | exact .done .refl | (apply To.cons; · (repeat (first | exact .head | apply Sel.tail))) | exact .done (by repeat (first | exact .refl | apply Drop.skip)))))
 ·
  first | replace hc1 := of_decide_eq_true hc1 | replace hc1 := lt_f hc1 | replace hc1 := le_f hc1 | replace hc1 := dec_f hc1 | replace hc1 := nlt_t hc1 | replace hc1 := nle_t hc1 | replace hc1 := ndec_t hc1 | replace hc1 := ndec_f hc1 | replace hc1 := nn_t hc1 | replace hc1 := nn_f hc1 | skip
  refine g_skip ?_
  refine ge_then ?_
  refine g_seq ?_
  refine g_region ?_
  refine gl_v rfl (o_move rfl) ?_
  refine gl_v rfl (o_assign rfl) ?_
  refine gl_nil ?_
  refine ge_then ?_
  refine g_ret ?_
  refine ret1 (.inl rfl) rfl rfl _ (⟨by rw [← hm, if_neg (by omega)], rfl⟩) (To.sat (by repeat (first | exact .nil | exact .done .refl | (apply To.cons; · (repeat (first | exact .head | apply Sel.tail))) | exact .done (by repeat (first | exact .refl | apply Drop.skip)))))

attribute [local irreducible] opK envK doC foldW foldCut foldRef tickR
set_option maxRecDepth 8000 in
set_option maxHeartbeats 4000000 in
theorem cancels_w (x0 x1 x2 : Int) (g0 : 0 ≤ x0 ∧ x0 ≤ 18446744073709551615) (g1 : -9223372036854775808 ≤ x1 ∧ x1 ≤ 9223372036854775807) (g2 : -9223372036854775808 ≤ x2 ∧ x2 ≤ 9223372036854775807) (D kk : Nat) (hD : (D : Int) = 1 + x1 % 50) (hk : (kk : Int) = x2 % 60) : FnS Tryz.prog 3 [U64 x0, I64 x1, I64 x2] [] (fun u Bs => u = .bool true ∧ Bs = []) := by
 refine fn_body Tryz.func3 rfl rfl rfl ?_
 intro W0 R
 simp only [List.zipIdx_cons, List.zipIdx_nil, List.map_cons, List.map_nil, Nat.zero_add, Nat.reduceAdd, List.cons_append, List.nil_append]
 have hD1 : 1 ≤ D := by omega
 have hD2 : D ≤ 4095 := by omega
 have hk60 : kk ≤ 59 := by omega
 have hb := fun i => c_beat (D := D) (i := i) (id := x0) g0.1 hD1 hD2
 obtain ⟨hc1', hc2', hc3'⟩ := (c_cut (D := D) (k := kk) (id := x0) g0.1 hD1 hD2)
 have K0 := KQ.zero (n := 4) (by decide) (by decide)
 refine g_seq ?_
 refine g_region ?_
 refine gl_v rfl (o_assign rfl) ?_
 refine gl_nil ?_
 refine ge_then ?_
 refine g_seq ?_
 refine g_seq ?_
 refine g_region ?_
 refine gl_c rfl (o_call rfl (kalive_spec) (by repeat (first | exact .nil | (apply Part.cons; · (repeat (first | exact .head | apply Sel.tail)))))) ?_
 rintro _ R ⟨_, ⟨rfl, rfl⟩, rfl⟩
 try simp only [List.cons_append, List.nil_append]
 refine gl_v rfl (o_is (c := false) (by rfl) (o_not rfl)) ?_
 refine gl_nil ?_
 refine ge_then ?_
 refine g_cond_false rfl ?_
 refine g_skip ?_
 refine ge_then ?_
 refine g_seq ?_
 refine g_region ?_
 refine gl_c rfl (o_call rfl (kmade_spec 4 (by decide) (by decide)) (by repeat (first | exact .nil | (apply Part.cons; · (repeat (first | exact .head | apply Sel.tail)))))) ?_
 rintro _ R ⟨_, ⟨X, t0, rfl, rfl⟩, rfl⟩
 try simp only [List.cons_append, List.nil_append]
 refine gl_v rfl (o_assign rfl) ?_
 refine gl_nil ?_
 refine ge_then ?_
 refine g_seq ?_
 refine g_seq ?_
 refine g_region ?_
 refine gl_v rfl (o_move rfl) ?_
 refine gl_v rfl (o_eqlPn rfl rfl) ?_
 refine gl_v rfl (o_move rfl) ?_
 refine gl_gT rfl rfl rfl ?_
 refine gl_v rfl (o_move rfl) ?_
 refine gl_gT rfl rfl rfl ?_
 refine gl_v rfl (o_gtr rfl rfl) ?_
 refine gl_v rfl (o_pickF rfl rfl rfl) ?_
 refine gl_nil ?_
 refine ge_then ?_
 refine g_cond rfl (fun hc1 => ?_) (fun hc1 => ?_)
 ·
  first | replace hc1 := of_decide_eq_true hc1 | replace hc1 := lt_f hc1 | replace hc1 := le_f hc1 | replace hc1 := dec_f hc1 | replace hc1 := nlt_t hc1 | replace hc1 := nle_t hc1 | replace hc1 := ndec_t hc1 | replace hc1 := ndec_f hc1 | replace hc1 := nn_t hc1 | replace hc1 := nn_f hc1 | skip
  refine g_seq ?_
  refine g_region ?_
  refine gl_v rfl (o_move rfl) ?_
  refine gl_v rfl (o_neqPn rfl rfl) ?_
  refine gl_v rfl (o_assign rfl) ?_
  refine gl_nil ?_
  refine ge_then ?_
  refine g_ret ?_
  refine ge_then_ret ?_
  refine ret1 (.inl rfl) rfl rfl [] (⟨rfl, rfl⟩) (To.sat (by repeat (first | exact .nil | exact .done .refl | (apply To.cons; · (repeat (first | exact .head | apply Sel.tail))) | exact .done (by repeat (first | exact .refl | apply Drop.skip)))))
 ·
  first | replace hc1 := of_decide_eq_true hc1 | replace hc1 := lt_f hc1 | replace hc1 := le_f hc1 | replace hc1 := dec_f hc1 | replace hc1 := nlt_t hc1 | replace hc1 := nle_t hc1 | replace hc1 := ndec_t hc1 | replace hc1 := ndec_f hc1 | replace hc1 := nn_t hc1 | replace hc1 := nn_f hc1 | skip
  refine g_skip ?_
  refine ge_then ?_
  refine g_seq ?_
  refine g_region ?_
  refine gl_v rfl (o_move rfl) ?_
  refine gl_c rfl (o_call rfl (mod_spec x1 50 (by decide) g1) (by repeat (first | exact .nil | (apply Part.cons; · (repeat (first | exact .head | apply Sel.tail)))))) ?_
  rintro _ R ⟨_, ⟨rfl, rfl⟩, rfl⟩
  try simp only [List.cons_append, List.nil_append]
  refine gl_v rfl (o_addR ((D : Nat) : Int) (by rw [wr_i64 (by omega)]; omega) rfl rfl) ?_
  refine gl_v rfl (o_assign rfl) ?_
  refine gl_nil ?_
  refine ge_then ?_
  refine g_seq ?_
  refine g_region ?_
  refine gl_v rfl (o_move rfl) ?_
  refine gl_c rfl (o_call rfl (mod_spec x2 60 (by decide) g2) (by repeat (first | exact .nil | (apply Part.cons; · (repeat (first | exact .head | apply Sel.tail)))))) ?_
  rintro _ R ⟨_, ⟨rfl, rfl⟩, rfl⟩
  try simp only [List.cons_append, List.nil_append]
  rw [← hk]
  refine gl_v rfl (o_assign rfl) ?_
  refine gl_nil ?_
  refine ge_then ?_
  refine g_seq ?_
  refine g_region ?_
  refine gl_v rfl (o_move rfl) ?_
  refine gl_v rfl (o_move rfl) ?_
  refine gl_v rfl (o_move rfl) ?_
  obtain ⟨L1, ph1, e1, K1⟩ := (K0.le (j := 1000 + 2000000) (by decide)).ask (by simp) (by simp) g0.1 (show x0 ≤ 1125899906842624 by omega) (show 1 ≤ (D : Int) ∧ (D : Int) ≤ 4095 by omega)
  rw [List.nil_append] at K1
  refine gl_c rfl (o_call rfl (fns_env (Ask_spec X ⟨0, 4⟩ x0 D g0.1)) (by repeat (first | exact .nil | (apply Part.cons; · (repeat (first | exact .head | apply Sel.tail)))))) ?_
  rintro _ R ⟨_, ⟨p1, rfl, rfl⟩, rfl⟩
  try simp only [List.cons_append, List.nil_append]
  refine gl_c rfl (o_call rfl (kdone_spec X ⟨0, 4⟩ p1 (List.replicate (3 + 2 * 4) 0) _ ⟨0, 0, []⟩ (askC x0 D) K0.I K0.hL (K0.hw.le (by omega)) (askC_ok g0.1) 5 L1 (⟨0, 0, []⟩) ⟨ph1, 1, 0, [], [], []⟩ e1) (by repeat (first | exact .nil | (apply Part.cons; · (repeat (first | exact .head | apply Sel.tail)))))) ?_
  rintro _ R ⟨_, ⟨t1, rfl, rfl⟩, rfl⟩
  try simp only [List.cons_append, List.nil_append]
  refine gl_nil ?_
  refine ge_then ?_
  refine g_seq ?_
  refine g_region ?_
  refine gl_v rfl (o_assign rfl) ?_
  refine gl_nil ?_
  refine ge_then ?_
  refine g_seq ?_
  refine g_seq ?_
  refine g_region ?_
  refine gl_v rfl (o_assign rfl) ?_
  refine gl_nil ?_
  refine ge_then ?_
  refine g_block ?_
  refine g_loop (ι := Nat × List Int × Int) (fun x => x.1 ≤ kk ∧ ∃ h, (h ≤ 1 ∧ h ≤ x.1) ∧ KQ ⟨0, 4⟩ (1900000 - 1000 * x.1) x.2.1 (cW D x.1 x0) h (cQ (x0 * 4096 + (D : Int)) x.1)) (fun x => [(11, I64 x.1), (10, I64 (cDue D x.1 : Nat)), (9, I64 kk), (8, I64 D), (7, ptr X.c 0), (6, .bool false), (0, U64 x0)]) (fun x => envK X ⟨0, 4⟩ x.2.1 x.2.2 (cW D x.1 x0) :: R) (fun x => kk - x.1) (0, L1, t1) (⟨Nat.zero_le _, 0, ⟨by decide, Nat.zero_le _⟩, K1.le (show 1900000 - 1000 * 0 ≤ 2000000 by decide)⟩) ((Keep.cons rfl (Keep.cons (by show some (I64 _) = some (I64 _); rw [show cDue D 0 = 0 by unfold cDue; rw [if_pos (by omega)]]; rfl) (Keep.cons rfl (Keep.cons rfl (Keep.cons rfl (Keep.cons rfl (Keep.cons rfl (Keep.nil))))))))) (To.sat (by repeat (first | exact .nil | exact .done .refl | (apply To.cons; · (repeat (first | exact .head | apply Sel.tail))) | exact .done (by repeat (first | exact .refl | apply Drop.skip))))) ?_
  rintro ⟨i, Lx, tx⟩ ⟨hi, h, ⟨hh, hh2⟩, hK⟩
  replace hi : i ≤ kk := hi
  replace hh2 : h ≤ i := hh2
  replace hK : KQ ⟨0, 4⟩ (1900000 - 1000 * i) Lx (cW D (i) x0) h (cQ (x0 * 4096 + (D : Int)) (i)) := hK
  dsimp only
  refine g_seq ?_
  refine g_seq ?_
  refine g_region ?_
  refine gl_v rfl (o_move rfl) ?_
  refine gl_v rfl (o_move rfl) ?_
  refine gl_v rfl (o_lss rfl rfl) ?_
  refine gl_nil ?_
  refine ge_then ?_
  refine g_cond rfl (fun hc2 => ?_) (fun hc2 => ?_)
  ·
   first | replace hc2 := of_decide_eq_true hc2 | replace hc2 := lt_f hc2 | replace hc2 := le_f hc2 | replace hc2 := dec_f hc2 | replace hc2 := nlt_t hc2 | replace hc2 := nle_t hc2 | replace hc2 := ndec_t hc2 | replace hc2 := ndec_f hc2 | replace hc2 := nn_t hc2 | replace hc2 := nn_f hc2 | skip
   have hik : i < kk := by omega
   refine g_skip ?_
   refine ge_then ?_
   refine g_seq ?_
   refine g_block ?_
   refine g_seq ?_
   refine g_region ?_
   refine gl_v rfl (o_move rfl) ?_
   obtain ⟨c2, L2, ph2, e2, K2⟩ := (hK.le (j := 1000 + (1900000 - 1000 * (i + 1))) (by omega)).beat
   rw [(hb i).1] at e2 K2
   refine gl_c rfl (o_call rfl (fns_envW (Beat_spec X ⟨0, 4⟩ (by decide) (cW D (i) x0) (hK.n ⟨0, 4⟩))) (by repeat (first | exact .nil | (apply Part.cons; · (repeat (first | exact .head | apply Sel.tail)))))) ?_
   rintro _ R ⟨_, ⟨p2, rfl, rfl⟩, rfl⟩
   try simp only [List.cons_append, List.nil_append]
   refine gl_v rfl (o_assign rfl) ?_
   refine gl_nil ?_
   refine ge_then ?_
   refine g_seq ?_
   refine g_region ?_
   refine gl_v rfl (o_move rfl) ?_
   refine gl_c rfl (o_call rfl (kdone_spec X ⟨0, 4⟩ p2 Lx _ (cW D (i) x0) (beatC ⟨0, 4⟩ (cW D (i) x0)) hK.I hK.hL (hK.hw.le (by omega)) (beatC_ok (by decide) (hK.n ⟨0, 4⟩)) c2 L2 ((cW D (i + 1) x0)) ⟨ph2, 1, 0, ((dueL (foldW (cQ (x0 * 4096 + (D : Int)) (i)) (cW D (i) x0))).map (·.id)), foldCut (cQ (x0 * 4096 + (D : Int)) (i)) (cW D (i) x0), foldRef (cQ (x0 * 4096 + (D : Int)) (i)) (cW D (i) x0)⟩ e2) (by repeat (first | exact .nil | (apply Part.cons; · (repeat (first | exact .head | apply Sel.tail)))))) ?_
   rintro _ R ⟨_, ⟨t2, rfl, rfl⟩, rfl⟩
   try simp only [List.cons_append, List.nil_append]
   refine gl_nil ?_
   refine ge_then ?_
   refine g_region ?_
   refine gl_v rfl (o_move rfl) ?_
   refine gl_v rfl (o_move rfl) ?_
   refine gl_c rfl (o_call rfl (KDue_spec X ⟨0, 4⟩ p2 ⟨ph2, 1, 0, ((dueL (foldW (cQ (x0 * 4096 + (D : Int)) (i)) (cW D (i) x0))).map (·.id)), foldCut (cQ (x0 * 4096 + (D : Int)) (i)) (cW D (i) x0), foldRef (cQ (x0 * 4096 + (D : Int)) (i)) (cW D (i) x0)⟩ (fun h => by cases h) (by rw [List.length_map]; have := (hb i).2.2; omega)) (by repeat (first | exact .nil | (apply Part.cons; · (repeat (first | exact .head | apply Sel.tail)))))) ?_
   rintro _ R ⟨_, ⟨d2, k2, rfl, rfl⟩, rfl⟩
   try simp only [List.cons_append, List.nil_append]
   rw [show toldL ⟨ph2, 1, 0, ((dueL (foldW (cQ (x0 * 4096 + (D : Int)) (i)) (cW D (i) x0))).map (·.id)), foldCut (cQ (x0 * 4096 + (D : Int)) (i)) (cW D (i) x0), foldRef (cQ (x0 * 4096 + (D : Int)) (i)) (cW D (i) x0)⟩ ((dueL (foldW (cQ (x0 * 4096 + (D : Int)) (i)) (cW D (i) x0))).map (·.id)) = ((dueL (foldW (cQ (x0 * 4096 + (D : Int)) (i)) (cW D (i) x0))).map (·.id)) from rfl]
   refine gl_v rfl (o_move rfl) ?_
   refine gl_c rfl (o_call rfl (has_spec (tl d2 k2 ((dueL (foldW (cQ (x0 * 4096 + (D : Int)) (i)) (cW D (i) x0))).map (·.id))) ((dueL (foldW (cQ (x0 * 4096 + (D : Int)) (i)) (cW D (i) x0))).map (·.id)) x0 (by rw [List.length_map]; have := (hb i).2.2; omega) (tlA d2 k2 ((dueL (foldW (cQ (x0 * 4096 + (D : Int)) (i)) (cW D (i) x0))).map (·.id)))) (by repeat (first | exact .nil | (apply Part.cons; · (repeat (first | exact .head | apply Sel.tail)))))) ?_
   rintro _ R ⟨_, ⟨rfl, rfl⟩, rfl⟩
   try simp only [List.cons_append, List.nil_append]
   refine gl_v rfl (o_addR ((cDue D (i + 1) : Nat) : Int) (by have h1 := (hb i).2.1; have h2 : cDue D (i + 1) ≤ 1 := by { unfold cDue; split <;> omega }; rw [wr_i64 (by omega)]; omega) rfl rfl) ?_
   refine gl_v rfl (o_assign rfl) ?_
   refine gl_nil ?_
   refine ge_block ?_
   refine ge_then ?_
   refine g_region ?_
   refine gl_v rfl (o_move rfl) ?_
   refine gl_v rfl (o_addR ((i + 1 : Nat) : Int) (by rw [wr_i64 (by omega)]; omega) rfl rfl) ?_
   refine gl_v rfl (o_assign rfl) ?_
   refine gl_nil ?_
   refine ge_round (i + 1, L2, t2) ⟨show i + 1 ≤ kk by omega, h + (cQ (x0 * 4096 + (D : Int)) (i)).length, (by have : (cQ (x0 * 4096 + (D : Int)) (i)).length ≤ 1 := by { unfold cQ; split <;> simp }; have h2 : i ≠ 0 → (cQ (x0 * 4096 + (D : Int)) (i)).length = 0 := by { intro e; unfold cQ; rw [if_neg e]; rfl }; have h3 : h + (cQ (x0 * 4096 + (D : Int)) (i)).length ≤ 1 := by { rcases Nat.eq_zero_or_pos i with e | e; omega; have := h2 (by omega); omega }; exact ⟨h3, show h + (cQ (x0 * 4096 + (D : Int)) (i)).length ≤ i + 1 by omega⟩), K2⟩ (show kk - (i + 1) < kk - i by omega) (Keep.cons rfl (Keep.cons rfl (Keep.cons rfl (Keep.cons rfl (Keep.cons rfl (Keep.cons rfl (Keep.cons rfl (Keep.nil)))))))) (To.sat (by repeat (first | exact .nil | exact .done .refl | (apply To.cons; · (repeat (first | exact .head | apply Sel.tail))) | exact .done (by repeat (first | exact .refl | apply Drop.skip)))))
  ·
   first | replace hc2 := of_decide_eq_true hc2 | replace hc2 := lt_f hc2 | replace hc2 := le_f hc2 | replace hc2 := dec_f hc2 | replace hc2 := nlt_t hc2 | replace hc2 := nle_t hc2 | replace hc2 := ndec_t hc2 | replace hc2 := ndec_f hc2 | replace hc2 := nn_t hc2 | replace hc2 := nn_f hc2 | skip
   have hik : i = kk := by omega
   rw [hik] at hK
   rw [hik]
   refine g_exit ?_
   refine ge_then_exit ?_
   refine ge_then_exit ?_
   refine ge_block_exit ?_
   refine ge_then ?_
   refine g_seq ?_
   refine g_region ?_
   refine gl_v rfl (o_move rfl) ?_
   refine gl_v rfl (o_move rfl) ?_
   obtain ⟨L3, ph3, e3, K3⟩ := (hK.le (j := 1000 + 1800000) (by omega)).cancel (by unfold cQ; split <;> simp) (by unfold cQ; split <;> simp <;> omega) g0.1 (show x0 ≤ 1125899906842624 by omega)
   refine gl_c rfl (o_call rfl (fns_env (Cancel_spec X ⟨0, 4⟩ x0 g0.1)) (by repeat (first | exact .nil | (apply Part.cons; · (repeat (first | exact .head | apply Sel.tail)))))) ?_
   rintro _ R ⟨_, ⟨p3, rfl, rfl⟩, rfl⟩
   try simp only [List.cons_append, List.nil_append]
   refine gl_c rfl (o_call rfl (kdone_spec X ⟨0, 4⟩ p3 Lx _ (cW D (kk) x0) (cutC x0) hK.I hK.hL (hK.hw.le (by omega)) (cutC_ok g0.1) 5 L3 ((cW D (kk) x0)) ⟨ph3, 1, 0, [], [], []⟩ e3) (by repeat (first | exact .nil | (apply Part.cons; · (repeat (first | exact .head | apply Sel.tail)))))) ?_
   rintro _ R ⟨_, ⟨t3, rfl, rfl⟩, rfl⟩
   try simp only [List.cons_append, List.nil_append]
   refine gl_nil ?_
   refine ge_then ?_
   refine g_seq ?_
   refine g_region ?_
   refine gl_v rfl (o_move rfl) ?_
   obtain ⟨c4, L4, ph4, e4, K4⟩ := (K3.le (j := 1000 + 1700000) (by omega)).beat
   rw [hc1'] at e4 K4
   refine gl_c rfl (o_call rfl (fns_envW (Beat_spec X ⟨0, 4⟩ (by decide) (cW D (kk) x0) (K3.n ⟨0, 4⟩))) (by repeat (first | exact .nil | (apply Part.cons; · (repeat (first | exact .head | apply Sel.tail)))))) ?_
   rintro _ R ⟨_, ⟨p4, rfl, rfl⟩, rfl⟩
   try simp only [List.cons_append, List.nil_append]
   refine gl_v rfl (o_assign rfl) ?_
   refine gl_nil ?_
   refine ge_then ?_
   refine g_seq ?_
   refine g_region ?_
   refine gl_v rfl (o_move rfl) ?_
   refine gl_c rfl (o_call rfl (kdone_spec X ⟨0, 4⟩ p4 L3 _ (cW D (kk) x0) (beatC ⟨0, 4⟩ (cW D (kk) x0)) K3.I K3.hL (K3.hw.le (by omega)) (beatC_ok (by decide) (K3.n ⟨0, 4⟩)) c4 L4 (⟨kk + 1, 1, []⟩) ⟨ph4, 1, 0, ((dueL (foldW ((cQ (x0 * 4096 + (D : Int)) (kk)) ++ [x0 * 4096]) (cW D (kk) x0))).map (·.id)), foldCut ((cQ (x0 * 4096 + (D : Int)) (kk)) ++ [x0 * 4096]) (cW D (kk) x0), foldRef ((cQ (x0 * 4096 + (D : Int)) (kk)) ++ [x0 * 4096]) (cW D (kk) x0)⟩ e4) (by repeat (first | exact .nil | (apply Part.cons; · (repeat (first | exact .head | apply Sel.tail)))))) ?_
   rintro _ R ⟨_, ⟨t4, rfl, rfl⟩, rfl⟩
   try simp only [List.cons_append, List.nil_append]
   refine gl_nil ?_
   refine ge_then ?_
   refine g_seq ?_
   refine g_region ?_
   refine gl_v rfl (o_move rfl) ?_
   refine gl_c rfl (o_call rfl (KCut_spec X ⟨0, 4⟩ p4 ⟨ph4, 1, 0, ((dueL (foldW ((cQ (x0 * 4096 + (D : Int)) (kk)) ++ [x0 * 4096]) (cW D (kk) x0))).map (·.id)), foldCut ((cQ (x0 * 4096 + (D : Int)) (kk)) ++ [x0 * 4096]) (cW D (kk) x0), foldRef ((cQ (x0 * 4096 + (D : Int)) (kk)) ++ [x0 * 4096]) (cW D (kk) x0)⟩ (fun h => by cases h) (by show (foldCut _ _).length ≤ 1000; rw [hc2']; split <;> simp)) (by repeat (first | exact .nil | (apply Part.cons; · (repeat (first | exact .head | apply Sel.tail)))))) ?_
   rintro _ R ⟨_, ⟨d4, k4, rfl, rfl⟩, rfl⟩
   try simp only [List.cons_append, List.nil_append]
   rw [show toldL ⟨ph4, 1, 0, ((dueL (foldW ((cQ (x0 * 4096 + (D : Int)) (kk)) ++ [x0 * 4096]) (cW D (kk) x0))).map (·.id)), foldCut ((cQ (x0 * 4096 + (D : Int)) (kk)) ++ [x0 * 4096]) (cW D (kk) x0), foldRef ((cQ (x0 * 4096 + (D : Int)) (kk)) ++ [x0 * 4096]) (cW D (kk) x0)⟩ (foldCut ((cQ (x0 * 4096 + (D : Int)) (kk)) ++ [x0 * 4096]) (cW D (kk) x0)) = (if kk < D then [x0] else []) from hc2']
   refine gl_v rfl (o_move rfl) ?_
   refine gl_c rfl (o_call rfl (has_spec (tl d4 k4 (if kk < D then [x0] else [])) (if kk < D then [x0] else []) x0 (by split <;> simp) (tlA d4 k4 (if kk < D then [x0] else []))) (by repeat (first | exact .nil | (apply Part.cons; · (repeat (first | exact .head | apply Sel.tail)))))) ?_
   rintro _ R ⟨_, ⟨rfl, rfl⟩, rfl⟩
   try simp only [List.cons_append, List.nil_append]
   refine gl_v rfl (o_assign rfl) ?_
   refine gl_nil ?_
   refine ge_then ?_
   refine g_seq ?_
   refine g_region ?_
   refine gl_v rfl (o_move rfl) ?_
   refine gl_v rfl (o_move rfl) ?_
   refine gl_c rfl (o_call rfl (KDue_spec X ⟨0, 4⟩ p4 ⟨ph4, 1, 0, ((dueL (foldW ((cQ (x0 * 4096 + (D : Int)) (kk)) ++ [x0 * 4096]) (cW D (kk) x0))).map (·.id)), foldCut ((cQ (x0 * 4096 + (D : Int)) (kk)) ++ [x0 * 4096]) (cW D (kk) x0), foldRef ((cQ (x0 * 4096 + (D : Int)) (kk)) ++ [x0 * 4096]) (cW D (kk) x0)⟩ (fun h => by cases h) (by rw [List.length_map, hc3']; decide)) (by repeat (first | exact .nil | (apply Part.cons; · (repeat (first | exact .head | apply Sel.tail)))))) ?_
   rintro _ R ⟨_, ⟨d5, k5, rfl, rfl⟩, rfl⟩
   try simp only [List.cons_append, List.nil_append]
   rw [show toldL ⟨ph4, 1, 0, ((dueL (foldW ((cQ (x0 * 4096 + (D : Int)) (kk)) ++ [x0 * 4096]) (cW D (kk) x0))).map (·.id)), foldCut ((cQ (x0 * 4096 + (D : Int)) (kk)) ++ [x0 * 4096]) (cW D (kk) x0), foldRef ((cQ (x0 * 4096 + (D : Int)) (kk)) ++ [x0 * 4096]) (cW D (kk) x0)⟩ ((dueL (foldW ((cQ (x0 * 4096 + (D : Int)) (kk)) ++ [x0 * 4096]) (cW D (kk) x0))).map (·.id)) = [] by show ((dueL (foldW ((cQ (x0 * 4096 + (D : Int)) (kk)) ++ [x0 * 4096]) (cW D (kk) x0))).map (·.id)) = []; rw [hc3']; rfl]
   refine gl_v rfl (o_move rfl) ?_
   refine gl_c rfl (o_call rfl (has_spec (tl d5 k5 []) [] x0 (by decide) (tlA d5 k5 [])) (by repeat (first | exact .nil | (apply Part.cons; · (repeat (first | exact .head | apply Sel.tail)))))) ?_
   rintro _ R ⟨_, ⟨rfl, rfl⟩, rfl⟩
   try simp only [List.cons_append, List.nil_append]
   refine gl_v rfl (o_addR ((cDue D kk : Nat) : Int) (by have h2 : cDue D kk ≤ 1 := by { unfold cDue; split <;> omega }; simp only [List.count_nil]; rw [wr_i64 (by omega)]; omega) rfl rfl) ?_
   refine gl_v rfl (o_assign rfl) ?_
   refine gl_nil ?_
   refine ge_then ?_
   refine g_seq ?_
   refine g_seq ?_
   refine g_region ?_
   refine gl_v rfl (o_assign rfl) ?_
   refine gl_nil ?_
   refine ge_then ?_
   refine g_block ?_
   refine g_loop (ι := Nat × List Int × Int) (fun x => x.1 ≤ 60 ∧ ∃ h, KQ ⟨0, 4⟩ (1600000 - 1000 * x.1) x.2.1 (⟨kk + 1 + x.1, 1, []⟩ : Wh) h []) (fun x => [(15, I64 x.1), (14, I64 ((if kk < D then [x0] else []).count x0 : Nat)), (10, I64 (cDue D kk : Nat)), (9, I64 kk), (8, I64 D), (7, ptr X.c 0), (6, .bool false), (0, U64 x0)]) (fun x => envK X ⟨0, 4⟩ x.2.1 x.2.2 (⟨kk + 1 + x.1, 1, []⟩ : Wh) :: R) (fun x => 60 - x.1) (0, L4, t4) (⟨Nat.zero_le _, _, K4.le (show 1600000 - 1000 * 0 ≤ 1700000 by decide)⟩) (Keep.cons rfl (Keep.cons rfl (Keep.cons rfl (Keep.cons rfl (Keep.cons rfl (Keep.cons rfl (Keep.cons rfl (Keep.cons rfl (Keep.nil))))))))) (To.sat (by repeat (first | exact .nil | exact .done .refl | (apply To.cons; · (repeat (first | exact .head | apply Sel.tail))) | exact .done (by repeat (first | exact .refl | apply Drop.skip))))) ?_
   rintro ⟨j, Ly, ty⟩ ⟨hj, h, hK3⟩
   replace hj : j ≤ 60 := hj
   replace hK3 : KQ ⟨0, 4⟩ (1600000 - 1000 * j) Ly (⟨kk + 1 + j, 1, []⟩ : Wh) h [] := hK3
   dsimp only
   refine g_seq ?_
   refine g_seq ?_
   refine g_region ?_
   refine gl_v rfl (o_move rfl) ?_
   refine gl_v rfl (o_lss rfl rfl) ?_
   refine gl_nil ?_
   refine ge_then ?_
   refine g_cond rfl (fun hc3 => ?_) (fun hc3 => ?_)
   ·
    first | replace hc3 := of_decide_eq_true hc3 | replace hc3 := lt_f hc3 | replace hc3 := le_f hc3 | replace hc3 := dec_f hc3 | replace hc3 := nlt_t hc3 | replace hc3 := nle_t hc3 | replace hc3 := ndec_t hc3 | replace hc3 := ndec_f hc3 | replace hc3 := nn_t hc3 | replace hc3 := nn_f hc3 | skip
    have hj60 : j < 60 := by omega
    refine g_skip ?_
    refine ge_then ?_
    refine g_seq ?_
    refine g_block ?_
    refine g_seq ?_
    refine g_region ?_
    refine gl_v rfl (o_move rfl) ?_
    obtain ⟨c5, L5, ph5, e5, K5⟩ := (hK3.le (j := 1000 + (1600000 - 1000 * (j + 1))) (by omega)).beat
    have hw5 : tickR (foldW [] (⟨kk + 1 + j, 1, []⟩ : Wh)) = (⟨kk + 1 + (j + 1), 1, []⟩ : Wh) := by unfold foldW tickR; rfl
    rw [hw5] at e5 K5
    refine gl_c rfl (o_call rfl (fns_envW (Beat_spec X ⟨0, 4⟩ (by decide) (⟨kk + 1 + j, 1, []⟩ : Wh) (hK3.n ⟨0, 4⟩))) (by repeat (first | exact .nil | (apply Part.cons; · (repeat (first | exact .head | apply Sel.tail)))))) ?_
    rintro _ R ⟨_, ⟨p6, rfl, rfl⟩, rfl⟩
    try simp only [List.cons_append, List.nil_append]
    refine gl_v rfl (o_assign rfl) ?_
    refine gl_nil ?_
    refine ge_then ?_
    refine g_seq ?_
    refine g_region ?_
    refine gl_v rfl (o_move rfl) ?_
    refine gl_c rfl (o_call rfl (kdone_spec X ⟨0, 4⟩ p6 Ly _ (⟨kk + 1 + j, 1, []⟩ : Wh) (beatC ⟨0, 4⟩ (⟨kk + 1 + j, 1, []⟩ : Wh)) hK3.I hK3.hL (hK3.hw.le (by omega)) (beatC_ok (by decide) (hK3.n ⟨0, 4⟩)) c5 L5 ((⟨kk + 1 + (j + 1), 1, []⟩ : Wh)) ⟨ph5, 1, 0, ((dueL (foldW [] (⟨kk + 1 + j, 1, []⟩ : Wh))).map (·.id)), foldCut [] (⟨kk + 1 + j, 1, []⟩ : Wh), foldRef [] (⟨kk + 1 + j, 1, []⟩ : Wh)⟩ e5) (by repeat (first | exact .nil | (apply Part.cons; · (repeat (first | exact .head | apply Sel.tail)))))) ?_
    rintro _ R ⟨_, ⟨t6, rfl, rfl⟩, rfl⟩
    try simp only [List.cons_append, List.nil_append]
    refine gl_nil ?_
    refine ge_then ?_
    refine g_region ?_
    refine gl_v rfl (o_move rfl) ?_
    refine gl_v rfl (o_move rfl) ?_
    refine gl_c rfl (o_call rfl (KDue_spec X ⟨0, 4⟩ p6 ⟨ph5, 1, 0, ((dueL (foldW [] (⟨kk + 1 + j, 1, []⟩ : Wh))).map (·.id)), foldCut [] (⟨kk + 1 + j, 1, []⟩ : Wh), foldRef [] (⟨kk + 1 + j, 1, []⟩ : Wh)⟩ (fun h => by cases h) (by show _ ≤ 1000; unfold foldW dueL; simp)) (by repeat (first | exact .nil | (apply Part.cons; · (repeat (first | exact .head | apply Sel.tail)))))) ?_
    rintro _ R ⟨_, ⟨d6, k6, rfl, rfl⟩, rfl⟩
    try simp only [List.cons_append, List.nil_append]
    rw [show toldL ⟨ph5, 1, 0, ((dueL (foldW [] (⟨kk + 1 + j, 1, []⟩ : Wh))).map (·.id)), foldCut [] (⟨kk + 1 + j, 1, []⟩ : Wh), foldRef [] (⟨kk + 1 + j, 1, []⟩ : Wh)⟩ ((dueL (foldW [] (⟨kk + 1 + j, 1, []⟩ : Wh))).map (·.id)) = [] by unfold foldW dueL; rfl]
    refine gl_v rfl (o_move rfl) ?_
    refine gl_c rfl (o_call rfl (has_spec (tl d6 k6 []) [] x0 (by decide) (tlA d6 k6 [])) (by repeat (first | exact .nil | (apply Part.cons; · (repeat (first | exact .head | apply Sel.tail)))))) ?_
    rintro _ R ⟨_, ⟨rfl, rfl⟩, rfl⟩
    try simp only [List.cons_append, List.nil_append]
    refine gl_v rfl (o_addR ((cDue D kk : Nat) : Int) (by have h2 : cDue D kk ≤ 1 := by { unfold cDue; split <;> omega }; simp only [List.count_nil]; rw [wr_i64 (by omega)]; omega) rfl rfl) ?_
    refine gl_v rfl (o_move rfl) ?_
    refine gl_c rfl (o_call rfl (KCut_spec X ⟨0, 4⟩ p6 ⟨ph5, 1, 0, ((dueL (foldW [] (⟨kk + 1 + j, 1, []⟩ : Wh))).map (·.id)), foldCut [] (⟨kk + 1 + j, 1, []⟩ : Wh), foldRef [] (⟨kk + 1 + j, 1, []⟩ : Wh)⟩ (fun h => by cases h) (by show _ ≤ 1000; unfold foldCut; simp)) (by repeat (first | exact .nil | (apply Part.cons; · (repeat (first | exact .head | apply Sel.tail)))))) ?_
    rintro _ R ⟨_, ⟨d7, k7, rfl, rfl⟩, rfl⟩
    try simp only [List.cons_append, List.nil_append]
    rw [show toldL ⟨ph5, 1, 0, ((dueL (foldW [] (⟨kk + 1 + j, 1, []⟩ : Wh))).map (·.id)), foldCut [] (⟨kk + 1 + j, 1, []⟩ : Wh), foldRef [] (⟨kk + 1 + j, 1, []⟩ : Wh)⟩ (foldCut [] (⟨kk + 1 + j, 1, []⟩ : Wh)) = [] by unfold foldCut; rfl]
    refine gl_v rfl (o_lenL rfl) ?_
    refine gl_v rfl (o_addR ((cDue D kk : Nat) : Int) (by have h2 : cDue D kk ≤ 1 := by { unfold cDue; split <;> omega }; simp only [List.length_nil]; rw [wr_i64 (by omega)]; omega) rfl rfl) ?_
    refine gl_v rfl (o_assign rfl) ?_
    refine gl_nil ?_
    refine ge_block ?_
    refine ge_then ?_
    refine g_region ?_
    refine gl_v rfl (o_move rfl) ?_
    refine gl_v rfl (o_addR ((j + 1 : Nat) : Int) (by rw [wr_i64 (by omega)]; omega) rfl rfl) ?_
    refine gl_v rfl (o_assign rfl) ?_
    refine gl_nil ?_
    refine ge_round (j + 1, L5, t6) ⟨show j + 1 ≤ 60 by omega, _, K5⟩ (show 60 - (j + 1) < 60 - j by omega) (Keep.cons rfl (Keep.cons rfl (Keep.cons rfl (Keep.cons rfl (Keep.cons rfl (Keep.cons rfl (Keep.cons rfl (Keep.cons rfl (Keep.nil))))))))) (To.sat (by repeat (first | exact .nil | exact .done .refl | (apply To.cons; · (repeat (first | exact .head | apply Sel.tail))) | exact .done (by repeat (first | exact .refl | apply Drop.skip)))))
   ·
    first | replace hc3 := of_decide_eq_true hc3 | replace hc3 := lt_f hc3 | replace hc3 := le_f hc3 | replace hc3 := dec_f hc3 | replace hc3 := nlt_t hc3 | replace hc3 := nle_t hc3 | replace hc3 := ndec_t hc3 | replace hc3 := ndec_f hc3 | replace hc3 := nn_t hc3 | replace hc3 := nn_f hc3 | skip
    refine g_exit ?_
    refine ge_then_exit ?_
    refine ge_then_exit ?_
    refine ge_block_exit ?_
    refine ge_then ?_
    refine g_seq ?_
    by_cases hkD : kk < D
    ·
     have hz : cDue D kk = 0 := by unfold cDue; rw [if_pos hkD]
     rw [hz, if_pos hkD]
     refine g_region ?_
     refine gl_v rfl (o_move rfl) ?_
     refine gl_v rfl (o_move rfl) ?_
     refine gl_v rfl (o_addR 1 (by simp; decide) rfl rfl) ?_
     refine gl_v rfl (o_is (c := true) (by rfl) (o_eql rfl rfl)) ?_
     refine gl_v rfl (o_move rfl) ?_
     refine gl_gT rfl rfl rfl ?_
     refine gl_v rfl (o_move rfl) ?_
     refine gl_gT rfl rfl rfl ?_
     refine gl_v rfl (o_is (c := true) (by simp) (o_eql rfl rfl)) ?_
     refine gl_gT rfl rfl rfl ?_
     refine gl_v rfl (o_move rfl) ?_
     refine gl_gT rfl rfl rfl ?_
     refine gl_v rfl (o_move rfl) ?_
     refine gl_gT rfl rfl rfl ?_
     refine gl_v rfl (o_is (c := true) (by exact decide_eq_true (by omega)) (o_lss rfl rfl)) ?_
     refine gl_gT rfl rfl rfl ?_
     refine gl_v rfl (o_is (c := true) (by rfl) (o_eqlb rfl rfl)) ?_
     refine gl_v rfl (o_pickT rfl rfl rfl) ?_
     refine gl_v rfl (o_assign rfl) ?_
     refine gl_nil ?_
     refine ge_then ?_
     refine g_ret ?_
     refine ret1 (.inl rfl) rfl rfl [] (⟨rfl, rfl⟩) (To.sat (by repeat (first | exact .nil | exact .done .refl | (apply To.cons; · (repeat (first | exact .head | apply Sel.tail))) | exact .done (by repeat (first | exact .refl | apply Drop.skip)))))
    ·
     have hz : cDue D kk = 1 := by unfold cDue; rw [if_neg hkD]
     rw [hz, if_neg hkD]
     refine g_region ?_
     refine gl_v rfl (o_move rfl) ?_
     refine gl_v rfl (o_move rfl) ?_
     refine gl_v rfl (o_addR 1 (by simp; decide) rfl rfl) ?_
     refine gl_v rfl (o_is (c := true) (by rfl) (o_eql rfl rfl)) ?_
     refine gl_v rfl (o_move rfl) ?_
     refine gl_gT rfl rfl rfl ?_
     refine gl_v rfl (o_move rfl) ?_
     refine gl_gT rfl rfl rfl ?_
     refine gl_v rfl (o_is (c := false) (by simp) (o_eql rfl rfl)) ?_
     refine gl_gT rfl rfl rfl ?_
     refine gl_v rfl (o_move rfl) ?_
     refine gl_gT rfl rfl rfl ?_
     refine gl_v rfl (o_move rfl) ?_
     refine gl_gT rfl rfl rfl ?_
     refine gl_v rfl (o_is (c := false) (by exact decide_eq_false (by omega)) (o_lss rfl rfl)) ?_
     refine gl_gT rfl rfl rfl ?_
     refine gl_v rfl (o_is (c := true) (by rfl) (o_eqlb rfl rfl)) ?_
     refine gl_v rfl (o_pickT rfl rfl rfl) ?_
     refine gl_v rfl (o_assign rfl) ?_
     refine gl_nil ?_
     refine ge_then ?_
     refine g_ret ?_
     refine ret1 (.inl rfl) rfl rfl [] (⟨rfl, rfl⟩) (To.sat (by repeat (first | exact .nil | exact .done .refl | (apply To.cons; · (repeat (first | exact .head | apply Sel.tail))) | exact .done (by repeat (first | exact .refl | apply Drop.skip)))))

theorem cancels_spec (x0 x1 x2 : Int) (g0 : 0 ≤ x0 ∧ x0 ≤ 18446744073709551615) (g1 : -9223372036854775808 ≤ x1 ∧ x1 ≤ 9223372036854775807) (g2 : -9223372036854775808 ≤ x2 ∧ x2 ≤ 9223372036854775807) : FnS Tryz.prog 3 [U64 x0, I64 x1, I64 x2] [] (fun u Bs => u = .bool true ∧ Bs = []) :=
  cancels_w x0 x1 x2 g0 g1 g2 (1 + x1 % 50).toNat (x2 % 60).toNat (by omega) (by omega)

end Go.Proofs.YtmohikdmdmplaaaGreat.L
