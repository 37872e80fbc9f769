/-
  What the ring's laws call: an operation done at once, rings made, lists compared. Own work, printed in part by a program of its own.
-/
import Derived.Test.YtnkcgfllehohbaaRingH
namespace Go.Proofs.Ytnkcgfllehohbaa.L
open Go.L Go.L.Ring
def rmemA (p : Nat) (L : List Int) (t : Int) : Assn :=
  exA (ι := Option Addr × Nat) (fun _ => True) (fun x => [cel p 37 [.slice x.1 L.length x.2, I64 t], own (.slice x.1 L.length x.2) 28 1 L.length (L.map U64)])
theorem rmem_close {p : Nat} {L L' : List Int} {t t' : Int} {As R : List Assn} (a : Option Addr) (c : Nat) (e : L' = L) (e' : t' = t)
    (h : ∀ h, Sat As h → Sat (cel p 37 [.slice a L.length c, I64 t] :: own (.slice a L.length c) 28 1 L.length (L.map U64) :: R) h) : ∀ h, Sat As h → Sat (rmemA p L' t' :: R) h := by
  subst e e'; exact ex_close (a, c) trivial h

theorem done_spec (p r m b n : Nat) (L : List Int) (t : Int) (o : RO) (I : RI b n L) (hI : LI L) (h1 : OI o) (k : Nat) (L' : List Int) (o' : RO) (hrun : doN b n 100 L o = (k, L', o')) : FnS Try.prog 21 [ptr p 0] [memA m L t, ringA r m b n, opA p r o]
      (fun u Bs => ∃ t', u = .tuple #[I64 o'.out, U64 o'.value, I64 k] ∧ Bs = [memA m L' t', ringA r m b n, opA p r o']) := by
  refine fn_body Try.func21 rfl rfl rfl ?_
  intro W0 R
  simp only [List.zipIdx_cons, List.zipIdx_nil, List.map_cons, List.map_nil, Nat.zero_add, Nat.reduceAdd, List.cons_append, List.nil_append]
  refine g_seq ?_
  refine g_region ?_
  refine gl_v rfl (o_assign rfl) ?_
  refine gl_v rfl (o_assign rfl) ?_
  refine gl_v rfl (o_assign rfl) ?_
  refine gl_nil ?_
  refine ge_then ?_
  refine g_seq ?_
  refine g_region ?_
  refine gl_v rfl (o_assign rfl) ?_
  refine gl_nil ?_
  refine ge_then ?_
  refine g_seq ?_
  refine g_block ?_
  refine g_loop (ι := Nat × List Int × RO × Int) (fun x => ∃ j, x.1 + j = k ∧ x.1 ≤ 100 ∧ doN b n (100 - x.1) x.2.1 x.2.2.1 = (j, L', o') ∧ RI b n x.2.1 ∧ LI x.2.1 ∧ OI x.2.2.1) (fun x => [(5, I64 x.1), (0, ptr p 0)]) (fun x => memA m x.2.1 x.2.2.2 :: ringA r m b n :: opA p r x.2.2.1 :: R) (fun x => 100 - x.1) (0, L, o, t) (⟨k, by simp, by simp, hrun, I, hI, h1⟩) (Keep.cons rfl (Keep.cons rfl (Keep.nil))) (To.sat (by repeat (first | exact .nil | exact .done .refl | (apply To.cons; · (repeat (first | exact .head | apply Sel.tail))) | exact .done (by repeat (first | exact .refl | apply Drop.skip))))) ?_
  rintro ⟨i, Lx, ox, tx⟩ ⟨j, hj, hi, hr, hI1, hI2, hI3⟩
  have hj : i + j = k := hj
  have hi : i ≤ 100 := hi
  have hr : doN b n (100 - i) Lx ox = (j, L', o') := hr
  have hI1 : RI b n Lx := hI1
  have hI2 : LI Lx := hI2
  have hI3 : OI ox := hI3
  dsimp only
  refine g_seq ?_
  refine g_seq ?_
  refine g_region ?_
  refine gl_v rfl (o_move rfl) ?_
  refine gl_v rfl (o_lss rfl rfl) ?_
  refine gl_v rfl (o_move rfl) ?_
  refine gl_g rfl rfl (fun hc1 => ?_) (fun hc1 => ?_) rfl
  ·
    have hc1' := hc1
    first | replace hc1' := of_decide_eq_true hc1' | replace hc1' := lt_f hc1' | replace hc1' := le_f hc1' | replace hc1' := dec_f hc1' | replace hc1' := nlt_t hc1' | replace hc1' := nle_t hc1' | replace hc1' := ndec_t hc1' | replace hc1' := ndec_f hc1' | replace hc1' := nn_t hc1' | replace hc1' := nn_f hc1' | skip
    refine gl_v rfl (o_move rfl) ?_
    refine gl_gT rfl rfl hc1 ?_
    refine gl_c rfl (o_call rfl (Over_spec p r ox) (by repeat (first | exact .nil | (apply Part.cons; · (repeat (first | exact .head | apply Sel.tail)))))) ?_
    rintro _ R ⟨_, ⟨rfl, rfl⟩, rfl⟩
    try simp only [List.cons_append, List.nil_append]
    refine gl_gT rfl rfl hc1 ?_
    refine gl_v rfl (o_not rfl) ?_
    refine gl_v rfl (o_pickT hc1 rfl rfl) ?_
    refine gl_nil ?_
    refine ge_then ?_
    refine g_cond rfl (fun hc2 => ?_) (fun hc2 => ?_)
    ·
      first | replace hc2 := of_decide_eq_true hc2 | replace hc2 := lt_f hc2 | replace hc2 := le_f hc2 | replace hc2 := dec_f hc2 | replace hc2 := nlt_t hc2 | replace hc2 := nle_t hc2 | replace hc2 := ndec_t hc2 | replace hc2 := ndec_f hc2 | replace hc2 := nn_t hc2 | replace hc2 := nn_f hc2 | skip
      have hov : ox.over = false := hc2
      refine g_skip ?_
      refine ge_then ?_
      refine g_block ?_
      refine g_seq ?_
      refine g_region ?_
      refine gl_v rfl (o_move rfl) ?_
      refine gl_c rfl (o_call rfl (Step_spec p r m b n Lx tx ox hI1 hI3) (by repeat (first | exact .nil | (apply Part.cons; · (repeat (first | exact .head | apply Sel.tail)))))) ?_
      rintro _ R ⟨_, ⟨rfl, rfl⟩, rfl⟩
      try simp only [List.cons_append, List.nil_append]
      refine gl_nil ?_
      refine ge_then ?_
      refine g_region ?_
      refine gl_v rfl (o_move rfl) ?_
      refine gl_v rfl (o_addR _ (by first | exact wr_i64 (by omega) | rfl) rfl rfl) ?_
      refine gl_v rfl (o_assign rfl) ?_
      refine gl_nil ?_
      refine ge_block ?_
      obtain ⟨q, hq⟩ : ∃ q, 100 - i = q + 1 := ⟨99 - i, by omega⟩
      rw [hq, doN_go b n q Lx ox hov] at hr
      obtain ⟨rfl, hr2⟩ := Prod.mk.inj hr
      refine ge_round (i + 1, goL b n Lx ox, goO b n Lx ox, _) ⟨(doN b n q (goL b n Lx ox) (goO b n Lx ox)).1, by omega, by show i + 1 ≤ 100; omega, by show doN b n (100 - (i + 1)) _ _ = _; rw [show 100 - (i + 1) = q by omega, ← hr2], ⟨hI1.n1, hI1.n64, by rw [goL_len]; exact hI1.len, by rw [goL_len]; exact hI1.top⟩, goL_in hI2 hI3, goO_in hI2 hI3⟩ (by show 100 - (i + 1) < 100 - i; omega) (Keep.cons rfl (Keep.cons rfl (Keep.nil))) (To.sat (by repeat (first | exact .nil | exact .done .refl | (apply To.cons; · (repeat (first | exact .head | apply Sel.tail))) | exact .done (by repeat (first | exact .refl | apply Drop.skip)))))
    ·
      first | replace hc2 := of_decide_eq_true hc2 | replace hc2 := lt_f hc2 | replace hc2 := le_f hc2 | replace hc2 := dec_f hc2 | replace hc2 := nlt_t hc2 | replace hc2 := nle_t hc2 | replace hc2 := ndec_t hc2 | replace hc2 := ndec_f hc2 | replace hc2 := nn_t hc2 | replace hc2 := nn_f hc2 | skip
      have hov : ox.over = true := hc2
      refine g_exit ?_
      refine ge_then_exit ?_
      refine ge_then_exit ?_
      refine ge_block_exit ?_
      refine ge_then ?_
      refine g_seq ?_
      have hre : doN b n (100 - i) Lx ox = (0, Lx, ox) := by first | exact doN_over _ _ _ _ _ hov | (rw [show 100 - i = 0 by omega]; rfl)
      rw [hre] at hr
      obtain ⟨rfl, hr2⟩ := Prod.mk.inj hr
      obtain ⟨rfl, rfl⟩ := Prod.mk.inj hr2
      obtain rfl : i = k := by omega
      refine g_region ?_
      refine gl_v rfl (o_move rfl) ?_
      refine gl_c rfl (o_call rfl (Outcome_spec p r ox) (by repeat (first | exact .nil | (apply Part.cons; · (repeat (first | exact .head | apply Sel.tail)))))) ?_
      rintro _ R ⟨_, ⟨rfl, rfl⟩, rfl⟩
      try simp only [List.cons_append, List.nil_append]
      refine gl_v rfl (o_move rfl) ?_
      refine gl_c rfl (o_call rfl (Value_spec p r ox) (by repeat (first | exact .nil | (apply Part.cons; · (repeat (first | exact .head | apply Sel.tail)))))) ?_
      rintro _ R ⟨_, ⟨rfl, rfl⟩, rfl⟩
      try simp only [List.cons_append, List.nil_append]
      refine gl_v rfl (o_move rfl) ?_
      refine gl_v rfl (o_assign rfl) ?_
      refine gl_v rfl (o_assign rfl) ?_
      refine gl_v rfl (o_assign rfl) ?_
      refine gl_nil ?_
      refine ge_then ?_
      refine g_ret ?_
      refine ret3 (.inl rfl) rfl rfl rfl rfl _ (⟨_, rfl, rfl⟩) (To.sat (by repeat (first | exact .nil | exact .done .refl | (apply To.cons; · (repeat (first | exact .head | apply Sel.tail))) | exact .done (by repeat (first | exact .refl | apply Drop.skip)))))
  ·
    have hc1' := hc1
    first | replace hc1' := of_decide_eq_true hc1' | replace hc1' := lt_f hc1' | replace hc1' := le_f hc1' | replace hc1' := dec_f hc1' | replace hc1' := nlt_t hc1' | replace hc1' := nle_t hc1' | replace hc1' := ndec_t hc1' | replace hc1' := ndec_f hc1' | replace hc1' := nn_t hc1' | replace hc1' := nn_f hc1' | skip
    simp only [putO]
    refine gl_gF rfl rfl hc1 rfl ?_
    refine gl_gF rfl rfl hc1 rfl ?_
    refine gl_v rfl (o_pickF hc1 rfl rfl) ?_
    refine gl_nil ?_
    refine ge_then ?_
    refine g_cond_false rfl ?_
    refine g_exit ?_
    refine ge_then_exit ?_
    refine ge_then_exit ?_
    refine ge_block_exit ?_
    refine ge_then ?_
    refine g_seq ?_
    have hre : doN b n (100 - i) Lx ox = (0, Lx, ox) := by first | exact doN_over _ _ _ _ _ hov | (rw [show 100 - i = 0 by omega]; rfl)
    rw [hre] at hr
    obtain ⟨rfl, hr2⟩ := Prod.mk.inj hr
    obtain ⟨rfl, rfl⟩ := Prod.mk.inj hr2
    obtain rfl : i = k := by omega
    refine g_region ?_
    refine gl_v rfl (o_move rfl) ?_
    refine gl_c rfl (o_call rfl (Outcome_spec p r ox) (by repeat (first | exact .nil | (apply Part.cons; · (repeat (first | exact .head | apply Sel.tail)))))) ?_
    rintro _ R ⟨_, ⟨rfl, rfl⟩, rfl⟩
    try simp only [List.cons_append, List.nil_append]
    refine gl_v rfl (o_move rfl) ?_
    refine gl_c rfl (o_call rfl (Value_spec p r ox) (by repeat (first | exact .nil | (apply Part.cons; · (repeat (first | exact .head | apply Sel.tail)))))) ?_
    rintro _ R ⟨_, ⟨rfl, rfl⟩, rfl⟩
    try simp only [List.cons_append, List.nil_append]
    refine gl_v rfl (o_move rfl) ?_
    refine gl_v rfl (o_assign rfl) ?_
    refine gl_v rfl (o_assign rfl) ?_
    refine gl_v rfl (o_assign rfl) ?_
    refine gl_nil ?_
    refine ge_then ?_
    refine g_ret ?_
    refine ret3 (.inl rfl) rfl rfl rfl rfl _ (⟨_, rfl, rfl⟩) (To.sat (by repeat (first | exact .nil | exact .done .refl | (apply To.cons; · (repeat (first | exact .head | apply Sel.tail))) | exact .done (by repeat (first | exact .refl | apply Drop.skip)))))

theorem made_spec (n : Nat) (h1 : 1 ≤ n) (h2 : n ≤ 64) : FnS Try.prog 23 [I64 n] []
      (fun u Bs => ∃ r m t, u = ptr r 0 ∧ Bs = [memA m (List.replicate (2 + 2 * n) 0) t, ringA r m 0 n]) := by
  refine fn_body Try.func23 rfl rfl rfl ?_
  intro W0 R
  simp only [List.zipIdx_cons, List.zipIdx_nil, List.map_cons, List.map_nil, Nat.zero_add, Nat.reduceAdd, List.cons_append, List.nil_append]
  have hc : cnt ((2 + 2 * n : Nat) : Int) = 2 + 2 * n := by have := cnt_of ((2 + 2 * n : Nat) : Int) (by omega); omega
  refine g_seq ?_
  refine g_region ?_
  refine gl_v rfl (o_assign rfl) ?_
  refine gl_nil ?_
  refine ge_then ?_
  refine g_seq ?_
  refine g_region ?_
  refine gl_v rfl (o_move rfl) ?_
  refine gl_v rfl (o_mulR _ (by first | exact wr_i64 (by omega) | rfl) rfl rfl) ?_
  refine gl_v rfl (o_addR ((2 + 2 * n : Nat) : Int) (by first | exact wr_i64 (by omega) | (rw [wr_i64 (by omega)]; omega)) rfl rfl) ?_
  refine gl_c rfl (o_call rfl (New_spec ((2 + 2 * n : Nat) : Int)) (by repeat (first | exact .nil | (apply Part.cons; · (repeat (first | exact .head | apply Sel.tail)))))) ?_
  rintro _ R ⟨_, ⟨m, rfl, rfl⟩, rfl⟩
  try simp only [List.cons_append, List.nil_append]
  rw [hc]
  refine gl_v rfl (o_move rfl) ?_
  refine gl_c rfl (o_call rfl (Make_spec m 0 n (List.replicate (2 + 2 * n) 0) 0 ⟨h1, h2, by simp, by simp; omega⟩) (by repeat (first | exact .nil | (apply Part.cons; · (repeat (first | exact .head | apply Sel.tail)))))) ?_
  rintro _ R ⟨_, ⟨r, rfl, rfl⟩, rfl⟩
  try simp only [List.cons_append, List.nil_append]
  rw [zap_rep]
  refine gl_v rfl (o_move rfl) ?_
  refine gl_v rfl (o_extract rfl rfl) ?_
  refine gl_v rfl (o_extract rfl rfl) ?_
  refine gl_v rfl (o_assign rfl) ?_
  refine gl_v rfl (o_assign rfl) ?_
  refine gl_nil ?_
  refine ge_then ?_
  refine g_seq ?_
  refine g_seq ?_
  refine g_region ?_
  refine gl_v rfl (o_move rfl) ?_
  refine gl_v rfl (o_neq rfl rfl) ?_
  refine gl_nil ?_
  refine ge_then ?_
  refine g_cond_false (rfl) ?_
  refine g_skip ?_
  refine ge_then ?_
  refine g_seq ?_
  refine g_region ?_
  refine gl_v rfl (o_move rfl) ?_
  refine gl_v rfl (o_assign rfl) ?_
  refine gl_nil ?_
  refine ge_then ?_
  refine g_ret ?_
  refine ret1 (.inl rfl) rfl rfl _ (⟨_, _, _, rfl, rfl⟩) (To.sat (by repeat (first | exact .nil | exact .done .refl | (apply To.cons; · (repeat (first | exact .head | apply Sel.tail))) | exact .done (by repeat (first | exact .refl | apply Drop.skip)))))

theorem rSame_spec (v u : Value) (X Y : List Int) (hX : X.length ≤ 4611686018427387904) (hY : Y.length ≤ 4611686018427387904) (A B : Assn) [RdA v A X.length (X.map U64)] [RdA u B Y.length (Y.map U64)] : FnS Try.prog 17 [v, u] [A, B]
      (fun x Bs => x = .bool (decide (X = Y)) ∧ Bs = [A, B]) := by
  refine fn_body Try.func17 rfl rfl rfl ?_
  intro W0 R
  simp only [List.zipIdx_cons, List.zipIdx_nil, List.map_cons, List.map_nil, Nat.zero_add, Nat.reduceAdd, List.cons_append, List.nil_append]
  refine g_seq ?_
  refine g_region ?_
  refine gl_v rfl (o_assign rfl) ?_
  refine gl_nil ?_
  refine ge_then ?_
  refine g_seq ?_
  refine g_seq ?_
  refine g_region ?_
  refine gl_v rfl (o_move rfl) ?_
  refine gl_v rfl (o_len rfl) ?_
  refine gl_v rfl (o_move rfl) ?_
  refine gl_v rfl (o_len rfl) ?_
  refine gl_v rfl (o_neq rfl rfl) ?_
  refine gl_nil ?_
  refine ge_then ?_
  refine g_cond rfl (fun hc1 => ?_) (fun hc1 => ?_)
  ·
    first | replace hc1 := of_decide_eq_true hc1 | replace hc1 := lt_f hc1 | replace hc1 := le_f hc1 | replace hc1 := dec_f hc1 | replace hc1 := nlt_t hc1 | replace hc1 := nle_t hc1 | replace hc1 := ndec_t hc1 | replace hc1 := ndec_f hc1 | replace hc1 := nn_t hc1 | replace hc1 := nn_f hc1 | skip
    refine g_seq ?_
    refine g_region ?_
    refine gl_v rfl (o_assign rfl) ?_
    refine gl_nil ?_
    refine ge_then ?_
    refine g_ret ?_
    refine ge_then_ret ?_
    refine ret1 (.inl rfl) rfl rfl _ (⟨by first | exact (congrArg Value.bool (decide_eq_false (fun e => hc1 (by rw [e])))).symm | exact (congrArg Value.bool (decide_eq_false (fun e => hc3 (by rw [e])))).symm | exact (congrArg Value.bool (decide_eq_true (by rw [List.take_of_length_le (by omega), List.take_of_length_le (by omega)] at hkk; exact hkk))).symm, rfl⟩) (To.sat (by repeat (first | exact .nil | exact .done .refl | (apply To.cons; · (repeat (first | exact .head | apply Sel.tail))) | exact .done (by repeat (first | exact .refl | apply Drop.skip)))))
  ·
    first | replace hc1 := of_decide_eq_true hc1 | replace hc1 := lt_f hc1 | replace hc1 := le_f hc1 | replace hc1 := dec_f hc1 | replace hc1 := nlt_t hc1 | replace hc1 := nle_t hc1 | replace hc1 := ndec_t hc1 | replace hc1 := ndec_f hc1 | replace hc1 := nn_t hc1 | replace hc1 := nn_f hc1 | skip
    refine g_skip ?_
    refine ge_then ?_
    refine g_seq ?_
    refine g_seq ?_
    refine g_region ?_
    refine gl_v rfl (o_assign rfl) ?_
    refine gl_nil ?_
    refine ge_then ?_
    refine g_block ?_
    refine g_loop (ι := Nat) (fun x => x ≤ X.length ∧ X.take x = Y.take x) (fun x => [(5, I64 x), (0, v), (1, u)]) (fun x => A :: B :: R) (fun x => X.length - x) 0 (⟨Nat.zero_le _, rfl⟩) (Keep.cons rfl (Keep.cons rfl (Keep.cons rfl (Keep.nil)))) (To.sat (by repeat (first | exact .nil | exact .done .refl | (apply To.cons; · (repeat (first | exact .head | apply Sel.tail))) | exact .done (by repeat (first | exact .refl | apply Drop.skip))))) ?_
    rintro k ⟨hk, hkk⟩
    have hk : k ≤ X.length := hk
    refine g_seq ?_
    refine g_seq ?_
    refine g_region ?_
    refine gl_v rfl (o_move rfl) ?_
    refine gl_v rfl (o_move rfl) ?_
    refine gl_v rfl (o_len rfl) ?_
    refine gl_v rfl (o_lss rfl rfl) ?_
    refine gl_nil ?_
    refine ge_then ?_
    refine g_cond rfl (fun hc2 => ?_) (fun hc2 => ?_)
    ·
      first | replace hc2 := of_decide_eq_true hc2 | replace hc2 := lt_f hc2 | replace hc2 := le_f hc2 | replace hc2 := dec_f hc2 | replace hc2 := nlt_t hc2 | replace hc2 := nle_t hc2 | replace hc2 := ndec_t hc2 | replace hc2 := ndec_f hc2 | replace hc2 := nn_t hc2 | replace hc2 := nn_f hc2 | skip
      refine g_skip ?_
      refine ge_then ?_
      refine g_seq ?_
      refine g_block ?_
      refine g_seq ?_
      refine g_draw [] [] [(0, .loc), (1, .loc), (2, .loc), (3, .loc), (4, .loc), (5, .loc), (6, .loc), (7, .loc), (8, .loc)] [A, B] mixed (by kernel_rfl) ?_
      refine go_v rfl .none rfl (o_move rfl) ?_
      refine go_v rfl .none rfl (o_move rfl) ?_
      refine go_v rfl .none rfl (o_idxS rfl rfl (by omega)) ?_
      refine go_v rfl .none rfl (o_loadS rfl (map_at (d := 0) (by omega))) ?_
      refine go_v rfl .none rfl (o_move rfl) ?_
      refine go_v rfl .none rfl (o_move rfl) ?_
      refine go_v rfl .none rfl (o_idxS rfl rfl (by omega)) ?_
      refine go_v rfl .none rfl (o_loadS rfl (map_at (d := 0) (by omega))) ?_
      refine go_v rfl .none rfl (o_neq rfl rfl) ?_
      refine go_nil ?_
      refine ge_then ?_
      refine g_cond rfl (fun hc3 => ?_) (fun hc3 => ?_)
      ·
        first | replace hc3 := of_decide_eq_true hc3 | replace hc3 := lt_f hc3 | replace hc3 := le_f hc3 | replace hc3 := dec_f hc3 | replace hc3 := nlt_t hc3 | replace hc3 := nle_t hc3 | replace hc3 := ndec_t hc3 | replace hc3 := ndec_f hc3 | replace hc3 := nn_t hc3 | replace hc3 := nn_f hc3 | skip
        refine g_seq ?_
        refine g_region ?_
        refine gl_v rfl (o_assign rfl) ?_
        refine gl_nil ?_
        refine ge_then ?_
        refine g_ret ?_
        refine ge_block_ret ?_
        refine ge_then_ret ?_
        refine ge_then_ret ?_
        refine ge_block_ret ?_
        refine ge_then_ret ?_
        refine ret1 (.inl rfl) rfl rfl _ (⟨by first | exact (congrArg Value.bool (decide_eq_false (fun e => hc1 (by rw [e])))).symm | exact (congrArg Value.bool (decide_eq_false (fun e => hc3 (by rw [e])))).symm | exact (congrArg Value.bool (decide_eq_true (by rw [List.take_of_length_le (by omega), List.take_of_length_le (by omega)] at hkk; exact hkk))).symm, rfl⟩) (To.sat (by repeat (first | exact .nil | exact .done .refl | (apply To.cons; · (repeat (first | exact .head | apply Sel.tail))) | exact .done (by repeat (first | exact .refl | apply Drop.skip)))))
      ·
        first | replace hc3 := of_decide_eq_true hc3 | replace hc3 := lt_f hc3 | replace hc3 := le_f hc3 | replace hc3 := dec_f hc3 | replace hc3 := nlt_t hc3 | replace hc3 := nle_t hc3 | replace hc3 := ndec_t hc3 | replace hc3 := ndec_f hc3 | replace hc3 := nn_t hc3 | replace hc3 := nn_f hc3 | skip
        refine g_skip ?_
        refine ge_block ?_
        refine ge_then ?_
        refine g_region ?_
        refine gl_v rfl (o_move rfl) ?_
        refine gl_v rfl (o_addR _ (by first | exact wr_i64 (by omega) | rfl) rfl rfl) ?_
        refine gl_v rfl (o_assign rfl) ?_
        refine gl_nil ?_
        refine ge_round (k + 1) ⟨by omega, take_ext hkk (by omega) (by omega) hc3⟩ (by omega) (Keep.cons rfl (Keep.cons rfl (Keep.cons rfl (Keep.nil)))) (To.sat (by repeat (first | exact .nil | exact .done .refl | (apply To.cons; · (repeat (first | exact .head | apply Sel.tail))) | exact .done (by repeat (first | exact .refl | apply Drop.skip)))))
    ·
      first | replace hc2 := of_decide_eq_true hc2 | replace hc2 := lt_f hc2 | replace hc2 := le_f hc2 | replace hc2 := dec_f hc2 | replace hc2 := nlt_t hc2 | replace hc2 := nle_t hc2 | replace hc2 := ndec_t hc2 | replace hc2 := ndec_f hc2 | replace hc2 := nn_t hc2 | replace hc2 := nn_f hc2 | skip
      refine g_exit ?_
      refine ge_then_exit ?_
      refine ge_then_exit ?_
      refine ge_block_exit ?_
      refine ge_then ?_
      refine g_seq ?_
      refine g_region ?_
      refine gl_v rfl (o_assign rfl) ?_
      refine gl_nil ?_
      refine ge_then ?_
      refine g_ret ?_
      refine ret1 (.inl rfl) rfl rfl _ (⟨by first | exact (congrArg Value.bool (decide_eq_false (fun e => hc1 (by rw [e])))).symm | exact (congrArg Value.bool (decide_eq_false (fun e => hc3 (by rw [e])))).symm | exact (congrArg Value.bool (decide_eq_true (by rw [List.take_of_length_le (by omega), List.take_of_length_le (by omega)] at hkk; exact hkk))).symm, rfl⟩) (To.sat (by repeat (first | exact .nil | exact .done .refl | (apply To.cons; · (repeat (first | exact .head | apply Sel.tail))) | exact .done (by repeat (first | exact .refl | apply Drop.skip)))))

theorem rCount_spec (n : Int) : FnS Try.prog 38 [I64 n] [] (fun u Bs => u = I64 (cnt n) ∧ Bs = []) := by
  refine fn_body Try.func38 rfl rfl rfl ?_
  intro W0 R
  simp only [List.zipIdx_cons, List.zipIdx_nil, List.map_cons, List.map_nil, Nat.zero_add, Nat.reduceAdd, List.cons_append, List.nil_append]
  refine g_seq ?_
  refine g_region ?_
  refine gl_v rfl (o_assign rfl) ?_
  refine gl_nil ?_
  refine ge_then ?_
  refine g_seq ?_
  refine g_seq ?_
  refine g_region ?_
  refine gl_v rfl (o_move rfl) ?_
  refine gl_v rfl (o_lss rfl rfl) ?_
  refine gl_nil ?_
  refine ge_then ?_
  refine g_cond rfl (fun hc1 => ?_) (fun hc1 => ?_)
  ·
    first | replace hc1 := of_decide_eq_true hc1 | replace hc1 := lt_f hc1 | replace hc1 := le_f hc1 | replace hc1 := dec_f hc1 | replace hc1 := nlt_t hc1 | replace hc1 := nle_t hc1 | replace hc1 := ndec_t hc1 | replace hc1 := ndec_f hc1 | replace hc1 := nn_t hc1 | replace hc1 := nn_f hc1 | skip
    refine g_seq ?_
    refine g_region ?_
    refine gl_v rfl (o_assign rfl) ?_
    refine gl_nil ?_
    refine ge_then ?_
    refine g_ret ?_
    refine ge_then_ret ?_
    refine ret1 (.inl rfl) rfl rfl _ (⟨by congr 1; unfold cnt; (repeat' split) <;> omega, rfl⟩) (To.sat (by repeat (first | exact .nil | exact .done .refl | (apply To.cons; · (repeat (first | exact .head | apply Sel.tail))) | exact .done (by repeat (first | exact .refl | apply Drop.skip)))))
  ·
    first | replace hc1 := of_decide_eq_true hc1 | replace hc1 := lt_f hc1 | replace hc1 := le_f hc1 | replace hc1 := dec_f hc1 | replace hc1 := nlt_t hc1 | replace hc1 := nle_t hc1 | replace hc1 := ndec_t hc1 | replace hc1 := ndec_f hc1 | replace hc1 := nn_t hc1 | replace hc1 := nn_f hc1 | skip
    refine g_skip ?_
    refine ge_then ?_
    refine g_seq ?_
    refine g_seq ?_
    refine g_region ?_
    refine gl_v rfl (o_move rfl) ?_
    refine gl_v rfl (o_gtr rfl rfl) ?_
    refine gl_nil ?_
    refine ge_then ?_
    refine g_cond rfl (fun hc2 => ?_) (fun hc2 => ?_)
    ·
      first | replace hc2 := of_decide_eq_true hc2 | replace hc2 := lt_f hc2 | replace hc2 := le_f hc2 | replace hc2 := dec_f hc2 | replace hc2 := nlt_t hc2 | replace hc2 := nle_t hc2 | replace hc2 := ndec_t hc2 | replace hc2 := ndec_f hc2 | replace hc2 := nn_t hc2 | replace hc2 := nn_f hc2 | skip
      refine g_seq ?_
      refine g_region ?_
      refine gl_v rfl (o_assign rfl) ?_
      refine gl_nil ?_
      refine ge_then ?_
      refine g_ret ?_
      refine ge_then_ret ?_
      refine ret1 (.inl rfl) rfl rfl _ (⟨by congr 1; unfold cnt; (repeat' split) <;> omega, rfl⟩) (To.sat (by repeat (first | exact .nil | exact .done .refl | (apply To.cons; · (repeat (first | exact .head | apply Sel.tail))) | exact .done (by repeat (first | exact .refl | apply Drop.skip)))))
    ·
      first | replace hc2 := of_decide_eq_true hc2 | replace hc2 := lt_f hc2 | replace hc2 := le_f hc2 | replace hc2 := dec_f hc2 | replace hc2 := nlt_t hc2 | replace hc2 := nle_t hc2 | replace hc2 := ndec_t hc2 | replace hc2 := ndec_f hc2 | replace hc2 := nn_t hc2 | replace hc2 := nn_f hc2 | skip
      refine g_skip ?_
      refine ge_then ?_
      refine g_seq ?_
      refine g_region ?_
      refine gl_v rfl (o_move rfl) ?_
      refine gl_v rfl (o_assign rfl) ?_
      refine gl_nil ?_
      refine ge_then ?_
      refine g_ret ?_
      refine ret1 (.inl rfl) rfl rfl _ (⟨by congr 1; unfold cnt; (repeat' split) <;> omega, rfl⟩) (To.sat (by repeat (first | exact .nil | exact .done .refl | (apply To.cons; · (repeat (first | exact .head | apply Sel.tail))) | exact .done (by repeat (first | exact .refl | apply Drop.skip)))))

theorem rNew_spec (n : Int) : FnS Try.prog 16 [I64 n] [] (fun u Bs => ∃ p, u = ptr p 0 ∧ Bs = [rmemA p (List.replicate (cnt n) 0) 0]) := by
  refine fn_body Try.func16 rfl rfl rfl ?_
  intro W0 R
  simp only [List.zipIdx_cons, List.zipIdx_nil, List.map_cons, List.map_nil, Nat.zero_add, Nat.reduceAdd, List.cons_append, List.nil_append]
  refine g_seq ?_
  refine g_region ?_
  refine gl_v rfl (o_assign rfl) ?_
  refine gl_nil ?_
  refine ge_then ?_
  refine g_seq ?_
  refine g_region ?_
  refine gl_v rfl (o_move rfl) ?_
  refine gl_c rfl (o_call rfl (rCount_spec _) (by repeat (first | exact .nil | (apply Part.cons; · (repeat (first | exact .head | apply Sel.tail)))))) ?_
  rintro _ R ⟨_, ⟨rfl, rfl⟩, rfl⟩
  try simp only [List.cons_append, List.nil_append]
  refine gl_n rfl (o_makeS rfl rfl (by have := cnt_le n; unfold maxLen; omega) (by have := cnt_le n; omega)) ?_
  rintro _ _ ⟨a5, c5, rfl, rfl⟩
  refine gl_v rfl (o_build rfl rfl) ?_
  refine gl_n rfl (o_boxA rfl) ?_
  rintro _ _ ⟨b7, rfl, rfl⟩
  refine gl_v rfl (o_assign rfl) ?_
  refine gl_nil ?_
  refine ge_then ?_
  refine g_ret ?_
  refine ret1 (.inl rfl) rfl rfl [rmemA b7 (List.replicate (cnt n) 0) 0] (⟨_, rfl, rfl⟩) (rmem_close a5 c5 rfl rfl (by rw [rep_map U64, List.length_replicate]; exact (To.sat (by repeat (first | exact .nil | exact .done .refl | (apply To.cons; · (repeat (first | exact .head | apply Sel.tail))) | exact .done (by repeat (first | exact .refl | apply Drop.skip)))))))

def aOps : List RO := [⟨0, 0, 7, 0, 0⟩, ⟨0, 0, 8, 0, 0⟩, ⟨0, 0, 9, 0, 0⟩, ⟨5, 0, 0, 0, 0⟩, ⟨14, 0, 0, 0, 0⟩, ⟨0, 0, 1, 0, 0⟩, ⟨10, 0, 0, 0, 0⟩, ⟨10, 0, 0, 0, 0⟩]

theorem alive_spec : FnS Try.prog 10 [] [] (fun u Bs => u = .bool true ∧ Bs = []) := by
  refine fn_body Try.func10 rfl rfl rfl ?_
  intro W0 R
  simp only [List.zipIdx_cons, List.zipIdx_nil, List.map_cons, List.map_nil, Nat.zero_add, Nat.reduceAdd, List.cons_append, List.nil_append]
  refine g_seq ?_
  refine g_region ?_
  refine gl_v rfl (o_assign rfl) ?_
  refine gl_nil ?_
  refine ge_then ?_
  refine g_seq ?_
  refine g_region ?_
  refine gl_c rfl (o_call rfl (New_spec 6) (by repeat (first | exact .nil | (apply Part.cons; · (repeat (first | exact .head | apply Sel.tail)))))) ?_
  rintro _ R ⟨_, ⟨m, rfl, rfl⟩, rfl⟩
  try simp only [List.cons_append, List.nil_append]
  change GL _ _ _ _ _ _ (memA m [0, 0, 0, 0, 0, 0] 0 :: _) _
  refine gl_v rfl (o_assign rfl) ?_
  refine gl_nil ?_
  refine ge_then ?_
  refine g_seq ?_
  refine g_region ?_
  refine gl_v rfl (o_move rfl) ?_
  refine gl_c rfl (o_call rfl (Make_spec m 0 2 [0, 0, 0, 0, 0, 0] 0 ⟨by decide, by decide, by decide, by decide⟩) (by repeat (first | exact .nil | (apply Part.cons; · (repeat (first | exact .head | apply Sel.tail)))))) ?_
  rintro _ R ⟨_, ⟨r, rfl, rfl⟩, rfl⟩
  try simp only [List.cons_append, List.nil_append]
  change GL _ _ _ _ _ _ (memA m [0, 0, 0, 0, 0, 0] _ :: ringA r m 0 2 :: _) _
  refine gl_v rfl (o_move rfl) ?_
  refine gl_v rfl (o_extract rfl rfl) ?_
  refine gl_v rfl (o_extract rfl rfl) ?_
  refine gl_v rfl (o_assign rfl) ?_
  refine gl_v rfl (o_assign rfl) ?_
  refine gl_nil ?_
  refine ge_then ?_
  refine g_seq ?_
  refine g_seq ?_
  refine g_region ?_
  refine gl_v rfl (o_move rfl) ?_
  refine gl_v rfl (o_neq rfl rfl) ?_
  refine gl_v rfl (o_move rfl) ?_
  refine gl_gT rfl rfl rfl ?_
  refine gl_v rfl (o_move rfl) ?_
  refine gl_gT rfl rfl rfl ?_
  first | refine gl_v rfl (o_eqlPn rfl rfl) ?_ | refine gl_v rfl (o_eqlnn rfl rfl) ?_
  refine gl_v rfl (o_pickF rfl rfl rfl) ?_
  refine gl_v rfl (o_move rfl) ?_
  refine gl_gT rfl rfl rfl ?_
  refine gl_v rfl (o_move rfl) ?_
  refine gl_gT rfl rfl rfl ?_
  refine gl_c rfl (o_call rfl (All_spec m [0, 0, 0, 0, 0, 0] _ (by decide)) (by repeat (first | exact .nil | (apply Part.cons; · (repeat (first | exact .head | apply Sel.tail)))))) ?_
  rintro _ R ⟨_, ⟨a', c', rfl, rfl⟩, rfl⟩
  try simp only [List.cons_append, List.nil_append]
  refine gl_gT rfl rfl rfl ?_
  refine gl_n rfl (o_buildS rfl rfl rfl rfl) ?_
  rintro _ _ ⟨b43, rfl, rfl⟩
  refine gl_imp (own_lit (e := 28) (sz := 1) (k := 6) rfl (by decide)) ?_
  refine gl_gT rfl rfl rfl ?_
  refine gl_c rfl (o_call rfl (rSame_spec (.slice a' 6 c') (.slice (some ⟨b43, 0, none⟩) 6 6) [0, 0, 0, 0, 0, 0] [0, 0, 0, 0, 0, 0] (by decide) (by decide) (own (.slice a' 6 c') 28 1 6 [U64 0, U64 0, U64 0, U64 0, U64 0, U64 0]) (own (.slice (some ⟨b43, 0, none⟩) 6 6) 28 1 6 [U64 0, U64 0, U64 0, U64 0, U64 0, U64 0])) (by repeat (first | exact .nil | (apply Part.cons; · (repeat (first | exact .head | apply Sel.tail)))))) ?_
  rintro _ R ⟨_, ⟨rfl, rfl⟩, rfl⟩
  try simp only [List.cons_append, List.nil_append]
  refine gl_gT rfl rfl rfl ?_
  refine gl_v rfl (o_not rfl) ?_
  refine gl_v rfl (o_pickF rfl rfl rfl) ?_
  refine gl_nil ?_
  refine ge_then ?_
  refine g_cond_false (rfl) ?_
  refine g_skip ?_
  refine ge_then ?_
  refine g_seq ?_
  refine g_region ?_
  refine gl_v rfl (o_move rfl) ?_
  refine gl_c rfl (o_call rfl (Put_spec _ _) (by repeat (first | exact .nil | (apply Part.cons; · (repeat (first | exact .head | apply Sel.tail)))))) ?_
  rintro _ R ⟨_, ⟨p, rfl, rfl⟩, rfl⟩
  try simp only [List.cons_append, List.nil_append]
  refine gl_c rfl (o_call rfl (done_spec p r m 0 2 [0, 0, 0, 0, 0, 0] _ ⟨0, 0, 7, 0, 0⟩ ⟨by decide, by decide, by decide, by decide⟩ (by unfold LI; decide) ⟨by decide, by decide, by decide, by decide, by decide, by decide, by decide⟩ 5 [1, 0, 1, 7, 0, 0] ⟨4, 1, 0, 0, 0⟩ (by decide +kernel)) (by repeat (first | exact .nil | (apply Part.cons; · (repeat (first | exact .head | apply Sel.tail)))))) ?_
  rintro _ R ⟨_, ⟨t', rfl, rfl⟩, rfl⟩
  try simp only [List.cons_append, List.nil_append]
  refine gl_v rfl (o_move rfl) ?_
  refine gl_v rfl (o_extract rfl rfl) ?_
  refine gl_v rfl (o_extract rfl rfl) ?_
  refine gl_v rfl (o_extract rfl rfl) ?_
  refine gl_v rfl (o_assign rfl) ?_
  refine gl_v rfl (o_assign rfl) ?_
  refine gl_v rfl (o_assign rfl) ?_
  refine gl_nil ?_
  refine ge_then ?_
  refine g_seq ?_
  refine g_region ?_
  refine gl_v rfl (o_move rfl) ?_
  refine gl_c rfl (o_call rfl (Put_spec _ _) (by repeat (first | exact .nil | (apply Part.cons; · (repeat (first | exact .head | apply Sel.tail)))))) ?_
  rintro _ R ⟨_, ⟨p, rfl, rfl⟩, rfl⟩
  try simp only [List.cons_append, List.nil_append]
  refine gl_c rfl (o_call rfl (done_spec p r m 0 2 [1, 0, 1, 7, 0, 0] _ ⟨0, 0, 8, 0, 0⟩ ⟨by decide, by decide, by decide, by decide⟩ (by unfold LI; decide) ⟨by decide, by decide, by decide, by decide, by decide, by decide, by decide⟩ 5 [2, 0, 1, 7, 1, 8] ⟨4, 1, 0, 1, 0⟩ (by decide +kernel)) (by repeat (first | exact .nil | (apply Part.cons; · (repeat (first | exact .head | apply Sel.tail)))))) ?_
  rintro _ R ⟨_, ⟨t', rfl, rfl⟩, rfl⟩
  try simp only [List.cons_append, List.nil_append]
  refine gl_v rfl (o_move rfl) ?_
  refine gl_v rfl (o_extract rfl rfl) ?_
  refine gl_v rfl (o_extract rfl rfl) ?_
  refine gl_v rfl (o_extract rfl rfl) ?_
  refine gl_v rfl (o_assign rfl) ?_
  refine gl_v rfl (o_assign rfl) ?_
  refine gl_v rfl (o_assign rfl) ?_
  refine gl_nil ?_
  refine ge_then ?_
  refine g_seq ?_
  refine g_region ?_
  refine gl_v rfl (o_move rfl) ?_
  refine gl_c rfl (o_call rfl (Put_spec _ _) (by repeat (first | exact .nil | (apply Part.cons; · (repeat (first | exact .head | apply Sel.tail)))))) ?_
  rintro _ R ⟨_, ⟨p, rfl, rfl⟩, rfl⟩
  try simp only [List.cons_append, List.nil_append]
  refine gl_c rfl (o_call rfl (done_spec p r m 0 2 [2, 0, 1, 7, 1, 8] _ ⟨0, 0, 9, 0, 0⟩ ⟨by decide, by decide, by decide, by decide⟩ (by unfold LI; decide) ⟨by decide, by decide, by decide, by decide, by decide, by decide, by decide⟩ 2 [2, 0, 1, 7, 1, 8] ⟨1, 2, 9, 2, 0⟩ (by decide +kernel)) (by repeat (first | exact .nil | (apply Part.cons; · (repeat (first | exact .head | apply Sel.tail)))))) ?_
  rintro _ R ⟨_, ⟨t', rfl, rfl⟩, rfl⟩
  try simp only [List.cons_append, List.nil_append]
  refine gl_v rfl (o_move rfl) ?_
  refine gl_v rfl (o_extract rfl rfl) ?_
  refine gl_v rfl (o_extract rfl rfl) ?_
  refine gl_v rfl (o_extract rfl rfl) ?_
  refine gl_v rfl (o_assign rfl) ?_
  refine gl_v rfl (o_assign rfl) ?_
  refine gl_v rfl (o_assign rfl) ?_
  refine gl_nil ?_
  refine ge_then ?_
  refine g_seq ?_
  refine g_region ?_
  refine gl_v rfl (o_move rfl) ?_
  refine gl_c rfl (o_call rfl (Take_spec _) (by repeat (first | exact .nil | (apply Part.cons; · (repeat (first | exact .head | apply Sel.tail)))))) ?_
  rintro _ R ⟨_, ⟨p, rfl, rfl⟩, rfl⟩
  try simp only [List.cons_append, List.nil_append]
  refine gl_c rfl (o_call rfl (done_spec p r m 0 2 [2, 0, 1, 7, 1, 8] _ ⟨5, 0, 0, 0, 0⟩ ⟨by decide, by decide, by decide, by decide⟩ (by unfold LI; decide) ⟨by decide, by decide, by decide, by decide, by decide, by decide, by decide⟩ 5 [2, 1, 2, 7, 1, 8] ⟨9, 1, 7, 0, 0⟩ (by decide +kernel)) (by repeat (first | exact .nil | (apply Part.cons; · (repeat (first | exact .head | apply Sel.tail)))))) ?_
  rintro _ R ⟨_, ⟨t', rfl, rfl⟩, rfl⟩
  try simp only [List.cons_append, List.nil_append]
  refine gl_v rfl (o_move rfl) ?_
  refine gl_v rfl (o_extract rfl rfl) ?_
  refine gl_v rfl (o_extract rfl rfl) ?_
  refine gl_v rfl (o_extract rfl rfl) ?_
  refine gl_v rfl (o_assign rfl) ?_
  refine gl_v rfl (o_assign rfl) ?_
  refine gl_v rfl (o_assign rfl) ?_
  refine gl_nil ?_
  refine ge_then ?_
  refine g_seq ?_
  refine g_region ?_
  refine gl_v rfl (o_move rfl) ?_
  refine gl_c rfl (o_call rfl (Close_spec _) (by repeat (first | exact .nil | (apply Part.cons; · (repeat (first | exact .head | apply Sel.tail)))))) ?_
  rintro _ R ⟨_, ⟨p, rfl, rfl⟩, rfl⟩
  try simp only [List.cons_append, List.nil_append]
  refine gl_c rfl (o_call rfl (done_spec p r m 0 2 [2, 1, 2, 7, 1, 8] _ ⟨14, 0, 0, 0, 0⟩ ⟨by decide, by decide, by decide, by decide⟩ (by unfold LI; decide) ⟨by decide, by decide, by decide, by decide, by decide, by decide, by decide⟩ 2 [9223372036854775810, 1, 2, 7, 1, 8] ⟨14, 1, 0, 0, 0⟩ (by decide +kernel)) (by repeat (first | exact .nil | (apply Part.cons; · (repeat (first | exact .head | apply Sel.tail)))))) ?_
  rintro _ R ⟨_, ⟨t', rfl, rfl⟩, rfl⟩
  try simp only [List.cons_append, List.nil_append]
  refine gl_v rfl (o_move rfl) ?_
  refine gl_v rfl (o_extract rfl rfl) ?_
  refine gl_v rfl (o_extract rfl rfl) ?_
  refine gl_v rfl (o_extract rfl rfl) ?_
  refine gl_v rfl (o_assign rfl) ?_
  refine gl_v rfl (o_assign rfl) ?_
  refine gl_v rfl (o_assign rfl) ?_
  refine gl_nil ?_
  refine ge_then ?_
  refine g_seq ?_
  refine g_region ?_
  refine gl_v rfl (o_move rfl) ?_
  refine gl_c rfl (o_call rfl (Put_spec _ _) (by repeat (first | exact .nil | (apply Part.cons; · (repeat (first | exact .head | apply Sel.tail)))))) ?_
  rintro _ R ⟨_, ⟨p, rfl, rfl⟩, rfl⟩
  try simp only [List.cons_append, List.nil_append]
  refine gl_c rfl (o_call rfl (done_spec p r m 0 2 [9223372036854775810, 1, 2, 7, 1, 8] _ ⟨0, 0, 1, 0, 0⟩ ⟨by decide, by decide, by decide, by decide⟩ (by unfold LI; decide) ⟨by decide, by decide, by decide, by decide, by decide, by decide, by decide⟩ 1 [9223372036854775810, 1, 2, 7, 1, 8] ⟨1, 3, 1, 9223372036854775810, 0⟩ (by decide +kernel)) (by repeat (first | exact .nil | (apply Part.cons; · (repeat (first | exact .head | apply Sel.tail)))))) ?_
  rintro _ R ⟨_, ⟨t', rfl, rfl⟩, rfl⟩
  try simp only [List.cons_append, List.nil_append]
  refine gl_v rfl (o_move rfl) ?_
  refine gl_v rfl (o_extract rfl rfl) ?_
  refine gl_v rfl (o_extract rfl rfl) ?_
  refine gl_v rfl (o_extract rfl rfl) ?_
  refine gl_v rfl (o_assign rfl) ?_
  refine gl_v rfl (o_assign rfl) ?_
  refine gl_v rfl (o_assign rfl) ?_
  refine gl_nil ?_
  refine ge_then ?_
  refine g_seq ?_
  refine g_region ?_
  refine gl_v rfl (o_move rfl) ?_
  refine gl_c rfl (o_call rfl (Drain_spec _) (by repeat (first | exact .nil | (apply Part.cons; · (repeat (first | exact .head | apply Sel.tail)))))) ?_
  rintro _ R ⟨_, ⟨p, rfl, rfl⟩, rfl⟩
  try simp only [List.cons_append, List.nil_append]
  refine gl_c rfl (o_call rfl (done_spec p r m 0 2 [9223372036854775810, 1, 2, 7, 1, 8] _ ⟨10, 0, 0, 0, 0⟩ ⟨by decide, by decide, by decide, by decide⟩ (by unfold LI; decide) ⟨by decide, by decide, by decide, by decide, by decide, by decide, by decide⟩ 6 [9223372036854775810, 2, 2, 7, 2, 8] ⟨9, 1, 8, 0, 1⟩ (by decide +kernel)) (by repeat (first | exact .nil | (apply Part.cons; · (repeat (first | exact .head | apply Sel.tail)))))) ?_
  rintro _ R ⟨_, ⟨t', rfl, rfl⟩, rfl⟩
  try simp only [List.cons_append, List.nil_append]
  refine gl_v rfl (o_move rfl) ?_
  refine gl_v rfl (o_extract rfl rfl) ?_
  refine gl_v rfl (o_extract rfl rfl) ?_
  refine gl_v rfl (o_extract rfl rfl) ?_
  refine gl_v rfl (o_assign rfl) ?_
  refine gl_v rfl (o_assign rfl) ?_
  refine gl_v rfl (o_assign rfl) ?_
  refine gl_nil ?_
  refine ge_then ?_
  refine g_seq ?_
  refine g_region ?_
  refine gl_v rfl (o_move rfl) ?_
  refine gl_c rfl (o_call rfl (Drain_spec _) (by repeat (first | exact .nil | (apply Part.cons; · (repeat (first | exact .head | apply Sel.tail)))))) ?_
  rintro _ R ⟨_, ⟨p, rfl, rfl⟩, rfl⟩
  try simp only [List.cons_append, List.nil_append]
  refine gl_c rfl (o_call rfl (done_spec p r m 0 2 [9223372036854775810, 2, 2, 7, 2, 8] _ ⟨10, 0, 0, 0, 0⟩ ⟨by decide, by decide, by decide, by decide⟩ (by unfold LI; decide) ⟨by decide, by decide, by decide, by decide, by decide, by decide, by decide⟩ 2 [9223372036854775810, 2, 2, 7, 2, 8] ⟨6, 5, 9223372036854775810, 0, 2⟩ (by decide +kernel)) (by repeat (first | exact .nil | (apply Part.cons; · (repeat (first | exact .head | apply Sel.tail)))))) ?_
  rintro _ R ⟨_, ⟨t', rfl, rfl⟩, rfl⟩
  try simp only [List.cons_append, List.nil_append]
  refine gl_v rfl (o_move rfl) ?_
  refine gl_v rfl (o_extract rfl rfl) ?_
  refine gl_v rfl (o_extract rfl rfl) ?_
  refine gl_v rfl (o_extract rfl rfl) ?_
  refine gl_v rfl (o_assign rfl) ?_
  refine gl_v rfl (o_assign rfl) ?_
  refine gl_v rfl (o_assign rfl) ?_
  refine gl_nil ?_
  refine ge_then ?_
  refine g_seq ?_
  refine g_region ?_
  refine gl_v rfl (o_move rfl) ?_
  refine gl_v rfl (o_eql rfl rfl) ?_
  refine gl_v rfl (o_move rfl) ?_
  refine gl_gT rfl rfl rfl ?_
  refine gl_v rfl (o_move rfl) ?_
  refine gl_gT rfl rfl rfl ?_
  refine gl_v rfl (o_eql rfl rfl) ?_
  refine gl_v rfl (o_pickT rfl rfl rfl) ?_
  refine gl_v rfl (o_move rfl) ?_
  refine gl_gT rfl rfl rfl ?_
  refine gl_v rfl (o_move rfl) ?_
  refine gl_gT rfl rfl rfl ?_
  refine gl_v rfl (o_eql rfl rfl) ?_
  refine gl_v rfl (o_pickT rfl rfl rfl) ?_
  refine gl_v rfl (o_move rfl) ?_
  refine gl_gT rfl rfl rfl ?_
  refine gl_v rfl (o_move rfl) ?_
  refine gl_gT rfl rfl rfl ?_
  refine gl_v rfl (o_eql rfl rfl) ?_
  refine gl_v rfl (o_pickT rfl rfl rfl) ?_
  refine gl_v rfl (o_move rfl) ?_
  refine gl_gT rfl rfl rfl ?_
  refine gl_v rfl (o_move rfl) ?_
  refine gl_gT rfl rfl rfl ?_
  refine gl_v rfl (o_eql rfl rfl) ?_
  refine gl_v rfl (o_pickT rfl rfl rfl) ?_
  refine gl_v rfl (o_move rfl) ?_
  refine gl_gT rfl rfl rfl ?_
  refine gl_v rfl (o_move rfl) ?_
  refine gl_gT rfl rfl rfl ?_
  refine gl_v rfl (o_eql rfl rfl) ?_
  refine gl_v rfl (o_pickT rfl rfl rfl) ?_
  refine gl_v rfl (o_move rfl) ?_
  refine gl_gT rfl rfl rfl ?_
  refine gl_v rfl (o_move rfl) ?_
  refine gl_gT rfl rfl rfl ?_
  refine gl_v rfl (o_eql rfl rfl) ?_
  refine gl_v rfl (o_pickT rfl rfl rfl) ?_
  refine gl_v rfl (o_move rfl) ?_
  refine gl_gT rfl rfl rfl ?_
  refine gl_v rfl (o_move rfl) ?_
  refine gl_gT rfl rfl rfl ?_
  refine gl_v rfl (o_eql rfl rfl) ?_
  refine gl_v rfl (o_pickT rfl rfl rfl) ?_
  refine gl_v rfl (o_move rfl) ?_
  refine gl_gT rfl rfl rfl ?_
  refine gl_v rfl (o_move rfl) ?_
  refine gl_gT rfl rfl rfl ?_
  refine gl_v rfl (o_eql rfl rfl) ?_
  refine gl_v rfl (o_pickT rfl rfl rfl) ?_
  refine gl_v rfl (o_move rfl) ?_
  refine gl_gT rfl rfl rfl ?_
  refine gl_v rfl (o_move rfl) ?_
  refine gl_gT rfl rfl rfl ?_
  refine gl_v rfl (o_eql rfl rfl) ?_
  refine gl_v rfl (o_pickT rfl rfl rfl) ?_
  refine gl_v rfl (o_move rfl) ?_
  refine gl_gT rfl rfl rfl ?_
  refine gl_v rfl (o_move rfl) ?_
  refine gl_gT rfl rfl rfl ?_
  refine gl_v rfl (o_eql rfl rfl) ?_
  refine gl_v rfl (o_pickT rfl rfl rfl) ?_
  refine gl_v rfl (o_move rfl) ?_
  refine gl_gT rfl rfl rfl ?_
  refine gl_v rfl (o_move rfl) ?_
  refine gl_gT rfl rfl rfl ?_
  refine gl_v rfl (o_eql rfl rfl) ?_
  refine gl_v rfl (o_pickT rfl rfl rfl) ?_
  refine gl_v rfl (o_move rfl) ?_
  refine gl_gT rfl rfl rfl ?_
  refine gl_v rfl (o_move rfl) ?_
  refine gl_gT rfl rfl rfl ?_
  refine gl_v rfl (o_eql rfl rfl) ?_
  refine gl_v rfl (o_pickT rfl rfl rfl) ?_
  refine gl_v rfl (o_move rfl) ?_
  refine gl_gT rfl rfl rfl ?_
  refine gl_v rfl (o_move rfl) ?_
  refine gl_gT rfl rfl rfl ?_
  refine gl_v rfl (o_eql rfl rfl) ?_
  refine gl_v rfl (o_pickT rfl rfl rfl) ?_
  refine gl_v rfl (o_move rfl) ?_
  refine gl_gT rfl rfl rfl ?_
  refine gl_v rfl (o_move rfl) ?_
  refine gl_gT rfl rfl rfl ?_
  refine gl_v rfl (o_eql rfl rfl) ?_
  refine gl_v rfl (o_pickT rfl rfl rfl) ?_
  refine gl_v rfl (o_assign rfl) ?_
  refine gl_nil ?_
  refine ge_then ?_
  refine g_ret ?_
  refine ret1 (.inl rfl) rfl rfl _ (⟨rfl, rfl⟩) (To.sat (by repeat (first | exact .nil | exact .done .refl | (apply To.cons; · (repeat (first | exact .head | apply Sel.tail))) | exact .done (by repeat (first | exact .refl | apply Drop.skip)))))

end Go.Proofs.Ytnkcgfllehohbaa.L
