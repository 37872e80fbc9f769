/-
  Parse: when two programs are the same. Own work, printed in part by a program of its own.
-/
import Derived.Test.YtgmdlhlmffdbhaaGreatDoorParT
import Derived.Test.YtgmdlhlmffdbhaaGreatDoorParW
set_option linter.unusedSimpArgs false
set_option linter.unusedVariables false
set_option linter.unusedSectionVars false
namespace Go.Proofs.YtgmdlhlmffdbhaaGreatDoor.L
open Go.L Go.L.Lx Go.L.Pg Go.L.Pa

theorem flatEq_Cas (x y : Cas) : flatEq (casC x) (casC y) = decide (x = y) := by
  cases x; cases y
  rw [Bool.eq_iff_iff, decide_eq_true_eq]
  simp [flatEq, casC, S_toList, and_assoc]

set_option maxRecDepth 8000 in
set_option maxHeartbeats 1000000 in
theorem Eq_Cas (L1 L2 : List Cas) (a1 a2 : Option Addr) (c1 c2 : Nat) (M : Assn) (hn : L1.length ≤ 9223372036854775807) (h1 : ∀ h, M h → SlR h (.slice a1 L1.length c1) L1.length (L1.flatMap casC)) (h2 : ∀ h, M h → SlR h (.slice a2 L2.length c2) L2.length (L2.flatMap casC)) : FnS Tryz.prog 27 [.slice a1 L1.length c1, .slice a2 L2.length c2] [M] (fun u Bs => u = .bool (sameL (fun x y => decide (x = y)) L1 L2) ∧ Bs = [M]) := by
 refine fn_body Tryz.func27 rfl rfl rfl ?_
 intro W0 R
 simp only [List.zipIdx_cons, List.zipIdx_nil, List.map_cons, List.map_nil, Nat.zero_add, Nat.reduceAdd, List.cons_append, List.nil_append]
 haveI r1 : RdA (.slice a1 L1.length c1) M L1.length (L1.flatMap casC) := ⟨fun a => h1 _ a⟩
 haveI r2 : RdA (.slice a2 L2.length c2) M L2.length (L2.flatMap casC) := ⟨fun a => h2 _ a⟩
 refine g_seq ?_
 refine g_region ?_
 refine gl_v rfl (o_assign rfl) ?_
 refine gl_nil ?_
 refine ge_then ?_
 refine g_seq ?_
 refine g_seq ?_
 refine g_region ?_
 refine gl_v rfl (o_move rfl) ?_
 first | refine gl_v rfl (o_len rfl) ?_ | refine gl_v rfl (o_lenL rfl) ?_
 refine gl_v rfl (o_move rfl) ?_
 first | refine gl_v rfl (o_len rfl) ?_ | refine gl_v rfl (o_lenL rfl) ?_
 refine gl_v rfl (o_neq rfl rfl) ?_
 refine gl_nil ?_
 refine ge_then ?_
 refine g_cond rfl (fun hc1 => ?_) (fun hc1 => ?_)
 ·
  replace hc1 := hs_ hc1
  have hf : sameL (fun x y => decide (x = y)) L1 L2 = false := sameL_len (by omega)
  refine g_seq ?_
  refine g_region ?_
  refine gl_v rfl (o_assign rfl) ?_
  refine gl_nil ?_
  refine ge_then ?_
  refine g_ret ?_
  refine ge_then_ret ?_
  refine ret1 (.inl rfl) rfl rfl _ (⟨by rw [hf], rfl⟩) (tO)
 ·
  replace hc1 := hs_ hc1
  refine g_skip ?_
  refine ge_then ?_
  refine g_seq ?_
  refine g_seq ?_
  refine g_region ?_
  refine gl_v rfl (o_move rfl) ?_
  first | refine gl_v rfl (o_len rfl) ?_ | refine gl_v rfl (o_lenL rfl) ?_
  refine gl_v rfl (o_move rfl) ?_
  refine gl_nil ?_
  refine ge_then ?_
  refine g_block ?_
  refine g_loop (ι := Nat) (fun x => x ≤ L1.length ∧ sameL (fun x y => decide (x = y)) (L1.drop x) (L2.drop x) = sameL (fun x y => decide (x = y)) L1 L2) (fun x => [(13, I64 x), (12, I64 L1.length), (11, .slice a1 L1.length c1), (1, .slice a2 L2.length c2), (0, .slice a1 L1.length c1)]) (fun _ => M :: R) (fun x => L1.length - x) 0 (⟨Nat.zero_le _, rfl⟩) (Keep.cons rfl (Keep.cons rfl (Keep.cons rfl (Keep.cons rfl (Keep.cons rfl (Keep.nil)))))) (tO) ?_
  rintro j ⟨hj, hq⟩
  replace hj : j ≤ L1.length := hj
  replace hq : sameL (fun x y => decide (x = y)) (L1.drop j) (L2.drop j) = sameL (fun x y => decide (x = y)) L1 L2 := hq
  refine g_seq ?_
  refine g_region ?_
  refine gl_v rfl (o_lss rfl rfl) ?_
  refine gl_nil ?_
  refine ge_then ?_
  refine g_seq ?_
  refine g_cond rfl (fun hc2 => ?_) (fun hc2 => ?_)
  ·
   replace hc2 := hs_ hc2
   obtain ⟨x, hx⟩ : ∃ t, L1[j]? = some t := ⟨_, List.getElem?_eq_getElem (show j < L1.length by omega)⟩
   obtain ⟨y, hy⟩ : ∃ t, L2[j]? = some t := ⟨_, List.getElem?_eq_getElem (show j < L2.length by omega)⟩
   refine g_skip ?_
   refine ge_then ?_
   refine g_seq ?_
   refine g_block ?_
   refine g_seq ?_
   refine g_region ?_
   refine gl_v rfl (o_move rfl) ?_
   refine gl_v rfl (o_assign rfl) ?_
   refine gl_nil ?_
   refine ge_then ?_
   refine g_seq ?_
   refine g_draw [] [] [(0, .loc), (1, .loc), (2, .loc), (3, .loc), (4, .loc), (5, .loc), (6, .loc), (7, .loc), (8, .loc)] [M] mixed (by kernel_rfl) ?_
   refine go_v rfl .none rfl (o_move rfl) ?_
   refine go_v rfl .none rfl (o_move rfl) ?_
   refine go_v rfl .none rfl (o_idxS rfl rfl (show j < L1.length by omega)) ?_
   refine go_v rfl .none rfl (o_loadSA rfl (flat_take casC 2 casC_len hx) rfl) ?_
   refine go_v rfl .none rfl (o_move rfl) ?_
   refine go_v rfl .none rfl (o_move rfl) ?_
   refine go_v rfl .none rfl (o_idxS rfl rfl (show j < L2.length by omega)) ?_
   refine go_v rfl .none rfl (o_loadSA rfl (flat_take casC 2 casC_len hy) rfl) ?_
   refine go_v rfl .none rfl (o_is (c := !decide (x = y)) (by rw [flatEq_Cas]) (o_neqA (xs := casC x) (ys := casC y) rfl rfl rfl rfl)) ?_
   refine go_nil ?_
   refine ge_then ?_
   refine g_cond rfl (fun hc3 => ?_) (fun hc3 => ?_)
   ·
    replace hc3 := hs_ hc3
    have hc2 : decide (x = y) = false := by simpa using hc3
    refine g_seq ?_
    refine g_region ?_
    refine gl_v rfl (o_assign rfl) ?_
    refine gl_nil ?_
    refine ge_then ?_
    refine g_ret ?_
    refine ge_block_ret ?_
    refine ge_then_ret ?_
    refine ge_then_ret ?_
    refine ge_block_ret ?_
    refine ge_then_ret ?_
    refine ret1 (.inl rfl) rfl rfl _ (⟨by rw [← hq, sameL_drop hx hy, hc2]; rfl, rfl⟩) (tO)
   ·
    replace hc3 := hs_ hc3
    have hc2 : decide (x = y) = true := by simpa using hc3
    refine g_skip ?_
    refine ge_block ?_
    refine ge_then ?_
    refine g_region ?_
    refine gl_v rfl (o_addR ((j + 1 : Nat) : Int) (by rw [wr_i64 (by omega)]; omega) rfl rfl) ?_
    refine gl_v rfl (o_move rfl) ?_
    refine gl_nil ?_
    refine ge_round (j + 1) ⟨show j + 1 ≤ L1.length by omega, by rw [← hq, sameL_drop hx hy, hc2]; rfl⟩ (show L1.length - (j + 1) < L1.length - j by omega) (Keep.cons rfl (Keep.cons rfl (Keep.cons rfl (Keep.cons rfl (Keep.cons rfl (Keep.nil)))))) (tO)
  ·
   replace hc2 := hs_ hc2
   obtain rfl : j = L1.length := by omega
   rw [List.drop_length, List.drop_eq_nil_of_le (by omega)] at hq
   refine g_exit ?_
   refine ge_then_exit ?_
   refine ge_then_exit ?_
   refine ge_block_exit ?_
   refine ge_then ?_
   refine g_seq ?_
   refine g_region ?_
   refine gl_v rfl (o_assign rfl) ?_
   refine gl_nil ?_
   refine ge_then ?_
   refine g_ret ?_
   refine ret1 (.inl rfl) rfl rfl _ (⟨by rw [← hq]; rfl, rfl⟩) (tO)

theorem flatEq_Eff (x y : Eff) : flatEq (effC x) (effC y) = decide (x = y) := by
  cases x; cases y
  rw [Bool.eq_iff_iff, decide_eq_true_eq]
  simp [flatEq, effC, S_toList, and_assoc]

set_option maxRecDepth 8000 in
set_option maxHeartbeats 1000000 in
theorem Eq_Eff (L1 L2 : List Eff) (a1 a2 : Option Addr) (c1 c2 : Nat) (M : Assn) (hn : L1.length ≤ 9223372036854775807) (h1 : ∀ h, M h → SlR h (.slice a1 L1.length c1) L1.length (L1.flatMap effC)) (h2 : ∀ h, M h → SlR h (.slice a2 L2.length c2) L2.length (L2.flatMap effC)) : FnS Tryz.prog 32 [.slice a1 L1.length c1, .slice a2 L2.length c2] [M] (fun u Bs => u = .bool (sameL (fun x y => decide (x = y)) L1 L2) ∧ Bs = [M]) := by
 refine fn_body Tryz.func32 rfl rfl rfl ?_
 intro W0 R
 simp only [List.zipIdx_cons, List.zipIdx_nil, List.map_cons, List.map_nil, Nat.zero_add, Nat.reduceAdd, List.cons_append, List.nil_append]
 haveI r1 : RdA (.slice a1 L1.length c1) M L1.length (L1.flatMap effC) := ⟨fun a => h1 _ a⟩
 haveI r2 : RdA (.slice a2 L2.length c2) M L2.length (L2.flatMap effC) := ⟨fun a => h2 _ a⟩
 refine g_seq ?_
 refine g_region ?_
 refine gl_v rfl (o_assign rfl) ?_
 refine gl_nil ?_
 refine ge_then ?_
 refine g_seq ?_
 refine g_seq ?_
 refine g_region ?_
 refine gl_v rfl (o_move rfl) ?_
 first | refine gl_v rfl (o_len rfl) ?_ | refine gl_v rfl (o_lenL rfl) ?_
 refine gl_v rfl (o_move rfl) ?_
 first | refine gl_v rfl (o_len rfl) ?_ | refine gl_v rfl (o_lenL rfl) ?_
 refine gl_v rfl (o_neq rfl rfl) ?_
 refine gl_nil ?_
 refine ge_then ?_
 refine g_cond rfl (fun hc1 => ?_) (fun hc1 => ?_)
 ·
  replace hc1 := hs_ hc1
  have hf : sameL (fun x y => decide (x = y)) L1 L2 = false := sameL_len (by omega)
  refine g_seq ?_
  refine g_region ?_
  refine gl_v rfl (o_assign rfl) ?_
  refine gl_nil ?_
  refine ge_then ?_
  refine g_ret ?_
  refine ge_then_ret ?_
  refine ret1 (.inl rfl) rfl rfl _ (⟨by rw [hf], rfl⟩) (tO)
 ·
  replace hc1 := hs_ hc1
  refine g_skip ?_
  refine ge_then ?_
  refine g_seq ?_
  refine g_seq ?_
  refine g_region ?_
  refine gl_v rfl (o_move rfl) ?_
  first | refine gl_v rfl (o_len rfl) ?_ | refine gl_v rfl (o_lenL rfl) ?_
  refine gl_v rfl (o_move rfl) ?_
  refine gl_nil ?_
  refine ge_then ?_
  refine g_block ?_
  refine g_loop (ι := Nat) (fun x => x ≤ L1.length ∧ sameL (fun x y => decide (x = y)) (L1.drop x) (L2.drop x) = sameL (fun x y => decide (x = y)) L1 L2) (fun x => [(13, I64 x), (12, I64 L1.length), (11, .slice a1 L1.length c1), (1, .slice a2 L2.length c2), (0, .slice a1 L1.length c1)]) (fun _ => M :: R) (fun x => L1.length - x) 0 (⟨Nat.zero_le _, rfl⟩) (Keep.cons rfl (Keep.cons rfl (Keep.cons rfl (Keep.cons rfl (Keep.cons rfl (Keep.nil)))))) (tO) ?_
  rintro j ⟨hj, hq⟩
  replace hj : j ≤ L1.length := hj
  replace hq : sameL (fun x y => decide (x = y)) (L1.drop j) (L2.drop j) = sameL (fun x y => decide (x = y)) L1 L2 := hq
  refine g_seq ?_
  refine g_region ?_
  refine gl_v rfl (o_lss rfl rfl) ?_
  refine gl_nil ?_
  refine ge_then ?_
  refine g_seq ?_
  refine g_cond rfl (fun hc2 => ?_) (fun hc2 => ?_)
  ·
   replace hc2 := hs_ hc2
   obtain ⟨x, hx⟩ : ∃ t, L1[j]? = some t := ⟨_, List.getElem?_eq_getElem (show j < L1.length by omega)⟩
   obtain ⟨y, hy⟩ : ∃ t, L2[j]? = some t := ⟨_, List.getElem?_eq_getElem (show j < L2.length by omega)⟩
   refine g_skip ?_
   refine ge_then ?_
   refine g_seq ?_
   refine g_block ?_
   refine g_seq ?_
   refine g_region ?_
   refine gl_v rfl (o_move rfl) ?_
   refine gl_v rfl (o_assign rfl) ?_
   refine gl_nil ?_
   refine ge_then ?_
   refine g_seq ?_
   refine g_draw [] [] [(0, .loc), (1, .loc), (2, .loc), (3, .loc), (4, .loc), (5, .loc), (6, .loc), (7, .loc), (8, .loc)] [M] mixed (by kernel_rfl) ?_
   refine go_v rfl .none rfl (o_move rfl) ?_
   refine go_v rfl .none rfl (o_move rfl) ?_
   refine go_v rfl .none rfl (o_idxS rfl rfl (show j < L1.length by omega)) ?_
   refine go_v rfl .none rfl (o_loadSA rfl (flat_take effC 7 effC_len hx) rfl) ?_
   refine go_v rfl .none rfl (o_move rfl) ?_
   refine go_v rfl .none rfl (o_move rfl) ?_
   refine go_v rfl .none rfl (o_idxS rfl rfl (show j < L2.length by omega)) ?_
   refine go_v rfl .none rfl (o_loadSA rfl (flat_take effC 7 effC_len hy) rfl) ?_
   refine go_v rfl .none rfl (o_is (c := !decide (x = y)) (by rw [flatEq_Eff]) (o_neqA (xs := effC x) (ys := effC y) rfl rfl rfl rfl)) ?_
   refine go_nil ?_
   refine ge_then ?_
   refine g_cond rfl (fun hc3 => ?_) (fun hc3 => ?_)
   ·
    replace hc3 := hs_ hc3
    have hc2 : decide (x = y) = false := by simpa using hc3
    refine g_seq ?_
    refine g_region ?_
    refine gl_v rfl (o_assign rfl) ?_
    refine gl_nil ?_
    refine ge_then ?_
    refine g_ret ?_
    refine ge_block_ret ?_
    refine ge_then_ret ?_
    refine ge_then_ret ?_
    refine ge_block_ret ?_
    refine ge_then_ret ?_
    refine ret1 (.inl rfl) rfl rfl _ (⟨by rw [← hq, sameL_drop hx hy, hc2]; rfl, rfl⟩) (tO)
   ·
    replace hc3 := hs_ hc3
    have hc2 : decide (x = y) = true := by simpa using hc3
    refine g_skip ?_
    refine ge_block ?_
    refine ge_then ?_
    refine g_region ?_
    refine gl_v rfl (o_addR ((j + 1 : Nat) : Int) (by rw [wr_i64 (by omega)]; omega) rfl rfl) ?_
    refine gl_v rfl (o_move rfl) ?_
    refine gl_nil ?_
    refine ge_round (j + 1) ⟨show j + 1 ≤ L1.length by omega, by rw [← hq, sameL_drop hx hy, hc2]; rfl⟩ (show L1.length - (j + 1) < L1.length - j by omega) (Keep.cons rfl (Keep.cons rfl (Keep.cons rfl (Keep.cons rfl (Keep.cons rfl (Keep.nil)))))) (tO)
  ·
   replace hc2 := hs_ hc2
   obtain rfl : j = L1.length := by omega
   rw [List.drop_length, List.drop_eq_nil_of_le (by omega)] at hq
   refine g_exit ?_
   refine ge_then_exit ?_
   refine ge_then_exit ?_
   refine ge_block_exit ?_
   refine ge_then ?_
   refine g_seq ?_
   refine g_region ?_
   refine gl_v rfl (o_assign rfl) ?_
   refine gl_nil ?_
   refine ge_then ?_
   refine g_ret ?_
   refine ret1 (.inl rfl) rfl rfl _ (⟨by rw [← hq]; rfl, rfl⟩) (tO)

set_option maxRecDepth 8000 in
set_option maxHeartbeats 1000000 in
theorem EqF_Knd (L1 L2 : List Knd) (a1 a2 : Option Addr) (c1 c2 : Nat) (M : Assn) (hn : L1.length ≤ 9223372036854775807) (h1 : ∀ h, M h → SlR h (.slice a1 L1.length c1) L1.length (L1.flatMap kndC)) (h2 : ∀ h, M h → SlR h (.slice a2 L2.length c2) L2.length (L2.flatMap kndC)) (F : FuncId) [TFunc Tryz.prog F] (q : Knd → Knd → Bool) (hp : ∀ x ∈ L1, ∀ y ∈ L2, FnS Tryz.prog F [.agg (kndC x).toArray, .agg (kndC y).toArray] [M] (fun u Bs => u = .bool (q x y) ∧ Bs = [M])) : FnS Tryz.prog 25 [.slice a1 L1.length c1, .slice a2 L2.length c2, .func (.func F) #[] #[]] [M] (fun u Bs => u = .bool (sameL q L1 L2) ∧ Bs = [M]) := by
 refine fn_body Tryz.func25 rfl rfl rfl ?_
 intro W0 R
 simp only [List.zipIdx_cons, List.zipIdx_nil, List.map_cons, List.map_nil, Nat.zero_add, Nat.reduceAdd, List.cons_append, List.nil_append]
 haveI r1 : RdA (.slice a1 L1.length c1) M L1.length (L1.flatMap kndC) := ⟨fun a => h1 _ a⟩
 haveI r2 : RdA (.slice a2 L2.length c2) M L2.length (L2.flatMap kndC) := ⟨fun a => h2 _ a⟩
 refine g_seq ?_
 refine g_region ?_
 refine gl_v rfl (o_assign rfl) ?_
 refine gl_nil ?_
 refine ge_then ?_
 refine g_seq ?_
 refine g_seq ?_
 refine g_region ?_
 refine gl_v rfl (o_move rfl) ?_
 first | refine gl_v rfl (o_len rfl) ?_ | refine gl_v rfl (o_lenL rfl) ?_
 refine gl_v rfl (o_move rfl) ?_
 first | refine gl_v rfl (o_len rfl) ?_ | refine gl_v rfl (o_lenL rfl) ?_
 refine gl_v rfl (o_neq rfl rfl) ?_
 refine gl_nil ?_
 refine ge_then ?_
 refine g_cond rfl (fun hc1 => ?_) (fun hc1 => ?_)
 ·
  replace hc1 := hs_ hc1
  have hf : sameL q L1 L2 = false := sameL_len (by omega)
  refine g_seq ?_
  refine g_region ?_
  refine gl_v rfl (o_assign rfl) ?_
  refine gl_nil ?_
  refine ge_then ?_
  refine g_ret ?_
  refine ge_then_ret ?_
  refine ret1 (.inl rfl) rfl rfl _ (⟨by rw [hf], rfl⟩) (tO)
 ·
  replace hc1 := hs_ hc1
  refine g_skip ?_
  refine ge_then ?_
  refine g_seq ?_
  refine g_seq ?_
  refine g_region ?_
  refine gl_v rfl (o_move rfl) ?_
  first | refine gl_v rfl (o_len rfl) ?_ | refine gl_v rfl (o_lenL rfl) ?_
  refine gl_v rfl (o_move rfl) ?_
  refine gl_nil ?_
  refine ge_then ?_
  refine g_block ?_
  refine g_loop (ι := Nat) (fun x => x ≤ L1.length ∧ sameL q (L1.drop x) (L2.drop x) = sameL q L1 L2) (fun x => [(17, I64 x), (16, I64 L1.length), (15, .slice a1 L1.length c1), (2, .func (.func F) #[] #[]), (1, .slice a2 L2.length c2)]) (fun _ => M :: R) (fun x => L1.length - x) 0 (⟨Nat.zero_le _, rfl⟩) (Keep.cons rfl (Keep.cons rfl (Keep.cons rfl (Keep.cons rfl (Keep.cons rfl (Keep.nil)))))) (tO) ?_
  rintro j ⟨hj, hq⟩
  replace hj : j ≤ L1.length := hj
  replace hq : sameL q (L1.drop j) (L2.drop j) = sameL q L1 L2 := hq
  refine g_seq ?_
  refine g_region ?_
  refine gl_v rfl (o_lss rfl rfl) ?_
  refine gl_nil ?_
  refine ge_then ?_
  refine g_seq ?_
  refine g_cond rfl (fun hc2 => ?_) (fun hc2 => ?_)
  ·
   replace hc2 := hs_ hc2
   obtain ⟨x, hx⟩ : ∃ t, L1[j]? = some t := ⟨_, List.getElem?_eq_getElem (show j < L1.length by omega)⟩
   obtain ⟨y, hy⟩ : ∃ t, L2[j]? = some t := ⟨_, List.getElem?_eq_getElem (show j < L2.length by omega)⟩
   refine g_skip ?_
   refine ge_then ?_
   refine g_seq ?_
   refine g_block ?_
   refine g_seq ?_
   refine g_region ?_
   refine gl_v rfl (o_move rfl) ?_
   refine gl_v rfl (o_idxS rfl rfl (show j < L1.length by omega)) ?_
   refine gl_v rfl (o_loadSA rfl (flat_take kndC 5 kndC_len hx) rfl) ?_
   refine gl_n rfl (o_alloc) ?_
   rintro _ _ ⟨b8, rfl, rfl⟩
   refine gl_v rfl (o_assign rfl) ?_
   first | refine gl_u (o_storeSA rfl rfl rfl rfl (by simp; omega) (by simp)) ?_ | refine gl_u (o_storeA rfl rfl rfl rfl rfl) ?_
   refine gl_nil ?_
   refine ge_then ?_
   refine g_seq ?_
   refine g_region ?_
   refine gl_v rfl (o_move rfl) ?_
   refine gl_v rfl (o_move rfl) ?_
   refine gl_v rfl (o_idxS rfl rfl (show j < L2.length by omega)) ?_
   refine gl_v rfl (o_loadSA rfl (flat_take kndC 5 kndC_len hy) rfl) ?_
   refine gl_n rfl (o_alloc) ?_
   rintro _ _ ⟨b9, rfl, rfl⟩
   first | refine gl_u (o_storeSA rfl rfl rfl rfl (by simp; omega) (by simp)) ?_ | refine gl_u (o_storeA rfl rfl rfl rfl rfl) ?_
   refine gl_nil ?_
   refine ge_then ?_
   refine g_seq ?_
   refine g_region ?_
   refine gl_v rfl (o_move rfl) ?_
   first | refine gl_v rfl (o_loadSA rfl rfl rfl) ?_ | refine gl_v rfl (o_loadA rfl rfl rfl) ?_
   first | refine gl_v rfl (o_loadSA rfl rfl rfl) ?_ | refine gl_v rfl (o_loadA rfl rfl rfl) ?_
   refine gl_c rfl (o_callV rfl rfl (hp x (List.mem_of_getElem? hx) y (List.mem_of_getElem? hy)) pA) ?_
   rintro _ R ⟨_, ⟨rfl, rfl⟩, rfl⟩
   try simp only [List.cons_append, List.nil_append]
   refine gl_v rfl (o_not rfl) ?_
   refine gl_nil ?_
   refine ge_then ?_
   refine g_cond rfl (fun hc3 => ?_) (fun hc3 => ?_)
   ·
    replace hc3 := hs_ hc3
    have hc2 : q x y = false := by simpa using hc3
    refine g_seq ?_
    refine g_region ?_
    refine gl_v rfl (o_assign rfl) ?_
    refine gl_nil ?_
    refine ge_then ?_
    refine g_ret ?_
    refine ge_block_ret ?_
    refine ge_then_ret ?_
    refine ge_then_ret ?_
    refine ge_block_ret ?_
    refine ge_then_ret ?_
    refine ret1 (.inl rfl) rfl rfl _ (⟨by rw [← hq, sameL_drop hx hy, hc2]; rfl, rfl⟩) (tO)
   ·
    replace hc3 := hs_ hc3
    have hc2 : q x y = true := by simpa using hc3
    refine g_skip ?_
    refine ge_block ?_
    refine ge_then ?_
    refine g_region ?_
    refine gl_v rfl (o_addR ((j + 1 : Nat) : Int) (by rw [wr_i64 (by omega)]; omega) rfl rfl) ?_
    refine gl_v rfl (o_move rfl) ?_
    refine gl_nil ?_
    refine ge_round (j + 1) ⟨show j + 1 ≤ L1.length by omega, by rw [← hq, sameL_drop hx hy, hc2]; rfl⟩ (show L1.length - (j + 1) < L1.length - j by omega) (Keep.cons rfl (Keep.cons rfl (Keep.cons rfl (Keep.cons rfl (Keep.cons rfl (Keep.nil)))))) (tO)
  ·
   replace hc2 := hs_ hc2
   obtain rfl : j = L1.length := by omega
   rw [List.drop_length, List.drop_eq_nil_of_le (by omega)] at hq
   refine g_exit ?_
   refine ge_then_exit ?_
   refine ge_then_exit ?_
   refine ge_block_exit ?_
   refine ge_then ?_
   refine g_seq ?_
   refine g_region ?_
   refine gl_v rfl (o_assign rfl) ?_
   refine gl_nil ?_
   refine ge_then ?_
   refine g_ret ?_
   refine ret1 (.inl rfl) rfl rfl _ (⟨by rw [← hq]; rfl, rfl⟩) (tO)

set_option maxRecDepth 8000 in
set_option maxHeartbeats 1000000 in
theorem EqF_Sta (L1 L2 : List Sta) (a1 a2 : Option Addr) (c1 c2 : Nat) (M : Assn) (hn : L1.length ≤ 9223372036854775807) (h1 : ∀ h, M h → SlR h (.slice a1 L1.length c1) L1.length (L1.flatMap staC)) (h2 : ∀ h, M h → SlR h (.slice a2 L2.length c2) L2.length (L2.flatMap staC)) (F : FuncId) [TFunc Tryz.prog F] (q : Sta → Sta → Bool) (hp : ∀ x ∈ L1, ∀ y ∈ L2, FnS Tryz.prog F [.agg (staC x).toArray, .agg (staC y).toArray] [M] (fun u Bs => u = .bool (q x y) ∧ Bs = [M])) : FnS Tryz.prog 28 [.slice a1 L1.length c1, .slice a2 L2.length c2, .func (.func F) #[] #[]] [M] (fun u Bs => u = .bool (sameL q L1 L2) ∧ Bs = [M]) := by
 refine fn_body Tryz.func28 rfl rfl rfl ?_
 intro W0 R
 simp only [List.zipIdx_cons, List.zipIdx_nil, List.map_cons, List.map_nil, Nat.zero_add, Nat.reduceAdd, List.cons_append, List.nil_append]
 haveI r1 : RdA (.slice a1 L1.length c1) M L1.length (L1.flatMap staC) := ⟨fun a => h1 _ a⟩
 haveI r2 : RdA (.slice a2 L2.length c2) M L2.length (L2.flatMap staC) := ⟨fun a => h2 _ a⟩
 refine g_seq ?_
 refine g_region ?_
 refine gl_v rfl (o_assign rfl) ?_
 refine gl_nil ?_
 refine ge_then ?_
 refine g_seq ?_
 refine g_seq ?_
 refine g_region ?_
 refine gl_v rfl (o_move rfl) ?_
 first | refine gl_v rfl (o_len rfl) ?_ | refine gl_v rfl (o_lenL rfl) ?_
 refine gl_v rfl (o_move rfl) ?_
 first | refine gl_v rfl (o_len rfl) ?_ | refine gl_v rfl (o_lenL rfl) ?_
 refine gl_v rfl (o_neq rfl rfl) ?_
 refine gl_nil ?_
 refine ge_then ?_
 refine g_cond rfl (fun hc1 => ?_) (fun hc1 => ?_)
 ·
  replace hc1 := hs_ hc1
  have hf : sameL q L1 L2 = false := sameL_len (by omega)
  refine g_seq ?_
  refine g_region ?_
  refine gl_v rfl (o_assign rfl) ?_
  refine gl_nil ?_
  refine ge_then ?_
  refine g_ret ?_
  refine ge_then_ret ?_
  refine ret1 (.inl rfl) rfl rfl _ (⟨by rw [hf], rfl⟩) (tO)
 ·
  replace hc1 := hs_ hc1
  refine g_skip ?_
  refine ge_then ?_
  refine g_seq ?_
  refine g_seq ?_
  refine g_region ?_
  refine gl_v rfl (o_move rfl) ?_
  first | refine gl_v rfl (o_len rfl) ?_ | refine gl_v rfl (o_lenL rfl) ?_
  refine gl_v rfl (o_move rfl) ?_
  refine gl_nil ?_
  refine ge_then ?_
  refine g_block ?_
  refine g_loop (ι := Nat) (fun x => x ≤ L1.length ∧ sameL q (L1.drop x) (L2.drop x) = sameL q L1 L2) (fun x => [(17, I64 x), (16, I64 L1.length), (15, .slice a1 L1.length c1), (2, .func (.func F) #[] #[]), (1, .slice a2 L2.length c2)]) (fun _ => M :: R) (fun x => L1.length - x) 0 (⟨Nat.zero_le _, rfl⟩) (Keep.cons rfl (Keep.cons rfl (Keep.cons rfl (Keep.cons rfl (Keep.cons rfl (Keep.nil)))))) (tO) ?_
  rintro j ⟨hj, hq⟩
  replace hj : j ≤ L1.length := hj
  replace hq : sameL q (L1.drop j) (L2.drop j) = sameL q L1 L2 := hq
  refine g_seq ?_
  refine g_region ?_
  refine gl_v rfl (o_lss rfl rfl) ?_
  refine gl_nil ?_
  refine ge_then ?_
  refine g_seq ?_
  refine g_cond rfl (fun hc2 => ?_) (fun hc2 => ?_)
  ·
   replace hc2 := hs_ hc2
   obtain ⟨x, hx⟩ : ∃ t, L1[j]? = some t := ⟨_, List.getElem?_eq_getElem (show j < L1.length by omega)⟩
   obtain ⟨y, hy⟩ : ∃ t, L2[j]? = some t := ⟨_, List.getElem?_eq_getElem (show j < L2.length by omega)⟩
   refine g_skip ?_
   refine ge_then ?_
   refine g_seq ?_
   refine g_block ?_
   refine g_seq ?_
   refine g_region ?_
   refine gl_v rfl (o_move rfl) ?_
   refine gl_v rfl (o_idxS rfl rfl (show j < L1.length by omega)) ?_
   refine gl_v rfl (o_loadSA rfl (flat_take staC 2 staC_len hx) rfl) ?_
   refine gl_n rfl (o_alloc) ?_
   rintro _ _ ⟨b8, rfl, rfl⟩
   refine gl_v rfl (o_assign rfl) ?_
   first | refine gl_u (o_storeSA rfl rfl rfl rfl (by simp; omega) (by simp)) ?_ | refine gl_u (o_storeA rfl rfl rfl rfl rfl) ?_
   refine gl_nil ?_
   refine ge_then ?_
   refine g_seq ?_
   refine g_region ?_
   refine gl_v rfl (o_move rfl) ?_
   refine gl_v rfl (o_move rfl) ?_
   refine gl_v rfl (o_idxS rfl rfl (show j < L2.length by omega)) ?_
   refine gl_v rfl (o_loadSA rfl (flat_take staC 2 staC_len hy) rfl) ?_
   refine gl_n rfl (o_alloc) ?_
   rintro _ _ ⟨b9, rfl, rfl⟩
   first | refine gl_u (o_storeSA rfl rfl rfl rfl (by simp; omega) (by simp)) ?_ | refine gl_u (o_storeA rfl rfl rfl rfl rfl) ?_
   refine gl_nil ?_
   refine ge_then ?_
   refine g_seq ?_
   refine g_region ?_
   refine gl_v rfl (o_move rfl) ?_
   first | refine gl_v rfl (o_loadSA rfl rfl rfl) ?_ | refine gl_v rfl (o_loadA rfl rfl rfl) ?_
   first | refine gl_v rfl (o_loadSA rfl rfl rfl) ?_ | refine gl_v rfl (o_loadA rfl rfl rfl) ?_
   refine gl_c rfl (o_callV rfl rfl (hp x (List.mem_of_getElem? hx) y (List.mem_of_getElem? hy)) pA) ?_
   rintro _ R ⟨_, ⟨rfl, rfl⟩, rfl⟩
   try simp only [List.cons_append, List.nil_append]
   refine gl_v rfl (o_not rfl) ?_
   refine gl_nil ?_
   refine ge_then ?_
   refine g_cond rfl (fun hc3 => ?_) (fun hc3 => ?_)
   ·
    replace hc3 := hs_ hc3
    have hc2 : q x y = false := by simpa using hc3
    refine g_seq ?_
    refine g_region ?_
    refine gl_v rfl (o_assign rfl) ?_
    refine gl_nil ?_
    refine ge_then ?_
    refine g_ret ?_
    refine ge_block_ret ?_
    refine ge_then_ret ?_
    refine ge_then_ret ?_
    refine ge_block_ret ?_
    refine ge_then_ret ?_
    refine ret1 (.inl rfl) rfl rfl _ (⟨by rw [← hq, sameL_drop hx hy, hc2]; rfl, rfl⟩) (tO)
   ·
    replace hc3 := hs_ hc3
    have hc2 : q x y = true := by simpa using hc3
    refine g_skip ?_
    refine ge_block ?_
    refine ge_then ?_
    refine g_region ?_
    refine gl_v rfl (o_addR ((j + 1 : Nat) : Int) (by rw [wr_i64 (by omega)]; omega) rfl rfl) ?_
    refine gl_v rfl (o_move rfl) ?_
    refine gl_nil ?_
    refine ge_round (j + 1) ⟨show j + 1 ≤ L1.length by omega, by rw [← hq, sameL_drop hx hy, hc2]; rfl⟩ (show L1.length - (j + 1) < L1.length - j by omega) (Keep.cons rfl (Keep.cons rfl (Keep.cons rfl (Keep.cons rfl (Keep.cons rfl (Keep.nil)))))) (tO)
  ·
   replace hc2 := hs_ hc2
   obtain rfl : j = L1.length := by omega
   rw [List.drop_length, List.drop_eq_nil_of_le (by omega)] at hq
   refine g_exit ?_
   refine ge_then_exit ?_
   refine ge_then_exit ?_
   refine ge_block_exit ?_
   refine ge_then ?_
   refine g_seq ?_
   refine g_region ?_
   refine gl_v rfl (o_assign rfl) ?_
   refine gl_nil ?_
   refine ge_then ?_
   refine g_ret ?_
   refine ret1 (.inl rfl) rfl rfl _ (⟨by rw [← hq]; rfl, rfl⟩) (tO)

set_option maxRecDepth 8000 in
set_option maxHeartbeats 1000000 in
theorem EqF_Row (L1 L2 : List Row) (a1 a2 : Option Addr) (c1 c2 : Nat) (M : Assn) (hn : L1.length ≤ 9223372036854775807) (h1 : ∀ h, M h → SlR h (.slice a1 L1.length c1) L1.length (L1.flatMap rowC)) (h2 : ∀ h, M h → SlR h (.slice a2 L2.length c2) L2.length (L2.flatMap rowC)) (F : FuncId) [TFunc Tryz.prog F] (q : Row → Row → Bool) (hp : ∀ x ∈ L1, ∀ y ∈ L2, FnS Tryz.prog F [.agg (rowC x).toArray, .agg (rowC y).toArray] [M] (fun u Bs => u = .bool (q x y) ∧ Bs = [M])) : FnS Tryz.prog 30 [.slice a1 L1.length c1, .slice a2 L2.length c2, .func (.func F) #[] #[]] [M] (fun u Bs => u = .bool (sameL q L1 L2) ∧ Bs = [M]) := by
 refine fn_body Tryz.func30 rfl rfl rfl ?_
 intro W0 R
 simp only [List.zipIdx_cons, List.zipIdx_nil, List.map_cons, List.map_nil, Nat.zero_add, Nat.reduceAdd, List.cons_append, List.nil_append]
 haveI r1 : RdA (.slice a1 L1.length c1) M L1.length (L1.flatMap rowC) := ⟨fun a => h1 _ a⟩
 haveI r2 : RdA (.slice a2 L2.length c2) M L2.length (L2.flatMap rowC) := ⟨fun a => h2 _ a⟩
 refine g_seq ?_
 refine g_region ?_
 refine gl_v rfl (o_assign rfl) ?_
 refine gl_nil ?_
 refine ge_then ?_
 refine g_seq ?_
 refine g_seq ?_
 refine g_region ?_
 refine gl_v rfl (o_move rfl) ?_
 first | refine gl_v rfl (o_len rfl) ?_ | refine gl_v rfl (o_lenL rfl) ?_
 refine gl_v rfl (o_move rfl) ?_
 first | refine gl_v rfl (o_len rfl) ?_ | refine gl_v rfl (o_lenL rfl) ?_
 refine gl_v rfl (o_neq rfl rfl) ?_
 refine gl_nil ?_
 refine ge_then ?_
 refine g_cond rfl (fun hc1 => ?_) (fun hc1 => ?_)
 ·
  replace hc1 := hs_ hc1
  have hf : sameL q L1 L2 = false := sameL_len (by omega)
  refine g_seq ?_
  refine g_region ?_
  refine gl_v rfl (o_assign rfl) ?_
  refine gl_nil ?_
  refine ge_then ?_
  refine g_ret ?_
  refine ge_then_ret ?_
  refine ret1 (.inl rfl) rfl rfl _ (⟨by rw [hf], rfl⟩) (tO)
 ·
  replace hc1 := hs_ hc1
  refine g_skip ?_
  refine ge_then ?_
  refine g_seq ?_
  refine g_seq ?_
  refine g_region ?_
  refine gl_v rfl (o_move rfl) ?_
  first | refine gl_v rfl (o_len rfl) ?_ | refine gl_v rfl (o_lenL rfl) ?_
  refine gl_v rfl (o_move rfl) ?_
  refine gl_nil ?_
  refine ge_then ?_
  refine g_block ?_
  refine g_loop (ι := Nat) (fun x => x ≤ L1.length ∧ sameL q (L1.drop x) (L2.drop x) = sameL q L1 L2) (fun x => [(17, I64 x), (16, I64 L1.length), (15, .slice a1 L1.length c1), (2, .func (.func F) #[] #[]), (1, .slice a2 L2.length c2)]) (fun _ => M :: R) (fun x => L1.length - x) 0 (⟨Nat.zero_le _, rfl⟩) (Keep.cons rfl (Keep.cons rfl (Keep.cons rfl (Keep.cons rfl (Keep.cons rfl (Keep.nil)))))) (tO) ?_
  rintro j ⟨hj, hq⟩
  replace hj : j ≤ L1.length := hj
  replace hq : sameL q (L1.drop j) (L2.drop j) = sameL q L1 L2 := hq
  refine g_seq ?_
  refine g_region ?_
  refine gl_v rfl (o_lss rfl rfl) ?_
  refine gl_nil ?_
  refine ge_then ?_
  refine g_seq ?_
  refine g_cond rfl (fun hc2 => ?_) (fun hc2 => ?_)
  ·
   replace hc2 := hs_ hc2
   obtain ⟨x, hx⟩ : ∃ t, L1[j]? = some t := ⟨_, List.getElem?_eq_getElem (show j < L1.length by omega)⟩
   obtain ⟨y, hy⟩ : ∃ t, L2[j]? = some t := ⟨_, List.getElem?_eq_getElem (show j < L2.length by omega)⟩
   refine g_skip ?_
   refine ge_then ?_
   refine g_seq ?_
   refine g_block ?_
   refine g_seq ?_
   refine g_region ?_
   refine gl_v rfl (o_move rfl) ?_
   refine gl_v rfl (o_idxS rfl rfl (show j < L1.length by omega)) ?_
   refine gl_v rfl (o_loadSA rfl (flat_take rowC 4 rowC_len hx) rfl) ?_
   refine gl_n rfl (o_alloc) ?_
   rintro _ _ ⟨b8, rfl, rfl⟩
   refine gl_v rfl (o_assign rfl) ?_
   first | refine gl_u (o_storeSA rfl rfl rfl rfl (by simp; omega) (by simp)) ?_ | refine gl_u (o_storeA rfl rfl rfl rfl rfl) ?_
   refine gl_nil ?_
   refine ge_then ?_
   refine g_seq ?_
   refine g_region ?_
   refine gl_v rfl (o_move rfl) ?_
   refine gl_v rfl (o_move rfl) ?_
   refine gl_v rfl (o_idxS rfl rfl (show j < L2.length by omega)) ?_
   refine gl_v rfl (o_loadSA rfl (flat_take rowC 4 rowC_len hy) rfl) ?_
   refine gl_n rfl (o_alloc) ?_
   rintro _ _ ⟨b9, rfl, rfl⟩
   first | refine gl_u (o_storeSA rfl rfl rfl rfl (by simp; omega) (by simp)) ?_ | refine gl_u (o_storeA rfl rfl rfl rfl rfl) ?_
   refine gl_nil ?_
   refine ge_then ?_
   refine g_seq ?_
   refine g_region ?_
   refine gl_v rfl (o_move rfl) ?_
   first | refine gl_v rfl (o_loadSA rfl rfl rfl) ?_ | refine gl_v rfl (o_loadA rfl rfl rfl) ?_
   first | refine gl_v rfl (o_loadSA rfl rfl rfl) ?_ | refine gl_v rfl (o_loadA rfl rfl rfl) ?_
   refine gl_c rfl (o_callV rfl rfl (hp x (List.mem_of_getElem? hx) y (List.mem_of_getElem? hy)) pA) ?_
   rintro _ R ⟨_, ⟨rfl, rfl⟩, rfl⟩
   try simp only [List.cons_append, List.nil_append]
   refine gl_v rfl (o_not rfl) ?_
   refine gl_nil ?_
   refine ge_then ?_
   refine g_cond rfl (fun hc3 => ?_) (fun hc3 => ?_)
   ·
    replace hc3 := hs_ hc3
    have hc2 : q x y = false := by simpa using hc3
    refine g_seq ?_
    refine g_region ?_
    refine gl_v rfl (o_assign rfl) ?_
    refine gl_nil ?_
    refine ge_then ?_
    refine g_ret ?_
    refine ge_block_ret ?_
    refine ge_then_ret ?_
    refine ge_then_ret ?_
    refine ge_block_ret ?_
    refine ge_then_ret ?_
    refine ret1 (.inl rfl) rfl rfl _ (⟨by rw [← hq, sameL_drop hx hy, hc2]; rfl, rfl⟩) (tO)
   ·
    replace hc3 := hs_ hc3
    have hc2 : q x y = true := by simpa using hc3
    refine g_skip ?_
    refine ge_block ?_
    refine ge_then ?_
    refine g_region ?_
    refine gl_v rfl (o_addR ((j + 1 : Nat) : Int) (by rw [wr_i64 (by omega)]; omega) rfl rfl) ?_
    refine gl_v rfl (o_move rfl) ?_
    refine gl_nil ?_
    refine ge_round (j + 1) ⟨show j + 1 ≤ L1.length by omega, by rw [← hq, sameL_drop hx hy, hc2]; rfl⟩ (show L1.length - (j + 1) < L1.length - j by omega) (Keep.cons rfl (Keep.cons rfl (Keep.cons rfl (Keep.cons rfl (Keep.cons rfl (Keep.nil)))))) (tO)
  ·
   replace hc2 := hs_ hc2
   obtain rfl : j = L1.length := by omega
   rw [List.drop_length, List.drop_eq_nil_of_le (by omega)] at hq
   refine g_exit ?_
   refine ge_then_exit ?_
   refine ge_then_exit ?_
   refine ge_block_exit ?_
   refine ge_then ?_
   refine g_seq ?_
   refine g_region ?_
   refine gl_v rfl (o_assign rfl) ?_
   refine gl_nil ?_
   refine ge_then ?_
   refine g_ret ?_
   refine ret1 (.inl rfl) rfl rfl _ (⟨by rw [← hq]; rfl, rfl⟩) (tO)

set_option maxRecDepth 8000 in
set_option maxHeartbeats 1000000 in
theorem sameR_spec (M : Assn) (x y : Row) (h1 : ∀ h, M h → RowOk h x) (h2 : ∀ h, M h → RowOk h y) (hn : x.effs.length ≤ 9223372036854775807) : FnS Tryz.prog 31 [.agg (rowC x).toArray, .agg (rowC y).toArray] [M] (fun u Bs => u = .bool (rowEq x y) ∧ Bs = [M]) := by
 refine fn_body Tryz.func31 rfl rfl rfl ?_
 intro W0 R
 simp only [List.zipIdx_cons, List.zipIdx_nil, List.map_cons, List.map_nil, Nat.zero_add, Nat.reduceAdd, List.cons_append, List.nil_append]
 refine g_seq ?_
 refine g_region ?_
 refine gl_n rfl (o_boxA rfl) ?_
 rintro _ _ ⟨b2, rfl, rfl⟩
 refine gl_n rfl (o_boxA rfl) ?_
 rintro _ _ ⟨b3, rfl, rfl⟩
 refine gl_v rfl (o_assign rfl) ?_
 refine gl_nil ?_
 refine ge_then ?_
 refine g_seq ?_
 refine g_region ?_
 first | refine gl_v rfl (o_fldS rfl) ?_ | refine gl_v rfl (o_fld rfl) ?_
 first | refine gl_v rfl (o_load rfl rfl) ?_ | refine gl_v rfl (o_loadS rfl rfl) ?_ | refine gl_v rfl (o_loadC rfl) ?_
 first | refine gl_v rfl (o_fldS rfl) ?_ | refine gl_v rfl (o_fld rfl) ?_
 first | refine gl_v rfl (o_load rfl rfl) ?_ | refine gl_v rfl (o_loadS rfl rfl) ?_ | refine gl_v rfl (o_loadC rfl) ?_
 refine gl_v rfl (o_eqls rfl rfl) ?_
 refine gl_v rfl (o_move rfl) ?_
 refine gl_join (d := 30) 20 (.bool (rowEq x y)) ?_ (fun jk30 => ?_)
 rotate_left
 ·
  refine gl_g rfl rfl (fun hc1 => ?_) (fun hc1 => ?_) rfl
  ·
   have hc1' := hc1
   replace hc1' := hs_ hc1'
   first | refine gl_v rfl (o_fldS rfl) ?_ | refine gl_v rfl (o_fld rfl) ?_
   refine gl_gT rfl rfl hc1 ?_
   first | refine gl_v rfl (o_load rfl rfl) ?_ | refine gl_v rfl (o_loadS rfl rfl) ?_ | refine gl_v rfl (o_loadC rfl) ?_
   refine gl_gT rfl rfl hc1 ?_
   first | refine gl_v rfl (o_fldS rfl) ?_ | refine gl_v rfl (o_fld rfl) ?_
   refine gl_gT rfl rfl hc1 ?_
   first | refine gl_v rfl (o_load rfl rfl) ?_ | refine gl_v rfl (o_loadS rfl rfl) ?_ | refine gl_v rfl (o_loadC rfl) ?_
   refine gl_gT rfl rfl hc1 ?_
   refine gl_v rfl (o_eqlb rfl rfl) ?_
   refine gl_v rfl (o_pickT hc1 rfl rfl) ?_
   refine gl_v rfl (o_move rfl) ?_
   refine gl_g rfl rfl (fun hc2 => ?_) (fun hc2 => ?_) rfl
   ·
    have hc2' := hc2
    replace hc2' := hs_ hc2'
    first | refine gl_v rfl (o_fldS rfl) ?_ | refine gl_v rfl (o_fld rfl) ?_
    refine gl_gT rfl rfl hc2 ?_
    first | refine gl_v rfl (o_load rfl rfl) ?_ | refine gl_v rfl (o_loadS rfl rfl) ?_ | refine gl_v rfl (o_loadC rfl) ?_
    refine gl_gT rfl rfl hc2 ?_
    first | refine gl_v rfl (o_fldS rfl) ?_ | refine gl_v rfl (o_fld rfl) ?_
    refine gl_gT rfl rfl hc2 ?_
    first | refine gl_v rfl (o_load rfl rfl) ?_ | refine gl_v rfl (o_loadS rfl rfl) ?_ | refine gl_v rfl (o_loadC rfl) ?_
    refine gl_gT rfl rfl hc2 ?_
    refine gl_v rfl (o_eql rfl rfl) ?_
    refine gl_v rfl (o_pickT hc2 rfl rfl) ?_
    refine gl_v rfl (o_move rfl) ?_
    refine gl_g rfl rfl (fun hc3 => ?_) (fun hc3 => ?_) rfl
    ·
     have hc3' := hc3
     replace hc3' := hs_ hc3'
     first | refine gl_v rfl (o_fldS rfl) ?_ | refine gl_v rfl (o_fld rfl) ?_
     refine gl_gT rfl rfl hc3 ?_
     first | refine gl_v rfl (o_load rfl rfl) ?_ | refine gl_v rfl (o_loadS rfl rfl) ?_ | refine gl_v rfl (o_loadC rfl) ?_
     refine gl_gT rfl rfl hc3 ?_
     first | refine gl_v rfl (o_fldS rfl) ?_ | refine gl_v rfl (o_fld rfl) ?_
     refine gl_gT rfl rfl hc3 ?_
     first | refine gl_v rfl (o_load rfl rfl) ?_ | refine gl_v rfl (o_loadS rfl rfl) ?_ | refine gl_v rfl (o_loadC rfl) ?_
     refine gl_gT rfl rfl hc3 ?_
     refine gl_c rfl (o_call rfl (Eq_Eff x.effs y.effs x.ea y.ea x.ec y.ec M hn (fun h a => (h1 h a).rd.1) (fun h a => (h2 h a).rd.1)) pA) ?_
     rintro _ R ⟨_, ⟨rfl, rfl⟩, rfl⟩
     try simp only [List.cons_append, List.nil_append]
     refine gl_v rfl (o_pickT hc3 rfl rfl) ?_
     first | exact jk30 _ (KeepS.top (by repeat (first | exact KeepS.refl _ | refine KeepS.push ?_ rfl)) (jval (by first | rfl | (simp only [hc1, hc2, hc3, rowEq, Bool.not_true, Bool.not_false, Bool.false_and, Bool.true_and, Bool.true_or, Bool.false_or]; done) | (simp [hc1, hc2, hc3, rowEq]; done) | simp_all))) | exact gl_imp (tO) (jk30 _ (KeepS.top (by repeat (first | exact KeepS.refl _ | refine KeepS.push ?_ rfl)) (jval (by first | rfl | (simp only [hc1, hc2, hc3, rowEq, Bool.not_true, Bool.not_false, Bool.false_and, Bool.true_and, Bool.true_or, Bool.false_or]; done) | (simp [hc1, hc2, hc3, rowEq]; done) | simp_all))))
    ·
     have hc3' := hc3
     replace hc3' := hs_ hc3'
     simp only [putO]
     refine gl_gF rfl rfl hc3 rfl ?_
     refine gl_gF rfl rfl hc3 rfl ?_
     refine gl_gF rfl rfl hc3 rfl ?_
     refine gl_gF rfl rfl hc3 rfl ?_
     refine gl_v rfl (o_pickF hc3 rfl rfl) ?_
     first | exact jk30 _ (KeepS.top (by repeat (first | exact KeepS.refl _ | refine KeepS.push ?_ rfl)) (jval (by first | rfl | (simp only [hc1, hc2, hc3, rowEq, Bool.not_true, Bool.not_false, Bool.false_and, Bool.true_and, Bool.true_or, Bool.false_or]; done) | (simp [hc1, hc2, hc3, rowEq]; done) | simp_all))) | exact gl_imp (tO) (jk30 _ (KeepS.top (by repeat (first | exact KeepS.refl _ | refine KeepS.push ?_ rfl)) (jval (by first | rfl | (simp only [hc1, hc2, hc3, rowEq, Bool.not_true, Bool.not_false, Bool.false_and, Bool.true_and, Bool.true_or, Bool.false_or]; done) | (simp [hc1, hc2, hc3, rowEq]; done) | simp_all))))
   ·
    have hc2' := hc2
    replace hc2' := hs_ hc2'
    simp only [putO]
    refine gl_gF rfl rfl hc2 rfl ?_
    refine gl_gF rfl rfl hc2 rfl ?_
    refine gl_gF rfl rfl hc2 rfl ?_
    refine gl_gF rfl rfl hc2 rfl ?_
    refine gl_v rfl (o_pickF hc2 rfl rfl) ?_
    refine gl_v rfl (o_move rfl) ?_
    refine gl_gF rfl rfl rfl rfl ?_
    refine gl_gF rfl rfl rfl rfl ?_
    refine gl_gF rfl rfl rfl rfl ?_
    refine gl_gF rfl rfl rfl rfl ?_
    refine gl_gF rfl rfl rfl rfl ?_
    refine gl_v rfl (o_pickF rfl rfl rfl) ?_
    first | exact jk30 _ (KeepS.top (by repeat (first | exact KeepS.refl _ | refine KeepS.push ?_ rfl)) (jval (by first | rfl | (simp only [hc1, hc2, rowEq, Bool.not_true, Bool.not_false, Bool.false_and, Bool.true_and, Bool.true_or, Bool.false_or]; done) | (simp [hc1, hc2, rowEq]; done) | simp_all))) | exact gl_imp (tO) (jk30 _ (KeepS.top (by repeat (first | exact KeepS.refl _ | refine KeepS.push ?_ rfl)) (jval (by first | rfl | (simp only [hc1, hc2, rowEq, Bool.not_true, Bool.not_false, Bool.false_and, Bool.true_and, Bool.true_or, Bool.false_or]; done) | (simp [hc1, hc2, rowEq]; done) | simp_all))))
  ·
   have hc1' := hc1
   replace hc1' := hs_ hc1'
   simp only [putO]
   refine gl_gF rfl rfl hc1 rfl ?_
   refine gl_gF rfl rfl hc1 rfl ?_
   refine gl_gF rfl rfl hc1 rfl ?_
   refine gl_gF rfl rfl hc1 rfl ?_
   refine gl_v rfl (o_pickF hc1 rfl rfl) ?_
   refine gl_v rfl (o_move rfl) ?_
   refine gl_gF rfl rfl rfl rfl ?_
   refine gl_gF rfl rfl rfl rfl ?_
   refine gl_gF rfl rfl rfl rfl ?_
   refine gl_gF rfl rfl rfl rfl ?_
   refine gl_gF rfl rfl rfl rfl ?_
   refine gl_v rfl (o_pickF rfl rfl rfl) ?_
   refine gl_v rfl (o_move rfl) ?_
   refine gl_gF rfl rfl rfl rfl ?_
   refine gl_gF rfl rfl rfl rfl ?_
   refine gl_gF rfl rfl rfl rfl ?_
   refine gl_gF rfl rfl rfl rfl ?_
   refine gl_gF rfl rfl rfl rfl ?_
   refine gl_v rfl (o_pickF rfl rfl rfl) ?_
   first | exact jk30 _ (KeepS.top (by repeat (first | exact KeepS.refl _ | refine KeepS.push ?_ rfl)) (jval (by first | rfl | (simp only [hc1, rowEq, Bool.not_true, Bool.not_false, Bool.false_and, Bool.true_and, Bool.true_or, Bool.false_or]; done) | (simp [hc1, rowEq]; done) | simp_all))) | exact gl_imp (tO) (jk30 _ (KeepS.top (by repeat (first | exact KeepS.refl _ | refine KeepS.push ?_ rfl)) (jval (by first | rfl | (simp only [hc1, rowEq, Bool.not_true, Bool.not_false, Bool.false_and, Bool.true_and, Bool.true_or, Bool.false_or]; done) | (simp [hc1, rowEq]; done) | simp_all))))
 refine gl_v rfl (o_assign rfl) ?_
 refine gl_nil ?_
 refine ge_then ?_
 refine g_ret ?_
 refine ret1 (.inl rfl) rfl rfl _ (⟨rfl, rfl⟩) (tO)

set_option maxRecDepth 8000 in
set_option maxHeartbeats 1000000 in
theorem sameS_spec (M : Assn) (x y : Sta) (h1 : ∀ h, M h → StaOk h x) (h2 : ∀ h, M h → StaOk h y) (hn : x.rows.length ≤ 9223372036854775807) (hn2 : ∀ r ∈ x.rows, r.effs.length ≤ 9223372036854775807) : FnS Tryz.prog 29 [.agg (staC x).toArray, .agg (staC y).toArray] [M] (fun u Bs => u = .bool (staEq x y) ∧ Bs = [M]) := by
 refine fn_body Tryz.func29 rfl rfl rfl ?_
 intro W0 R
 simp only [List.zipIdx_cons, List.zipIdx_nil, List.map_cons, List.map_nil, Nat.zero_add, Nat.reduceAdd, List.cons_append, List.nil_append]
 refine g_seq ?_
 refine g_region ?_
 refine gl_n rfl (o_boxA rfl) ?_
 rintro _ _ ⟨b2, rfl, rfl⟩
 refine gl_n rfl (o_boxA rfl) ?_
 rintro _ _ ⟨b3, rfl, rfl⟩
 refine gl_v rfl (o_assign rfl) ?_
 refine gl_nil ?_
 refine ge_then ?_
 refine g_seq ?_
 refine g_region ?_
 first | refine gl_v rfl (o_fldS rfl) ?_ | refine gl_v rfl (o_fld rfl) ?_
 first | refine gl_v rfl (o_load rfl rfl) ?_ | refine gl_v rfl (o_loadS rfl rfl) ?_ | refine gl_v rfl (o_loadC rfl) ?_
 first | refine gl_v rfl (o_fldS rfl) ?_ | refine gl_v rfl (o_fld rfl) ?_
 first | refine gl_v rfl (o_load rfl rfl) ?_ | refine gl_v rfl (o_loadS rfl rfl) ?_ | refine gl_v rfl (o_loadC rfl) ?_
 refine gl_v rfl (o_eqls rfl rfl) ?_
 refine gl_v rfl (o_move rfl) ?_
 refine gl_join (d := 16) 6 (.bool (staEq x y)) ?_ (fun jk16 => ?_)
 rotate_left
 ·
  refine gl_g rfl rfl (fun hc1 => ?_) (fun hc1 => ?_) rfl
  ·
   have hc1' := hc1
   replace hc1' := hs_ hc1'
   first | refine gl_v rfl (o_fldS rfl) ?_ | refine gl_v rfl (o_fld rfl) ?_
   refine gl_gT rfl rfl hc1 ?_
   first | refine gl_v rfl (o_load rfl rfl) ?_ | refine gl_v rfl (o_loadS rfl rfl) ?_ | refine gl_v rfl (o_loadC rfl) ?_
   refine gl_gT rfl rfl hc1 ?_
   first | refine gl_v rfl (o_fldS rfl) ?_ | refine gl_v rfl (o_fld rfl) ?_
   refine gl_gT rfl rfl hc1 ?_
   first | refine gl_v rfl (o_load rfl rfl) ?_ | refine gl_v rfl (o_loadS rfl rfl) ?_ | refine gl_v rfl (o_loadC rfl) ?_
   refine gl_gT rfl rfl hc1 ?_
   refine gl_c rfl (o_call rfl (EqF_Row x.rows y.rows x.ra y.ra x.rc y.rc M hn (fun h a => (h1 h a).rd.1) (fun h a => (h2 h a).rd.1) 31 rowEq (fun r hr q hq => sameR_spec M r q (fun h a => (h1 h a).rows r hr) (fun h a => (h2 h a).rows q hq) (hn2 r hr))) pA) ?_
   rintro _ R ⟨_, ⟨rfl, rfl⟩, rfl⟩
   try simp only [List.cons_append, List.nil_append]
   refine gl_v rfl (o_pickT hc1 rfl rfl) ?_
   first | exact jk16 _ (KeepS.top (by repeat (first | exact KeepS.refl _ | refine KeepS.push ?_ rfl)) (jval (by first | rfl | (simp only [hc1, staEq, Bool.not_true, Bool.not_false, Bool.false_and, Bool.true_and, Bool.true_or, Bool.false_or]; done) | (simp [hc1, staEq]; done) | simp_all))) | exact gl_imp (tO) (jk16 _ (KeepS.top (by repeat (first | exact KeepS.refl _ | refine KeepS.push ?_ rfl)) (jval (by first | rfl | (simp only [hc1, staEq, Bool.not_true, Bool.not_false, Bool.false_and, Bool.true_and, Bool.true_or, Bool.false_or]; done) | (simp [hc1, staEq]; done) | simp_all))))
  ·
   have hc1' := hc1
   replace hc1' := hs_ hc1'
   simp only [putO]
   refine gl_gF rfl rfl hc1 rfl ?_
   refine gl_gF rfl rfl hc1 rfl ?_
   refine gl_gF rfl rfl hc1 rfl ?_
   refine gl_gF rfl rfl hc1 rfl ?_
   refine gl_v rfl (o_pickF hc1 rfl rfl) ?_
   first | exact jk16 _ (KeepS.top (by repeat (first | exact KeepS.refl _ | refine KeepS.push ?_ rfl)) (jval (by first | rfl | (simp only [hc1, staEq, Bool.not_true, Bool.not_false, Bool.false_and, Bool.true_and, Bool.true_or, Bool.false_or]; done) | (simp [hc1, staEq]; done) | simp_all))) | exact gl_imp (tO) (jk16 _ (KeepS.top (by repeat (first | exact KeepS.refl _ | refine KeepS.push ?_ rfl)) (jval (by first | rfl | (simp only [hc1, staEq, Bool.not_true, Bool.not_false, Bool.false_and, Bool.true_and, Bool.true_or, Bool.false_or]; done) | (simp [hc1, staEq]; done) | simp_all))))
 refine gl_v rfl (o_assign rfl) ?_
 refine gl_nil ?_
 refine ge_then ?_
 refine g_ret ?_
 refine ret1 (.inl rfl) rfl rfl _ (⟨rfl, rfl⟩) (tO)

set_option maxRecDepth 8000 in
set_option maxHeartbeats 1000000 in
theorem sameK_spec (M : Assn) (x y : Knd) (h1 : ∀ h, M h → KndOk h x) (h2 : ∀ h, M h → KndOk h y) (hn : LenK x) : FnS Tryz.prog 26 [.agg (kndC x).toArray, .agg (kndC y).toArray] [M] (fun u Bs => u = .bool (kndEq x y) ∧ Bs = [M]) := by
 refine fn_body Tryz.func26 rfl rfl rfl ?_
 intro W0 R
 simp only [List.zipIdx_cons, List.zipIdx_nil, List.map_cons, List.map_nil, Nat.zero_add, Nat.reduceAdd, List.cons_append, List.nil_append]
 refine g_seq ?_
 refine g_region ?_
 refine gl_n rfl (o_boxA rfl) ?_
 rintro _ _ ⟨b2, rfl, rfl⟩
 refine gl_n rfl (o_boxA rfl) ?_
 rintro _ _ ⟨b3, rfl, rfl⟩
 refine gl_v rfl (o_assign rfl) ?_
 refine gl_nil ?_
 refine ge_then ?_
 refine g_seq ?_
 refine g_region ?_
 first | refine gl_v rfl (o_fldS rfl) ?_ | refine gl_v rfl (o_fld rfl) ?_
 first | refine gl_v rfl (o_load rfl rfl) ?_ | refine gl_v rfl (o_loadS rfl rfl) ?_ | refine gl_v rfl (o_loadC rfl) ?_
 first | refine gl_v rfl (o_fldS rfl) ?_ | refine gl_v rfl (o_fld rfl) ?_
 first | refine gl_v rfl (o_load rfl rfl) ?_ | refine gl_v rfl (o_loadS rfl rfl) ?_ | refine gl_v rfl (o_loadC rfl) ?_
 refine gl_v rfl (o_eqls rfl rfl) ?_
 refine gl_v rfl (o_move rfl) ?_
 refine gl_join (d := 37) 27 (.bool (kndEq x y)) ?_ (fun jk37 => ?_)
 rotate_left
 ·
  refine gl_g rfl rfl (fun hc1 => ?_) (fun hc1 => ?_) rfl
  ·
   have hc1' := hc1
   replace hc1' := hs_ hc1'
   first | refine gl_v rfl (o_fldS rfl) ?_ | refine gl_v rfl (o_fld rfl) ?_
   refine gl_gT rfl rfl hc1 ?_
   first | refine gl_v rfl (o_load rfl rfl) ?_ | refine gl_v rfl (o_loadS rfl rfl) ?_ | refine gl_v rfl (o_loadC rfl) ?_
   refine gl_gT rfl rfl hc1 ?_
   first | refine gl_v rfl (o_fldS rfl) ?_ | refine gl_v rfl (o_fld rfl) ?_
   refine gl_gT rfl rfl hc1 ?_
   first | refine gl_v rfl (o_load rfl rfl) ?_ | refine gl_v rfl (o_loadS rfl rfl) ?_ | refine gl_v rfl (o_loadC rfl) ?_
   refine gl_gT rfl rfl hc1 ?_
   refine gl_v rfl (o_eql rfl rfl) ?_
   refine gl_v rfl (o_pickT hc1 rfl rfl) ?_
   refine gl_v rfl (o_move rfl) ?_
   refine gl_g rfl rfl (fun hc2 => ?_) (fun hc2 => ?_) rfl
   ·
    have hc2' := hc2
    replace hc2' := hs_ hc2'
    first | refine gl_v rfl (o_fldS rfl) ?_ | refine gl_v rfl (o_fld rfl) ?_
    refine gl_gT rfl rfl hc2 ?_
    first | refine gl_v rfl (o_load rfl rfl) ?_ | refine gl_v rfl (o_loadS rfl rfl) ?_ | refine gl_v rfl (o_loadC rfl) ?_
    refine gl_gT rfl rfl hc2 ?_
    first | refine gl_v rfl (o_fldS rfl) ?_ | refine gl_v rfl (o_fld rfl) ?_
    refine gl_gT rfl rfl hc2 ?_
    first | refine gl_v rfl (o_load rfl rfl) ?_ | refine gl_v rfl (o_loadS rfl rfl) ?_ | refine gl_v rfl (o_loadC rfl) ?_
    refine gl_gT rfl rfl hc2 ?_
    refine gl_v rfl (o_eql rfl rfl) ?_
    refine gl_v rfl (o_pickT hc2 rfl rfl) ?_
    refine gl_v rfl (o_move rfl) ?_
    refine gl_g rfl rfl (fun hc3 => ?_) (fun hc3 => ?_) rfl
    ·
     have hc3' := hc3
     replace hc3' := hs_ hc3'
     first | refine gl_v rfl (o_fldS rfl) ?_ | refine gl_v rfl (o_fld rfl) ?_
     refine gl_gT rfl rfl hc3 ?_
     first | refine gl_v rfl (o_load rfl rfl) ?_ | refine gl_v rfl (o_loadS rfl rfl) ?_ | refine gl_v rfl (o_loadC rfl) ?_
     refine gl_gT rfl rfl hc3 ?_
     first | refine gl_v rfl (o_fldS rfl) ?_ | refine gl_v rfl (o_fld rfl) ?_
     refine gl_gT rfl rfl hc3 ?_
     first | refine gl_v rfl (o_load rfl rfl) ?_ | refine gl_v rfl (o_loadS rfl rfl) ?_ | refine gl_v rfl (o_loadC rfl) ?_
     refine gl_gT rfl rfl hc3 ?_
     refine gl_c rfl (o_call rfl (Eq_Cas x.cases y.cases x.ca y.ca x.cc y.cc M hn.1 (fun h a => (h1 h a).rdc.1) (fun h a => (h2 h a).rdc.1)) pA) ?_
     rintro _ R ⟨_, ⟨rfl, rfl⟩, rfl⟩
     try simp only [List.cons_append, List.nil_append]
     refine gl_v rfl (o_pickT hc3 rfl rfl) ?_
     refine gl_v rfl (o_move rfl) ?_
     refine gl_g rfl rfl (fun hc4 => ?_) (fun hc4 => ?_) rfl
     ·
      have hc4' := hc4
      replace hc4' := hs_ hc4'
      first | refine gl_v rfl (o_fldS rfl) ?_ | refine gl_v rfl (o_fld rfl) ?_
      refine gl_gT rfl rfl hc4 ?_
      first | refine gl_v rfl (o_load rfl rfl) ?_ | refine gl_v rfl (o_loadS rfl rfl) ?_ | refine gl_v rfl (o_loadC rfl) ?_
      refine gl_gT rfl rfl hc4 ?_
      first | refine gl_v rfl (o_fldS rfl) ?_ | refine gl_v rfl (o_fld rfl) ?_
      refine gl_gT rfl rfl hc4 ?_
      first | refine gl_v rfl (o_load rfl rfl) ?_ | refine gl_v rfl (o_loadS rfl rfl) ?_ | refine gl_v rfl (o_loadC rfl) ?_
      refine gl_gT rfl rfl hc4 ?_
      refine gl_c rfl (o_call rfl (EqF_Sta x.states y.states x.sa y.sa x.sc y.sc M hn.2.1 (fun h a => (h1 h a).rds.1) (fun h a => (h2 h a).rds.1) 29 staEq (fun r hr q hq => sameS_spec M r q (fun h a => (h1 h a).states r hr) (fun h a => (h2 h a).states q hq) (hn.2.2 r hr).1 (hn.2.2 r hr).2)) pA) ?_
      rintro _ R ⟨_, ⟨rfl, rfl⟩, rfl⟩
      try simp only [List.cons_append, List.nil_append]
      refine gl_v rfl (o_pickT hc4 rfl rfl) ?_
      first | exact jk37 _ (KeepS.top (by repeat (first | exact KeepS.refl _ | refine KeepS.push ?_ rfl)) (jval (by first | rfl | (simp only [hc1, hc2, hc3, hc4, kndEq, Bool.not_true, Bool.not_false, Bool.false_and, Bool.true_and, Bool.true_or, Bool.false_or]; done) | (simp [hc1, hc2, hc3, hc4, kndEq]; done) | simp_all))) | exact gl_imp (tO) (jk37 _ (KeepS.top (by repeat (first | exact KeepS.refl _ | refine KeepS.push ?_ rfl)) (jval (by first | rfl | (simp only [hc1, hc2, hc3, hc4, kndEq, Bool.not_true, Bool.not_false, Bool.false_and, Bool.true_and, Bool.true_or, Bool.false_or]; done) | (simp [hc1, hc2, hc3, hc4, kndEq]; done) | simp_all))))
     ·
      have hc4' := hc4
      replace hc4' := hs_ hc4'
      simp only [putO]
      refine gl_gF rfl rfl hc4 rfl ?_
      refine gl_gF rfl rfl hc4 rfl ?_
      refine gl_gF rfl rfl hc4 rfl ?_
      refine gl_gF rfl rfl hc4 rfl ?_
      refine gl_v rfl (o_pickF hc4 rfl rfl) ?_
      first | exact jk37 _ (KeepS.top (by repeat (first | exact KeepS.refl _ | refine KeepS.push ?_ rfl)) (jval (by first | rfl | (simp only [hc1, hc2, hc3, hc4, kndEq, Bool.not_true, Bool.not_false, Bool.false_and, Bool.true_and, Bool.true_or, Bool.false_or]; done) | (simp [hc1, hc2, hc3, hc4, kndEq]; done) | simp_all))) | exact gl_imp (tO) (jk37 _ (KeepS.top (by repeat (first | exact KeepS.refl _ | refine KeepS.push ?_ rfl)) (jval (by first | rfl | (simp only [hc1, hc2, hc3, hc4, kndEq, Bool.not_true, Bool.not_false, Bool.false_and, Bool.true_and, Bool.true_or, Bool.false_or]; done) | (simp [hc1, hc2, hc3, hc4, kndEq]; done) | simp_all))))
    ·
     have hc3' := hc3
     replace hc3' := hs_ hc3'
     simp only [putO]
     refine gl_gF rfl rfl hc3 rfl ?_
     refine gl_gF rfl rfl hc3 rfl ?_
     refine gl_gF rfl rfl hc3 rfl ?_
     refine gl_gF rfl rfl hc3 rfl ?_
     refine gl_v rfl (o_pickF hc3 rfl rfl) ?_
     refine gl_v rfl (o_move rfl) ?_
     refine gl_gF rfl rfl rfl rfl ?_
     refine gl_gF rfl rfl rfl rfl ?_
     refine gl_gF rfl rfl rfl rfl ?_
     refine gl_gF rfl rfl rfl rfl ?_
     refine gl_gF rfl rfl rfl rfl ?_
     refine gl_v rfl (o_pickF rfl rfl rfl) ?_
     first | exact jk37 _ (KeepS.top (by repeat (first | exact KeepS.refl _ | refine KeepS.push ?_ rfl)) (jval (by first | rfl | (simp only [hc1, hc2, hc3, kndEq, Bool.not_true, Bool.not_false, Bool.false_and, Bool.true_and, Bool.true_or, Bool.false_or]; done) | (simp [hc1, hc2, hc3, kndEq]; done) | simp_all))) | exact gl_imp (tO) (jk37 _ (KeepS.top (by repeat (first | exact KeepS.refl _ | refine KeepS.push ?_ rfl)) (jval (by first | rfl | (simp only [hc1, hc2, hc3, kndEq, Bool.not_true, Bool.not_false, Bool.false_and, Bool.true_and, Bool.true_or, Bool.false_or]; done) | (simp [hc1, hc2, hc3, kndEq]; done) | simp_all))))
   ·
    have hc2' := hc2
    replace hc2' := hs_ hc2'
    simp only [putO]
    refine gl_gF rfl rfl hc2 rfl ?_
    refine gl_gF rfl rfl hc2 rfl ?_
    refine gl_gF rfl rfl hc2 rfl ?_
    refine gl_gF rfl rfl hc2 rfl ?_
    refine gl_v rfl (o_pickF hc2 rfl rfl) ?_
    refine gl_v rfl (o_move rfl) ?_
    refine gl_gF rfl rfl rfl rfl ?_
    refine gl_gF rfl rfl rfl rfl ?_
    refine gl_gF rfl rfl rfl rfl ?_
    refine gl_gF rfl rfl rfl rfl ?_
    refine gl_gF rfl rfl rfl rfl ?_
    refine gl_v rfl (o_pickF rfl rfl rfl) ?_
    refine gl_v rfl (o_move rfl) ?_
    refine gl_gF rfl rfl rfl rfl ?_
    refine gl_gF rfl rfl rfl rfl ?_
    refine gl_gF rfl rfl rfl rfl ?_
    refine gl_gF rfl rfl rfl rfl ?_
    refine gl_gF rfl rfl rfl rfl ?_
    refine gl_v rfl (o_pickF rfl rfl rfl) ?_
    first | exact jk37 _ (KeepS.top (by repeat (first | exact KeepS.refl _ | refine KeepS.push ?_ rfl)) (jval (by first | rfl | (simp only [hc1, hc2, kndEq, Bool.not_true, Bool.not_false, Bool.false_and, Bool.true_and, Bool.true_or, Bool.false_or]; done) | (simp [hc1, hc2, kndEq]; done) | simp_all))) | exact gl_imp (tO) (jk37 _ (KeepS.top (by repeat (first | exact KeepS.refl _ | refine KeepS.push ?_ rfl)) (jval (by first | rfl | (simp only [hc1, hc2, kndEq, Bool.not_true, Bool.not_false, Bool.false_and, Bool.true_and, Bool.true_or, Bool.false_or]; done) | (simp [hc1, hc2, kndEq]; done) | simp_all))))
  ·
   have hc1' := hc1
   replace hc1' := hs_ hc1'
   simp only [putO]
   refine gl_gF rfl rfl hc1 rfl ?_
   refine gl_gF rfl rfl hc1 rfl ?_
   refine gl_gF rfl rfl hc1 rfl ?_
   refine gl_gF rfl rfl hc1 rfl ?_
   refine gl_v rfl (o_pickF hc1 rfl rfl) ?_
   refine gl_v rfl (o_move rfl) ?_
   refine gl_gF rfl rfl rfl rfl ?_
   refine gl_gF rfl rfl rfl rfl ?_
   refine gl_gF rfl rfl rfl rfl ?_
   refine gl_gF rfl rfl rfl rfl ?_
   refine gl_gF rfl rfl rfl rfl ?_
   refine gl_v rfl (o_pickF rfl rfl rfl) ?_
   refine gl_v rfl (o_move rfl) ?_
   refine gl_gF rfl rfl rfl rfl ?_
   refine gl_gF rfl rfl rfl rfl ?_
   refine gl_gF rfl rfl rfl rfl ?_
   refine gl_gF rfl rfl rfl rfl ?_
   refine gl_gF rfl rfl rfl rfl ?_
   refine gl_v rfl (o_pickF rfl rfl rfl) ?_
   refine gl_v rfl (o_move rfl) ?_
   refine gl_gF rfl rfl rfl rfl ?_
   refine gl_gF rfl rfl rfl rfl ?_
   refine gl_gF rfl rfl rfl rfl ?_
   refine gl_gF rfl rfl rfl rfl ?_
   refine gl_gF rfl rfl rfl rfl ?_
   refine gl_v rfl (o_pickF rfl rfl rfl) ?_
   first | exact jk37 _ (KeepS.top (by repeat (first | exact KeepS.refl _ | refine KeepS.push ?_ rfl)) (jval (by first | rfl | (simp only [hc1, kndEq, Bool.not_true, Bool.not_false, Bool.false_and, Bool.true_and, Bool.true_or, Bool.false_or]; done) | (simp [hc1, kndEq]; done) | simp_all))) | exact gl_imp (tO) (jk37 _ (KeepS.top (by repeat (first | exact KeepS.refl _ | refine KeepS.push ?_ rfl)) (jval (by first | rfl | (simp only [hc1, kndEq, Bool.not_true, Bool.not_false, Bool.false_and, Bool.true_and, Bool.true_or, Bool.false_or]; done) | (simp [hc1, kndEq]; done) | simp_all))))
 refine gl_v rfl (o_assign rfl) ?_
 refine gl_nil ?_
 refine ge_then ?_
 refine g_ret ?_
 refine ret1 (.inl rfl) rfl rfl _ (⟨rfl, rfl⟩) (tO)

set_option maxRecDepth 8000 in
set_option maxHeartbeats 1000000 in
theorem Same_spec (M : Assn) (K1 K2 : List Knd) (a1 a2 : Option Addr) (c1 c2 : Nat) (h1 : ∀ h, M h → PrgOk h a1 c1 K1) (h2 : ∀ h, M h → PrgOk h a2 c2 K2) (hn : K1.length ≤ 9223372036854775807) (hk : ∀ k ∈ K1, LenK k) : FnS Tryz.prog 8 [.agg #[.slice a1 K1.length c1], .agg #[.slice a2 K2.length c2]] [M] (fun u Bs => u = .bool (sameL kndEq K1 K2) ∧ Bs = [M]) := by
 refine fn_body Tryz.func8 rfl rfl rfl ?_
 intro W0 R
 simp only [List.zipIdx_cons, List.zipIdx_nil, List.map_cons, List.map_nil, Nat.zero_add, Nat.reduceAdd, List.cons_append, List.nil_append]
 refine g_seq ?_
 refine g_region ?_
 refine gl_n rfl (o_boxA rfl) ?_
 rintro _ _ ⟨b2, rfl, rfl⟩
 refine gl_n rfl (o_boxA rfl) ?_
 rintro _ _ ⟨b3, rfl, rfl⟩
 refine gl_v rfl (o_assign rfl) ?_
 refine gl_nil ?_
 refine ge_then ?_
 refine g_seq ?_
 refine g_region ?_
 first | refine gl_v rfl (o_fldS rfl) ?_ | refine gl_v rfl (o_fld rfl) ?_
 first | refine gl_v rfl (o_load rfl rfl) ?_ | refine gl_v rfl (o_loadS rfl rfl) ?_ | refine gl_v rfl (o_loadC rfl) ?_
 first | refine gl_v rfl (o_fldS rfl) ?_ | refine gl_v rfl (o_fld rfl) ?_
 first | refine gl_v rfl (o_load rfl rfl) ?_ | refine gl_v rfl (o_loadS rfl rfl) ?_ | refine gl_v rfl (o_loadC rfl) ?_
 refine gl_c rfl (o_call rfl (EqF_Knd K1 K2 a1 a2 c1 c2 M hn (fun h a => (h1 h a).rd.1) (fun h a => (h2 h a).rd.1) 26 kndEq (fun r hr q hq => sameK_spec M r q (fun h a => (h1 h a).kinds r hr) (fun h a => (h2 h a).kinds q hq) (hk r hr))) pA) ?_
 rintro _ R ⟨_, ⟨rfl, rfl⟩, rfl⟩
 try simp only [List.cons_append, List.nil_append]
 refine gl_v rfl (o_assign rfl) ?_
 refine gl_nil ?_
 refine ge_then ?_
 refine g_ret ?_
 refine ret1 (.inl rfl) rfl rfl _ (⟨rfl, rfl⟩) (tO)

end Go.Proofs.YtgmdlhlmffdbhaaGreatDoor.L
