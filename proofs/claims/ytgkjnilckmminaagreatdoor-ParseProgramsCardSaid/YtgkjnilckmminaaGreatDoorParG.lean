/-
  Parse: Great, the reference's Same. Own work, printed in part by a program of its own.
-/
import Derived.Test.YtgkjnilckmminaaGreatDoorParL
import Derived.Test.YtgkjnilckmminaaGreatDoorParZ
set_option linter.unusedSimpArgs false
set_option linter.unusedVariables false
set_option linter.unusedSectionVars false
namespace Go.Proofs.YtgkjnilckmminaaGreatDoor.L
open Go.L Go.L.Lx Go.L.Pg Go.L.Pa

set_option maxRecDepth 8000 in
set_option maxHeartbeats 4000000 in
theorem Great_spec (M : Assn) (K : List Knd) (a : Option Addr) (c : Nat) (hP : ∀ h, M h → PrgOk h a c K) (hKl : K.length ≤ 9223372036854775806) (hkl : ∀ k ∈ K, LenK k) : FnS Tryz.prog 16 [.agg #[.slice a K.length c]] [M] (fun u Bs => ∃ g, u = .bool g ∧ (g = false → sm kndZ K ≤ 20000) ∧ Bs = [M]) := by
 refine fn_body Tryz.func16 rfl rfl rfl ?_
 intro W0 R
 simp only [List.zipIdx_cons, List.zipIdx_nil, List.map_cons, List.map_nil, Nat.zero_add, Nat.reduceAdd, List.cons_append, List.nil_append]
 haveI iK : RdA (.slice a K.length c) M K.length (K.flatMap kndC) := ⟨fun a => (hP _ a).rd.1⟩
 refine g_seq ?_
 refine g_region ?_
 refine gl_n rfl (o_boxA rfl) ?_
 rintro _ _ ⟨b1, rfl, rfl⟩
 refine gl_v rfl (o_assign rfl) ?_
 refine gl_nil ?_
 refine ge_then ?_
 refine g_seq ?_
 refine g_region ?_
 refine gl_v rfl (o_assign rfl) ?_
 refine gl_nil ?_
 refine ge_then ?_
 refine g_seq ?_
 refine g_seq ?_
 refine g_region ?_
 refine gl_v rfl (o_assign rfl) ?_
 refine gl_nil ?_
 refine ge_then ?_
 refine g_block ?_
 refine g_loop (ι := Nat × Nat) (fun x => x.1 ≤ K.length ∧ x.2 ≤ 100000 ∧ (x.2 ≤ 20000 → x.2 = sm kndZ (K.take x.1))) (fun x => [(4, I64 x.1), (3, I64 x.2), (1, ptr b1 0)]) (fun _ => cel b1 25 [.slice a K.length c] :: M :: R) (fun x => K.length - x.1) (0, 0) (⟨Nat.zero_le _, by omega, fun _ => rfl⟩) (Keep.cons rfl (Keep.cons rfl (Keep.cons rfl (Keep.nil)))) (tO) ?_
 rintro ⟨j, nn⟩ ⟨hj, hnb, hnE⟩
 replace hj : j ≤ K.length := hj
 replace hnb : nn ≤ 100000 := hnb
 replace hnE : nn ≤ 20000 → nn = sm kndZ (K.take j) := hnE
 dsimp only
 refine g_seq ?_
 refine g_seq ?_
 refine g_region ?_
 refine gl_v rfl (o_move rfl) ?_
 first | refine gl_v rfl (o_fldS rfl) ?_ | refine gl_v rfl (o_fld rfl) ?_
 first | refine gl_v rfl (o_load rfl rfl) ?_ | refine gl_v rfl (o_loadS rfl rfl) ?_ | refine gl_v rfl (o_loadC rfl) ?_
 first | refine gl_v rfl (o_len rfl) ?_ | refine gl_v rfl (o_lenL rfl) ?_
 refine gl_v rfl (o_lss rfl rfl) ?_
 refine gl_v rfl (o_move rfl) ?_
 refine gl_join (d := 20) 3 (.bool (decide ((j : Int) < K.length) && decide ((nn : Int) ≤ 20000))) ?_ (fun jk20 => ?_)
 rotate_left
 ·
  refine gl_g rfl rfl (fun hc1 => ?_) (fun hc1 => ?_) rfl
  ·
   have hc1' := hc1
   replace hc1' := hs_ hc1'
   refine gl_v rfl (o_move rfl) ?_
   refine gl_gT rfl rfl hc1 ?_
   refine gl_v rfl (o_leq rfl rfl) ?_
   refine gl_v rfl (o_pickT hc1 rfl rfl) ?_
   first | exact jk20 _ (KeepS.top (by repeat (first | exact KeepS.refl _ | refine KeepS.push ?_ rfl)) (jval (by first | rfl | (simp only [hc1, Bool.not_true, Bool.not_false, Bool.false_and, Bool.true_and, Bool.true_or, Bool.false_or]; done) | (simp [hc1, ]; done) | simp_all))) | exact gl_imp (tO) (jk20 _ (KeepS.top (by repeat (first | exact KeepS.refl _ | refine KeepS.push ?_ rfl)) (jval (by first | rfl | (simp only [hc1, Bool.not_true, Bool.not_false, Bool.false_and, Bool.true_and, Bool.true_or, Bool.false_or]; done) | (simp [hc1, ]; done) | simp_all))))
  ·
   have hc1' := hc1
   replace hc1' := hs_ hc1'
   simp only [putO]
   refine gl_gF rfl rfl hc1 rfl ?_
   refine gl_v rfl (o_pickF hc1 rfl rfl) ?_
   first | exact jk20 _ (KeepS.top (by repeat (first | exact KeepS.refl _ | refine KeepS.push ?_ rfl)) (jval (by first | rfl | (simp only [hc1, Bool.not_true, Bool.not_false, Bool.false_and, Bool.true_and, Bool.true_or, Bool.false_or]; done) | (simp [hc1, ]; done) | simp_all))) | exact gl_imp (tO) (jk20 _ (KeepS.top (by repeat (first | exact KeepS.refl _ | refine KeepS.push ?_ rfl)) (jval (by first | rfl | (simp only [hc1, Bool.not_true, Bool.not_false, Bool.false_and, Bool.true_and, Bool.true_or, Bool.false_or]; done) | (simp [hc1, ]; done) | simp_all))))
 refine gl_nil ?_
 refine ge_then ?_
 refine g_cond rfl (fun hc2 => ?_) (fun hc2 => ?_)
 ·
  replace hc2 := hs_ hc2
  replace hc2 : (j : Int) < K.length ∧ (nn : Int) ≤ 20000 := by simpa using hc2
  obtain ⟨hlt, hle⟩ := hc2
  obtain ⟨k, hk⟩ : ∃ t, K[j]? = some t := ⟨_, List.getElem?_eq_getElem (show j < K.length by omega)⟩
  have hkm := List.mem_of_getElem? hk
  obtain ⟨hl1, hl2, hl3⟩ := hkl k hkm
  haveI iC : RdA (.slice k.ca k.cases.length k.cc) M k.cases.length (k.cases.flatMap casC) := ⟨fun a => ((hP _ a).kinds k hkm).rdc.1⟩
  haveI iS : RdA (.slice k.sa k.states.length k.sc) M k.states.length (k.states.flatMap staC) := ⟨fun a => ((hP _ a).kinds k hkm).rds.1⟩
  have hnl_k_name : nl k.name ≤ 20000 := by unfold nl; omega
  refine g_skip ?_
  refine ge_then ?_
  refine g_seq ?_
  refine g_block ?_
  refine g_seq ?_
  refine g_region ?_
  first | refine gl_v rfl (o_fldS rfl) ?_ | refine gl_v rfl (o_fld rfl) ?_
  first | refine gl_v rfl (o_load rfl rfl) ?_ | refine gl_v rfl (o_loadS rfl rfl) ?_ | refine gl_v rfl (o_loadC rfl) ?_
  refine gl_v rfl (o_move rfl) ?_
  refine gl_v rfl (o_idxS rfl rfl (show j < K.length by omega)) ?_
  refine gl_v rfl (o_loadSA rfl (flat_take kndC 5 kndC_len hk) rfl) ?_
  refine gl_n rfl (o_alloc) ?_
  rintro _ _ ⟨b5, rfl, rfl⟩
  first | refine gl_u (o_storeSA rfl rfl rfl rfl (by simp; omega) (by simp)) ?_ | refine gl_u (o_storeA rfl rfl rfl rfl rfl) ?_
  refine gl_nil ?_
  refine ge_then ?_
  refine g_seq ?_
  refine g_region ?_
  refine gl_v rfl (o_move rfl) ?_
  refine gl_v rfl (o_addR ((nn + 1 : Nat) : Int) (by rw [wr_i64 (by omega)]; omega) rfl rfl) ?_
  first | refine gl_v rfl (o_fldS rfl) ?_ | refine gl_v rfl (o_fld rfl) ?_
  first | refine gl_v rfl (o_load rfl rfl) ?_ | refine gl_v rfl (o_loadS rfl rfl) ?_ | refine gl_v rfl (o_loadC rfl) ?_
  refine gl_v rfl (o_lens rfl) ?_
  refine gl_v rfl (o_min ((nl k.name : Nat) : Int) (by unfold nl; split <;> omega) rfl rfl) ?_
  refine gl_v rfl (o_addR ((nn + 1 + nl k.name : Nat) : Int) (by rw [wr_i64 (by omega)]; omega) rfl rfl) ?_
  refine gl_v rfl (o_assign rfl) ?_
  refine gl_nil ?_
  refine ge_then ?_
  refine g_seq ?_
  refine g_seq ?_
  refine g_region ?_
  refine gl_v rfl (o_assign rfl) ?_
  refine gl_nil ?_
  refine ge_then ?_
  refine g_block ?_
  refine g_loop (ι := Nat × Nat) (fun x => x.1 ≤ k.cases.length ∧ x.2 ≤ 100000 ∧ (x.2 ≤ 20000 → x.2 = sm kndZ (K.take j) + 1 + nl k.name + sm casZ (k.cases.take x.1))) (fun x => [(6, I64 x.1), (3, I64 x.2), (5, ptr b5 0), (4, I64 j), (1, ptr b1 0)]) (fun _ => cel b5 51 (kndC k) :: cel b1 25 [.slice a K.length c] :: M :: R) (fun x => k.cases.length - x.1) (0, nn + 1 + nl k.name) (⟨Nat.zero_le _, by show nn + 1 + nl k.name ≤ 100000; omega, fun hn => by
    replace hn : nn + 1 + nl k.name ≤ 20000 := hn
    have h1 := hnE (by omega)
    show nn + 1 + nl k.name = sm kndZ (K.take j) + 1 + nl k.name + 0
    omega⟩) (Keep.cons rfl (Keep.cons rfl (Keep.cons rfl (Keep.cons rfl (Keep.cons rfl (Keep.nil)))))) (tO) ?_
  rintro ⟨i, nn⟩ ⟨hi, hnb, hnE⟩
  replace hi : i ≤ k.cases.length := hi
  replace hnb : nn ≤ 100000 := hnb
  replace hnE : nn ≤ 20000 → nn = sm kndZ (K.take j) + 1 + nl k.name + sm casZ (k.cases.take i) := hnE
  dsimp only
  refine g_seq ?_
  refine g_seq ?_
  refine g_region ?_
  refine gl_v rfl (o_move rfl) ?_
  first | refine gl_v rfl (o_fldS rfl) ?_ | refine gl_v rfl (o_fld rfl) ?_
  first | refine gl_v rfl (o_load rfl rfl) ?_ | refine gl_v rfl (o_loadS rfl rfl) ?_ | refine gl_v rfl (o_loadC rfl) ?_
  first | refine gl_v rfl (o_len rfl) ?_ | refine gl_v rfl (o_lenL rfl) ?_
  refine gl_v rfl (o_lss rfl rfl) ?_
  refine gl_v rfl (o_move rfl) ?_
  refine gl_join (d := 43) 3 (.bool (decide ((i : Int) < k.cases.length) && decide ((nn : Int) ≤ 20000))) ?_ (fun jk43 => ?_)
  rotate_left
  ·
   refine gl_g rfl rfl (fun hc3 => ?_) (fun hc3 => ?_) rfl
   ·
    have hc3' := hc3
    replace hc3' := hs_ hc3'
    refine gl_v rfl (o_move rfl) ?_
    refine gl_gT rfl rfl hc3 ?_
    refine gl_v rfl (o_leq rfl rfl) ?_
    refine gl_v rfl (o_pickT hc3 rfl rfl) ?_
    first | exact jk43 _ (KeepS.top (by repeat (first | exact KeepS.refl _ | refine KeepS.push ?_ rfl)) (jval (by first | rfl | (simp only [hc3, Bool.not_true, Bool.not_false, Bool.false_and, Bool.true_and, Bool.true_or, Bool.false_or]; done) | (simp [hc3, ]; done) | simp_all))) | exact gl_imp (tO) (jk43 _ (KeepS.top (by repeat (first | exact KeepS.refl _ | refine KeepS.push ?_ rfl)) (jval (by first | rfl | (simp only [hc3, Bool.not_true, Bool.not_false, Bool.false_and, Bool.true_and, Bool.true_or, Bool.false_or]; done) | (simp [hc3, ]; done) | simp_all))))
   ·
    have hc3' := hc3
    replace hc3' := hs_ hc3'
    simp only [putO]
    refine gl_gF rfl rfl hc3 rfl ?_
    refine gl_v rfl (o_pickF hc3 rfl rfl) ?_
    first | exact jk43 _ (KeepS.top (by repeat (first | exact KeepS.refl _ | refine KeepS.push ?_ rfl)) (jval (by first | rfl | (simp only [hc3, Bool.not_true, Bool.not_false, Bool.false_and, Bool.true_and, Bool.true_or, Bool.false_or]; done) | (simp [hc3, ]; done) | simp_all))) | exact gl_imp (tO) (jk43 _ (KeepS.top (by repeat (first | exact KeepS.refl _ | refine KeepS.push ?_ rfl)) (jval (by first | rfl | (simp only [hc3, Bool.not_true, Bool.not_false, Bool.false_and, Bool.true_and, Bool.true_or, Bool.false_or]; done) | (simp [hc3, ]; done) | simp_all))))
  refine gl_nil ?_
  refine ge_then ?_
  refine g_cond rfl (fun hc4 => ?_) (fun hc4 => ?_)
  ·
   replace hc4 := hs_ hc4
   replace hc4 : (i : Int) < k.cases.length ∧ (nn : Int) ≤ 20000 := by simpa using hc4
   obtain ⟨hlt, hle⟩ := hc4
   obtain ⟨c1, hc⟩ : ∃ t, k.cases[i]? = some t := ⟨_, List.getElem?_eq_getElem (show i < k.cases.length by omega)⟩
   have hnl_c1_reason : nl c1.reason ≤ 20000 := by unfold nl; omega
   refine g_skip ?_
   refine ge_then ?_
   refine g_seq ?_
   refine g_block ?_
   refine g_region ?_
   refine gl_v rfl (o_move rfl) ?_
   refine gl_v rfl (o_addR ((nn + 1 : Nat) : Int) (by rw [wr_i64 (by omega)]; omega) rfl rfl) ?_
   first | refine gl_v rfl (o_fldS rfl) ?_ | refine gl_v rfl (o_fld rfl) ?_
   first | refine gl_v rfl (o_load rfl rfl) ?_ | refine gl_v rfl (o_loadS rfl rfl) ?_ | refine gl_v rfl (o_loadC rfl) ?_
   refine gl_v rfl (o_move rfl) ?_
   refine gl_v rfl (o_idxS rfl rfl (show i < k.cases.length by omega)) ?_
   first | refine gl_v rfl (o_fldS rfl) ?_ | refine gl_v rfl (o_fld rfl) ?_
   refine gl_v rfl (o_loadS rfl (flat_get casC 2 casC_len hc (show (casC _)[0]? = some _ from rfl))) ?_
   refine gl_v rfl (o_lens rfl) ?_
   refine gl_v rfl (o_min ((nl c1.reason : Nat) : Int) (by unfold nl; split <;> omega) rfl rfl) ?_
   refine gl_v rfl (o_addR ((nn + 1 + nl c1.reason : Nat) : Int) (by rw [wr_i64 (by omega)]; omega) rfl rfl) ?_
   refine gl_v rfl (o_assign rfl) ?_
   refine gl_nil ?_
   refine ge_block ?_
   refine ge_then ?_
   refine g_region ?_
   refine gl_v rfl (o_move rfl) ?_
   refine gl_v rfl (o_addR ((i + 1 : Nat) : Int) (by rw [wr_i64 (by omega)]; omega) rfl rfl) ?_
   refine gl_v rfl (o_assign rfl) ?_
   refine gl_nil ?_
   refine ge_round (i + 1, nn + 1 + nl c1.reason) ⟨show i + 1 ≤ k.cases.length by omega, by show nn + 1 + nl c1.reason ≤ 100000; omega, fun hn => ?_⟩ (by show k.cases.length - (i + 1) < k.cases.length - i; omega) (Keep.cons rfl (Keep.cons rfl (Keep.cons rfl (Keep.cons rfl (Keep.cons rfl (Keep.nil)))))) (tO)
   replace hn : nn + 1 + nl c1.reason ≤ 20000 := hn
   show nn + 1 + nl c1.reason = _
   have := hnE (by omega); rw [sm_succ hc]; have hz : casZ c1 = 1 + nl c1.reason := rfl; omega
  ·
   replace hc4 := hs_ hc4
   replace hc4 : ¬ ((i : Int) < k.cases.length ∧ (nn : Int) ≤ 20000) := fun h2 => by rw [decide_eq_true h2.1, decide_eq_true h2.2] at hc4; cases hc4
   replace hnE : nn ≤ 20000 → nn = sm kndZ (K.take j) + 1 + nl k.name + sm casZ k.cases := fun hn => by
     have h1 := hnE hn
     rw [show i = k.cases.length by omega, List.take_length] at h1; exact h1
   refine g_exit ?_
   refine ge_then_exit ?_
   refine ge_then_exit ?_
   refine ge_block_exit ?_
   refine ge_then ?_
   refine g_seq ?_
   refine g_region ?_
   refine gl_v rfl (o_assign rfl) ?_
   refine gl_nil ?_
   refine ge_then ?_
   refine g_block ?_
   refine g_loop (ι := Nat × Nat) (fun x => x.1 ≤ k.states.length ∧ x.2 ≤ 100000 ∧ (x.2 ≤ 20000 → x.2 = sm kndZ (K.take j) + 1 + nl k.name + sm casZ k.cases + sm staZ (k.states.take x.1))) (fun x => [(7, I64 x.1), (3, I64 x.2), (5, ptr b5 0), (4, I64 j), (1, ptr b1 0)]) (fun _ => cel b5 51 (kndC k) :: cel b1 25 [.slice a K.length c] :: M :: R) (fun x => k.states.length - x.1) (0, nn) (⟨Nat.zero_le _, by show nn ≤ 100000; omega, fun hn => by
     replace hn : nn ≤ 20000 := hn
     have h1 := hnE (by omega)
     show nn = sm kndZ (K.take j) + 1 + nl k.name + sm casZ k.cases + 0
     omega⟩) (Keep.cons rfl (Keep.cons rfl (Keep.cons rfl (Keep.cons rfl (Keep.cons rfl (Keep.nil)))))) (tO) ?_
   rintro ⟨i, nn⟩ ⟨hi, hnb, hnE⟩
   replace hi : i ≤ k.states.length := hi
   replace hnb : nn ≤ 100000 := hnb
   replace hnE : nn ≤ 20000 → nn = sm kndZ (K.take j) + 1 + nl k.name + sm casZ k.cases + sm staZ (k.states.take i) := hnE
   dsimp only
   refine g_seq ?_
   refine g_seq ?_
   refine g_region ?_
   refine gl_v rfl (o_move rfl) ?_
   first | refine gl_v rfl (o_fldS rfl) ?_ | refine gl_v rfl (o_fld rfl) ?_
   first | refine gl_v rfl (o_load rfl rfl) ?_ | refine gl_v rfl (o_loadS rfl rfl) ?_ | refine gl_v rfl (o_loadC rfl) ?_
   first | refine gl_v rfl (o_len rfl) ?_ | refine gl_v rfl (o_lenL rfl) ?_
   refine gl_v rfl (o_lss rfl rfl) ?_
   refine gl_v rfl (o_move rfl) ?_
   refine gl_join (d := 65) 3 (.bool (decide ((i : Int) < k.states.length) && decide ((nn : Int) ≤ 20000))) ?_ (fun jk65 => ?_)
   rotate_left
   ·
    refine gl_g rfl rfl (fun hc5 => ?_) (fun hc5 => ?_) rfl
    ·
     have hc5' := hc5
     replace hc5' := hs_ hc5'
     refine gl_v rfl (o_move rfl) ?_
     refine gl_gT rfl rfl hc5 ?_
     refine gl_v rfl (o_leq rfl rfl) ?_
     refine gl_v rfl (o_pickT hc5 rfl rfl) ?_
     first | exact jk65 _ (KeepS.top (by repeat (first | exact KeepS.refl _ | refine KeepS.push ?_ rfl)) (jval (by first | rfl | (simp only [hc5, Bool.not_true, Bool.not_false, Bool.false_and, Bool.true_and, Bool.true_or, Bool.false_or]; done) | (simp [hc5, ]; done) | simp_all))) | exact gl_imp (tO) (jk65 _ (KeepS.top (by repeat (first | exact KeepS.refl _ | refine KeepS.push ?_ rfl)) (jval (by first | rfl | (simp only [hc5, Bool.not_true, Bool.not_false, Bool.false_and, Bool.true_and, Bool.true_or, Bool.false_or]; done) | (simp [hc5, ]; done) | simp_all))))
    ·
     have hc5' := hc5
     replace hc5' := hs_ hc5'
     simp only [putO]
     refine gl_gF rfl rfl hc5 rfl ?_
     refine gl_v rfl (o_pickF hc5 rfl rfl) ?_
     first | exact jk65 _ (KeepS.top (by repeat (first | exact KeepS.refl _ | refine KeepS.push ?_ rfl)) (jval (by first | rfl | (simp only [hc5, Bool.not_true, Bool.not_false, Bool.false_and, Bool.true_and, Bool.true_or, Bool.false_or]; done) | (simp [hc5, ]; done) | simp_all))) | exact gl_imp (tO) (jk65 _ (KeepS.top (by repeat (first | exact KeepS.refl _ | refine KeepS.push ?_ rfl)) (jval (by first | rfl | (simp only [hc5, Bool.not_true, Bool.not_false, Bool.false_and, Bool.true_and, Bool.true_or, Bool.false_or]; done) | (simp [hc5, ]; done) | simp_all))))
   refine gl_nil ?_
   refine ge_then ?_
   refine g_cond rfl (fun hc6 => ?_) (fun hc6 => ?_)
   ·
    replace hc6 := hs_ hc6
    replace hc6 : (i : Int) < k.states.length ∧ (nn : Int) ≤ 20000 := by simpa using hc6
    obtain ⟨hlt, hle⟩ := hc6
    obtain ⟨s, hs⟩ : ∃ t, k.states[i]? = some t := ⟨_, List.getElem?_eq_getElem (show i < k.states.length by omega)⟩
    have hsm := List.mem_of_getElem? hs
    obtain ⟨hl4, hl5⟩ := hl3 s hsm
    haveI iR : RdA (.slice s.ra s.rows.length s.rc) M s.rows.length (s.rows.flatMap rowC) := ⟨fun a => (((hP _ a).kinds k hkm).states s hsm).rd.1⟩
    have hnl_s_name : nl s.name ≤ 20000 := by unfold nl; omega
    refine g_skip ?_
    refine ge_then ?_
    refine g_seq ?_
    refine g_block ?_
    refine g_seq ?_
    refine g_region ?_
    refine gl_v rfl (o_move rfl) ?_
    refine gl_v rfl (o_addR ((nn + 1 : Nat) : Int) (by rw [wr_i64 (by omega)]; omega) rfl rfl) ?_
    first | refine gl_v rfl (o_fldS rfl) ?_ | refine gl_v rfl (o_fld rfl) ?_
    first | refine gl_v rfl (o_load rfl rfl) ?_ | refine gl_v rfl (o_loadS rfl rfl) ?_ | refine gl_v rfl (o_loadC rfl) ?_
    refine gl_v rfl (o_move rfl) ?_
    refine gl_v rfl (o_idxS rfl rfl (show i < k.states.length by omega)) ?_
    first | refine gl_v rfl (o_fldS rfl) ?_ | refine gl_v rfl (o_fld rfl) ?_
    refine gl_v rfl (o_loadS rfl (flat_get staC 2 staC_len hs (show (staC _)[0]? = some _ from rfl))) ?_
    refine gl_v rfl (o_lens rfl) ?_
    refine gl_v rfl (o_min ((nl s.name : Nat) : Int) (by unfold nl; split <;> omega) rfl rfl) ?_
    refine gl_v rfl (o_addR ((nn + 1 + nl s.name : Nat) : Int) (by rw [wr_i64 (by omega)]; omega) rfl rfl) ?_
    refine gl_v rfl (o_assign rfl) ?_
    refine gl_nil ?_
    refine ge_then ?_
    refine g_seq ?_
    refine g_region ?_
    first | refine gl_v rfl (o_fldS rfl) ?_ | refine gl_v rfl (o_fld rfl) ?_
    first | refine gl_v rfl (o_load rfl rfl) ?_ | refine gl_v rfl (o_loadS rfl rfl) ?_ | refine gl_v rfl (o_loadC rfl) ?_
    refine gl_v rfl (o_move rfl) ?_
    refine gl_v rfl (o_idxS rfl rfl (show i < k.states.length by omega)) ?_
    first | refine gl_v rfl (o_fldS rfl) ?_ | refine gl_v rfl (o_fld rfl) ?_
    refine gl_v rfl (o_loadS rfl (flat_get staC 2 staC_len hs (show (staC _)[1]? = some _ from rfl))) ?_
    refine gl_v rfl (o_assign rfl) ?_
    refine gl_nil ?_
    refine ge_then ?_
    refine g_seq ?_
    refine g_region ?_
    refine gl_v rfl (o_assign rfl) ?_
    refine gl_nil ?_
    refine ge_then ?_
    refine g_block ?_
    refine g_loop (ι := Nat × Nat) (fun x => x.1 ≤ s.rows.length ∧ x.2 ≤ 100000 ∧ (x.2 ≤ 20000 → x.2 = sm kndZ (K.take j) + 1 + nl k.name + sm casZ k.cases + sm staZ (k.states.take i) + 1 + nl s.name + sm rowZ (s.rows.take x.1))) (fun x => [(9, I64 x.1), (3, I64 x.2), (8, .slice s.ra s.rows.length s.rc), (7, I64 i), (5, ptr b5 0), (4, I64 j), (1, ptr b1 0)]) (fun _ => cel b5 51 (kndC k) :: cel b1 25 [.slice a K.length c] :: M :: R) (fun x => s.rows.length - x.1) (0, nn + 1 + nl s.name) (⟨Nat.zero_le _, by show nn + 1 + nl s.name ≤ 100000; omega, fun hn => by
      replace hn : nn + 1 + nl s.name ≤ 20000 := hn
      have h1 := hnE (by omega)
      show nn + 1 + nl s.name = sm kndZ (K.take j) + 1 + nl k.name + sm casZ k.cases + sm staZ (k.states.take i) + 1 + nl s.name + 0
      omega⟩) (Keep.cons rfl (Keep.cons rfl (Keep.cons rfl (Keep.cons rfl (Keep.cons rfl (Keep.cons rfl (Keep.cons rfl (Keep.nil)))))))) (tO) ?_
    rintro ⟨m, nn⟩ ⟨hm, hnb, hnE⟩
    replace hm : m ≤ s.rows.length := hm
    replace hnb : nn ≤ 100000 := hnb
    replace hnE : nn ≤ 20000 → nn = sm kndZ (K.take j) + 1 + nl k.name + sm casZ k.cases + sm staZ (k.states.take i) + 1 + nl s.name + sm rowZ (s.rows.take m) := hnE
    dsimp only
    refine g_seq ?_
    refine g_seq ?_
    refine g_region ?_
    refine gl_v rfl (o_move rfl) ?_
    refine gl_v rfl (o_move rfl) ?_
    first | refine gl_v rfl (o_len rfl) ?_ | refine gl_v rfl (o_lenL rfl) ?_
    refine gl_v rfl (o_lss rfl rfl) ?_
    refine gl_v rfl (o_move rfl) ?_
    refine gl_join (d := 92) 3 (.bool (decide ((m : Int) < s.rows.length) && decide ((nn : Int) ≤ 20000))) ?_ (fun jk92 => ?_)
    rotate_left
    ·
     refine gl_g rfl rfl (fun hc7 => ?_) (fun hc7 => ?_) rfl
     ·
      have hc7' := hc7
      replace hc7' := hs_ hc7'
      refine gl_v rfl (o_move rfl) ?_
      refine gl_gT rfl rfl hc7 ?_
      refine gl_v rfl (o_leq rfl rfl) ?_
      refine gl_v rfl (o_pickT hc7 rfl rfl) ?_
      first | exact jk92 _ (KeepS.top (by repeat (first | exact KeepS.refl _ | refine KeepS.push ?_ rfl)) (jval (by first | rfl | (simp only [hc7, Bool.not_true, Bool.not_false, Bool.false_and, Bool.true_and, Bool.true_or, Bool.false_or]; done) | (simp [hc7, ]; done) | simp_all))) | exact gl_imp (tO) (jk92 _ (KeepS.top (by repeat (first | exact KeepS.refl _ | refine KeepS.push ?_ rfl)) (jval (by first | rfl | (simp only [hc7, Bool.not_true, Bool.not_false, Bool.false_and, Bool.true_and, Bool.true_or, Bool.false_or]; done) | (simp [hc7, ]; done) | simp_all))))
     ·
      have hc7' := hc7
      replace hc7' := hs_ hc7'
      simp only [putO]
      refine gl_gF rfl rfl hc7 rfl ?_
      refine gl_v rfl (o_pickF hc7 rfl rfl) ?_
      first | exact jk92 _ (KeepS.top (by repeat (first | exact KeepS.refl _ | refine KeepS.push ?_ rfl)) (jval (by first | rfl | (simp only [hc7, Bool.not_true, Bool.not_false, Bool.false_and, Bool.true_and, Bool.true_or, Bool.false_or]; done) | (simp [hc7, ]; done) | simp_all))) | exact gl_imp (tO) (jk92 _ (KeepS.top (by repeat (first | exact KeepS.refl _ | refine KeepS.push ?_ rfl)) (jval (by first | rfl | (simp only [hc7, Bool.not_true, Bool.not_false, Bool.false_and, Bool.true_and, Bool.true_or, Bool.false_or]; done) | (simp [hc7, ]; done) | simp_all))))
    refine gl_nil ?_
    refine ge_then ?_
    refine g_cond rfl (fun hc8 => ?_) (fun hc8 => ?_)
    ·
     replace hc8 := hs_ hc8
     replace hc8 : (m : Int) < s.rows.length ∧ (nn : Int) ≤ 20000 := by simpa using hc8
     obtain ⟨hlt, hle⟩ := hc8
     obtain ⟨r, hr⟩ : ∃ t, s.rows[m]? = some t := ⟨_, List.getElem?_eq_getElem (show m < s.rows.length by omega)⟩
     have hrm := List.mem_of_getElem? hr
     have hl6 := hl5 r hrm
     haveI iE : RdA (.slice r.ea r.effs.length r.ec) M r.effs.length (r.effs.flatMap effC) := ⟨fun a => ((((hP _ a).kinds k hkm).states s hsm).rows r hrm).rd.1⟩
     have hnl_r_tag : nl r.tag ≤ 20000 := by unfold nl; omega
     refine g_skip ?_
     refine ge_then ?_
     refine g_seq ?_
     refine g_block ?_
     refine g_seq ?_
     refine g_region ?_
     refine gl_v rfl (o_move rfl) ?_
     refine gl_v rfl (o_addR ((nn + 1 : Nat) : Int) (by rw [wr_i64 (by omega)]; omega) rfl rfl) ?_
     refine gl_v rfl (o_move rfl) ?_
     refine gl_v rfl (o_move rfl) ?_
     refine gl_v rfl (o_idxS rfl rfl (show m < s.rows.length by omega)) ?_
     first | refine gl_v rfl (o_fldS rfl) ?_ | refine gl_v rfl (o_fld rfl) ?_
     refine gl_v rfl (o_loadS rfl (flat_get rowC 4 rowC_len hr (show (rowC _)[0]? = some _ from rfl))) ?_
     refine gl_v rfl (o_lens rfl) ?_
     refine gl_v rfl (o_min ((nl r.tag : Nat) : Int) (by unfold nl; split <;> omega) rfl rfl) ?_
     refine gl_v rfl (o_addR ((nn + 1 + nl r.tag : Nat) : Int) (by rw [wr_i64 (by omega)]; omega) rfl rfl) ?_
     refine gl_v rfl (o_assign rfl) ?_
     refine gl_nil ?_
     refine ge_then ?_
     refine g_seq ?_
     refine g_region ?_
     refine gl_v rfl (o_assign rfl) ?_
     refine gl_nil ?_
     refine ge_then ?_
     refine g_block ?_
     refine g_loop (ι := Nat × Nat) (fun x => x.1 ≤ r.effs.length ∧ x.2 ≤ 100000 ∧ (x.2 ≤ 20000 → x.2 = sm kndZ (K.take j) + 1 + nl k.name + sm casZ k.cases + sm staZ (k.states.take i) + 1 + nl s.name + sm rowZ (s.rows.take m) + 1 + nl r.tag + sm effZ (r.effs.take x.1))) (fun x => [(10, I64 x.1), (3, I64 x.2), (9, I64 m), (8, .slice s.ra s.rows.length s.rc), (7, I64 i), (5, ptr b5 0), (4, I64 j), (1, ptr b1 0)]) (fun _ => cel b5 51 (kndC k) :: cel b1 25 [.slice a K.length c] :: M :: R) (fun x => r.effs.length - x.1) (0, nn + 1 + nl r.tag) (⟨Nat.zero_le _, by show nn + 1 + nl r.tag ≤ 100000; omega, fun hn => by
       replace hn : nn + 1 + nl r.tag ≤ 20000 := hn
       have h1 := hnE (by omega)
       show nn + 1 + nl r.tag = sm kndZ (K.take j) + 1 + nl k.name + sm casZ k.cases + sm staZ (k.states.take i) + 1 + nl s.name + sm rowZ (s.rows.take m) + 1 + nl r.tag + 0
       omega⟩) (Keep.cons rfl (Keep.cons rfl (Keep.cons rfl (Keep.cons rfl (Keep.cons rfl (Keep.cons rfl (Keep.cons rfl (Keep.cons rfl (Keep.nil))))))))) (tO) ?_
     rintro ⟨q, nn⟩ ⟨hq, hnb, hnE⟩
     replace hq : q ≤ r.effs.length := hq
     replace hnb : nn ≤ 100000 := hnb
     replace hnE : nn ≤ 20000 → nn = sm kndZ (K.take j) + 1 + nl k.name + sm casZ k.cases + sm staZ (k.states.take i) + 1 + nl s.name + sm rowZ (s.rows.take m) + 1 + nl r.tag + sm effZ (r.effs.take q) := hnE
     dsimp only
     refine g_seq ?_
     refine g_seq ?_
     refine g_region ?_
     refine gl_v rfl (o_move rfl) ?_
     refine gl_v rfl (o_move rfl) ?_
     refine gl_v rfl (o_move rfl) ?_
     refine gl_v rfl (o_idxS rfl rfl (show m < s.rows.length by omega)) ?_
     first | refine gl_v rfl (o_fldS rfl) ?_ | refine gl_v rfl (o_fld rfl) ?_
     refine gl_v rfl (o_loadS rfl (flat_get rowC 4 rowC_len hr (show (rowC _)[3]? = some _ from rfl))) ?_
     first | refine gl_v rfl (o_len rfl) ?_ | refine gl_v rfl (o_lenL rfl) ?_
     refine gl_v rfl (o_lss rfl rfl) ?_
     refine gl_v rfl (o_move rfl) ?_
     refine gl_join (d := 116) 3 (.bool (decide ((q : Int) < r.effs.length) && decide ((nn : Int) ≤ 20000))) ?_ (fun jk116 => ?_)
     rotate_left
     ·
      refine gl_g rfl rfl (fun hc9 => ?_) (fun hc9 => ?_) rfl
      ·
       have hc9' := hc9
       replace hc9' := hs_ hc9'
       refine gl_v rfl (o_move rfl) ?_
       refine gl_gT rfl rfl hc9 ?_
       refine gl_v rfl (o_leq rfl rfl) ?_
       refine gl_v rfl (o_pickT hc9 rfl rfl) ?_
       first | exact jk116 _ (KeepS.top (by repeat (first | exact KeepS.refl _ | refine KeepS.push ?_ rfl)) (jval (by first | rfl | (simp only [hc9, Bool.not_true, Bool.not_false, Bool.false_and, Bool.true_and, Bool.true_or, Bool.false_or]; done) | (simp [hc9, ]; done) | simp_all))) | exact gl_imp (tO) (jk116 _ (KeepS.top (by repeat (first | exact KeepS.refl _ | refine KeepS.push ?_ rfl)) (jval (by first | rfl | (simp only [hc9, Bool.not_true, Bool.not_false, Bool.false_and, Bool.true_and, Bool.true_or, Bool.false_or]; done) | (simp [hc9, ]; done) | simp_all))))
      ·
       have hc9' := hc9
       replace hc9' := hs_ hc9'
       simp only [putO]
       refine gl_gF rfl rfl hc9 rfl ?_
       refine gl_v rfl (o_pickF hc9 rfl rfl) ?_
       first | exact jk116 _ (KeepS.top (by repeat (first | exact KeepS.refl _ | refine KeepS.push ?_ rfl)) (jval (by first | rfl | (simp only [hc9, Bool.not_true, Bool.not_false, Bool.false_and, Bool.true_and, Bool.true_or, Bool.false_or]; done) | (simp [hc9, ]; done) | simp_all))) | exact gl_imp (tO) (jk116 _ (KeepS.top (by repeat (first | exact KeepS.refl _ | refine KeepS.push ?_ rfl)) (jval (by first | rfl | (simp only [hc9, Bool.not_true, Bool.not_false, Bool.false_and, Bool.true_and, Bool.true_or, Bool.false_or]; done) | (simp [hc9, ]; done) | simp_all))))
     refine gl_nil ?_
     refine ge_then ?_
     refine g_cond rfl (fun hc10 => ?_) (fun hc10 => ?_)
     ·
      replace hc10 := hs_ hc10
      replace hc10 : (q : Int) < r.effs.length ∧ (nn : Int) ≤ 20000 := by simpa using hc10
      obtain ⟨hlt, hle⟩ := hc10
      obtain ⟨e, he⟩ : ∃ t, r.effs[q]? = some t := ⟨_, List.getElem?_eq_getElem (show q < r.effs.length by omega)⟩
      have hnl_e_ref : nl e.ref ≤ 20000 := by unfold nl; omega
      have hnl_e_slot : nl e.slot ≤ 20000 := by unfold nl; omega
      have hnl_e_name : nl e.name ≤ 20000 := by unfold nl; omega
      refine g_skip ?_
      refine ge_then ?_
      refine g_seq ?_
      refine g_block ?_
      refine g_seq ?_
      refine g_region ?_
      refine gl_v rfl (o_move rfl) ?_
      refine gl_v rfl (o_move rfl) ?_
      refine gl_v rfl (o_idxS rfl rfl (show m < s.rows.length by omega)) ?_
      first | refine gl_v rfl (o_fldS rfl) ?_ | refine gl_v rfl (o_fld rfl) ?_
      refine gl_v rfl (o_loadS rfl (flat_get rowC 4 rowC_len hr (show (rowC _)[3]? = some _ from rfl))) ?_
      refine gl_v rfl (o_move rfl) ?_
      refine gl_v rfl (o_idxS rfl rfl (show q < r.effs.length by omega)) ?_
      refine gl_v rfl (o_loadSA rfl (flat_take effC 7 effC_len he) rfl) ?_
      refine gl_n rfl (o_alloc) ?_
      rintro _ _ ⟨b11, rfl, rfl⟩
      first | refine gl_u (o_storeSA rfl rfl rfl rfl (by simp; omega) (by simp)) ?_ | refine gl_u (o_storeA rfl rfl rfl rfl rfl) ?_
      refine gl_nil ?_
      refine ge_then ?_
      refine g_region ?_
      refine gl_v rfl (o_move rfl) ?_
      refine gl_v rfl (o_addR ((nn + 1 : Nat) : Int) (by rw [wr_i64 (by omega)]; omega) rfl rfl) ?_
      first | refine gl_v rfl (o_fldS rfl) ?_ | refine gl_v rfl (o_fld rfl) ?_
      first | refine gl_v rfl (o_load rfl rfl) ?_ | refine gl_v rfl (o_loadS rfl rfl) ?_ | refine gl_v rfl (o_loadC rfl) ?_
      refine gl_v rfl (o_lens rfl) ?_
      refine gl_v rfl (o_min ((nl e.ref : Nat) : Int) (by unfold nl; split <;> omega) rfl rfl) ?_
      refine gl_v rfl (o_addR ((nn + 1 + nl e.ref : Nat) : Int) (by rw [wr_i64 (by omega)]; omega) rfl rfl) ?_
      first | refine gl_v rfl (o_fldS rfl) ?_ | refine gl_v rfl (o_fld rfl) ?_
      first | refine gl_v rfl (o_load rfl rfl) ?_ | refine gl_v rfl (o_loadS rfl rfl) ?_ | refine gl_v rfl (o_loadC rfl) ?_
      refine gl_v rfl (o_lens rfl) ?_
      refine gl_v rfl (o_min ((nl e.slot : Nat) : Int) (by unfold nl; split <;> omega) rfl rfl) ?_
      refine gl_v rfl (o_addR ((nn + 1 + nl e.ref + nl e.slot : Nat) : Int) (by rw [wr_i64 (by omega)]; omega) rfl rfl) ?_
      first | refine gl_v rfl (o_fldS rfl) ?_ | refine gl_v rfl (o_fld rfl) ?_
      first | refine gl_v rfl (o_load rfl rfl) ?_ | refine gl_v rfl (o_loadS rfl rfl) ?_ | refine gl_v rfl (o_loadC rfl) ?_
      refine gl_v rfl (o_lens rfl) ?_
      refine gl_v rfl (o_min ((nl e.name : Nat) : Int) (by unfold nl; split <;> omega) rfl rfl) ?_
      refine gl_v rfl (o_addR ((nn + 1 + nl e.ref + nl e.slot + nl e.name : Nat) : Int) (by rw [wr_i64 (by omega)]; omega) rfl rfl) ?_
      refine gl_v rfl (o_assign rfl) ?_
      refine gl_nil ?_
      refine ge_block ?_
      refine ge_then ?_
      refine g_region ?_
      refine gl_v rfl (o_move rfl) ?_
      refine gl_v rfl (o_addR ((q + 1 : Nat) : Int) (by rw [wr_i64 (by omega)]; omega) rfl rfl) ?_
      refine gl_v rfl (o_assign rfl) ?_
      refine gl_nil ?_
      refine ge_round (q + 1, nn + 1 + nl e.ref + nl e.slot + nl e.name) ⟨show q + 1 ≤ r.effs.length by omega, by show nn + 1 + nl e.ref + nl e.slot + nl e.name ≤ 100000; omega, fun hn => ?_⟩ (by show r.effs.length - (q + 1) < r.effs.length - q; omega) (Keep.cons rfl (Keep.cons rfl (Keep.cons rfl (Keep.cons rfl (Keep.cons rfl (Keep.cons rfl (Keep.cons rfl (Keep.cons rfl (Keep.nil))))))))) (tO)
      replace hn : nn + 1 + nl e.ref + nl e.slot + nl e.name ≤ 20000 := hn
      show nn + 1 + nl e.ref + nl e.slot + nl e.name = _
      have := hnE (by omega); rw [sm_succ he]; have hz : effZ e = 1 + nl e.ref + nl e.slot + nl e.name := rfl; omega
     ·
      replace hc10 := hs_ hc10
      replace hc10 : ¬ ((q : Int) < r.effs.length ∧ (nn : Int) ≤ 20000) := fun h2 => by rw [decide_eq_true h2.1, decide_eq_true h2.2] at hc10; cases hc10
      replace hnE : nn ≤ 20000 → nn = sm kndZ (K.take j) + 1 + nl k.name + sm casZ k.cases + sm staZ (k.states.take i) + 1 + nl s.name + sm rowZ (s.rows.take m) + 1 + nl r.tag + sm effZ r.effs := fun hn => by
        have h1 := hnE hn
        rw [show q = r.effs.length by omega, List.take_length] at h1; exact h1
      refine g_exit ?_
      refine ge_then_exit ?_
      refine ge_then_exit ?_
      refine ge_block_exit ?_
      refine ge_block ?_
      refine ge_then ?_
      refine g_region ?_
      refine gl_v rfl (o_move rfl) ?_
      refine gl_v rfl (o_addR ((m + 1 : Nat) : Int) (by rw [wr_i64 (by omega)]; omega) rfl rfl) ?_
      refine gl_v rfl (o_assign rfl) ?_
      refine gl_nil ?_
      refine ge_round (m + 1, nn) ⟨show m + 1 ≤ s.rows.length by omega, by show nn ≤ 100000; omega, fun hn => ?_⟩ (by show s.rows.length - (m + 1) < s.rows.length - m; omega) (Keep.cons rfl (Keep.cons rfl (Keep.cons rfl (Keep.cons rfl (Keep.cons rfl (Keep.cons rfl (Keep.cons rfl (Keep.nil)))))))) (tO)
      replace hn : nn ≤ 20000 := hn
      show nn = _
      have := hnE hn; rw [sm_succ hr]; have hz : rowZ r = 1 + nl r.tag + sm effZ r.effs := rfl; omega
    ·
     replace hc8 := hs_ hc8
     replace hc8 : ¬ ((m : Int) < s.rows.length ∧ (nn : Int) ≤ 20000) := fun h2 => by rw [decide_eq_true h2.1, decide_eq_true h2.2] at hc8; cases hc8
     replace hnE : nn ≤ 20000 → nn = sm kndZ (K.take j) + 1 + nl k.name + sm casZ k.cases + sm staZ (k.states.take i) + 1 + nl s.name + sm rowZ s.rows := fun hn => by
       have h1 := hnE hn
       rw [show m = s.rows.length by omega, List.take_length] at h1; exact h1
     refine g_exit ?_
     refine ge_then_exit ?_
     refine ge_then_exit ?_
     refine ge_block_exit ?_
     refine ge_block ?_
     refine ge_then ?_
     refine g_region ?_
     refine gl_v rfl (o_move rfl) ?_
     refine gl_v rfl (o_addR ((i + 1 : Nat) : Int) (by rw [wr_i64 (by omega)]; omega) rfl rfl) ?_
     refine gl_v rfl (o_assign rfl) ?_
     refine gl_nil ?_
     refine ge_round (i + 1, nn) ⟨show i + 1 ≤ k.states.length by omega, by show nn ≤ 100000; omega, fun hn => ?_⟩ (by show k.states.length - (i + 1) < k.states.length - i; omega) (Keep.cons rfl (Keep.cons rfl (Keep.cons rfl (Keep.cons rfl (Keep.cons rfl (Keep.nil)))))) (tO)
     replace hn : nn ≤ 20000 := hn
     show nn = _
     have := hnE hn; rw [sm_succ hs]; have hz : staZ s = 1 + nl s.name + sm rowZ s.rows := rfl; omega
   ·
    replace hc6 := hs_ hc6
    replace hc6 : ¬ ((i : Int) < k.states.length ∧ (nn : Int) ≤ 20000) := fun h2 => by rw [decide_eq_true h2.1, decide_eq_true h2.2] at hc6; cases hc6
    replace hnE : nn ≤ 20000 → nn = sm kndZ (K.take j) + 1 + nl k.name + sm casZ k.cases + sm staZ k.states := fun hn => by
      have h1 := hnE hn
      rw [show i = k.states.length by omega, List.take_length] at h1; exact h1
    refine g_exit ?_
    refine ge_then_exit ?_
    refine ge_then_exit ?_
    refine ge_block_exit ?_
    refine ge_block ?_
    refine ge_then ?_
    refine g_region ?_
    refine gl_v rfl (o_move rfl) ?_
    refine gl_v rfl (o_addR ((j + 1 : Nat) : Int) (by rw [wr_i64 (by omega)]; omega) rfl rfl) ?_
    refine gl_v rfl (o_assign rfl) ?_
    refine gl_nil ?_
    refine ge_round (j + 1, nn) ⟨show j + 1 ≤ K.length by omega, by show nn ≤ 100000; omega, fun hn => ?_⟩ (by show K.length - (j + 1) < K.length - j; omega) (Keep.cons rfl (Keep.cons rfl (Keep.cons rfl (Keep.nil)))) (tO)
    replace hn : nn ≤ 20000 := hn
    show nn = _
    have := hnE hn; rw [sm_succ hk]; have hz : kndZ k = 1 + nl k.name + sm casZ k.cases + sm staZ k.states := rfl; omega
 ·
  replace hc2 := hs_ hc2
  replace hc2 : ¬ ((j : Int) < K.length ∧ (nn : Int) ≤ 20000) := fun h2 => by rw [decide_eq_true h2.1, decide_eq_true h2.2] at hc2; cases hc2
  replace hnE : nn ≤ 20000 → nn = sm kndZ K := fun hn => by
    have h1 := hnE hn
    rw [show j = K.length by omega, List.take_length] at h1; exact h1
  refine g_exit ?_
  refine ge_then_exit ?_
  refine ge_then_exit ?_
  refine ge_block_exit ?_
  refine ge_then ?_
  refine g_seq ?_
  refine g_region ?_
  refine gl_v rfl (o_move rfl) ?_
  refine gl_v rfl (o_gtr rfl rfl) ?_
  refine gl_v rfl (o_assign rfl) ?_
  refine gl_nil ?_
  refine ge_then ?_
  refine g_ret ?_
  refine ret1 (.inl rfl) rfl rfl _ (⟨decide (20000 < (nn : Int)), rfl, fun h => by have h1 := of_decide_eq_false h; have := hnE (by omega); omega, rfl⟩) (tO)

end Go.Proofs.YtgkjnilckmminaaGreatDoor.L
