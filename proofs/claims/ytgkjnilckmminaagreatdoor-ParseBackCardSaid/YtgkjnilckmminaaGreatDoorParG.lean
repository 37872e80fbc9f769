/-
  Parse: Great, the reference's Same. Own work, printed in part by a program of its own.
-/
import Derived.Test.YtgkjnilckmminaaGreatDoorParL
import Derived.Test.YtgkjnilckmminaaGreatDoorParZ
set_option linter.unusedSimpArgs false
set_option linter.unusedVariables false
set_option linter.unusedSectionVars false
namespace Go.Proofs.YtgkjnilckmminaaGreatDoor.L
open Go.L Go.L.Lx Go.L.Pg Go.L.Pa

set_option maxRecDepth 8000 in
set_option maxHeartbeats 4000000 in
theorem Great_spec (M : Assn) (K : List Knd) (a : Option Addr) (c : Nat) (hP : ∀ h, M h → PrgOk h a c K) (hKl : K.length ≤ 9223372036854775806) (hkl : ∀ k ∈ K, LenK k) : FnS Tryz.prog 16 [.agg #[.slice a K.length c]] [M] (fun u Bs => ∃ g, u = .bool g ∧ (g = false → sm kndZ K ≤ 20000) ∧ Bs = [M]) := by
 refine fn_body Tryz.func16 rfl rfl rfl ?_
 intro W0 R
 simp only [List.zipIdx_cons, List.zipIdx_nil, List.map_cons, List.map_nil, Nat.zero_add, Nat.reduceAdd, List.cons_append, List.nil_append]
 haveI iK : RdA (.slice a K.length c) M K.length (K.flatMap kndC) := ⟨fun a => (hP _ a).rd.1⟩
 refine g_seq ?_
 refine g_region ?_
 refine gl_n rfl (o_boxA rfl) ?_
 rintro _ _ ⟨b1, rfl, rfl⟩
 refine gl_v rfl (o_assign rfl) ?_
 refine gl_nil ?_
 refine ge_then ?_
 refine g_seq ?_
 refine g_region ?_
 refine gl_v rfl (o_assign rfl) ?_
 refine gl_nil ?_
 refine ge_then ?_
 refine g_seq ?_
 refine g_seq ?_
 refine g_region ?_
 refine gl_v rfl (o_assign rfl) ?_
 refine gl_nil ?_
 refine ge_then ?_
 refine g_block ?_
 refine g_loop (ι := Nat × Nat) (fun x => x.1 ≤ K.length ∧ x.2 ≤ 100000 ∧ (x.2 ≤ 20000 → x.2 = sm kndZ (K.take x.1))) (fun x => [(4, I64 x.1), (3, I64 x.2), (1, ptr b1 0)]) (fun _ => cel b1 25 [.slice a K.length c] :: M :: R) (fun x => K.length - x.1) (0, 0) (⟨Nat.zero_le _, by omega, fun _ => rfl⟩) (Keep.cons rfl (Keep.cons rfl (Keep.cons rfl (Keep.nil)))) (To.sat (by repeat (first | exact .nil | exact .done .refl | (apply To.cons; · (repeat (first | exact .head | apply Sel.tail))) | exact .done (by repeat (first | exact .refl | apply Drop.skip))))) ?_
 rintro ⟨j, nn⟩ ⟨hj, hnb, hnE⟩
 replace hj : j ≤ K.length := hj
 replace hnb : nn ≤ 100000 := hnb
 replace hnE : nn ≤ 20000 → nn = sm kndZ (K.take j) := hnE
 dsimp only
 refine g_seq ?_
 refine g_seq ?_
 refine g_region ?_
 refine gl_v rfl (o_move rfl) ?_
 first | refine gl_v rfl (o_fldS rfl) ?_ | refine gl_v rfl (o_fld rfl) ?_
 first | refine gl_v rfl (o_load rfl rfl) ?_ | refine gl_v rfl (o_loadS rfl rfl) ?_ | refine gl_v rfl (o_loadC rfl) ?_
 first | refine gl_v rfl (o_len rfl) ?_ | refine gl_v rfl (o_lenL rfl) ?_
 refine gl_v rfl (o_lss rfl rfl) ?_
 refine gl_v rfl (o_move rfl) ?_
 refine gl_join (d := 20) 3 (.bool (decide ((j : Int) < K.length) && decide ((nn : Int) ≤ 20000))) ?_ (fun jk20 => ?_)
 rotate_left
 ·
  refine gl_g rfl rfl (fun hc1 => ?_) (fun hc1 => ?_) rfl
  ·
   have hc1' := hc1
   first | replace hc1' := of_decide_eq_true hc1' | replace hc1' := lt_f hc1' | replace hc1' := le_f hc1' | replace hc1' := dec_f hc1' | replace hc1' := nlt_t hc1' | replace hc1' := nle_t hc1' | replace hc1' := ndec_t hc1' | replace hc1' := ndec_f hc1' | replace hc1' := nn_t hc1' | replace hc1' := nn_f hc1' | skip
   refine gl_v rfl (o_move rfl) ?_
   refine gl_gT rfl rfl hc1 ?_
   refine gl_v rfl (o_leq rfl rfl) ?_
   refine gl_v rfl (o_pickT hc1 rfl rfl) ?_
   first | exact jk20 _ (KeepS.top (by repeat (first | exact KeepS.refl _ | refine KeepS.push ?_ rfl)) (jval (by first | rfl | (simp only [hc1, Bool.not_true, Bool.not_false, Bool.false_and, Bool.true_and, Bool.true_or, Bool.false_or]; done) | (simp [hc1, ]; done) | simp_all))) | exact gl_imp (To.sat (by repeat (first | exact .nil | exact .done .refl | (apply To.cons; · (repeat (first | exact .head | apply Sel.tail))) | exact .done (by repeat (first | exact .refl | apply Drop.skip))))) (jk20 _ (KeepS.top (by repeat (first | exact KeepS.refl _ | refine KeepS.push ?_ rfl)) (jval (by first | rfl | (simp only [hc1, Bool.not_true, Bool.not_false, Bool.false_and, Bool.true_and, Bool.true_or, Bool.false_or]; done) | (simp [hc1, ]; done) | simp_all))))
  ·
   have hc1' := hc1
   first | replace hc1' := of_decide_eq_true hc1' | replace hc1' := lt_f hc1' | replace hc1' := le_f hc1' | replace hc1' := dec_f hc1' | replace hc1' := nlt_t hc1' | replace hc1' := nle_t hc1' | replace hc1' := ndec_t hc1' | replace hc1' := ndec_f hc1' | replace hc1' := nn_t hc1' | replace hc1' := nn_f hc1' | skip
   simp only [putO]
   refine gl_gF rfl rfl hc1 rfl ?_
   refine gl_v rfl (o_pickF hc1 rfl rfl) ?_
   first | exact jk20 _ (KeepS.top (by repeat (first | exact KeepS.refl _ | refine KeepS.push ?_ rfl)) (jval (by first | rfl | (simp only [hc1, Bool.not_true, Bool.not_false, Bool.false_and, Bool.true_and, Bool.true_or, Bool.false_or]; done) | (simp [hc1, ]; done) | simp_all))) | exact gl_imp (To.sat (by repeat (first | exact .nil | exact .done .refl | (apply To.cons; · (repeat (first | exact .head | apply Sel.tail))) | exact .done (by repeat (first | exact .refl | apply Drop.skip))))) (jk20 _ (KeepS.top (by repeat (first | exact KeepS.refl _ | refine KeepS.push ?_ rfl)) (jval (by first | rfl | (simp only [hc1, Bool.not_true, Bool.not_false, Bool.false_and, Bool.true_and, Bool.true_or, Bool.false_or]; done) | (simp [hc1, ]; done) | simp_all))))
 refine gl_nil ?_
 refine ge_then ?_
 refine g_cond rfl (fun hc2 => ?_) (fun hc2 => ?_)
 ·
  first | replace hc2 := of_decide_eq_true hc2 | replace hc2 := lt_f hc2 | replace hc2 := le_f hc2 | replace hc2 := dec_f hc2 | replace hc2 := nlt_t hc2 | replace hc2 := nle_t hc2 | replace hc2 := ndec_t hc2 | replace hc2 := ndec_f hc2 | replace hc2 := nn_t hc2 | replace hc2 := nn_f hc2 | skip
  replace hc2 : (j : Int) < K.length ∧ (nn : Int) ≤ 20000 := by simpa using hc2
  obtain ⟨hlt, hle⟩ := hc2
  obtain ⟨k, hk⟩ : ∃ t, K[j]? = some t := ⟨_, List.getElem?_eq_getElem (show j < K.length by omega)⟩
  have hkm := List.mem_of_getElem? hk
  obtain ⟨hl1, hl2, hl3⟩ := hkl k hkm
  haveI iC : RdA (.slice k.ca k.cases.length k.cc) M k.cases.length (k.cases.flatMap casC) := ⟨fun a => ((hP _ a).kinds k hkm).rdc.1⟩
  haveI iS : RdA (.slice k.sa k.states.length k.sc) M k.states.length (k.states.flatMap staC) := ⟨fun a => ((hP _ a).kinds k hkm).rds.1⟩
  have hnl_k_name : nl k.name ≤ 20000 := by unfold nl; omega
  refine g_skip ?_
  refine ge_then ?_
  refine g_seq ?_
  refine g_block ?_
  refine g_seq ?_
  refine g_region ?_
  first | refine gl_v rfl (o_fldS rfl) ?_ | refine gl_v rfl (o_fld rfl) ?_
  first | refine gl_v rfl (o_load rfl rfl) ?_ | refine gl_v rfl (o_loadS rfl rfl) ?_ | refine gl_v rfl (o_loadC rfl) ?_
  refine gl_v rfl (o_move rfl) ?_
  refine gl_v rfl (o_idxS rfl rfl (show j < K.length by omega)) ?_
  refine gl_v rfl (o_loadSA rfl (flat_take kndC 5 kndC_len hk) rfl) ?_
  refine gl_n rfl (o_alloc) ?_
  rintro _ _ ⟨b5, rfl, rfl⟩
  first | refine gl_u (o_storeSA rfl rfl rfl rfl (by simp; omega) (by simp)) ?_ | refine gl_u (o_storeA rfl rfl rfl rfl rfl) ?_
  refine gl_nil ?_
  refine ge_then ?_
  refine g_seq ?_
  refine g_region ?_
  refine gl_v rfl (o_move rfl) ?_
  refine gl_v rfl (o_addR ((nn + 1 : Nat) : Int) (by rw [wr_i64 (by omega)]; omega) rfl rfl) ?_
  first | refine gl_v rfl (o_fldS rfl) ?_ | refine gl_v rfl (o_fld rfl) ?_
  first | refine gl_v rfl (o_load rfl rfl) ?_ | refine gl_v rfl (o_loadS rfl rfl) ?_ | refine gl_v rfl (o_loadC rfl) ?_
  refine gl_v rfl (o_lens rfl) ?_
  refine gl_v rfl (o_min ((nl k.name : Nat) : Int) (by unfold nl; split <;> omega) rfl rfl) ?_
  refine gl_v rfl (o_addR ((nn + 1 + nl k.name : Nat) : Int) (by rw [wr_i64 (by omega)]; omega) rfl rfl) ?_
  refine gl_v rfl (o_assign rfl) ?_
  refine gl_nil ?_
  refine ge_then ?_
  refine g_seq ?_
  refine g_seq ?_
  refine g_region ?_
  refine gl_v rfl (o_assign rfl) ?_
  refine gl_nil ?_
  refine ge_then ?_
  refine g_block ?_
  refine g_loop (ι := Nat × Nat) (fun x => x.1 ≤ k.cases.length ∧ x.2 ≤ 100000 ∧ (x.2 ≤ 20000 → x.2 = sm kndZ (K.take j) + 1 + nl k.name + sm casZ (k.cases.take x.1))) (fun x => [(6, I64 x.1), (3, I64 x.2), (5, ptr b5 0), (4, I64 j), (1, ptr b1 0)]) (fun _ => cel b5 51 (kndC k) :: cel b1 25 [.slice a K.length c] :: M :: R) (fun x => k.cases.length - x.1) (0, nn + 1 + nl k.name) (⟨Nat.zero_le _, by show nn + 1 + nl k.name ≤ 100000; omega, fun hn => by
    replace hn : nn + 1 + nl k.name ≤ 20000 := hn
    have h1 := hnE (by omega)
    show nn + 1 + nl k.name = sm kndZ (K.take j) + 1 + nl k.name + 0
    omega⟩) (Keep.cons rfl (Keep.cons rfl (Keep.cons rfl (Keep.cons rfl (Keep.cons rfl (Keep.nil)))))) (To.sat (by repeat (first | exact .nil | exact .done .refl | (apply To.cons; · (repeat (first | exact .head | apply Sel.tail))) | exact .done (by repeat (first | exact .refl | apply Drop.skip))))) ?_
  rintro ⟨i, nn⟩ ⟨hi, hnb, hnE⟩
  replace hi : i ≤ k.cases.length := hi
  replace hnb : nn ≤ 100000 := hnb
  replace hnE : nn ≤ 20000 → nn = sm kndZ (K.take j) + 1 + nl k.name + sm casZ (k.cases.take i) := hnE
  dsimp only
  refine g_seq ?_
  refine g_seq ?_
  refine g_region ?_
  refine gl_v rfl (o_move rfl) ?_
  first | refine gl_v rfl (o_fldS rfl) ?_ | refine gl_v rfl (o_fld rfl) ?_
  first | refine gl_v rfl (o_load rfl rfl) ?_ | refine gl_v rfl (o_loadS rfl rfl) ?_ | refine gl_v rfl (o_loadC rfl) ?_
  first | refine gl_v rfl (o_len rfl) ?_ | refine gl_v rfl (o_lenL rfl) ?_
  refine gl_v rfl (o_lss rfl rfl) ?_
  refine gl_v rfl (o_move rfl) ?_
  refine gl_join (d := 43) 3 (.bool (decide ((i : Int) < k.cases.length) && decide ((nn : Int) ≤ 20000))) ?_ (fun jk43 => ?_)
  rotate_left
  ·
   refine gl_g rfl rfl (fun hc3 => ?_) (fun hc3 => ?_) rfl
   ·
    have hc3' := hc3
    first | replace hc3' := of_decide_eq_true hc3' | replace hc3' := lt_f hc3' | replace hc3' := le_f hc3' | replace hc3' := dec_f hc3' | replace hc3' := nlt_t hc3' | replace hc3' := nle_t hc3' | replace hc3' := ndec_t hc3' | replace hc3' := ndec_f hc3' | replace hc3' := nn_t hc3' | replace hc3' := nn_f hc3' | skip
    refine gl_v rfl (o_move rfl) ?_
    refine gl_gT rfl rfl hc3 ?_
    refine gl_v rfl (o_leq rfl rfl) ?_
    refine gl_v rfl (o_pickT hc3 rfl rfl) ?_
    first | exact jk43 _ (KeepS.top (by repeat (first | exact KeepS.refl _ | refine KeepS.push ?_ rfl)) (jval (by first | rfl | (simp only [hc3, Bool.not_true, Bool.not_false, Bool.false_and, Bool.true_and, Bool.true_or, Bool.false_or]; done) | (simp [hc3, ]; done) | simp_all))) | exact gl_imp (To.sat (by repeat (first | exact .nil | exact .done .refl | (apply To.cons; · (repeat (first | exact .head | apply Sel.tail))) | exact .done (by repeat (first | exact .refl | apply Drop.skip))))) (jk43 _ (KeepS.top (by repeat (first | exact KeepS.refl _ | refine KeepS.push ?_ rfl)) (jval (by first | rfl | (simp only [hc3, Bool.not_true, Bool.not_false, Bool.false_and, Bool.true_and, Bool.true_or, Bool.false_or]; done) | (simp [hc3, ]; done) | simp_all))))
   ·
    have hc3' := hc3
    first | replace hc3' := of_decide_eq_true hc3' | replace hc3' := lt_f hc3' | replace hc3' := le_f hc3' | replace hc3' := dec_f hc3' | replace hc3' := nlt_t hc3' | replace hc3' := nle_t hc3' | replace hc3' := ndec_t hc3' | replace hc3' := ndec_f hc3' | replace hc3' := nn_t hc3' | replace hc3' := nn_f hc3' | skip
    simp only [putO]
    refine gl_gF rfl rfl hc3 rfl ?_
    refine gl_v rfl (o_pickF hc3 rfl rfl) ?_
    first | exact jk43 _ (KeepS.top (by repeat (first | exact KeepS.refl _ | refine KeepS.push ?_ rfl)) (jval (by first | rfl | (simp only [hc3, Bool.not_true, Bool.not_false, Bool.false_and, Bool.true_and, Bool.true_or, Bool.false_or]; done) | (simp [hc3, ]; done) | simp_all))) | exact gl_imp (To.sat (by repeat (first | exact .nil | exact .done .refl | (apply To.cons; · (repeat (first | exact .head | apply Sel.tail))) | exact .done (by repeat (first | exact .refl | apply Drop.skip))))) (jk43 _ (KeepS.top (by repeat (first | exact KeepS.refl _ | refine KeepS.push ?_ rfl)) (jval (by first | rfl | (simp only [hc3, Bool.not_true, Bool.not_false, Bool.false_and, Bool.true_and, Bool.true_or, Bool.false_or]; done) | (simp [hc3, ]; done) | simp_all))))
  refine gl_nil ?_
  refine ge_then ?_
  refine g_cond rfl (fun hc4 => ?_) (fun hc4 => ?_)
  ·
   first | replace hc4 := of_decide_eq_true hc4 | replace hc4 := lt_f hc4 | replace hc4 := le_f hc4 | replace hc4 := dec_f hc4 | replace hc4 := nlt_t hc4 | replace hc4 := nle_t hc4 | replace hc4 := ndec_t hc4 | replace hc4 := ndec_f hc4 | replace hc4 := nn_t hc4 | replace hc4 := nn_f hc4 | skip
   replace hc4 : (i : Int) < k.cases.length ∧ (nn : Int) ≤ 20000 := by simpa using hc4
   obtain ⟨hlt, hle⟩ := hc4
   obtain ⟨c1, hc⟩ : ∃ t, k.cases[i]? = some t := ⟨_, List.getElem?_eq_getElem (show i < k.cases.length by omega)⟩
   have hnl_c1_reason : nl c1.reason ≤ 20000 := by unfold nl; omega
   refine g_skip ?_
   refine ge_then ?_
   refine g_seq ?_
   refine g_block ?_
   refine g_region ?_
   refine gl_v rfl (o_move rfl) ?_
   refine gl_v rfl (o_addR ((nn + 1 : Nat) : Int) (by rw [wr_i64 (by omega)]; omega) rfl rfl) ?_
   first | refine gl_v rfl (o_fldS rfl) ?_ | refine gl_v rfl (o_fld rfl) ?_
   first | refine gl_v rfl (o_load rfl rfl) ?_ | refine gl_v rfl (o_loadS rfl rfl) ?_ | refine gl_v rfl (o_loadC rfl) ?_
   refine gl_v rfl (o_move rfl) ?_
   refine gl_v rfl (o_idxS rfl rfl (show i < k.cases.length by omega)) ?_
   first | refine gl_v rfl (o_fldS rfl) ?_ | refine gl_v rfl (o_fld rfl) ?_
   refine gl_v rfl (o_loadS rfl (flat_get casC 2 casC_len hc (show (casC _)[0]? = some _ from rfl))) ?_
   refine gl_v rfl (o_lens rfl) ?_
   refine gl_v rfl (o_min ((nl c1.reason : Nat) : Int) (by unfold nl; split <;> omega) rfl rfl) ?_
   refine gl_v rfl (o_addR ((nn + 1 + nl c1.reason : Nat) : Int) (by rw [wr_i64 (by omega)]; omega) rfl rfl) ?_
   refine gl_v rfl (o_assign rfl) ?_
   refine gl_nil ?_
   refine ge_block ?_
   refine ge_then ?_
   refine g_region ?_
   refine gl_v rfl (o_move rfl) ?_
   refine gl_v rfl (o_addR ((i + 1 : Nat) : Int) (by rw [wr_i64 (by omega)]; omega) rfl rfl) ?_
   refine gl_v rfl (o_assign rfl) ?_
   refine gl_nil ?_
   refine ge_round (i + 1, nn + 1 + nl c1.reason) ⟨show i + 1 ≤ k.cases.length by omega, by show nn + 1 + nl c1.reason ≤ 100000; omega, fun hn => ?_⟩ (by show k.cases.length - (i + 1) < k.cases.length - i; omega) (Keep.cons rfl (Keep.cons rfl (Keep.cons rfl (Keep.cons rfl (Keep.cons rfl (Keep.nil)))))) (To.sat (by repeat (first | exact .nil | exact .done .refl | (apply To.cons; · (repeat (first | exact .head | apply Sel.tail))) | exact .done (by repeat (first | exact .refl | apply Drop.skip)))))
   replace hn : nn + 1 + nl c1.reason ≤ 20000 := hn
   show nn + 1 + nl c1.reason = _
   have := hnE (by omega); rw [sm_succ hc]; have hz : casZ c1 = 1 + nl c1.reason := rfl; omega
  ·
   first | replace hc4 := of_decide_eq_true hc4 | replace hc4 := lt_f hc4 | replace hc4 := le_f hc4 | replace hc4 := dec_f hc4 | replace hc4 := nlt_t hc4 | replace hc4 := nle_t hc4 | replace hc4 := ndec_t hc4 | replace hc4 := ndec_f hc4 | replace hc4 := nn_t hc4 | replace hc4 := nn_f hc4 | skip
   replace hc4 : ¬ ((i : Int) < k.cases.length ∧ (nn : Int) ≤ 20000) := fun h2 => by rw [decide_eq_true h2.1, decide_eq_true h2.2] at hc4; cases hc4
   replace hnE : nn ≤ 20000 → nn = sm kndZ (K.take j) + 1 + nl k.name + sm casZ k.cases := fun hn => by
     have h1 := hnE hn
     rw [show i = k.cases.length by omega, List.take_length] at h1; exact h1
   refine g_exit ?_
   refine ge_then_exit ?_
   refine ge_then_exit ?_
   refine ge_block_exit ?_
   refine ge_then ?_
   refine g_seq ?_
   refine g_region ?_
   refine gl_v rfl (o_assign rfl) ?_
   refine gl_nil ?_
   refine ge_then ?_
   refine g_block ?_
   refine g_loop (ι := Nat × Nat) (fun x => x.1 ≤ k.states.length ∧ x.2 ≤ 100000 ∧ (x.2 ≤ 20000 → x.2 = sm kndZ (K.take j) + 1 + nl k.name + sm casZ k.cases + sm staZ (k.states.take x.1))) (fun x => [(7, I64 x.1), (3, I64 x.2), (5, ptr b5 0), (4, I64 j), (1, ptr b1 0)]) (fun _ => cel b5 51 (kndC k) :: cel b1 25 [.slice a K.length c] :: M :: R) (fun x => k.states.length - x.1) (0, nn) (⟨Nat.zero_le _, by show nn ≤ 100000; omega, fun hn => by
     replace hn : nn ≤ 20000 := hn
     have h1 := hnE (by omega)
     show nn = sm kndZ (K.take j) + 1 + nl k.name + sm casZ k.cases + 0
     omega⟩) (Keep.cons rfl (Keep.cons rfl (Keep.cons rfl (Keep.cons rfl (Keep.cons rfl (Keep.nil)))))) (To.sat (by repeat (first | exact .nil | exact .done .refl | (apply To.cons; · (repeat (first | exact .head | apply Sel.tail))) | exact .done (by repeat (first | exact .refl | apply Drop.skip))))) ?_
   rintro ⟨i, nn⟩ ⟨hi, hnb, hnE⟩
   replace hi : i ≤ k.states.length := hi
   replace hnb : nn ≤ 100000 := hnb
   replace hnE : nn ≤ 20000 → nn = sm kndZ (K.take j) + 1 + nl k.name + sm casZ k.cases + sm staZ (k.states.take i) := hnE
   dsimp only
   refine g_seq ?_
   refine g_seq ?_
   refine g_region ?_
   refine gl_v rfl (o_move rfl) ?_
   first | refine gl_v rfl (o_fldS rfl) ?_ | refine gl_v rfl (o_fld rfl) ?_
   first | refine gl_v rfl (o_load rfl rfl) ?_ | refine gl_v rfl (o_loadS rfl rfl) ?_ | refine gl_v rfl (o_loadC rfl) ?_
   first | refine gl_v rfl (o_len rfl) ?_ | refine gl_v rfl (o_lenL rfl) ?_
   refine gl_v rfl (o_lss rfl rfl) ?_
   refine gl_v rfl (o_move rfl) ?_
   refine gl_join (d := 65) 3 (.bool (decide ((i : Int) < k.states.length) && decide ((nn : Int) ≤ 20000))) ?_ (fun jk65 => ?_)
   rotate_left
   ·
    refine gl_g rfl rfl (fun hc5 => ?_) (fun hc5 => ?_) rfl
    ·
     have hc5' := hc5
     first | replace hc5' := of_decide_eq_true hc5' | replace hc5' := lt_f hc5' | replace hc5' := le_f hc5' | replace hc5' := dec_f hc5' | replace hc5' := nlt_t hc5' | replace hc5' := nle_t hc5' | replace hc5' := ndec_t hc5' | replace hc5' := ndec_f hc5' | replace hc5' := nn_t hc5' | replace hc5' := nn_f hc5' | skip
     refine gl_v rfl (o_move rfl) ?_
     refine gl_gT rfl rfl hc5 ?_
     refine gl_v rfl (o_leq rfl rfl) ?_
     refine gl_v rfl (o_pickT hc5 rfl rfl) ?_
     first | exact jk65 _ (KeepS.top (by repeat (first | exact KeepS.refl _ | refine KeepS.push ?_ rfl)) (jval (by first | rfl | (simp only [hc5, Bool.not_true, Bool.not_false, Bool.false_and, Bool.true_and, Bool.true_or, Bool.false_or]; done) | (simp [hc5, ]; done) | simp_all))) | exact gl_imp (To.sat (by repeat (first | exact .nil | exact .done .refl | (apply To.cons; · (repeat (first | exact .head | apply Sel.tail))) | exact .done (by repeat (first | exact .refl | apply Drop.skip))))) (jk65 _ (KeepS.top (by repeat (first | exact KeepS.refl _ | refine KeepS.push ?_ rfl)) (jval (by first | rfl | (simp only [hc5, Bool.not_true, Bool.not_false, Bool.false_and, Bool.true_and, Bool.true_or, Bool.false_or]; done) | (simp [hc5, ]; done) | simp_all))))
    ·
     have hc5' := hc5
     first | replace hc5' := of_decide_eq_true hc5' | replace hc5' := lt_f hc5' | replace hc5' := le_f hc5' | replace hc5' := dec_f hc5' | replace hc5' := nlt_t hc5' | replace hc5' := nle_t hc5' | replace hc5' := ndec_t hc5' | replace hc5' := ndec_f hc5' | replace hc5' := nn_t hc5' | replace hc5' := nn_f hc5' | skip
     simp only [putO]
     refine gl_gF rfl rfl hc5 rfl ?_
     refine gl_v rfl (o_pickF hc5 rfl rfl) ?_
     first | exact jk65 _ (KeepS.top (by repeat (first | exact KeepS.refl _ | refine KeepS.push ?_ rfl)) (jval (by first | rfl | (simp only [hc5, Bool.not_true, Bool.not_false, Bool.false_and, Bool.true_and, Bool.true_or, Bool.false_or]; done) | (simp [hc5, ]; done) | simp_all))) | exact gl_imp (To.sat (by repeat (first | exact .nil | exact .done .refl | (apply To.cons; · (repeat (first | exact .head | apply Sel.tail))) | exact .done (by repeat (first | exact .refl | apply Drop.skip))))) (jk65 _ (KeepS.top (by repeat (first | exact KeepS.refl _ | refine KeepS.push ?_ rfl)) (jval (by first | rfl | (simp only [hc5, Bool.not_true, Bool.not_false, Bool.false_and, Bool.true_and, Bool.true_or, Bool.false_or]; done) | (simp [hc5, ]; done) | simp_all))))
   refine gl_nil ?_
   refine ge_then ?_
   refine g_cond rfl (fun hc6 => ?_) (fun hc6 => ?_)
   ·
    first | replace hc6 := of_decide_eq_true hc6 | replace hc6 := lt_f hc6 | replace hc6 := le_f hc6 | replace hc6 := dec_f hc6 | replace hc6 := nlt_t hc6 | replace hc6 := nle_t hc6 | replace hc6 := ndec_t hc6 | replace hc6 := ndec_f hc6 | replace hc6 := nn_t hc6 | replace hc6 := nn_f hc6 | skip
    replace hc6 : (i : Int) < k.states.length ∧ (nn : Int) ≤ 20000 := by simpa using hc6
    obtain ⟨hlt, hle⟩ := hc6
    obtain ⟨s, hs⟩ : ∃ t, k.states[i]? = some t := ⟨_, List.getElem?_eq_getElem (show i < k.states.length by omega)⟩
    have hsm := List.mem_of_getElem? hs
    obtain ⟨hl4, hl5⟩ := hl3 s hsm
    haveI iR : RdA (.slice s.ra s.rows.length s.rc) M s.rows.length (s.rows.flatMap rowC) := ⟨fun a => (((hP _ a).kinds k hkm).states s hsm).rd.1⟩
    have hnl_s_name : nl s.name ≤ 20000 := by unfold nl; omega
    refine g_skip ?_
    refine ge_then ?_
    refine g_seq ?_
    refine g_block ?_
    refine g_seq ?_
    refine g_region ?_
    refine gl_v rfl (o_move rfl) ?_
    refine gl_v rfl (o_addR ((nn + 1 : Nat) : Int) (by rw [wr_i64 (by omega)]; omega) rfl rfl) ?_
    first | refine gl_v rfl (o_fldS rfl) ?_ | refine gl_v rfl (o_fld rfl) ?_
    first | refine gl_v rfl (o_load rfl rfl) ?_ | refine gl_v rfl (o_loadS rfl rfl) ?_ | refine gl_v rfl (o_loadC rfl) ?_
    refine gl_v rfl (o_move rfl) ?_
    refine gl_v rfl (o_idxS rfl rfl (show i < k.states.length by omega)) ?_
    first | refine gl_v rfl (o_fldS rfl) ?_ | refine gl_v rfl (o_fld rfl) ?_
    refine gl_v rfl (o_loadS rfl (flat_get staC 2 staC_len hs (show (staC _)[0]? = some _ from rfl))) ?_
    refine gl_v rfl (o_lens rfl) ?_
    refine gl_v rfl (o_min ((nl s.name : Nat) : Int) (by unfold nl; split <;> omega) rfl rfl) ?_
    refine gl_v rfl (o_addR ((nn + 1 + nl s.name : Nat) : Int) (by rw [wr_i64 (by omega)]; omega) rfl rfl) ?_
    refine gl_v rfl (o_assign rfl) ?_
    refine gl_nil ?_
    refine ge_then ?_
    refine g_seq ?_
    refine g_region ?_
    first | refine gl_v rfl (o_fldS rfl) ?_ | refine gl_v rfl (o_fld rfl) ?_
    first | refine gl_v rfl (o_load rfl rfl) ?_ | refine gl_v rfl (o_loadS rfl rfl) ?_ | refine gl_v rfl (o_loadC rfl) ?_
    refine gl_v rfl (o_move rfl) ?_
    refine gl_v rfl (o_idxS rfl rfl (show i < k.states.length by omega)) ?_
    first | refine gl_v rfl (o_fldS rfl) ?_ | refine gl_v rfl (o_fld rfl) ?_
    refine gl_v rfl (o_loadS rfl (flat_get staC 2 staC_len hs (show (staC _)[1]? = some _ from rfl))) ?_
    refine gl_v rfl (o_assign rfl) ?_
    refine gl_nil ?_
    refine ge_then ?_
    refine g_seq ?_
    refine g_region ?_
    refine gl_v rfl (o_assign rfl) ?_
    refine gl_nil ?_
    refine ge_then ?_
    refine g_block ?_
    refine g_loop (ι := Nat × Nat) (fun x => x.1 ≤ s.rows.length ∧ x.2 ≤ 100000 ∧ (x.2 ≤ 20000 → x.2 = sm kndZ (K.take j) + 1 + nl k.name + sm casZ k.cases + sm staZ (k.states.take i) + 1 + nl s.name + sm rowZ (s.rows.take x.1))) (fun x => [(9, I64 x.1), (3, I64 x.2), (8, .slice s.ra s.rows.length s.rc), (7, I64 i), (5, ptr b5 0), (4, I64 j), (1, ptr b1 0)]) (fun _ => cel b5 51 (kndC k) :: cel b1 25 [.slice a K.length c] :: M :: R) (fun x => s.rows.length - x.1) (0, nn + 1 + nl s.name) (⟨Nat.zero_le _, by show nn + 1 + nl s.name ≤ 100000; omega, fun hn => by
      replace hn : nn + 1 + nl s.name ≤ 20000 := hn
      have h1 := hnE (by omega)
      show nn + 1 + nl s.name = sm kndZ (K.take j) + 1 + nl k.name + sm casZ k.cases + sm staZ (k.states.take i) + 1 + nl s.name + 0
      omega⟩) (Keep.cons rfl (Keep.cons rfl (Keep.cons rfl (Keep.cons rfl (Keep.cons rfl (Keep.cons rfl (Keep.cons rfl (Keep.nil)))))))) (To.sat (by repeat (first | exact .nil | exact .done .refl | (apply To.cons; · (repeat (first | exact .head | apply Sel.tail))) | exact .done (by repeat (first | exact .refl | apply Drop.skip))))) ?_
    rintro ⟨m, nn⟩ ⟨hm, hnb, hnE⟩
    replace hm : m ≤ s.rows.length := hm
    replace hnb : nn ≤ 100000 := hnb
    replace hnE : nn ≤ 20000 → nn = sm kndZ (K.take j) + 1 + nl k.name + sm casZ k.cases + sm staZ (k.states.take i) + 1 + nl s.name + sm rowZ (s.rows.take m) := hnE
    dsimp only
    refine g_seq ?_
    refine g_seq ?_
    refine g_region ?_
    refine gl_v rfl (o_move rfl) ?_
    refine gl_v rfl (o_move rfl) ?_
    first | refine gl_v rfl (o_len rfl) ?_ | refine gl_v rfl (o_lenL rfl) ?_
    refine gl_v rfl (o_lss rfl rfl) ?_
    refine gl_v rfl (o_move rfl) ?_
    refine gl_join (d := 92) 3 (.bool (decide ((m : Int) < s.rows.length) && decide ((nn : Int) ≤ 20000))) ?_ (fun jk92 => ?_)
    rotate_left
    ·
     refine gl_g rfl rfl (fun hc7 => ?_) (fun hc7 => ?_) rfl
     ·
      have hc7' := hc7
      first | replace hc7' := of_decide_eq_true hc7' | replace hc7' := lt_f hc7' | replace hc7' := le_f hc7' | replace hc7' := dec_f hc7' | replace hc7' := nlt_t hc7' | replace hc7' := nle_t hc7' | replace hc7' := ndec_t hc7' | replace hc7' := ndec_f hc7' | replace hc7' := nn_t hc7' | replace hc7' := nn_f hc7' | skip
      refine gl_v rfl (o_move rfl) ?_
      refine gl_gT rfl rfl hc7 ?_
      refine gl_v rfl (o_leq rfl rfl) ?_
      refine gl_v rfl (o_pickT hc7 rfl rfl) ?_
      first | exact jk92 _ (KeepS.top (by repeat (first | exact KeepS.refl _ | refine KeepS.push ?_ rfl)) (jval (by first | rfl | (simp only [hc7, Bool.not_true, Bool.not_false, Bool.false_and, Bool.true_and, Bool.true_or, Bool.false_or]; done) | (simp [hc7, ]; done) | simp_all))) | exact gl_imp (To.sat (by repeat (first | exact .nil | exact .done .refl | (apply To.cons; · (repeat (first | exact .head | apply Sel.tail))) | exact .done (by repeat (first | exact .refl | apply Drop.skip))))) (jk92 _ (KeepS.top (by repeat (first | exact KeepS.refl _ | refine KeepS.push ?_ rfl)) (jval (by first | rfl | (simp only [hc7, Bool.not_true, Bool.not_false, Bool.false_and, Bool.true_and, Bool.true_or, Bool.false_or]; done) | (simp [hc7, ]; done) | simp_all))))
     ·
      have hc7' := hc7
      first | replace hc7' := of_decide_eq_true hc7' | replace hc7' := lt_f hc7' | replace hc7' := le_f hc7' | replace hc7' := dec_f hc7' | replace hc7' := nlt_t hc7' | replace hc7' := nle_t hc7' | replace hc7' := ndec_t hc7' | replace hc7' := ndec_f hc7' | replace hc7' := nn_t hc7' | replace hc7' := nn_f hc7' | skip
      simp only [putO]
      refine gl_gF rfl rfl hc7 rfl ?_
      refine gl_v rfl (o_pickF hc7 rfl rfl) ?_
      first | exact jk92 _ (KeepS.top (by repeat (first | exact KeepS.refl _ | refine KeepS.push ?_ rfl)) (jval (by first | rfl | (simp only [hc7, Bool.not_true, Bool.not_false, Bool.false_and, Bool.true_and, Bool.true_or, Bool.false_or]; done) | (simp [hc7, ]; done) | simp_all))) | exact gl_imp (To.sat (by repeat (first | exact .nil | exact .done .refl | (apply To.cons; · (repeat (first | exact .head | apply Sel.tail))) | exact .done (by repeat (first | exact .refl | apply Drop.skip))))) (jk92 _ (KeepS.top (by repeat (first | exact KeepS.refl _ | refine KeepS.push ?_ rfl)) (jval (by first | rfl | (simp only [hc7, Bool.not_true, Bool.not_false, Bool.false_and, Bool.true_and, Bool.true_or, Bool.false_or]; done) | (simp [hc7, ]; done) | simp_all))))
    refine gl_nil ?_
    refine ge_then ?_
    refine g_cond rfl (fun hc8 => ?_) (fun hc8 => ?_)
    ·
     first | replace hc8 := of_decide_eq_true hc8 | replace hc8 := lt_f hc8 | replace hc8 := le_f hc8 | replace hc8 := dec_f hc8 | replace hc8 := nlt_t hc8 | replace hc8 := nle_t hc8 | replace hc8 := ndec_t hc8 | replace hc8 := ndec_f hc8 | replace hc8 := nn_t hc8 | replace hc8 := nn_f hc8 | skip
     replace hc8 : (m : Int) < s.rows.length ∧ (nn : Int) ≤ 20000 := by simpa using hc8
     obtain ⟨hlt, hle⟩ := hc8
     obtain ⟨r, hr⟩ : ∃ t, s.rows[m]? = some t := ⟨_, List.getElem?_eq_getElem (show m < s.rows.length by omega)⟩
     have hrm := List.mem_of_getElem? hr
     have hl6 := hl5 r hrm
     haveI iE : RdA (.slice r.ea r.effs.length r.ec) M r.effs.length (r.effs.flatMap effC) := ⟨fun a => ((((hP _ a).kinds k hkm).states s hsm).rows r hrm).rd.1⟩
     have hnl_r_tag : nl r.tag ≤ 20000 := by unfold nl; omega
     refine g_skip ?_
     refine ge_then ?_
     refine g_seq ?_
     refine g_block ?_
     refine g_seq ?_
     refine g_region ?_
     refine gl_v rfl (o_move rfl) ?_
     refine gl_v rfl (o_addR ((nn + 1 : Nat) : Int) (by rw [wr_i64 (by omega)]; omega) rfl rfl) ?_
     refine gl_v rfl (o_move rfl) ?_
     refine gl_v rfl (o_move rfl) ?_
     refine gl_v rfl (o_idxS rfl rfl (show m < s.rows.length by omega)) ?_
     first | refine gl_v rfl (o_fldS rfl) ?_ | refine gl_v rfl (o_fld rfl) ?_
     refine gl_v rfl (o_loadS rfl (flat_get rowC 4 rowC_len hr (show (rowC _)[0]? = some _ from rfl))) ?_
     refine gl_v rfl (o_lens rfl) ?_
     refine gl_v rfl (o_min ((nl r.tag : Nat) : Int) (by unfold nl; split <;> omega) rfl rfl) ?_
     refine gl_v rfl (o_addR ((nn + 1 + nl r.tag : Nat) : Int) (by rw [wr_i64 (by omega)]; omega) rfl rfl) ?_
     refine gl_v rfl (o_assign rfl) ?_
     refine gl_nil ?_
     refine ge_then ?_
     refine g_seq ?_
     refine g_region ?_
     refine gl_v rfl (o_assign rfl) ?_
     refine gl_nil ?_
     refine ge_then ?_
     refine g_block ?_
     refine g_loop (ι := Nat × Nat) (fun x => x.1 ≤ r.effs.length ∧ x.2 ≤ 100000 ∧ (x.2 ≤ 20000 → x.2 = sm kndZ (K.take j) + 1 + nl k.name + sm casZ k.cases + sm staZ (k.states.take i) + 1 + nl s.name + sm rowZ (s.rows.take m) + 1 + nl r.tag + sm effZ (r.effs.take x.1))) (fun x => [(10, I64 x.1), (3, I64 x.2), (9, I64 m), (8, .slice s.ra s.rows.length s.rc), (7, I64 i), (5, ptr b5 0), (4, I64 j), (1, ptr b1 0)]) (fun _ => cel b5 51 (kndC k) :: cel b1 25 [.slice a K.length c] :: M :: R) (fun x => r.effs.length - x.1) (0, nn + 1 + nl r.tag) (⟨Nat.zero_le _, by show nn + 1 + nl r.tag ≤ 100000; omega, fun hn => by
       replace hn : nn + 1 + nl r.tag ≤ 20000 := hn
       have h1 := hnE (by omega)
       show nn + 1 + nl r.tag = sm kndZ (K.take j) + 1 + nl k.name + sm casZ k.cases + sm staZ (k.states.take i) + 1 + nl s.name + sm rowZ (s.rows.take m) + 1 + nl r.tag + 0
       omega⟩) (Keep.cons rfl (Keep.cons rfl (Keep.cons rfl (Keep.cons rfl (Keep.cons rfl (Keep.cons rfl (Keep.cons rfl (Keep.cons rfl (Keep.nil))))))))) (To.sat (by repeat (first | exact .nil | exact .done .refl | (apply To.cons; · (repeat (first | exact .head | apply Sel.tail))) | exact .done (by repeat (first | exact .refl | apply Drop.skip))))) ?_
     rintro ⟨q, nn⟩ ⟨hq, hnb, hnE⟩
     replace hq : q ≤ r.effs.length := hq
     replace hnb : nn ≤ 100000 := hnb
     replace hnE : nn ≤ 20000 → nn = sm kndZ (K.take j) + 1 + nl k.name + sm casZ k.cases + sm staZ (k.states.take i) + 1 + nl s.name + sm rowZ (s.rows.take m) + 1 + nl r.tag + sm effZ (r.effs.take q) := hnE
     dsimp only
     refine g_seq ?_
     refine g_seq ?_
     refine g_region ?_
     refine gl_v rfl (o_move rfl) ?_
     refine gl_v rfl (o_move rfl) ?_
     refine gl_v rfl (o_move rfl) ?_
     refine gl_v rfl (o_idxS rfl rfl (show m < s.rows.length by omega)) ?_
     first | refine gl_v rfl (o_fldS rfl) ?_ | refine gl_v rfl (o_fld rfl) ?_
     refine gl_v rfl (o_loadS rfl (flat_get rowC 4 rowC_len hr (show (rowC _)[3]? = some _ from rfl))) ?_
     first | refine gl_v rfl (o_len rfl) ?_ | refine gl_v rfl (o_lenL rfl) ?_
     refine gl_v rfl (o_lss rfl rfl) ?_
     refine gl_v rfl (o_move rfl) ?_
     refine gl_join (d := 116) 3 (.bool (decide ((q : Int) < r.effs.length) && decide ((nn : Int) ≤ 20000))) ?_ (fun jk116 => ?_)
     rotate_left
     ·
      refine gl_g rfl rfl (fun hc9 => ?_) (fun hc9 => ?_) rfl
      ·
       have hc9' := hc9
       first | replace hc9' := of_decide_eq_true hc9' | replace hc9' := lt_f hc9' | replace hc9' := le_f hc9' | replace hc9' := dec_f hc9' | replace hc9' := nlt_t hc9' | replace hc9' := nle_t hc9' | replace hc9' := ndec_t hc9' | replace hc9' := ndec_f hc9' | replace hc9' := nn_t hc9' | replace hc9' := nn_f hc9' | skip
       refine gl_v rfl (o_move rfl) ?_
       refine gl_gT rfl rfl hc9 ?_
       refine gl_v rfl (o_leq rfl rfl) ?_
       refine gl_v rfl (o_pickT hc9 rfl rfl) ?_
       first | exact jk116 _ (KeepS.top (by repeat (first | exact KeepS.refl _ | refine KeepS.push ?_ rfl)) (jval (by first | rfl | (simp only [hc9, Bool.not_true, Bool.not_false, Bool.false_and, Bool.true_and, Bool.true_or, Bool.false_or]; done) | (simp [hc9, ]; done) | simp_all))) | exact gl_imp (To.sat (by repeat (first | exact .nil | exact .done .refl | (apply To.cons; · (repeat (first | exact .head | apply Sel.tail))) | exact .done (by repeat (first | exact .refl | apply Drop.skip))))) (jk116 _ (KeepS.top (by repeat (first | exact KeepS.refl _ | refine KeepS.push ?_ rfl)) (jval (by first | rfl | (simp only [hc9, Bool.not_true, Bool.not_false, Bool.false_and, Bool.true_and, Bool.true_or, Bool.false_or]; done) | (simp [hc9, ]; done) | simp_all))))
      ·
       have hc9' := hc9
       first | replace hc9' := of_decide_eq_true hc9' | replace hc9' := lt_f hc9' | replace hc9' := le_f hc9' | replace hc9' := dec_f hc9' | replace hc9' := nlt_t hc9' | replace hc9' := nle_t hc9' | replace hc9' := ndec_t hc9' | replace hc9' := ndec_f hc9' | replace hc9' := nn_t hc9' | replace hc9' := nn_f hc9' | skip
       simp only [putO]
       refine gl_gF rfl rfl hc9 rfl ?_
       refine gl_v rfl (o_pickF hc9 rfl rfl) ?_
       first | exact jk116 _ (KeepS.top (by repeat (first | exact KeepS.refl _ | refine KeepS.push ?_ rfl)) (jval (by first | rfl | (simp only [hc9, Bool.not_true, Bool.not_false, Bool.false_and, Bool.true_and, Bool.true_or, Bool.false_or]; done) | (simp [hc9, ]; done) | simp_all))) | exact gl_imp (To.sat (by repeat (first | exact .nil | exact .done .refl | (apply To.cons; · (repeat (first | exact .head | apply Sel.tail))) | exact .done (by repeat (first | exact .refl | apply Drop.skip))))) (jk116 _ (KeepS.top (by repeat (first | exact KeepS.refl _ | refine KeepS.push ?_ rfl)) (jval (by first | rfl | (simp only [hc9, Bool.not_true, Bool.not_false, Bool.false_and, Bool.true_and, Bool.true_or, Bool.false_or]; done) | (simp [hc9, ]; done) | simp_all))))
     refine gl_nil ?_
     refine ge_then ?_
     refine g_cond rfl (fun hc10 => ?_) (fun hc10 => ?_)
     ·
      first | replace hc10 := of_decide_eq_true hc10 | replace hc10 := lt_f hc10 | replace hc10 := le_f hc10 | replace hc10 := dec_f hc10 | replace hc10 := nlt_t hc10 | replace hc10 := nle_t hc10 | replace hc10 := ndec_t hc10 | replace hc10 := ndec_f hc10 | replace hc10 := nn_t hc10 | replace hc10 := nn_f hc10 | skip
      replace hc10 : (q : Int) < r.effs.length ∧ (nn : Int) ≤ 20000 := by simpa using hc10
      obtain ⟨hlt, hle⟩ := hc10
      obtain ⟨e, he⟩ : ∃ t, r.effs[q]? = some t := ⟨_, List.getElem?_eq_getElem (show q < r.effs.length by omega)⟩
      have hnl_e_ref : nl e.ref ≤ 20000 := by unfold nl; omega
      have hnl_e_slot : nl e.slot ≤ 20000 := by unfold nl; omega
      have hnl_e_name : nl e.name ≤ 20000 := by unfold nl; omega
      refine g_skip ?_
      refine ge_then ?_
      refine g_seq ?_
      refine g_block ?_
      refine g_seq ?_
      refine g_region ?_
      refine gl_v rfl (o_move rfl) ?_
      refine gl_v rfl (o_move rfl) ?_
      refine gl_v rfl (o_idxS rfl rfl (show m < s.rows.length by omega)) ?_
      first | refine gl_v rfl (o_fldS rfl) ?_ | refine gl_v rfl (o_fld rfl) ?_
      refine gl_v rfl (o_loadS rfl (flat_get rowC 4 rowC_len hr (show (rowC _)[3]? = some _ from rfl))) ?_
      refine gl_v rfl (o_move rfl) ?_
      refine gl_v rfl (o_idxS rfl rfl (show q < r.effs.length by omega)) ?_
      refine gl_v rfl (o_loadSA rfl (flat_take effC 7 effC_len he) rfl) ?_
      refine gl_n rfl (o_alloc) ?_
      rintro _ _ ⟨b11, rfl, rfl⟩
      first | refine gl_u (o_storeSA rfl rfl rfl rfl (by simp; omega) (by simp)) ?_ | refine gl_u (o_storeA rfl rfl rfl rfl rfl) ?_
      refine gl_nil ?_
      refine ge_then ?_
      refine g_region ?_
      refine gl_v rfl (o_move rfl) ?_
      refine gl_v rfl (o_addR ((nn + 1 : Nat) : Int) (by rw [wr_i64 (by omega)]; omega) rfl rfl) ?_
      first | refine gl_v rfl (o_fldS rfl) ?_ | refine gl_v rfl (o_fld rfl) ?_
      first | refine gl_v rfl (o_load rfl rfl) ?_ | refine gl_v rfl (o_loadS rfl rfl) ?_ | refine gl_v rfl (o_loadC rfl) ?_
      refine gl_v rfl (o_lens rfl) ?_
      refine gl_v rfl (o_min ((nl e.ref : Nat) : Int) (by unfold nl; split <;> omega) rfl rfl) ?_
      refine gl_v rfl (o_addR ((nn + 1 + nl e.ref : Nat) : Int) (by rw [wr_i64 (by omega)]; omega) rfl rfl) ?_
      first | refine gl_v rfl (o_fldS rfl) ?_ | refine gl_v rfl (o_fld rfl) ?_
      first | refine gl_v rfl (o_load rfl rfl) ?_ | refine gl_v rfl (o_loadS rfl rfl) ?_ | refine gl_v rfl (o_loadC rfl) ?_
      refine gl_v rfl (o_lens rfl) ?_
      refine gl_v rfl (o_min ((nl e.slot : Nat) : Int) (by unfold nl; split <;> omega) rfl rfl) ?_
      refine gl_v rfl (o_addR ((nn + 1 + nl e.ref + nl e.slot : Nat) : Int) (by rw [wr_i64 (by omega)]; omega) rfl rfl) ?_
      first | refine gl_v rfl (o_fldS rfl) ?_ | refine gl_v rfl (o_fld rfl) ?_
      first | refine gl_v rfl (o_load rfl rfl) ?_ | refine gl_v rfl (o_loadS rfl rfl) ?_ | refine gl_v rfl (o_loadC rfl) ?_
      refine gl_v rfl (o_lens rfl) ?_
      refine gl_v rfl (o_min ((nl e.name : Nat) : Int) (by unfold nl; split <;> omega) rfl rfl) ?_
      refine gl_v rfl (o_addR ((nn + 1 + nl e.ref + nl e.slot + nl e.name : Nat) : Int) (by rw [wr_i64 (by omega)]; omega) rfl rfl) ?_
      refine gl_v rfl (o_assign rfl) ?_
      refine gl_nil ?_
      refine ge_block ?_
      refine ge_then ?_
      refine g_region ?_
      refine gl_v rfl (o_move rfl) ?_
      refine gl_v rfl (o_addR ((q + 1 : Nat) : Int) (by rw [wr_i64 (by omega)]; omega) rfl rfl) ?_
      refine gl_v rfl (o_assign rfl) ?_
      refine gl_nil ?_
      refine ge_round (q + 1, nn + 1 + nl e.ref + nl e.slot + nl e.name) ⟨show q + 1 ≤ r.effs.length by omega, by show nn + 1 + nl e.ref + nl e.slot + nl e.name ≤ 100000; omega, fun hn => ?_⟩ (by show r.effs.length - (q + 1) < r.effs.length - q; omega) (Keep.cons rfl (Keep.cons rfl (Keep.cons rfl (Keep.cons rfl (Keep.cons rfl (Keep.cons rfl (Keep.cons rfl (Keep.cons rfl (Keep.nil))))))))) (To.sat (by repeat (first | exact .nil | exact .done .refl | (apply To.cons; · (repeat (first | exact .head | apply Sel.tail))) | exact .done (by repeat (first | exact .refl | apply Drop.skip)))))
      replace hn : nn + 1 + nl e.ref + nl e.slot + nl e.name ≤ 20000 := hn
      show nn + 1 + nl e.ref + nl e.slot + nl e.name = _
      have := hnE (by omega); rw [sm_succ he]; have hz : effZ e = 1 + nl e.ref + nl e.slot + nl e.name := rfl; omega
     ·
      first | replace hc10 := of_decide_eq_true hc10 | replace hc10 := lt_f hc10 | replace hc10 := le_f hc10 | replace hc10 := dec_f hc10 | replace hc10 := nlt_t hc10 | replace hc10 := nle_t hc10 | replace hc10 := ndec_t hc10 | replace hc10 := ndec_f hc10 | replace hc10 := nn_t hc10 | replace hc10 := nn_f hc10 | skip
      replace hc10 : ¬ ((q : Int) < r.effs.length ∧ (nn : Int) ≤ 20000) := fun h2 => by rw [decide_eq_true h2.1, decide_eq_true h2.2] at hc10; cases hc10
      replace hnE : nn ≤ 20000 → nn = sm kndZ (K.take j) + 1 + nl k.name + sm casZ k.cases + sm staZ (k.states.take i) + 1 + nl s.name + sm rowZ (s.rows.take m) + 1 + nl r.tag + sm effZ r.effs := fun hn => by
        have h1 := hnE hn
        rw [show q = r.effs.length by omega, List.take_length] at h1; exact h1
      refine g_exit ?_
      refine ge_then_exit ?_
      refine ge_then_exit ?_
      refine ge_block_exit ?_
      refine ge_block ?_
      refine ge_then ?_
      refine g_region ?_
      refine gl_v rfl (o_move rfl) ?_
      refine gl_v rfl (o_addR ((m + 1 : Nat) : Int) (by rw [wr_i64 (by omega)]; omega) rfl rfl) ?_
      refine gl_v rfl (o_assign rfl) ?_
      refine gl_nil ?_
      refine ge_round (m + 1, nn) ⟨show m + 1 ≤ s.rows.length by omega, by show nn ≤ 100000; omega, fun hn => ?_⟩ (by show s.rows.length - (m + 1) < s.rows.length - m; omega) (Keep.cons rfl (Keep.cons rfl (Keep.cons rfl (Keep.cons rfl (Keep.cons rfl (Keep.cons rfl (Keep.cons rfl (Keep.nil)))))))) (To.sat (by repeat (first | exact .nil | exact .done .refl | (apply To.cons; · (repeat (first | exact .head | apply Sel.tail))) | exact .done (by repeat (first | exact .refl | apply Drop.skip)))))
      replace hn : nn ≤ 20000 := hn
      show nn = _
      have := hnE hn; rw [sm_succ hr]; have hz : rowZ r = 1 + nl r.tag + sm effZ r.effs := rfl; omega
    ·
     first | replace hc8 := of_decide_eq_true hc8 | replace hc8 := lt_f hc8 | replace hc8 := le_f hc8 | replace hc8 := dec_f hc8 | replace hc8 := nlt_t hc8 | replace hc8 := nle_t hc8 | replace hc8 := ndec_t hc8 | replace hc8 := ndec_f hc8 | replace hc8 := nn_t hc8 | replace hc8 := nn_f hc8 | skip
     replace hc8 : ¬ ((m : Int) < s.rows.length ∧ (nn : Int) ≤ 20000) := fun h2 => by rw [decide_eq_true h2.1, decide_eq_true h2.2] at hc8; cases hc8
     replace hnE : nn ≤ 20000 → nn = sm kndZ (K.take j) + 1 + nl k.name + sm casZ k.cases + sm staZ (k.states.take i) + 1 + nl s.name + sm rowZ s.rows := fun hn => by
       have h1 := hnE hn
       rw [show m = s.rows.length by omega, List.take_length] at h1; exact h1
     refine g_exit ?_
     refine ge_then_exit ?_
     refine ge_then_exit ?_
     refine ge_block_exit ?_
     refine ge_block ?_
     refine ge_then ?_
     refine g_region ?_
     refine gl_v rfl (o_move rfl) ?_
     refine gl_v rfl (o_addR ((i + 1 : Nat) : Int) (by rw [wr_i64 (by omega)]; omega) rfl rfl) ?_
     refine gl_v rfl (o_assign rfl) ?_
     refine gl_nil ?_
     refine ge_round (i + 1, nn) ⟨show i + 1 ≤ k.states.length by omega, by show nn ≤ 100000; omega, fun hn => ?_⟩ (by show k.states.length - (i + 1) < k.states.length - i; omega) (Keep.cons rfl (Keep.cons rfl (Keep.cons rfl (Keep.cons rfl (Keep.cons rfl (Keep.nil)))))) (To.sat (by repeat (first | exact .nil | exact .done .refl | (apply To.cons; · (repeat (first | exact .head | apply Sel.tail))) | exact .done (by repeat (first | exact .refl | apply Drop.skip)))))
     replace hn : nn ≤ 20000 := hn
     show nn = _
     have := hnE hn; rw [sm_succ hs]; have hz : staZ s = 1 + nl s.name + sm rowZ s.rows := rfl; omega
   ·
    first | replace hc6 := of_decide_eq_true hc6 | replace hc6 := lt_f hc6 | replace hc6 := le_f hc6 | replace hc6 := dec_f hc6 | replace hc6 := nlt_t hc6 | replace hc6 := nle_t hc6 | replace hc6 := ndec_t hc6 | replace hc6 := ndec_f hc6 | replace hc6 := nn_t hc6 | replace hc6 := nn_f hc6 | skip
    replace hc6 : ¬ ((i : Int) < k.states.length ∧ (nn : Int) ≤ 20000) := fun h2 => by rw [decide_eq_true h2.1, decide_eq_true h2.2] at hc6; cases hc6
    replace hnE : nn ≤ 20000 → nn = sm kndZ (K.take j) + 1 + nl k.name + sm casZ k.cases + sm staZ k.states := fun hn => by
      have h1 := hnE hn
      rw [show i = k.states.length by omega, List.take_length] at h1; exact h1
    refine g_exit ?_
    refine ge_then_exit ?_
    refine ge_then_exit ?_
    refine ge_block_exit ?_
    refine ge_block ?_
    refine ge_then ?_
    refine g_region ?_
    refine gl_v rfl (o_move rfl) ?_
    refine gl_v rfl (o_addR ((j + 1 : Nat) : Int) (by rw [wr_i64 (by omega)]; omega) rfl rfl) ?_
    refine gl_v rfl (o_assign rfl) ?_
    refine gl_nil ?_
    refine ge_round (j + 1, nn) ⟨show j + 1 ≤ K.length by omega, by show nn ≤ 100000; omega, fun hn => ?_⟩ (by show K.length - (j + 1) < K.length - j; omega) (Keep.cons rfl (Keep.cons rfl (Keep.cons rfl (Keep.nil)))) (To.sat (by repeat (first | exact .nil | exact .done .refl | (apply To.cons; · (repeat (first | exact .head | apply Sel.tail))) | exact .done (by repeat (first | exact .refl | apply Drop.skip)))))
    replace hn : nn ≤ 20000 := hn
    show nn = _
    have := hnE hn; rw [sm_succ hk]; have hz : kndZ k = 1 + nl k.name + sm casZ k.cases + sm staZ k.states := rfl; omega
 ·
  first | replace hc2 := of_decide_eq_true hc2 | replace hc2 := lt_f hc2 | replace hc2 := le_f hc2 | replace hc2 := dec_f hc2 | replace hc2 := nlt_t hc2 | replace hc2 := nle_t hc2 | replace hc2 := ndec_t hc2 | replace hc2 := ndec_f hc2 | replace hc2 := nn_t hc2 | replace hc2 := nn_f hc2 | skip
  replace hc2 : ¬ ((j : Int) < K.length ∧ (nn : Int) ≤ 20000) := fun h2 => by rw [decide_eq_true h2.1, decide_eq_true h2.2] at hc2; cases hc2
  replace hnE : nn ≤ 20000 → nn = sm kndZ K := fun hn => by
    have h1 := hnE hn
    rw [show j = K.length by omega, List.take_length] at h1; exact h1
  refine g_exit ?_
  refine ge_then_exit ?_
  refine ge_then_exit ?_
  refine ge_block_exit ?_
  refine ge_then ?_
  refine g_seq ?_
  refine g_region ?_
  refine gl_v rfl (o_move rfl) ?_
  refine gl_v rfl (o_gtr rfl rfl) ?_
  refine gl_v rfl (o_assign rfl) ?_
  refine gl_nil ?_
  refine ge_then ?_
  refine g_ret ?_
  refine ret1 (.inl rfl) rfl rfl _ (⟨decide (20000 < (nn : Int)), rfl, fun h => by have h1 := of_decide_eq_false h; have := hnE (by omega); omega, rfl⟩) (To.sat (by repeat (first | exact .nil | exact .done .refl | (apply To.cons; · (repeat (first | exact .head | apply Sel.tail))) | exact .done (by repeat (first | exact .refl | apply Drop.skip)))))

theorem rowEq_ne {x y : Row} (h : (!decide (x.tag = y.tag) || !(x.only == y.only) || !decide (x.n = y.n) || !decide ((x.effs.length : Int) = y.effs.length)) = true) : rowEq x y = false := by
  unfold rowEq
  simp only [Bool.or_eq_true, Bool.not_eq_true'] at h
  rcases h with ((h | h) | h) | h
  · rw [h]; rfl
  · rw [h, Bool.and_false]; rfl
  · rw [h, Bool.and_false]; rfl
  · rw [sameL_len (by have := of_decide_eq_false h; omega), Bool.and_false]
theorem rowEq_if {x y : Row} (h : (!decide (x.tag = y.tag) || !(x.only == y.only) || !decide (x.n = y.n) || !decide ((x.effs.length : Int) = y.effs.length)) = false) : x.effs.length = y.effs.length ∧ rowEq x y = sameL (fun a b => decide (a = b)) x.effs y.effs := by
  simp only [Bool.or_eq_false_iff, Bool.not_eq_false'] at h
  obtain ⟨⟨⟨h1, h2⟩, h3⟩, h4⟩ := h
  refine ⟨by have := of_decide_eq_true h4; omega, ?_⟩
  unfold rowEq; rw [h1, h2, h3]; rfl
theorem staEq_ne {x y : Sta} (h : (!decide (x.name = y.name) || !decide ((x.rows.length : Int) = y.rows.length)) = true) : staEq x y = false := by
  unfold staEq
  simp only [Bool.or_eq_true, Bool.not_eq_true'] at h
  rcases h with h | h
  · rw [h]; rfl
  · rw [sameL_len (by have := of_decide_eq_false h; omega), Bool.and_false]
theorem staEq_if {x y : Sta} (h : (!decide (x.name = y.name) || !decide ((x.rows.length : Int) = y.rows.length)) = false) : x.rows.length = y.rows.length ∧ staEq x y = sameL rowEq x.rows y.rows := by
  simp only [Bool.or_eq_false_iff, Bool.not_eq_false'] at h
  refine ⟨by have := of_decide_eq_true h.2; omega, ?_⟩
  unfold staEq; rw [h.1]; rfl
theorem kndEq_ne {x y : Knd} (h : (!decide (x.name = y.name) || !decide (x.limit = y.limit) || !decide (x.within = y.within) || !decide ((x.cases.length : Int) = y.cases.length) || !decide ((x.states.length : Int) = y.states.length)) = true) : kndEq x y = false := by
  unfold kndEq
  simp only [Bool.or_eq_true, Bool.not_eq_true'] at h
  rcases h with (((h | h) | h) | h) | h
  · rw [h]; rfl
  · rw [h, Bool.and_false]; rfl
  · rw [h, Bool.and_false]; rfl
  · rw [sameL_len (l := x.cases) (m := y.cases) (by have := of_decide_eq_false h; omega), Bool.and_false]; rfl
  · rw [sameL_len (l := x.states) (m := y.states) (by have := of_decide_eq_false h; omega), Bool.and_false]
theorem kndEq_if {x y : Knd} (h : (!decide (x.name = y.name) || !decide (x.limit = y.limit) || !decide (x.within = y.within) || !decide ((x.cases.length : Int) = y.cases.length) || !decide ((x.states.length : Int) = y.states.length)) = false) : x.cases.length = y.cases.length ∧ x.states.length = y.states.length ∧ kndEq x y = (sameL (fun a b => decide (a = b)) x.cases y.cases && sameL staEq x.states y.states) := by
  simp only [Bool.or_eq_false_iff, Bool.not_eq_false'] at h
  obtain ⟨⟨⟨⟨h1, h2⟩, h3⟩, h4⟩, h5⟩ := h
  refine ⟨by have := of_decide_eq_true h4; omega, by have := of_decide_eq_true h5; omega, ?_⟩
  unfold kndEq; rw [h1, h2, h3]; rfl

set_option maxRecDepth 8000 in
set_option maxHeartbeats 2000000 in
theorem rsta_spec (M : Assn) (x y : Sta) (h1 : ∀ h, M h → StaOk h x) (h2 : ∀ h, M h → StaOk h y) (hn : x.rows.length ≤ 9223372036854775806) (hn2 : ∀ r ∈ x.rows, r.effs.length ≤ 9223372036854775806) : FnS Tryz.prog 29 [.agg (staC x).toArray, .agg (staC y).toArray] [M] (fun u Bs => u = .bool (staEq x y) ∧ Bs = [M]) := by
 refine fn_body Tryz.func29 rfl rfl rfl ?_
 intro W0 R
 simp only [List.zipIdx_cons, List.zipIdx_nil, List.map_cons, List.map_nil, Nat.zero_add, Nat.reduceAdd, List.cons_append, List.nil_append]
 haveI iX : RdA (.slice x.ra x.rows.length x.rc) M x.rows.length (x.rows.flatMap rowC) := ⟨fun a => (h1 _ a).rd.1⟩
 haveI iY : RdA (.slice y.ra y.rows.length y.rc) M y.rows.length (y.rows.flatMap rowC) := ⟨fun a => (h2 _ a).rd.1⟩
 refine g_seq ?_
 refine g_region ?_
 refine gl_n rfl (o_boxA rfl) ?_
 rintro _ _ ⟨b2, rfl, rfl⟩
 refine gl_n rfl (o_boxA rfl) ?_
 rintro _ _ ⟨b3, rfl, rfl⟩
 refine gl_v rfl (o_assign rfl) ?_
 refine gl_nil ?_
 refine ge_then ?_
 refine g_seq ?_
 refine g_seq ?_
 refine g_region ?_
 first | refine gl_v rfl (o_fldS rfl) ?_ | refine gl_v rfl (o_fld rfl) ?_
 first | refine gl_v rfl (o_load rfl rfl) ?_ | refine gl_v rfl (o_loadS rfl rfl) ?_ | refine gl_v rfl (o_loadC rfl) ?_
 first | refine gl_v rfl (o_fldS rfl) ?_ | refine gl_v rfl (o_fld rfl) ?_
 first | refine gl_v rfl (o_load rfl rfl) ?_ | refine gl_v rfl (o_loadS rfl rfl) ?_ | refine gl_v rfl (o_loadC rfl) ?_
 refine gl_v rfl (o_neqs rfl rfl) ?_
 refine gl_v rfl (o_move rfl) ?_
 refine gl_join (d := 22) 8 (.bool (!decide (x.name = y.name) || !decide ((x.rows.length : Int) = y.rows.length))) ?_ (fun jk22 => ?_)
 rotate_left
 ·
  refine gl_g rfl rfl (fun hc1 => ?_) (fun hc1 => ?_) rfl
  ·
   have hc1' := hc1
   first | replace hc1' := of_decide_eq_true hc1' | replace hc1' := lt_f hc1' | replace hc1' := le_f hc1' | replace hc1' := dec_f hc1' | replace hc1' := nlt_t hc1' | replace hc1' := nle_t hc1' | replace hc1' := ndec_t hc1' | replace hc1' := ndec_f hc1' | replace hc1' := nn_t hc1' | replace hc1' := nn_f hc1' | skip
   first | refine gl_v rfl (o_fldS rfl) ?_ | refine gl_v rfl (o_fld rfl) ?_
   refine gl_gT rfl rfl hc1 ?_
   first | refine gl_v rfl (o_load rfl rfl) ?_ | refine gl_v rfl (o_loadS rfl rfl) ?_ | refine gl_v rfl (o_loadC rfl) ?_
   refine gl_gT rfl rfl hc1 ?_
   first | refine gl_v rfl (o_len rfl) ?_ | refine gl_v rfl (o_lenL rfl) ?_
   refine gl_gT rfl rfl hc1 ?_
   first | refine gl_v rfl (o_fldS rfl) ?_ | refine gl_v rfl (o_fld rfl) ?_
   refine gl_gT rfl rfl hc1 ?_
   first | refine gl_v rfl (o_load rfl rfl) ?_ | refine gl_v rfl (o_loadS rfl rfl) ?_ | refine gl_v rfl (o_loadC rfl) ?_
   refine gl_gT rfl rfl hc1 ?_
   first | refine gl_v rfl (o_len rfl) ?_ | refine gl_v rfl (o_lenL rfl) ?_
   refine gl_gT rfl rfl hc1 ?_
   refine gl_v rfl (o_neq rfl rfl) ?_
   refine gl_v rfl (o_pickF hc1 rfl rfl) ?_
   first | exact jk22 _ (KeepS.top (by repeat (first | exact KeepS.refl _ | refine KeepS.push ?_ rfl)) (jval (by first | rfl | (simp only [hc1, Bool.not_true, Bool.not_false, Bool.false_and, Bool.true_and, Bool.true_or, Bool.false_or]; done) | (simp [hc1, ]; done) | simp_all))) | exact gl_imp (To.sat (by repeat (first | exact .nil | exact .done .refl | (apply To.cons; · (repeat (first | exact .head | apply Sel.tail))) | exact .done (by repeat (first | exact .refl | apply Drop.skip))))) (jk22 _ (KeepS.top (by repeat (first | exact KeepS.refl _ | refine KeepS.push ?_ rfl)) (jval (by first | rfl | (simp only [hc1, Bool.not_true, Bool.not_false, Bool.false_and, Bool.true_and, Bool.true_or, Bool.false_or]; done) | (simp [hc1, ]; done) | simp_all))))
  ·
   have hc1' := hc1
   first | replace hc1' := of_decide_eq_true hc1' | replace hc1' := lt_f hc1' | replace hc1' := le_f hc1' | replace hc1' := dec_f hc1' | replace hc1' := nlt_t hc1' | replace hc1' := nle_t hc1' | replace hc1' := ndec_t hc1' | replace hc1' := ndec_f hc1' | replace hc1' := nn_t hc1' | replace hc1' := nn_f hc1' | skip
   simp only [putO]
   refine gl_gF rfl rfl hc1 rfl ?_
   refine gl_gF rfl rfl hc1 rfl ?_
   refine gl_gF rfl rfl hc1 rfl ?_
   refine gl_gF rfl rfl hc1 rfl ?_
   refine gl_gF rfl rfl hc1 rfl ?_
   refine gl_gF rfl rfl hc1 rfl ?_
   refine gl_v rfl (o_pickT hc1 rfl rfl) ?_
   first | exact jk22 _ (KeepS.top (by repeat (first | exact KeepS.refl _ | refine KeepS.push ?_ rfl)) (jval (by first | rfl | (simp only [hc1, Bool.not_true, Bool.not_false, Bool.false_and, Bool.true_and, Bool.true_or, Bool.false_or]; done) | (simp [hc1, ]; done) | simp_all))) | exact gl_imp (To.sat (by repeat (first | exact .nil | exact .done .refl | (apply To.cons; · (repeat (first | exact .head | apply Sel.tail))) | exact .done (by repeat (first | exact .refl | apply Drop.skip))))) (jk22 _ (KeepS.top (by repeat (first | exact KeepS.refl _ | refine KeepS.push ?_ rfl)) (jval (by first | rfl | (simp only [hc1, Bool.not_true, Bool.not_false, Bool.false_and, Bool.true_and, Bool.true_or, Bool.false_or]; done) | (simp [hc1, ]; done) | simp_all))))
 refine gl_nil ?_
 refine ge_then ?_
 refine g_cond rfl (fun hc2 => ?_) (fun hc2 => ?_)
 ·
  first | replace hc2 := of_decide_eq_true hc2 | replace hc2 := lt_f hc2 | replace hc2 := le_f hc2 | replace hc2 := dec_f hc2 | replace hc2 := nlt_t hc2 | replace hc2 := nle_t hc2 | replace hc2 := ndec_t hc2 | replace hc2 := ndec_f hc2 | replace hc2 := nn_t hc2 | replace hc2 := nn_f hc2 | skip
  have hf := staEq_ne hc2
  refine g_seq ?_
  refine g_region ?_
  refine gl_v rfl (o_assign rfl) ?_
  refine gl_nil ?_
  refine ge_then ?_
  refine g_ret ?_
  refine ge_then_ret ?_
  refine ret1 (.inl rfl) rfl rfl _ (⟨by rw [hf], rfl⟩) (To.sat (by repeat (first | exact .nil | exact .done .refl | (apply To.cons; · (repeat (first | exact .head | apply Sel.tail))) | exact .done (by repeat (first | exact .refl | apply Drop.skip)))))
 ·
  first | replace hc2 := of_decide_eq_true hc2 | replace hc2 := lt_f hc2 | replace hc2 := le_f hc2 | replace hc2 := dec_f hc2 | replace hc2 := nlt_t hc2 | replace hc2 := nle_t hc2 | replace hc2 := ndec_t hc2 | replace hc2 := ndec_f hc2 | replace hc2 := nn_t hc2 | replace hc2 := nn_f hc2 | skip
  obtain ⟨hel, hf⟩ := staEq_if hc2
  refine g_skip ?_
  refine ge_then ?_
  refine g_seq ?_
  refine g_seq ?_
  refine g_region ?_
  refine gl_v rfl (o_assign rfl) ?_
  refine gl_nil ?_
  refine ge_then ?_
  refine g_block ?_
  refine g_loop (ι := Nat) (fun x_ => x_ ≤ x.rows.length ∧ sameL rowEq (x.rows.drop x_) (y.rows.drop x_) = sameL rowEq x.rows y.rows) (fun x_ => [(5, I64 x_), (3, ptr b3 0), (2, ptr b2 0)]) (fun _ => cel b2 54 (staC x) :: cel b3 54 (staC y) :: M :: R) (fun x_ => x.rows.length - x_) 0 (⟨Nat.zero_le _, rfl⟩) (Keep.cons rfl (Keep.cons rfl (Keep.cons rfl (Keep.nil)))) (To.sat (by repeat (first | exact .nil | exact .done .refl | (apply To.cons; · (repeat (first | exact .head | apply Sel.tail))) | exact .done (by repeat (first | exact .refl | apply Drop.skip))))) ?_
  rintro j ⟨hj, hsj⟩
  replace hj : j ≤ x.rows.length := hj
  replace hsj : sameL rowEq (x.rows.drop j) (y.rows.drop j) = sameL rowEq x.rows y.rows := hsj
  refine g_seq ?_
  refine g_seq ?_
  refine g_region ?_
  refine gl_v rfl (o_move rfl) ?_
  first | refine gl_v rfl (o_fldS rfl) ?_ | refine gl_v rfl (o_fld rfl) ?_
  first | refine gl_v rfl (o_load rfl rfl) ?_ | refine gl_v rfl (o_loadS rfl rfl) ?_ | refine gl_v rfl (o_loadC rfl) ?_
  first | refine gl_v rfl (o_len rfl) ?_ | refine gl_v rfl (o_lenL rfl) ?_
  refine gl_v rfl (o_lss rfl rfl) ?_
  refine gl_nil ?_
  refine ge_then ?_
  refine g_cond rfl (fun hc3 => ?_) (fun hc3 => ?_)
  ·
   first | replace hc3 := of_decide_eq_true hc3 | replace hc3 := lt_f hc3 | replace hc3 := le_f hc3 | replace hc3 := dec_f hc3 | replace hc3 := nlt_t hc3 | replace hc3 := nle_t hc3 | replace hc3 := ndec_t hc3 | replace hc3 := ndec_f hc3 | replace hc3 := nn_t hc3 | replace hc3 := nn_f hc3 | skip
   obtain ⟨r, hr⟩ : ∃ t, x.rows[j]? = some t := ⟨_, List.getElem?_eq_getElem (show j < x.rows.length by omega)⟩
   obtain ⟨r', hr'⟩ : ∃ t, y.rows[j]? = some t := ⟨_, List.getElem?_eq_getElem (show j < y.rows.length by omega)⟩
   have hn3 := hn2 r (List.mem_of_getElem? hr)
   haveI iE : RdA (.slice r.ea r.effs.length r.ec) M r.effs.length (r.effs.flatMap effC) := ⟨fun a => ((h1 _ a).rows r (List.mem_of_getElem? hr)).rd.1⟩
   haveI iE' : RdA (.slice r'.ea r'.effs.length r'.ec) M r'.effs.length (r'.effs.flatMap effC) := ⟨fun a => ((h2 _ a).rows r' (List.mem_of_getElem? hr')).rd.1⟩
   refine g_skip ?_
   refine ge_then ?_
   refine g_seq ?_
   refine g_block ?_
   refine g_cut (fun act wo => ∃ (b6 b7 : Nat), HasSl Tryz.f29.ntmps [(7, ptr b7 0), (6, ptr b6 0), (5, I64 j), (3, ptr b3 0), (2, ptr b2 0)] act ∧ St W0 (cel b6 57 (rowC r) :: cel b7 57 (rowC r') :: cel b2 54 (staC x) :: cel b3 54 (staC y) :: M :: R) wo) ?_ ?_
   ·
    refine g_treeM [10, 11, 12, 13] [10, 11, 12] (.stab 0 (.stab 1 (.stab 2 (.stab 3 (.stab 4 (.stab 5 (.stab 6 (.stab 7 (.stab 8 (.stab 9 (.eff 10 (.eff 11 (.eff 12 (.eff 13 .nil .nil) .nil) .nil) (.eff 11 (.eff 10 (.eff 12 (.eff 13 .nil .nil) .nil) .nil) .nil)))))))))))) [cel b2 54 (staC x), cel b3 54 (staC y), M] mixed (by kernel_rfl) ?_
    first | refine gt_vs rfl .none rfl (o_fldS rfl) (To.sat (by repeat (first | exact .nil | exact .done .refl | (apply To.cons; · (repeat (first | exact .head | apply Sel.tail))) | exact .done (by repeat (first | exact .refl | apply Drop.skip))))) ?_ | refine gt_vs rfl .none rfl (o_fld rfl) (To.sat (by repeat (first | exact .nil | exact .done .refl | (apply To.cons; · (repeat (first | exact .head | apply Sel.tail))) | exact .done (by repeat (first | exact .refl | apply Drop.skip))))) ?_
    first | refine gt_vs rfl .none rfl (o_load rfl rfl) (To.sat (by repeat (first | exact .nil | exact .done .refl | (apply To.cons; · (repeat (first | exact .head | apply Sel.tail))) | exact .done (by repeat (first | exact .refl | apply Drop.skip))))) ?_ | refine gt_vs rfl .none rfl (o_loadS rfl rfl) (To.sat (by repeat (first | exact .nil | exact .done .refl | (apply To.cons; · (repeat (first | exact .head | apply Sel.tail))) | exact .done (by repeat (first | exact .refl | apply Drop.skip))))) ?_ | refine gt_vs rfl .none rfl (o_loadC rfl) (To.sat (by repeat (first | exact .nil | exact .done .refl | (apply To.cons; · (repeat (first | exact .head | apply Sel.tail))) | exact .done (by repeat (first | exact .refl | apply Drop.skip))))) ?_
    refine gt_vs rfl .none rfl (o_move rfl) (To.sat (by repeat (first | exact .nil | exact .done .refl | (apply To.cons; · (repeat (first | exact .head | apply Sel.tail))) | exact .done (by repeat (first | exact .refl | apply Drop.skip))))) ?_
    refine gt_vs rfl .none rfl (o_idxS rfl rfl (show j < x.rows.length by omega)) (To.sat (by repeat (first | exact .nil | exact .done .refl | (apply To.cons; · (repeat (first | exact .head | apply Sel.tail))) | exact .done (by repeat (first | exact .refl | apply Drop.skip))))) ?_
    refine gt_vs rfl .none rfl (o_loadSA rfl (flat_take rowC 4 rowC_len hr) rfl) (To.sat (by repeat (first | exact .nil | exact .done .refl | (apply To.cons; · (repeat (first | exact .head | apply Sel.tail))) | exact .done (by repeat (first | exact .refl | apply Drop.skip))))) ?_
    first | refine gt_vs rfl .none rfl (o_fldS rfl) (To.sat (by repeat (first | exact .nil | exact .done .refl | (apply To.cons; · (repeat (first | exact .head | apply Sel.tail))) | exact .done (by repeat (first | exact .refl | apply Drop.skip))))) ?_ | refine gt_vs rfl .none rfl (o_fld rfl) (To.sat (by repeat (first | exact .nil | exact .done .refl | (apply To.cons; · (repeat (first | exact .head | apply Sel.tail))) | exact .done (by repeat (first | exact .refl | apply Drop.skip))))) ?_
    first | refine gt_vs rfl .none rfl (o_load rfl rfl) (To.sat (by repeat (first | exact .nil | exact .done .refl | (apply To.cons; · (repeat (first | exact .head | apply Sel.tail))) | exact .done (by repeat (first | exact .refl | apply Drop.skip))))) ?_ | refine gt_vs rfl .none rfl (o_loadS rfl rfl) (To.sat (by repeat (first | exact .nil | exact .done .refl | (apply To.cons; · (repeat (first | exact .head | apply Sel.tail))) | exact .done (by repeat (first | exact .refl | apply Drop.skip))))) ?_ | refine gt_vs rfl .none rfl (o_loadC rfl) (To.sat (by repeat (first | exact .nil | exact .done .refl | (apply To.cons; · (repeat (first | exact .head | apply Sel.tail))) | exact .done (by repeat (first | exact .refl | apply Drop.skip))))) ?_
    refine gt_vs rfl .none rfl (o_move rfl) (To.sat (by repeat (first | exact .nil | exact .done .refl | (apply To.cons; · (repeat (first | exact .head | apply Sel.tail))) | exact .done (by repeat (first | exact .refl | apply Drop.skip))))) ?_
    refine gt_vs rfl .none rfl (o_idxS rfl rfl (show j < y.rows.length by omega)) (To.sat (by repeat (first | exact .nil | exact .done .refl | (apply To.cons; · (repeat (first | exact .head | apply Sel.tail))) | exact .done (by repeat (first | exact .refl | apply Drop.skip))))) ?_
    refine gt_vs rfl .none rfl (o_loadSA rfl (flat_take rowC 4 rowC_len hr') rfl) (To.sat (by repeat (first | exact .nil | exact .done .refl | (apply To.cons; · (repeat (first | exact .head | apply Sel.tail))) | exact .done (by repeat (first | exact .refl | apply Drop.skip))))) ?_
    refine gt_alts ?_ ?_
    ·
     refine gt_n rfl .none rfl (o_alloc) ?_
     rintro _ _ ⟨b6, rfl, rfl⟩
     refine ⟨(fun _ => (To.sat (by repeat (first | exact .nil | exact .done .refl | (apply To.cons; · (repeat (first | exact .head | apply Sel.tail))) | exact .done (by repeat (first | exact .refl | apply Drop.skip)))))), ?_⟩
     refine gt_n rfl .none rfl (o_alloc) ?_
     rintro _ _ ⟨b7, rfl, rfl⟩
     refine ⟨(fun _ => (To.sat (by repeat (first | exact .nil | exact .done .refl | (apply To.cons; · (repeat (first | exact .head | apply Sel.tail))) | exact .done (by repeat (first | exact .refl | apply Drop.skip)))))), ?_⟩
     first | refine gt_u rfl .none (o_storeSA rfl rfl rfl rfl (by simp; omega) (by simp)) (fun _ => (To.sat (by repeat (first | exact .nil | exact .done .refl | (apply To.cons; · (repeat (first | exact .head | apply Sel.tail))) | exact .done (by repeat (first | exact .refl | apply Drop.skip)))))) ?_ | refine gt_u rfl .none (o_storeA rfl rfl rfl rfl rfl) (fun _ => (To.sat (by repeat (first | exact .nil | exact .done .refl | (apply To.cons; · (repeat (first | exact .head | apply Sel.tail))) | exact .done (by repeat (first | exact .refl | apply Drop.skip)))))) ?_
     first | refine gt_u rfl .none (o_storeSA rfl rfl rfl rfl (by simp; omega) (by simp)) (fun hG => absurd hG (by decide)) ?_ | refine gt_u rfl .none (o_storeA rfl rfl rfl rfl rfl) (fun hG => absurd hG (by decide)) ?_
     refine gt_nil ?_
     exact fun act wo hsl st => ⟨b6, b7, hsl.keep (Keep.cons rfl (Keep.cons rfl (Keep.cons rfl (Keep.cons rfl (Keep.cons rfl (Keep.nil)))))), st.imp (To.sat (by repeat (first | exact .nil | exact .done .refl | (apply To.cons; · (repeat (first | exact .head | apply Sel.tail))) | exact .done (by repeat (first | exact .refl | apply Drop.skip)))))⟩
    ·
     refine gt_n rfl .none rfl (o_alloc) ?_
     rintro _ _ ⟨b7, rfl, rfl⟩
     refine ⟨(fun _ => (To.sat (by repeat (first | exact .nil | exact .done .refl | (apply To.cons; · (repeat (first | exact .head | apply Sel.tail))) | exact .done (by repeat (first | exact .refl | apply Drop.skip)))))), ?_⟩
     refine gt_n rfl .none rfl (o_alloc) ?_
     rintro _ _ ⟨b6, rfl, rfl⟩
     refine ⟨(fun _ => (To.sat (by repeat (first | exact .nil | exact .done .refl | (apply To.cons; · (repeat (first | exact .head | apply Sel.tail))) | exact .done (by repeat (first | exact .refl | apply Drop.skip)))))), ?_⟩
     first | refine gt_u rfl .none (o_storeSA rfl rfl rfl rfl (by simp; omega) (by simp)) (fun _ => (To.sat (by repeat (first | exact .nil | exact .done .refl | (apply To.cons; · (repeat (first | exact .head | apply Sel.tail))) | exact .done (by repeat (first | exact .refl | apply Drop.skip)))))) ?_ | refine gt_u rfl .none (o_storeA rfl rfl rfl rfl rfl) (fun _ => (To.sat (by repeat (first | exact .nil | exact .done .refl | (apply To.cons; · (repeat (first | exact .head | apply Sel.tail))) | exact .done (by repeat (first | exact .refl | apply Drop.skip)))))) ?_
     first | refine gt_u rfl .none (o_storeSA rfl rfl rfl rfl (by simp; omega) (by simp)) (fun hG => absurd hG (by decide)) ?_ | refine gt_u rfl .none (o_storeA rfl rfl rfl rfl rfl) (fun hG => absurd hG (by decide)) ?_
     refine gt_nil ?_
     exact fun act wo hsl st => ⟨b6, b7, hsl.keep (Keep.cons rfl (Keep.cons rfl (Keep.cons rfl (Keep.cons rfl (Keep.cons rfl (Keep.nil)))))), st.imp (To.sat (by repeat (first | exact .nil | exact .done .refl | (apply To.cons; · (repeat (first | exact .head | apply Sel.tail))) | exact .done (by repeat (first | exact .refl | apply Drop.skip)))))⟩
   ·
    rintro act wo ⟨b6, b7, hsl, st⟩
    refine g_of ?_ hsl st
    clear hsl st act wo
    refine g_seq ?_
    refine g_seq ?_
    refine g_region ?_
    first | refine gl_v rfl (o_fldS rfl) ?_ | refine gl_v rfl (o_fld rfl) ?_
    first | refine gl_v rfl (o_load rfl rfl) ?_ | refine gl_v rfl (o_loadS rfl rfl) ?_ | refine gl_v rfl (o_loadC rfl) ?_
    first | refine gl_v rfl (o_fldS rfl) ?_ | refine gl_v rfl (o_fld rfl) ?_
    first | refine gl_v rfl (o_load rfl rfl) ?_ | refine gl_v rfl (o_loadS rfl rfl) ?_ | refine gl_v rfl (o_loadC rfl) ?_
    refine gl_v rfl (o_neqs rfl rfl) ?_
    refine gl_v rfl (o_move rfl) ?_
    refine gl_join (d := 67) 22 (.bool (!decide (r.tag = r'.tag) || !(r.only == r'.only) || !decide (r.n = r'.n) || !decide ((r.effs.length : Int) = r'.effs.length))) ?_ (fun jk67 => ?_)
    rotate_left
    ·
     refine gl_g rfl rfl (fun hc4 => ?_) (fun hc4 => ?_) rfl
     ·
      have hc4' := hc4
      first | replace hc4' := of_decide_eq_true hc4' | replace hc4' := lt_f hc4' | replace hc4' := le_f hc4' | replace hc4' := dec_f hc4' | replace hc4' := nlt_t hc4' | replace hc4' := nle_t hc4' | replace hc4' := ndec_t hc4' | replace hc4' := ndec_f hc4' | replace hc4' := nn_t hc4' | replace hc4' := nn_f hc4' | skip
      first | refine gl_v rfl (o_fldS rfl) ?_ | refine gl_v rfl (o_fld rfl) ?_
      refine gl_gT rfl rfl hc4 ?_
      first | refine gl_v rfl (o_load rfl rfl) ?_ | refine gl_v rfl (o_loadS rfl rfl) ?_ | refine gl_v rfl (o_loadC rfl) ?_
      refine gl_gT rfl rfl hc4 ?_
      first | refine gl_v rfl (o_fldS rfl) ?_ | refine gl_v rfl (o_fld rfl) ?_
      refine gl_gT rfl rfl hc4 ?_
      first | refine gl_v rfl (o_load rfl rfl) ?_ | refine gl_v rfl (o_loadS rfl rfl) ?_ | refine gl_v rfl (o_loadC rfl) ?_
      refine gl_gT rfl rfl hc4 ?_
      refine gl_v rfl (o_neqb rfl rfl) ?_
      refine gl_v rfl (o_pickF hc4 rfl rfl) ?_
      refine gl_v rfl (o_move rfl) ?_
      refine gl_g rfl rfl (fun hc5 => ?_) (fun hc5 => ?_) rfl
      ·
       have hc5' := hc5
       first | replace hc5' := of_decide_eq_true hc5' | replace hc5' := lt_f hc5' | replace hc5' := le_f hc5' | replace hc5' := dec_f hc5' | replace hc5' := nlt_t hc5' | replace hc5' := nle_t hc5' | replace hc5' := ndec_t hc5' | replace hc5' := ndec_f hc5' | replace hc5' := nn_t hc5' | replace hc5' := nn_f hc5' | skip
       first | refine gl_v rfl (o_fldS rfl) ?_ | refine gl_v rfl (o_fld rfl) ?_
       refine gl_gT rfl rfl hc5 ?_
       first | refine gl_v rfl (o_load rfl rfl) ?_ | refine gl_v rfl (o_loadS rfl rfl) ?_ | refine gl_v rfl (o_loadC rfl) ?_
       refine gl_gT rfl rfl hc5 ?_
       first | refine gl_v rfl (o_fldS rfl) ?_ | refine gl_v rfl (o_fld rfl) ?_
       refine gl_gT rfl rfl hc5 ?_
       first | refine gl_v rfl (o_load rfl rfl) ?_ | refine gl_v rfl (o_loadS rfl rfl) ?_ | refine gl_v rfl (o_loadC rfl) ?_
       refine gl_gT rfl rfl hc5 ?_
       refine gl_v rfl (o_neq rfl rfl) ?_
       refine gl_v rfl (o_pickF hc5 rfl rfl) ?_
       refine gl_v rfl (o_move rfl) ?_
       refine gl_g rfl rfl (fun hc6 => ?_) (fun hc6 => ?_) rfl
       ·
        have hc6' := hc6
        first | replace hc6' := of_decide_eq_true hc6' | replace hc6' := lt_f hc6' | replace hc6' := le_f hc6' | replace hc6' := dec_f hc6' | replace hc6' := nlt_t hc6' | replace hc6' := nle_t hc6' | replace hc6' := ndec_t hc6' | replace hc6' := ndec_f hc6' | replace hc6' := nn_t hc6' | replace hc6' := nn_f hc6' | skip
        first | refine gl_v rfl (o_fldS rfl) ?_ | refine gl_v rfl (o_fld rfl) ?_
        refine gl_gT rfl rfl hc6 ?_
        first | refine gl_v rfl (o_load rfl rfl) ?_ | refine gl_v rfl (o_loadS rfl rfl) ?_ | refine gl_v rfl (o_loadC rfl) ?_
        refine gl_gT rfl rfl hc6 ?_
        first | refine gl_v rfl (o_len rfl) ?_ | refine gl_v rfl (o_lenL rfl) ?_
        refine gl_gT rfl rfl hc6 ?_
        first | refine gl_v rfl (o_fldS rfl) ?_ | refine gl_v rfl (o_fld rfl) ?_
        refine gl_gT rfl rfl hc6 ?_
        first | refine gl_v rfl (o_load rfl rfl) ?_ | refine gl_v rfl (o_loadS rfl rfl) ?_ | refine gl_v rfl (o_loadC rfl) ?_
        refine gl_gT rfl rfl hc6 ?_
        first | refine gl_v rfl (o_len rfl) ?_ | refine gl_v rfl (o_lenL rfl) ?_
        refine gl_gT rfl rfl hc6 ?_
        refine gl_v rfl (o_neq rfl rfl) ?_
        refine gl_v rfl (o_pickF hc6 rfl rfl) ?_
        first | exact jk67 _ (KeepS.top (by repeat (first | exact KeepS.refl _ | refine KeepS.push ?_ rfl)) (jval (by first | rfl | (simp only [hc4, hc5, hc6, Bool.not_true, Bool.not_false, Bool.false_and, Bool.true_and, Bool.true_or, Bool.false_or]; done) | (simp [hc4, hc5, hc6, ]; done) | simp_all))) | exact gl_imp (To.sat (by repeat (first | exact .nil | exact .done .refl | (apply To.cons; · (repeat (first | exact .head | apply Sel.tail))) | exact .done (by repeat (first | exact .refl | apply Drop.skip))))) (jk67 _ (KeepS.top (by repeat (first | exact KeepS.refl _ | refine KeepS.push ?_ rfl)) (jval (by first | rfl | (simp only [hc4, hc5, hc6, Bool.not_true, Bool.not_false, Bool.false_and, Bool.true_and, Bool.true_or, Bool.false_or]; done) | (simp [hc4, hc5, hc6, ]; done) | simp_all))))
       ·
        have hc6' := hc6
        first | replace hc6' := of_decide_eq_true hc6' | replace hc6' := lt_f hc6' | replace hc6' := le_f hc6' | replace hc6' := dec_f hc6' | replace hc6' := nlt_t hc6' | replace hc6' := nle_t hc6' | replace hc6' := ndec_t hc6' | replace hc6' := ndec_f hc6' | replace hc6' := nn_t hc6' | replace hc6' := nn_f hc6' | skip
        simp only [putO]
        refine gl_gF rfl rfl hc6 rfl ?_
        refine gl_gF rfl rfl hc6 rfl ?_
        refine gl_gF rfl rfl hc6 rfl ?_
        refine gl_gF rfl rfl hc6 rfl ?_
        refine gl_gF rfl rfl hc6 rfl ?_
        refine gl_gF rfl rfl hc6 rfl ?_
        refine gl_v rfl (o_pickT hc6 rfl rfl) ?_
        first | exact jk67 _ (KeepS.top (by repeat (first | exact KeepS.refl _ | refine KeepS.push ?_ rfl)) (jval (by first | rfl | (simp only [hc4, hc5, hc6, Bool.not_true, Bool.not_false, Bool.false_and, Bool.true_and, Bool.true_or, Bool.false_or]; done) | (simp [hc4, hc5, hc6, ]; done) | simp_all))) | exact gl_imp (To.sat (by repeat (first | exact .nil | exact .done .refl | (apply To.cons; · (repeat (first | exact .head | apply Sel.tail))) | exact .done (by repeat (first | exact .refl | apply Drop.skip))))) (jk67 _ (KeepS.top (by repeat (first | exact KeepS.refl _ | refine KeepS.push ?_ rfl)) (jval (by first | rfl | (simp only [hc4, hc5, hc6, Bool.not_true, Bool.not_false, Bool.false_and, Bool.true_and, Bool.true_or, Bool.false_or]; done) | (simp [hc4, hc5, hc6, ]; done) | simp_all))))
      ·
       have hc5' := hc5
       first | replace hc5' := of_decide_eq_true hc5' | replace hc5' := lt_f hc5' | replace hc5' := le_f hc5' | replace hc5' := dec_f hc5' | replace hc5' := nlt_t hc5' | replace hc5' := nle_t hc5' | replace hc5' := ndec_t hc5' | replace hc5' := ndec_f hc5' | replace hc5' := nn_t hc5' | replace hc5' := nn_f hc5' | skip
       simp only [putO]
       refine gl_gF rfl rfl hc5 rfl ?_
       refine gl_gF rfl rfl hc5 rfl ?_
       refine gl_gF rfl rfl hc5 rfl ?_
       refine gl_gF rfl rfl hc5 rfl ?_
       refine gl_v rfl (o_pickT hc5 rfl rfl) ?_
       refine gl_v rfl (o_move rfl) ?_
       refine gl_gF rfl rfl rfl rfl ?_
       refine gl_gF rfl rfl rfl rfl ?_
       refine gl_gF rfl rfl rfl rfl ?_
       refine gl_gF rfl rfl rfl rfl ?_
       refine gl_gF rfl rfl rfl rfl ?_
       refine gl_gF rfl rfl rfl rfl ?_
       refine gl_gF rfl rfl rfl rfl ?_
       refine gl_v rfl (o_pickT rfl rfl rfl) ?_
       first | exact jk67 _ (KeepS.top (by repeat (first | exact KeepS.refl _ | refine KeepS.push ?_ rfl)) (jval (by first | rfl | (simp only [hc4, hc5, Bool.not_true, Bool.not_false, Bool.false_and, Bool.true_and, Bool.true_or, Bool.false_or]; done) | (simp [hc4, hc5, ]; done) | simp_all))) | exact gl_imp (To.sat (by repeat (first | exact .nil | exact .done .refl | (apply To.cons; · (repeat (first | exact .head | apply Sel.tail))) | exact .done (by repeat (first | exact .refl | apply Drop.skip))))) (jk67 _ (KeepS.top (by repeat (first | exact KeepS.refl _ | refine KeepS.push ?_ rfl)) (jval (by first | rfl | (simp only [hc4, hc5, Bool.not_true, Bool.not_false, Bool.false_and, Bool.true_and, Bool.true_or, Bool.false_or]; done) | (simp [hc4, hc5, ]; done) | simp_all))))
     ·
      have hc4' := hc4
      first | replace hc4' := of_decide_eq_true hc4' | replace hc4' := lt_f hc4' | replace hc4' := le_f hc4' | replace hc4' := dec_f hc4' | replace hc4' := nlt_t hc4' | replace hc4' := nle_t hc4' | replace hc4' := ndec_t hc4' | replace hc4' := ndec_f hc4' | replace hc4' := nn_t hc4' | replace hc4' := nn_f hc4' | skip
      simp only [putO]
      refine gl_gF rfl rfl hc4 rfl ?_
      refine gl_gF rfl rfl hc4 rfl ?_
      refine gl_gF rfl rfl hc4 rfl ?_
      refine gl_gF rfl rfl hc4 rfl ?_
      refine gl_v rfl (o_pickT hc4 rfl rfl) ?_
      refine gl_v rfl (o_move rfl) ?_
      refine gl_gF rfl rfl rfl rfl ?_
      refine gl_gF rfl rfl rfl rfl ?_
      refine gl_gF rfl rfl rfl rfl ?_
      refine gl_gF rfl rfl rfl rfl ?_
      refine gl_gF rfl rfl rfl rfl ?_
      refine gl_v rfl (o_pickT rfl rfl rfl) ?_
      refine gl_v rfl (o_move rfl) ?_
      refine gl_gF rfl rfl rfl rfl ?_
      refine gl_gF rfl rfl rfl rfl ?_
      refine gl_gF rfl rfl rfl rfl ?_
      refine gl_gF rfl rfl rfl rfl ?_
      refine gl_gF rfl rfl rfl rfl ?_
      refine gl_gF rfl rfl rfl rfl ?_
      refine gl_gF rfl rfl rfl rfl ?_
      refine gl_v rfl (o_pickT rfl rfl rfl) ?_
      first | exact jk67 _ (KeepS.top (by repeat (first | exact KeepS.refl _ | refine KeepS.push ?_ rfl)) (jval (by first | rfl | (simp only [hc4, Bool.not_true, Bool.not_false, Bool.false_and, Bool.true_and, Bool.true_or, Bool.false_or]; done) | (simp [hc4, ]; done) | simp_all))) | exact gl_imp (To.sat (by repeat (first | exact .nil | exact .done .refl | (apply To.cons; · (repeat (first | exact .head | apply Sel.tail))) | exact .done (by repeat (first | exact .refl | apply Drop.skip))))) (jk67 _ (KeepS.top (by repeat (first | exact KeepS.refl _ | refine KeepS.push ?_ rfl)) (jval (by first | rfl | (simp only [hc4, Bool.not_true, Bool.not_false, Bool.false_and, Bool.true_and, Bool.true_or, Bool.false_or]; done) | (simp [hc4, ]; done) | simp_all))))
    refine gl_nil ?_
    refine ge_then ?_
    refine g_cond rfl (fun hc7 => ?_) (fun hc7 => ?_)
    ·
     first | replace hc7 := of_decide_eq_true hc7 | replace hc7 := lt_f hc7 | replace hc7 := le_f hc7 | replace hc7 := dec_f hc7 | replace hc7 := nlt_t hc7 | replace hc7 := nle_t hc7 | replace hc7 := ndec_t hc7 | replace hc7 := ndec_f hc7 | replace hc7 := nn_t hc7 | replace hc7 := nn_f hc7 | skip
     have hg := rowEq_ne hc7
     refine g_seq ?_
     refine g_region ?_
     refine gl_v rfl (o_assign rfl) ?_
     refine gl_nil ?_
     refine ge_then ?_
     refine g_ret ?_
     refine ge_then_ret ?_
     refine ge_block_ret ?_
     refine ge_then_ret ?_
     refine ge_then_ret ?_
     refine ge_block_ret ?_
     refine ge_then_ret ?_
     refine ret1 (.inl rfl) rfl rfl _ (⟨by rw [hf, ← hsj, sameL_drop hr hr', hg]; rfl, rfl⟩) (To.sat (by repeat (first | exact .nil | exact .done .refl | (apply To.cons; · (repeat (first | exact .head | apply Sel.tail))) | exact .done (by repeat (first | exact .refl | apply Drop.skip)))))
    ·
     first | replace hc7 := of_decide_eq_true hc7 | replace hc7 := lt_f hc7 | replace hc7 := le_f hc7 | replace hc7 := dec_f hc7 | replace hc7 := nlt_t hc7 | replace hc7 := nle_t hc7 | replace hc7 := ndec_t hc7 | replace hc7 := ndec_f hc7 | replace hc7 := nn_t hc7 | replace hc7 := nn_f hc7 | skip
     obtain ⟨hle, hg⟩ := rowEq_if hc7
     refine g_skip ?_
     refine ge_then ?_
     refine g_seq ?_
     refine g_region ?_
     refine gl_v rfl (o_assign rfl) ?_
     refine gl_nil ?_
     refine ge_then ?_
     refine g_block ?_
     refine g_loop (ι := Nat) (fun x_ => x_ ≤ r.effs.length ∧ sameL (fun a b => decide (a = b)) (r.effs.drop x_) (r'.effs.drop x_) = sameL (fun a b => decide (a = b)) r.effs r'.effs) (fun x_ => [(8, I64 x_), (7, ptr b7 0), (6, ptr b6 0), (5, I64 j), (3, ptr b3 0), (2, ptr b2 0)]) (fun _ => cel b6 57 (rowC r) :: cel b7 57 (rowC r') :: cel b2 54 (staC x) :: cel b3 54 (staC y) :: M :: R) (fun x_ => r.effs.length - x_) 0 (⟨Nat.zero_le _, rfl⟩) (Keep.cons rfl (Keep.cons rfl (Keep.cons rfl (Keep.cons rfl (Keep.cons rfl (Keep.cons rfl (Keep.nil))))))) (To.sat (by repeat (first | exact .nil | exact .done .refl | (apply To.cons; · (repeat (first | exact .head | apply Sel.tail))) | exact .done (by repeat (first | exact .refl | apply Drop.skip))))) ?_
     rintro q ⟨hq, hsq⟩
     replace hq : q ≤ r.effs.length := hq
     replace hsq : sameL (fun a b => decide (a = b)) (r.effs.drop q) (r'.effs.drop q) = sameL (fun a b => decide (a = b)) r.effs r'.effs := hsq
     refine g_seq ?_
     refine g_seq ?_
     refine g_region ?_
     refine gl_v rfl (o_move rfl) ?_
     first | refine gl_v rfl (o_fldS rfl) ?_ | refine gl_v rfl (o_fld rfl) ?_
     first | refine gl_v rfl (o_load rfl rfl) ?_ | refine gl_v rfl (o_loadS rfl rfl) ?_ | refine gl_v rfl (o_loadC rfl) ?_
     first | refine gl_v rfl (o_len rfl) ?_ | refine gl_v rfl (o_lenL rfl) ?_
     refine gl_v rfl (o_lss rfl rfl) ?_
     refine gl_nil ?_
     refine ge_then ?_
     refine g_cond rfl (fun hc8 => ?_) (fun hc8 => ?_)
     ·
      first | replace hc8 := of_decide_eq_true hc8 | replace hc8 := lt_f hc8 | replace hc8 := le_f hc8 | replace hc8 := dec_f hc8 | replace hc8 := nlt_t hc8 | replace hc8 := nle_t hc8 | replace hc8 := ndec_t hc8 | replace hc8 := ndec_f hc8 | replace hc8 := nn_t hc8 | replace hc8 := nn_f hc8 | skip
      obtain ⟨e, he⟩ : ∃ t, r.effs[q]? = some t := ⟨_, List.getElem?_eq_getElem (show q < r.effs.length by omega)⟩
      obtain ⟨e', he'⟩ : ∃ t, r'.effs[q]? = some t := ⟨_, List.getElem?_eq_getElem (show q < r'.effs.length by omega)⟩
      refine g_skip ?_
      refine ge_then ?_
      refine g_seq ?_
      refine g_block ?_
      refine g_seq ?_
      refine g_treeM [] [] (.loc 0 (.loc 1 (.loc 2 (.loc 3 (.loc 4 (.loc 5 (.loc 6 (.loc 7 (.loc 8 (.loc 9 (.loc 10 .nil))))))))))) [cel b6 57 (rowC r), cel b7 57 (rowC r'), M] mixed (by kernel_rfl) ?_
      first | refine gt_v rfl .none rfl (o_fldS rfl) ?_ | refine gt_v rfl .none rfl (o_fld rfl) ?_
      first | refine gt_v rfl .none rfl (o_load rfl rfl) ?_ | refine gt_v rfl .none rfl (o_loadS rfl rfl) ?_ | refine gt_v rfl .none rfl (o_loadC rfl) ?_
      refine gt_v rfl .none rfl (o_move rfl) ?_
      refine gt_v rfl .none rfl (o_idxS rfl rfl (show q < r.effs.length by omega)) ?_
      refine gt_v rfl .none rfl (o_loadSA rfl (flat_take effC 7 effC_len he) rfl) ?_
      first | refine gt_v rfl .none rfl (o_fldS rfl) ?_ | refine gt_v rfl .none rfl (o_fld rfl) ?_
      first | refine gt_v rfl .none rfl (o_load rfl rfl) ?_ | refine gt_v rfl .none rfl (o_loadS rfl rfl) ?_ | refine gt_v rfl .none rfl (o_loadC rfl) ?_
      refine gt_v rfl .none rfl (o_move rfl) ?_
      refine gt_v rfl .none rfl (o_idxS rfl rfl (show q < r'.effs.length by omega)) ?_
      refine gt_v rfl .none rfl (o_loadSA rfl (flat_take effC 7 effC_len he') rfl) ?_
      refine gt_v rfl .none rfl (o_is (c := !decide (e = e')) (by rw [flatEq_Eff]) (o_neqA (xs := effC e) (ys := effC e') rfl rfl rfl rfl)) ?_
      refine gt_nil ?_
      refine ge_then ?_
      refine g_cond rfl (fun hc9 => ?_) (fun hc9 => ?_)
      ·
       first | replace hc9 := of_decide_eq_true hc9 | replace hc9 := lt_f hc9 | replace hc9 := le_f hc9 | replace hc9 := dec_f hc9 | replace hc9 := nlt_t hc9 | replace hc9 := nle_t hc9 | replace hc9 := ndec_t hc9 | replace hc9 := ndec_f hc9 | replace hc9 := nn_t hc9 | replace hc9 := nn_f hc9 | skip
       have hc2 : decide (e = e') = false := by simpa using hc9
       refine g_seq ?_
       refine g_region ?_
       refine gl_v rfl (o_assign rfl) ?_
       refine gl_nil ?_
       refine ge_then ?_
       refine g_ret ?_
       refine ge_block_ret ?_
       refine ge_then_ret ?_
       refine ge_then_ret ?_
       refine ge_block_ret ?_
       refine ge_block_ret ?_
       refine ge_then_ret ?_
       refine ge_then_ret ?_
       refine ge_block_ret ?_
       refine ge_then_ret ?_
       refine ret1 (.inl rfl) rfl rfl _ (⟨by rw [hf, ← hsj, sameL_drop hr hr', hg, ← hsq, sameL_drop he he', hc2]; rfl, rfl⟩) (To.sat (by repeat (first | exact .nil | exact .done .refl | (apply To.cons; · (repeat (first | exact .head | apply Sel.tail))) | exact .done (by repeat (first | exact .refl | apply Drop.skip)))))
      ·
       first | replace hc9 := of_decide_eq_true hc9 | replace hc9 := lt_f hc9 | replace hc9 := le_f hc9 | replace hc9 := dec_f hc9 | replace hc9 := nlt_t hc9 | replace hc9 := nle_t hc9 | replace hc9 := ndec_t hc9 | replace hc9 := ndec_f hc9 | replace hc9 := nn_t hc9 | replace hc9 := nn_f hc9 | skip
       have hc2 : decide (e = e') = true := by simpa using hc9
       refine g_skip ?_
       refine ge_block ?_
       refine ge_then ?_
       refine g_region ?_
       refine gl_v rfl (o_move rfl) ?_
       refine gl_v rfl (o_addR ((q + 1 : Nat) : Int) (by rw [wr_i64 (by omega)]; omega) rfl rfl) ?_
       refine gl_v rfl (o_assign rfl) ?_
       refine gl_nil ?_
       refine ge_round (q + 1) ⟨show q + 1 ≤ r.effs.length by omega, by rw [← hsq, sameL_drop he he', hc2]; rfl⟩ (by show r.effs.length - (q + 1) < r.effs.length - q; omega) (Keep.cons rfl (Keep.cons rfl (Keep.cons rfl (Keep.cons rfl (Keep.cons rfl (Keep.cons rfl (Keep.nil))))))) (To.sat (by repeat (first | exact .nil | exact .done .refl | (apply To.cons; · (repeat (first | exact .head | apply Sel.tail))) | exact .done (by repeat (first | exact .refl | apply Drop.skip)))))
     ·
      first | replace hc8 := of_decide_eq_true hc8 | replace hc8 := lt_f hc8 | replace hc8 := le_f hc8 | replace hc8 := dec_f hc8 | replace hc8 := nlt_t hc8 | replace hc8 := nle_t hc8 | replace hc8 := ndec_t hc8 | replace hc8 := ndec_f hc8 | replace hc8 := nn_t hc8 | replace hc8 := nn_f hc8 | skip
      obtain rfl : q = r.effs.length := by omega
      rw [List.drop_length, List.drop_eq_nil_of_le (by omega)] at hsq
      have hrw : rowEq r r' = true := by rw [hg, ← hsq]; rfl
      refine g_exit ?_
      refine ge_then_exit ?_
      refine ge_then_exit ?_
      refine ge_block_exit ?_
      refine ge_block ?_
      refine ge_then ?_
      refine g_region ?_
      refine gl_v rfl (o_move rfl) ?_
      refine gl_v rfl (o_addR ((j + 1 : Nat) : Int) (by rw [wr_i64 (by omega)]; omega) rfl rfl) ?_
      refine gl_v rfl (o_assign rfl) ?_
      refine gl_nil ?_
      refine ge_round (j + 1) ⟨show j + 1 ≤ x.rows.length by omega, by rw [← hsj, sameL_drop hr hr', hrw]; rfl⟩ (by show x.rows.length - (j + 1) < x.rows.length - j; omega) (Keep.cons rfl (Keep.cons rfl (Keep.cons rfl (Keep.nil)))) (To.sat (by repeat (first | exact .nil | exact .done .refl | (apply To.cons; · (repeat (first | exact .head | apply Sel.tail))) | exact .done (by repeat (first | exact .refl | apply Drop.skip)))))
  ·
   first | replace hc3 := of_decide_eq_true hc3 | replace hc3 := lt_f hc3 | replace hc3 := le_f hc3 | replace hc3 := dec_f hc3 | replace hc3 := nlt_t hc3 | replace hc3 := nle_t hc3 | replace hc3 := ndec_t hc3 | replace hc3 := ndec_f hc3 | replace hc3 := nn_t hc3 | replace hc3 := nn_f hc3 | skip
   obtain rfl : j = x.rows.length := by omega
   rw [List.drop_length, List.drop_eq_nil_of_le (by omega)] at hsj
   refine g_exit ?_
   refine ge_then_exit ?_
   refine ge_then_exit ?_
   refine ge_block_exit ?_
   refine ge_then ?_
   refine g_seq ?_
   refine g_region ?_
   refine gl_v rfl (o_assign rfl) ?_
   refine gl_nil ?_
   refine ge_then ?_
   refine g_ret ?_
   refine ret1 (.inl rfl) rfl rfl _ (⟨by rw [hf, ← hsj]; rfl, rfl⟩) (To.sat (by repeat (first | exact .nil | exact .done .refl | (apply To.cons; · (repeat (first | exact .head | apply Sel.tail))) | exact .done (by repeat (first | exact .refl | apply Drop.skip)))))

set_option maxRecDepth 8000 in
set_option maxHeartbeats 2000000 in
theorem rSame_spec (M : Assn) (K1 K2 : List Knd) (a1 a2 : Option Addr) (c1 c2 : Nat) (h1 : ∀ h, M h → PrgOk h a1 c1 K1) (h2 : ∀ h, M h → PrgOk h a2 c2 K2) (hn : K1.length ≤ 9223372036854775806) (hk : ∀ k ∈ K1, k.cases.length ≤ 9223372036854775806 ∧ k.states.length ≤ 9223372036854775806 ∧ ∀ s ∈ k.states, s.rows.length ≤ 9223372036854775806 ∧ ∀ r ∈ s.rows, r.effs.length ≤ 9223372036854775806) : FnS Tryz.prog 15 [.agg #[.slice a1 K1.length c1], .agg #[.slice a2 K2.length c2]] [M] (fun u Bs => u = .bool (sameL kndEq K1 K2) ∧ Bs = [M]) := by
 refine fn_body Tryz.func15 rfl rfl rfl ?_
 intro W0 R
 simp only [List.zipIdx_cons, List.zipIdx_nil, List.map_cons, List.map_nil, Nat.zero_add, Nat.reduceAdd, List.cons_append, List.nil_append]
 haveI iX : RdA (.slice a1 K1.length c1) M K1.length (K1.flatMap kndC) := ⟨fun a => (h1 _ a).rd.1⟩
 haveI iY : RdA (.slice a2 K2.length c2) M K2.length (K2.flatMap kndC) := ⟨fun a => (h2 _ a).rd.1⟩
 refine g_seq ?_
 refine g_region ?_
 refine gl_n rfl (o_boxA rfl) ?_
 rintro _ _ ⟨b2, rfl, rfl⟩
 refine gl_n rfl (o_boxA rfl) ?_
 rintro _ _ ⟨b3, rfl, rfl⟩
 refine gl_v rfl (o_assign rfl) ?_
 refine gl_nil ?_
 refine ge_then ?_
 refine g_seq ?_
 refine g_seq ?_
 refine g_region ?_
 first | refine gl_v rfl (o_fldS rfl) ?_ | refine gl_v rfl (o_fld rfl) ?_
 first | refine gl_v rfl (o_load rfl rfl) ?_ | refine gl_v rfl (o_loadS rfl rfl) ?_ | refine gl_v rfl (o_loadC rfl) ?_
 first | refine gl_v rfl (o_len rfl) ?_ | refine gl_v rfl (o_lenL rfl) ?_
 first | refine gl_v rfl (o_fldS rfl) ?_ | refine gl_v rfl (o_fld rfl) ?_
 first | refine gl_v rfl (o_load rfl rfl) ?_ | refine gl_v rfl (o_loadS rfl rfl) ?_ | refine gl_v rfl (o_loadC rfl) ?_
 first | refine gl_v rfl (o_len rfl) ?_ | refine gl_v rfl (o_lenL rfl) ?_
 refine gl_v rfl (o_neq rfl rfl) ?_
 refine gl_nil ?_
 refine ge_then ?_
 refine g_cond rfl (fun hc1 => ?_) (fun hc1 => ?_)
 ·
  first | replace hc1 := of_decide_eq_true hc1 | replace hc1 := lt_f hc1 | replace hc1 := le_f hc1 | replace hc1 := dec_f hc1 | replace hc1 := nlt_t hc1 | replace hc1 := nle_t hc1 | replace hc1 := ndec_t hc1 | replace hc1 := ndec_f hc1 | replace hc1 := nn_t hc1 | replace hc1 := nn_f hc1 | skip
  have hf : sameL kndEq K1 K2 = false := sameL_len (by omega)
  refine g_seq ?_
  refine g_region ?_
  refine gl_v rfl (o_assign rfl) ?_
  refine gl_nil ?_
  refine ge_then ?_
  refine g_ret ?_
  refine ge_then_ret ?_
  refine ret1 (.inl rfl) rfl rfl _ (⟨by rw [hf], rfl⟩) (To.sat (by repeat (first | exact .nil | exact .done .refl | (apply To.cons; · (repeat (first | exact .head | apply Sel.tail))) | exact .done (by repeat (first | exact .refl | apply Drop.skip)))))
 ·
  first | replace hc1 := of_decide_eq_true hc1 | replace hc1 := lt_f hc1 | replace hc1 := le_f hc1 | replace hc1 := dec_f hc1 | replace hc1 := nlt_t hc1 | replace hc1 := nle_t hc1 | replace hc1 := ndec_t hc1 | replace hc1 := ndec_f hc1 | replace hc1 := nn_t hc1 | replace hc1 := nn_f hc1 | skip
  have hel : K1.length = K2.length := by omega
  refine g_skip ?_
  refine ge_then ?_
  refine g_seq ?_
  refine g_seq ?_
  refine g_region ?_
  refine gl_v rfl (o_assign rfl) ?_
  refine gl_nil ?_
  refine ge_then ?_
  refine g_block ?_
  refine g_loop (ι := Nat) (fun x_ => x_ ≤ K1.length ∧ sameL kndEq (K1.drop x_) (K2.drop x_) = sameL kndEq K1 K2) (fun x_ => [(5, I64 x_), (3, ptr b3 0), (2, ptr b2 0)]) (fun _ => cel b2 25 [.slice a1 K1.length c1] :: cel b3 25 [.slice a2 K2.length c2] :: M :: R) (fun x_ => K1.length - x_) 0 (⟨Nat.zero_le _, rfl⟩) (Keep.cons rfl (Keep.cons rfl (Keep.cons rfl (Keep.nil)))) (To.sat (by repeat (first | exact .nil | exact .done .refl | (apply To.cons; · (repeat (first | exact .head | apply Sel.tail))) | exact .done (by repeat (first | exact .refl | apply Drop.skip))))) ?_
  rintro j ⟨hj, hsj⟩
  replace hj : j ≤ K1.length := hj
  replace hsj : sameL kndEq (K1.drop j) (K2.drop j) = sameL kndEq K1 K2 := hsj
  refine g_seq ?_
  refine g_seq ?_
  refine g_region ?_
  refine gl_v rfl (o_move rfl) ?_
  first | refine gl_v rfl (o_fldS rfl) ?_ | refine gl_v rfl (o_fld rfl) ?_
  first | refine gl_v rfl (o_load rfl rfl) ?_ | refine gl_v rfl (o_loadS rfl rfl) ?_ | refine gl_v rfl (o_loadC rfl) ?_
  first | refine gl_v rfl (o_len rfl) ?_ | refine gl_v rfl (o_lenL rfl) ?_
  refine gl_v rfl (o_lss rfl rfl) ?_
  refine gl_nil ?_
  refine ge_then ?_
  refine g_cond rfl (fun hc2 => ?_) (fun hc2 => ?_)
  ·
   first | replace hc2 := of_decide_eq_true hc2 | replace hc2 := lt_f hc2 | replace hc2 := le_f hc2 | replace hc2 := dec_f hc2 | replace hc2 := nlt_t hc2 | replace hc2 := nle_t hc2 | replace hc2 := ndec_t hc2 | replace hc2 := ndec_f hc2 | replace hc2 := nn_t hc2 | replace hc2 := nn_f hc2 | skip
   obtain ⟨k, hkx⟩ : ∃ t, K1[j]? = some t := ⟨_, List.getElem?_eq_getElem (show j < K1.length by omega)⟩
   obtain ⟨k', hky⟩ : ∃ t, K2[j]? = some t := ⟨_, List.getElem?_eq_getElem (show j < K2.length by omega)⟩
   obtain ⟨hn3, hn4, hn5⟩ := hk k (List.mem_of_getElem? hkx)
   haveI ic1 : RdA (.slice k.ca k.cases.length k.cc) M k.cases.length (k.cases.flatMap casC) := ⟨fun a => ((h1 _ a).kinds k (List.mem_of_getElem? hkx)).rdc.1⟩
   haveI is1 : RdA (.slice k.sa k.states.length k.sc) M k.states.length (k.states.flatMap staC) := ⟨fun a => ((h1 _ a).kinds k (List.mem_of_getElem? hkx)).rds.1⟩
   haveI ic2 : RdA (.slice k'.ca k'.cases.length k'.cc) M k'.cases.length (k'.cases.flatMap casC) := ⟨fun a => ((h2 _ a).kinds k' (List.mem_of_getElem? hky)).rdc.1⟩
   haveI is2 : RdA (.slice k'.sa k'.states.length k'.sc) M k'.states.length (k'.states.flatMap staC) := ⟨fun a => ((h2 _ a).kinds k' (List.mem_of_getElem? hky)).rds.1⟩
   refine g_skip ?_
   refine ge_then ?_
   refine g_seq ?_
   refine g_block ?_
   refine g_cut (fun act wo => ∃ (b6 b7 : Nat), HasSl Tryz.f15.ntmps [(7, ptr b7 0), (6, ptr b6 0), (5, I64 j), (3, ptr b3 0), (2, ptr b2 0)] act ∧ St W0 (cel b6 51 (kndC k) :: cel b7 51 (kndC k') :: cel b2 25 [.slice a1 K1.length c1] :: cel b3 25 [.slice a2 K2.length c2] :: M :: R) wo) ?_ ?_
   ·
    refine g_treeM [10, 11, 12, 13] [10, 11, 12] (.stab 0 (.stab 1 (.stab 2 (.stab 3 (.stab 4 (.stab 5 (.stab 6 (.stab 7 (.stab 8 (.stab 9 (.eff 10 (.eff 11 (.eff 12 (.eff 13 .nil .nil) .nil) .nil) (.eff 11 (.eff 10 (.eff 12 (.eff 13 .nil .nil) .nil) .nil) .nil)))))))))))) [cel b2 25 [.slice a1 K1.length c1], cel b3 25 [.slice a2 K2.length c2], M] mixed (by kernel_rfl) ?_
    first | refine gt_vs rfl .none rfl (o_fldS rfl) (To.sat (by repeat (first | exact .nil | exact .done .refl | (apply To.cons; · (repeat (first | exact .head | apply Sel.tail))) | exact .done (by repeat (first | exact .refl | apply Drop.skip))))) ?_ | refine gt_vs rfl .none rfl (o_fld rfl) (To.sat (by repeat (first | exact .nil | exact .done .refl | (apply To.cons; · (repeat (first | exact .head | apply Sel.tail))) | exact .done (by repeat (first | exact .refl | apply Drop.skip))))) ?_
    first | refine gt_vs rfl .none rfl (o_load rfl rfl) (To.sat (by repeat (first | exact .nil | exact .done .refl | (apply To.cons; · (repeat (first | exact .head | apply Sel.tail))) | exact .done (by repeat (first | exact .refl | apply Drop.skip))))) ?_ | refine gt_vs rfl .none rfl (o_loadS rfl rfl) (To.sat (by repeat (first | exact .nil | exact .done .refl | (apply To.cons; · (repeat (first | exact .head | apply Sel.tail))) | exact .done (by repeat (first | exact .refl | apply Drop.skip))))) ?_ | refine gt_vs rfl .none rfl (o_loadC rfl) (To.sat (by repeat (first | exact .nil | exact .done .refl | (apply To.cons; · (repeat (first | exact .head | apply Sel.tail))) | exact .done (by repeat (first | exact .refl | apply Drop.skip))))) ?_
    refine gt_vs rfl .none rfl (o_move rfl) (To.sat (by repeat (first | exact .nil | exact .done .refl | (apply To.cons; · (repeat (first | exact .head | apply Sel.tail))) | exact .done (by repeat (first | exact .refl | apply Drop.skip))))) ?_
    refine gt_vs rfl .none rfl (o_idxS rfl rfl (show j < K1.length by omega)) (To.sat (by repeat (first | exact .nil | exact .done .refl | (apply To.cons; · (repeat (first | exact .head | apply Sel.tail))) | exact .done (by repeat (first | exact .refl | apply Drop.skip))))) ?_
    refine gt_vs rfl .none rfl (o_loadSA rfl (flat_take kndC 5 kndC_len hkx) rfl) (To.sat (by repeat (first | exact .nil | exact .done .refl | (apply To.cons; · (repeat (first | exact .head | apply Sel.tail))) | exact .done (by repeat (first | exact .refl | apply Drop.skip))))) ?_
    first | refine gt_vs rfl .none rfl (o_fldS rfl) (To.sat (by repeat (first | exact .nil | exact .done .refl | (apply To.cons; · (repeat (first | exact .head | apply Sel.tail))) | exact .done (by repeat (first | exact .refl | apply Drop.skip))))) ?_ | refine gt_vs rfl .none rfl (o_fld rfl) (To.sat (by repeat (first | exact .nil | exact .done .refl | (apply To.cons; · (repeat (first | exact .head | apply Sel.tail))) | exact .done (by repeat (first | exact .refl | apply Drop.skip))))) ?_
    first | refine gt_vs rfl .none rfl (o_load rfl rfl) (To.sat (by repeat (first | exact .nil | exact .done .refl | (apply To.cons; · (repeat (first | exact .head | apply Sel.tail))) | exact .done (by repeat (first | exact .refl | apply Drop.skip))))) ?_ | refine gt_vs rfl .none rfl (o_loadS rfl rfl) (To.sat (by repeat (first | exact .nil | exact .done .refl | (apply To.cons; · (repeat (first | exact .head | apply Sel.tail))) | exact .done (by repeat (first | exact .refl | apply Drop.skip))))) ?_ | refine gt_vs rfl .none rfl (o_loadC rfl) (To.sat (by repeat (first | exact .nil | exact .done .refl | (apply To.cons; · (repeat (first | exact .head | apply Sel.tail))) | exact .done (by repeat (first | exact .refl | apply Drop.skip))))) ?_
    refine gt_vs rfl .none rfl (o_move rfl) (To.sat (by repeat (first | exact .nil | exact .done .refl | (apply To.cons; · (repeat (first | exact .head | apply Sel.tail))) | exact .done (by repeat (first | exact .refl | apply Drop.skip))))) ?_
    refine gt_vs rfl .none rfl (o_idxS rfl rfl (show j < K2.length by omega)) (To.sat (by repeat (first | exact .nil | exact .done .refl | (apply To.cons; · (repeat (first | exact .head | apply Sel.tail))) | exact .done (by repeat (first | exact .refl | apply Drop.skip))))) ?_
    refine gt_vs rfl .none rfl (o_loadSA rfl (flat_take kndC 5 kndC_len hky) rfl) (To.sat (by repeat (first | exact .nil | exact .done .refl | (apply To.cons; · (repeat (first | exact .head | apply Sel.tail))) | exact .done (by repeat (first | exact .refl | apply Drop.skip))))) ?_
    refine gt_alts ?_ ?_
    ·
     refine gt_n rfl .none rfl (o_alloc) ?_
     rintro _ _ ⟨b6, rfl, rfl⟩
     refine ⟨(fun _ => (To.sat (by repeat (first | exact .nil | exact .done .refl | (apply To.cons; · (repeat (first | exact .head | apply Sel.tail))) | exact .done (by repeat (first | exact .refl | apply Drop.skip)))))), ?_⟩
     refine gt_n rfl .none rfl (o_alloc) ?_
     rintro _ _ ⟨b7, rfl, rfl⟩
     refine ⟨(fun _ => (To.sat (by repeat (first | exact .nil | exact .done .refl | (apply To.cons; · (repeat (first | exact .head | apply Sel.tail))) | exact .done (by repeat (first | exact .refl | apply Drop.skip)))))), ?_⟩
     first | refine gt_u rfl .none (o_storeSA rfl rfl rfl rfl (by simp; omega) (by simp)) (fun _ => (To.sat (by repeat (first | exact .nil | exact .done .refl | (apply To.cons; · (repeat (first | exact .head | apply Sel.tail))) | exact .done (by repeat (first | exact .refl | apply Drop.skip)))))) ?_ | refine gt_u rfl .none (o_storeA rfl rfl rfl rfl rfl) (fun _ => (To.sat (by repeat (first | exact .nil | exact .done .refl | (apply To.cons; · (repeat (first | exact .head | apply Sel.tail))) | exact .done (by repeat (first | exact .refl | apply Drop.skip)))))) ?_
     first | refine gt_u rfl .none (o_storeSA rfl rfl rfl rfl (by simp; omega) (by simp)) (fun hG => absurd hG (by decide)) ?_ | refine gt_u rfl .none (o_storeA rfl rfl rfl rfl rfl) (fun hG => absurd hG (by decide)) ?_
     refine gt_nil ?_
     exact fun act wo hsl st => ⟨b6, b7, hsl.keep (Keep.cons rfl (Keep.cons rfl (Keep.cons rfl (Keep.cons rfl (Keep.cons rfl (Keep.nil)))))), st.imp (To.sat (by repeat (first | exact .nil | exact .done .refl | (apply To.cons; · (repeat (first | exact .head | apply Sel.tail))) | exact .done (by repeat (first | exact .refl | apply Drop.skip)))))⟩
    ·
     refine gt_n rfl .none rfl (o_alloc) ?_
     rintro _ _ ⟨b7, rfl, rfl⟩
     refine ⟨(fun _ => (To.sat (by repeat (first | exact .nil | exact .done .refl | (apply To.cons; · (repeat (first | exact .head | apply Sel.tail))) | exact .done (by repeat (first | exact .refl | apply Drop.skip)))))), ?_⟩
     refine gt_n rfl .none rfl (o_alloc) ?_
     rintro _ _ ⟨b6, rfl, rfl⟩
     refine ⟨(fun _ => (To.sat (by repeat (first | exact .nil | exact .done .refl | (apply To.cons; · (repeat (first | exact .head | apply Sel.tail))) | exact .done (by repeat (first | exact .refl | apply Drop.skip)))))), ?_⟩
     first | refine gt_u rfl .none (o_storeSA rfl rfl rfl rfl (by simp; omega) (by simp)) (fun _ => (To.sat (by repeat (first | exact .nil | exact .done .refl | (apply To.cons; · (repeat (first | exact .head | apply Sel.tail))) | exact .done (by repeat (first | exact .refl | apply Drop.skip)))))) ?_ | refine gt_u rfl .none (o_storeA rfl rfl rfl rfl rfl) (fun _ => (To.sat (by repeat (first | exact .nil | exact .done .refl | (apply To.cons; · (repeat (first | exact .head | apply Sel.tail))) | exact .done (by repeat (first | exact .refl | apply Drop.skip)))))) ?_
     first | refine gt_u rfl .none (o_storeSA rfl rfl rfl rfl (by simp; omega) (by simp)) (fun hG => absurd hG (by decide)) ?_ | refine gt_u rfl .none (o_storeA rfl rfl rfl rfl rfl) (fun hG => absurd hG (by decide)) ?_
     refine gt_nil ?_
     exact fun act wo hsl st => ⟨b6, b7, hsl.keep (Keep.cons rfl (Keep.cons rfl (Keep.cons rfl (Keep.cons rfl (Keep.cons rfl (Keep.nil)))))), st.imp (To.sat (by repeat (first | exact .nil | exact .done .refl | (apply To.cons; · (repeat (first | exact .head | apply Sel.tail))) | exact .done (by repeat (first | exact .refl | apply Drop.skip)))))⟩
   ·
    rintro act wo ⟨b6, b7, hsl, st⟩
    refine g_of ?_ hsl st
    clear hsl st act wo
    refine g_seq ?_
    refine g_seq ?_
    refine g_region ?_
    first | refine gl_v rfl (o_fldS rfl) ?_ | refine gl_v rfl (o_fld rfl) ?_
    first | refine gl_v rfl (o_load rfl rfl) ?_ | refine gl_v rfl (o_loadS rfl rfl) ?_ | refine gl_v rfl (o_loadC rfl) ?_
    first | refine gl_v rfl (o_fldS rfl) ?_ | refine gl_v rfl (o_fld rfl) ?_
    first | refine gl_v rfl (o_load rfl rfl) ?_ | refine gl_v rfl (o_loadS rfl rfl) ?_ | refine gl_v rfl (o_loadC rfl) ?_
    refine gl_v rfl (o_neqs rfl rfl) ?_
    refine gl_v rfl (o_move rfl) ?_
    refine gl_join (d := 70) 31 (.bool (!decide (k.name = k'.name) || !decide (k.limit = k'.limit) || !decide (k.within = k'.within) || !decide ((k.cases.length : Int) = k'.cases.length) || !decide ((k.states.length : Int) = k'.states.length))) ?_ (fun jk70 => ?_)
    rotate_left
    ·
     refine gl_g rfl rfl (fun hc3 => ?_) (fun hc3 => ?_) rfl
     ·
      have hc3' := hc3
      first | replace hc3' := of_decide_eq_true hc3' | replace hc3' := lt_f hc3' | replace hc3' := le_f hc3' | replace hc3' := dec_f hc3' | replace hc3' := nlt_t hc3' | replace hc3' := nle_t hc3' | replace hc3' := ndec_t hc3' | replace hc3' := ndec_f hc3' | replace hc3' := nn_t hc3' | replace hc3' := nn_f hc3' | skip
      first | refine gl_v rfl (o_fldS rfl) ?_ | refine gl_v rfl (o_fld rfl) ?_
      refine gl_gT rfl rfl hc3 ?_
      first | refine gl_v rfl (o_load rfl rfl) ?_ | refine gl_v rfl (o_loadS rfl rfl) ?_ | refine gl_v rfl (o_loadC rfl) ?_
      refine gl_gT rfl rfl hc3 ?_
      first | refine gl_v rfl (o_fldS rfl) ?_ | refine gl_v rfl (o_fld rfl) ?_
      refine gl_gT rfl rfl hc3 ?_
      first | refine gl_v rfl (o_load rfl rfl) ?_ | refine gl_v rfl (o_loadS rfl rfl) ?_ | refine gl_v rfl (o_loadC rfl) ?_
      refine gl_gT rfl rfl hc3 ?_
      refine gl_v rfl (o_neq rfl rfl) ?_
      refine gl_v rfl (o_pickF hc3 rfl rfl) ?_
      refine gl_v rfl (o_move rfl) ?_
      refine gl_g rfl rfl (fun hc4 => ?_) (fun hc4 => ?_) rfl
      ·
       have hc4' := hc4
       first | replace hc4' := of_decide_eq_true hc4' | replace hc4' := lt_f hc4' | replace hc4' := le_f hc4' | replace hc4' := dec_f hc4' | replace hc4' := nlt_t hc4' | replace hc4' := nle_t hc4' | replace hc4' := ndec_t hc4' | replace hc4' := ndec_f hc4' | replace hc4' := nn_t hc4' | replace hc4' := nn_f hc4' | skip
       first | refine gl_v rfl (o_fldS rfl) ?_ | refine gl_v rfl (o_fld rfl) ?_
       refine gl_gT rfl rfl hc4 ?_
       first | refine gl_v rfl (o_load rfl rfl) ?_ | refine gl_v rfl (o_loadS rfl rfl) ?_ | refine gl_v rfl (o_loadC rfl) ?_
       refine gl_gT rfl rfl hc4 ?_
       first | refine gl_v rfl (o_fldS rfl) ?_ | refine gl_v rfl (o_fld rfl) ?_
       refine gl_gT rfl rfl hc4 ?_
       first | refine gl_v rfl (o_load rfl rfl) ?_ | refine gl_v rfl (o_loadS rfl rfl) ?_ | refine gl_v rfl (o_loadC rfl) ?_
       refine gl_gT rfl rfl hc4 ?_
       refine gl_v rfl (o_neq rfl rfl) ?_
       refine gl_v rfl (o_pickF hc4 rfl rfl) ?_
       refine gl_v rfl (o_move rfl) ?_
       refine gl_g rfl rfl (fun hc5 => ?_) (fun hc5 => ?_) rfl
       ·
        have hc5' := hc5
        first | replace hc5' := of_decide_eq_true hc5' | replace hc5' := lt_f hc5' | replace hc5' := le_f hc5' | replace hc5' := dec_f hc5' | replace hc5' := nlt_t hc5' | replace hc5' := nle_t hc5' | replace hc5' := ndec_t hc5' | replace hc5' := ndec_f hc5' | replace hc5' := nn_t hc5' | replace hc5' := nn_f hc5' | skip
        first | refine gl_v rfl (o_fldS rfl) ?_ | refine gl_v rfl (o_fld rfl) ?_
        refine gl_gT rfl rfl hc5 ?_
        first | refine gl_v rfl (o_load rfl rfl) ?_ | refine gl_v rfl (o_loadS rfl rfl) ?_ | refine gl_v rfl (o_loadC rfl) ?_
        refine gl_gT rfl rfl hc5 ?_
        first | refine gl_v rfl (o_len rfl) ?_ | refine gl_v rfl (o_lenL rfl) ?_
        refine gl_gT rfl rfl hc5 ?_
        first | refine gl_v rfl (o_fldS rfl) ?_ | refine gl_v rfl (o_fld rfl) ?_
        refine gl_gT rfl rfl hc5 ?_
        first | refine gl_v rfl (o_load rfl rfl) ?_ | refine gl_v rfl (o_loadS rfl rfl) ?_ | refine gl_v rfl (o_loadC rfl) ?_
        refine gl_gT rfl rfl hc5 ?_
        first | refine gl_v rfl (o_len rfl) ?_ | refine gl_v rfl (o_lenL rfl) ?_
        refine gl_gT rfl rfl hc5 ?_
        refine gl_v rfl (o_neq rfl rfl) ?_
        refine gl_v rfl (o_pickF hc5 rfl rfl) ?_
        refine gl_v rfl (o_move rfl) ?_
        refine gl_g rfl rfl (fun hc6 => ?_) (fun hc6 => ?_) rfl
        ·
         have hc6' := hc6
         first | replace hc6' := of_decide_eq_true hc6' | replace hc6' := lt_f hc6' | replace hc6' := le_f hc6' | replace hc6' := dec_f hc6' | replace hc6' := nlt_t hc6' | replace hc6' := nle_t hc6' | replace hc6' := ndec_t hc6' | replace hc6' := ndec_f hc6' | replace hc6' := nn_t hc6' | replace hc6' := nn_f hc6' | skip
         first | refine gl_v rfl (o_fldS rfl) ?_ | refine gl_v rfl (o_fld rfl) ?_
         refine gl_gT rfl rfl hc6 ?_
         first | refine gl_v rfl (o_load rfl rfl) ?_ | refine gl_v rfl (o_loadS rfl rfl) ?_ | refine gl_v rfl (o_loadC rfl) ?_
         refine gl_gT rfl rfl hc6 ?_
         first | refine gl_v rfl (o_len rfl) ?_ | refine gl_v rfl (o_lenL rfl) ?_
         refine gl_gT rfl rfl hc6 ?_
         first | refine gl_v rfl (o_fldS rfl) ?_ | refine gl_v rfl (o_fld rfl) ?_
         refine gl_gT rfl rfl hc6 ?_
         first | refine gl_v rfl (o_load rfl rfl) ?_ | refine gl_v rfl (o_loadS rfl rfl) ?_ | refine gl_v rfl (o_loadC rfl) ?_
         refine gl_gT rfl rfl hc6 ?_
         first | refine gl_v rfl (o_len rfl) ?_ | refine gl_v rfl (o_lenL rfl) ?_
         refine gl_gT rfl rfl hc6 ?_
         refine gl_v rfl (o_neq rfl rfl) ?_
         refine gl_v rfl (o_pickF hc6 rfl rfl) ?_
         first | exact jk70 _ (KeepS.top (by repeat (first | exact KeepS.refl _ | refine KeepS.push ?_ rfl)) (jval (by first | rfl | (simp only [hc3, hc4, hc5, hc6, Bool.not_true, Bool.not_false, Bool.false_and, Bool.true_and, Bool.true_or, Bool.false_or]; done) | (simp [hc3, hc4, hc5, hc6, ]; done) | simp_all))) | exact gl_imp (To.sat (by repeat (first | exact .nil | exact .done .refl | (apply To.cons; · (repeat (first | exact .head | apply Sel.tail))) | exact .done (by repeat (first | exact .refl | apply Drop.skip))))) (jk70 _ (KeepS.top (by repeat (first | exact KeepS.refl _ | refine KeepS.push ?_ rfl)) (jval (by first | rfl | (simp only [hc3, hc4, hc5, hc6, Bool.not_true, Bool.not_false, Bool.false_and, Bool.true_and, Bool.true_or, Bool.false_or]; done) | (simp [hc3, hc4, hc5, hc6, ]; done) | simp_all))))
        ·
         have hc6' := hc6
         first | replace hc6' := of_decide_eq_true hc6' | replace hc6' := lt_f hc6' | replace hc6' := le_f hc6' | replace hc6' := dec_f hc6' | replace hc6' := nlt_t hc6' | replace hc6' := nle_t hc6' | replace hc6' := ndec_t hc6' | replace hc6' := ndec_f hc6' | replace hc6' := nn_t hc6' | replace hc6' := nn_f hc6' | skip
         simp only [putO]
         refine gl_gF rfl rfl hc6 rfl ?_
         refine gl_gF rfl rfl hc6 rfl ?_
         refine gl_gF rfl rfl hc6 rfl ?_
         refine gl_gF rfl rfl hc6 rfl ?_
         refine gl_gF rfl rfl hc6 rfl ?_
         refine gl_gF rfl rfl hc6 rfl ?_
         refine gl_v rfl (o_pickT hc6 rfl rfl) ?_
         first | exact jk70 _ (KeepS.top (by repeat (first | exact KeepS.refl _ | refine KeepS.push ?_ rfl)) (jval (by first | rfl | (simp only [hc3, hc4, hc5, hc6, Bool.not_true, Bool.not_false, Bool.false_and, Bool.true_and, Bool.true_or, Bool.false_or]; done) | (simp [hc3, hc4, hc5, hc6, ]; done) | simp_all))) | exact gl_imp (To.sat (by repeat (first | exact .nil | exact .done .refl | (apply To.cons; · (repeat (first | exact .head | apply Sel.tail))) | exact .done (by repeat (first | exact .refl | apply Drop.skip))))) (jk70 _ (KeepS.top (by repeat (first | exact KeepS.refl _ | refine KeepS.push ?_ rfl)) (jval (by first | rfl | (simp only [hc3, hc4, hc5, hc6, Bool.not_true, Bool.not_false, Bool.false_and, Bool.true_and, Bool.true_or, Bool.false_or]; done) | (simp [hc3, hc4, hc5, hc6, ]; done) | simp_all))))
       ·
        have hc5' := hc5
        first | replace hc5' := of_decide_eq_true hc5' | replace hc5' := lt_f hc5' | replace hc5' := le_f hc5' | replace hc5' := dec_f hc5' | replace hc5' := nlt_t hc5' | replace hc5' := nle_t hc5' | replace hc5' := ndec_t hc5' | replace hc5' := ndec_f hc5' | replace hc5' := nn_t hc5' | replace hc5' := nn_f hc5' | skip
        simp only [putO]
        refine gl_gF rfl rfl hc5 rfl ?_
        refine gl_gF rfl rfl hc5 rfl ?_
        refine gl_gF rfl rfl hc5 rfl ?_
        refine gl_gF rfl rfl hc5 rfl ?_
        refine gl_gF rfl rfl hc5 rfl ?_
        refine gl_gF rfl rfl hc5 rfl ?_
        refine gl_v rfl (o_pickT hc5 rfl rfl) ?_
        refine gl_v rfl (o_move rfl) ?_
        refine gl_gF rfl rfl rfl rfl ?_
        refine gl_gF rfl rfl rfl rfl ?_
        refine gl_gF rfl rfl rfl rfl ?_
        refine gl_gF rfl rfl rfl rfl ?_
        refine gl_gF rfl rfl rfl rfl ?_
        refine gl_gF rfl rfl rfl rfl ?_
        refine gl_gF rfl rfl rfl rfl ?_
        refine gl_v rfl (o_pickT rfl rfl rfl) ?_
        first | exact jk70 _ (KeepS.top (by repeat (first | exact KeepS.refl _ | refine KeepS.push ?_ rfl)) (jval (by first | rfl | (simp only [hc3, hc4, hc5, Bool.not_true, Bool.not_false, Bool.false_and, Bool.true_and, Bool.true_or, Bool.false_or]; done) | (simp [hc3, hc4, hc5, ]; done) | simp_all))) | exact gl_imp (To.sat (by repeat (first | exact .nil | exact .done .refl | (apply To.cons; · (repeat (first | exact .head | apply Sel.tail))) | exact .done (by repeat (first | exact .refl | apply Drop.skip))))) (jk70 _ (KeepS.top (by repeat (first | exact KeepS.refl _ | refine KeepS.push ?_ rfl)) (jval (by first | rfl | (simp only [hc3, hc4, hc5, Bool.not_true, Bool.not_false, Bool.false_and, Bool.true_and, Bool.true_or, Bool.false_or]; done) | (simp [hc3, hc4, hc5, ]; done) | simp_all))))
      ·
       have hc4' := hc4
       first | replace hc4' := of_decide_eq_true hc4' | replace hc4' := lt_f hc4' | replace hc4' := le_f hc4' | replace hc4' := dec_f hc4' | replace hc4' := nlt_t hc4' | replace hc4' := nle_t hc4' | replace hc4' := ndec_t hc4' | replace hc4' := ndec_f hc4' | replace hc4' := nn_t hc4' | replace hc4' := nn_f hc4' | skip
       simp only [putO]
       refine gl_gF rfl rfl hc4 rfl ?_
       refine gl_gF rfl rfl hc4 rfl ?_
       refine gl_gF rfl rfl hc4 rfl ?_
       refine gl_gF rfl rfl hc4 rfl ?_
       refine gl_v rfl (o_pickT hc4 rfl rfl) ?_
       refine gl_v rfl (o_move rfl) ?_
       refine gl_gF rfl rfl rfl rfl ?_
       refine gl_gF rfl rfl rfl rfl ?_
       refine gl_gF rfl rfl rfl rfl ?_
       refine gl_gF rfl rfl rfl rfl ?_
       refine gl_gF rfl rfl rfl rfl ?_
       refine gl_gF rfl rfl rfl rfl ?_
       refine gl_gF rfl rfl rfl rfl ?_
       refine gl_v rfl (o_pickT rfl rfl rfl) ?_
       refine gl_v rfl (o_move rfl) ?_
       refine gl_gF rfl rfl rfl rfl ?_
       refine gl_gF rfl rfl rfl rfl ?_
       refine gl_gF rfl rfl rfl rfl ?_
       refine gl_gF rfl rfl rfl rfl ?_
       refine gl_gF rfl rfl rfl rfl ?_
       refine gl_gF rfl rfl rfl rfl ?_
       refine gl_gF rfl rfl rfl rfl ?_
       refine gl_v rfl (o_pickT rfl rfl rfl) ?_
       first | exact jk70 _ (KeepS.top (by repeat (first | exact KeepS.refl _ | refine KeepS.push ?_ rfl)) (jval (by first | rfl | (simp only [hc3, hc4, Bool.not_true, Bool.not_false, Bool.false_and, Bool.true_and, Bool.true_or, Bool.false_or]; done) | (simp [hc3, hc4, ]; done) | simp_all))) | exact gl_imp (To.sat (by repeat (first | exact .nil | exact .done .refl | (apply To.cons; · (repeat (first | exact .head | apply Sel.tail))) | exact .done (by repeat (first | exact .refl | apply Drop.skip))))) (jk70 _ (KeepS.top (by repeat (first | exact KeepS.refl _ | refine KeepS.push ?_ rfl)) (jval (by first | rfl | (simp only [hc3, hc4, Bool.not_true, Bool.not_false, Bool.false_and, Bool.true_and, Bool.true_or, Bool.false_or]; done) | (simp [hc3, hc4, ]; done) | simp_all))))
     ·
      have hc3' := hc3
      first | replace hc3' := of_decide_eq_true hc3' | replace hc3' := lt_f hc3' | replace hc3' := le_f hc3' | replace hc3' := dec_f hc3' | replace hc3' := nlt_t hc3' | replace hc3' := nle_t hc3' | replace hc3' := ndec_t hc3' | replace hc3' := ndec_f hc3' | replace hc3' := nn_t hc3' | replace hc3' := nn_f hc3' | skip
      simp only [putO]
      refine gl_gF rfl rfl hc3 rfl ?_
      refine gl_gF rfl rfl hc3 rfl ?_
      refine gl_gF rfl rfl hc3 rfl ?_
      refine gl_gF rfl rfl hc3 rfl ?_
      refine gl_v rfl (o_pickT hc3 rfl rfl) ?_
      refine gl_v rfl (o_move rfl) ?_
      refine gl_gF rfl rfl rfl rfl ?_
      refine gl_gF rfl rfl rfl rfl ?_
      refine gl_gF rfl rfl rfl rfl ?_
      refine gl_gF rfl rfl rfl rfl ?_
      refine gl_gF rfl rfl rfl rfl ?_
      refine gl_v rfl (o_pickT rfl rfl rfl) ?_
      refine gl_v rfl (o_move rfl) ?_
      refine gl_gF rfl rfl rfl rfl ?_
      refine gl_gF rfl rfl rfl rfl ?_
      refine gl_gF rfl rfl rfl rfl ?_
      refine gl_gF rfl rfl rfl rfl ?_
      refine gl_gF rfl rfl rfl rfl ?_
      refine gl_gF rfl rfl rfl rfl ?_
      refine gl_gF rfl rfl rfl rfl ?_
      refine gl_v rfl (o_pickT rfl rfl rfl) ?_
      refine gl_v rfl (o_move rfl) ?_
      refine gl_gF rfl rfl rfl rfl ?_
      refine gl_gF rfl rfl rfl rfl ?_
      refine gl_gF rfl rfl rfl rfl ?_
      refine gl_gF rfl rfl rfl rfl ?_
      refine gl_gF rfl rfl rfl rfl ?_
      refine gl_gF rfl rfl rfl rfl ?_
      refine gl_gF rfl rfl rfl rfl ?_
      refine gl_v rfl (o_pickT rfl rfl rfl) ?_
      first | exact jk70 _ (KeepS.top (by repeat (first | exact KeepS.refl _ | refine KeepS.push ?_ rfl)) (jval (by first | rfl | (simp only [hc3, Bool.not_true, Bool.not_false, Bool.false_and, Bool.true_and, Bool.true_or, Bool.false_or]; done) | (simp [hc3, ]; done) | simp_all))) | exact gl_imp (To.sat (by repeat (first | exact .nil | exact .done .refl | (apply To.cons; · (repeat (first | exact .head | apply Sel.tail))) | exact .done (by repeat (first | exact .refl | apply Drop.skip))))) (jk70 _ (KeepS.top (by repeat (first | exact KeepS.refl _ | refine KeepS.push ?_ rfl)) (jval (by first | rfl | (simp only [hc3, Bool.not_true, Bool.not_false, Bool.false_and, Bool.true_and, Bool.true_or, Bool.false_or]; done) | (simp [hc3, ]; done) | simp_all))))
    refine gl_nil ?_
    refine ge_then ?_
    refine g_cond rfl (fun hc7 => ?_) (fun hc7 => ?_)
    ·
     first | replace hc7 := of_decide_eq_true hc7 | replace hc7 := lt_f hc7 | replace hc7 := le_f hc7 | replace hc7 := dec_f hc7 | replace hc7 := nlt_t hc7 | replace hc7 := nle_t hc7 | replace hc7 := ndec_t hc7 | replace hc7 := ndec_f hc7 | replace hc7 := nn_t hc7 | replace hc7 := nn_f hc7 | skip
     have hg := kndEq_ne hc7
     refine g_seq ?_
     refine g_region ?_
     refine gl_v rfl (o_assign rfl) ?_
     refine gl_nil ?_
     refine ge_then ?_
     refine g_ret ?_
     refine ge_then_ret ?_
     refine ge_block_ret ?_
     refine ge_then_ret ?_
     refine ge_then_ret ?_
     refine ge_block_ret ?_
     refine ge_then_ret ?_
     refine ret1 (.inl rfl) rfl rfl _ (⟨by rw [← hsj, sameL_drop hkx hky, hg]; rfl, rfl⟩) (To.sat (by repeat (first | exact .nil | exact .done .refl | (apply To.cons; · (repeat (first | exact .head | apply Sel.tail))) | exact .done (by repeat (first | exact .refl | apply Drop.skip)))))
    ·
     first | replace hc7 := of_decide_eq_true hc7 | replace hc7 := lt_f hc7 | replace hc7 := le_f hc7 | replace hc7 := dec_f hc7 | replace hc7 := nlt_t hc7 | replace hc7 := nle_t hc7 | replace hc7 := ndec_t hc7 | replace hc7 := ndec_f hc7 | replace hc7 := nn_t hc7 | replace hc7 := nn_f hc7 | skip
     obtain ⟨hle, hle2, hg⟩ := kndEq_if hc7
     refine g_skip ?_
     refine ge_then ?_
     refine g_seq ?_
     refine g_seq ?_
     refine g_region ?_
     refine gl_v rfl (o_assign rfl) ?_
     refine gl_nil ?_
     refine ge_then ?_
     refine g_block ?_
     refine g_loop (ι := Nat) (fun x_ => x_ ≤ k.cases.length ∧ sameL (fun a b => decide (a = b)) (k.cases.drop x_) (k'.cases.drop x_) = sameL (fun a b => decide (a = b)) k.cases k'.cases) (fun x_ => [(8, I64 x_), (7, ptr b7 0), (6, ptr b6 0), (5, I64 j), (3, ptr b3 0), (2, ptr b2 0)]) (fun _ => cel b6 51 (kndC k) :: cel b7 51 (kndC k') :: cel b2 25 [.slice a1 K1.length c1] :: cel b3 25 [.slice a2 K2.length c2] :: M :: R) (fun x_ => k.cases.length - x_) 0 (⟨Nat.zero_le _, rfl⟩) (Keep.cons rfl (Keep.cons rfl (Keep.cons rfl (Keep.cons rfl (Keep.cons rfl (Keep.cons rfl (Keep.nil))))))) (To.sat (by repeat (first | exact .nil | exact .done .refl | (apply To.cons; · (repeat (first | exact .head | apply Sel.tail))) | exact .done (by repeat (first | exact .refl | apply Drop.skip))))) ?_
     rintro q ⟨hq, hsq⟩
     replace hq : q ≤ k.cases.length := hq
     replace hsq : sameL (fun a b => decide (a = b)) (k.cases.drop q) (k'.cases.drop q) = sameL (fun a b => decide (a = b)) k.cases k'.cases := hsq
     refine g_seq ?_
     refine g_seq ?_
     refine g_region ?_
     refine gl_v rfl (o_move rfl) ?_
     first | refine gl_v rfl (o_fldS rfl) ?_ | refine gl_v rfl (o_fld rfl) ?_
     first | refine gl_v rfl (o_load rfl rfl) ?_ | refine gl_v rfl (o_loadS rfl rfl) ?_ | refine gl_v rfl (o_loadC rfl) ?_
     first | refine gl_v rfl (o_len rfl) ?_ | refine gl_v rfl (o_lenL rfl) ?_
     refine gl_v rfl (o_lss rfl rfl) ?_
     refine gl_nil ?_
     refine ge_then ?_
     refine g_cond rfl (fun hc8 => ?_) (fun hc8 => ?_)
     ·
      first | replace hc8 := of_decide_eq_true hc8 | replace hc8 := lt_f hc8 | replace hc8 := le_f hc8 | replace hc8 := dec_f hc8 | replace hc8 := nlt_t hc8 | replace hc8 := nle_t hc8 | replace hc8 := ndec_t hc8 | replace hc8 := ndec_f hc8 | replace hc8 := nn_t hc8 | replace hc8 := nn_f hc8 | skip
      obtain ⟨e, he⟩ : ∃ t, k.cases[q]? = some t := ⟨_, List.getElem?_eq_getElem (show q < k.cases.length by omega)⟩
      obtain ⟨e', he'⟩ : ∃ t, k'.cases[q]? = some t := ⟨_, List.getElem?_eq_getElem (show q < k'.cases.length by omega)⟩
      refine g_skip ?_
      refine ge_then ?_
      refine g_seq ?_
      refine g_block ?_
      refine g_seq ?_
      refine g_treeM [] [] (.loc 0 (.loc 1 (.loc 2 (.loc 3 (.loc 4 (.loc 5 (.loc 6 (.loc 7 (.loc 8 (.loc 9 (.loc 10 .nil))))))))))) [cel b6 51 (kndC k), cel b7 51 (kndC k'), M] mixed (by kernel_rfl) ?_
      first | refine gt_v rfl .none rfl (o_fldS rfl) ?_ | refine gt_v rfl .none rfl (o_fld rfl) ?_
      first | refine gt_v rfl .none rfl (o_load rfl rfl) ?_ | refine gt_v rfl .none rfl (o_loadS rfl rfl) ?_ | refine gt_v rfl .none rfl (o_loadC rfl) ?_
      refine gt_v rfl .none rfl (o_move rfl) ?_
      refine gt_v rfl .none rfl (o_idxS rfl rfl (show q < k.cases.length by omega)) ?_
      refine gt_v rfl .none rfl (o_loadSA rfl (flat_take casC 2 casC_len he) rfl) ?_
      first | refine gt_v rfl .none rfl (o_fldS rfl) ?_ | refine gt_v rfl .none rfl (o_fld rfl) ?_
      first | refine gt_v rfl .none rfl (o_load rfl rfl) ?_ | refine gt_v rfl .none rfl (o_loadS rfl rfl) ?_ | refine gt_v rfl .none rfl (o_loadC rfl) ?_
      refine gt_v rfl .none rfl (o_move rfl) ?_
      refine gt_v rfl .none rfl (o_idxS rfl rfl (show q < k'.cases.length by omega)) ?_
      refine gt_v rfl .none rfl (o_loadSA rfl (flat_take casC 2 casC_len he') rfl) ?_
      refine gt_v rfl .none rfl (o_is (c := !decide (e = e')) (by rw [flatEq_Cas]) (o_neqA (xs := casC e) (ys := casC e') rfl rfl rfl rfl)) ?_
      refine gt_nil ?_
      refine ge_then ?_
      refine g_cond rfl (fun hc9 => ?_) (fun hc9 => ?_)
      ·
       first | replace hc9 := of_decide_eq_true hc9 | replace hc9 := lt_f hc9 | replace hc9 := le_f hc9 | replace hc9 := dec_f hc9 | replace hc9 := nlt_t hc9 | replace hc9 := nle_t hc9 | replace hc9 := ndec_t hc9 | replace hc9 := ndec_f hc9 | replace hc9 := nn_t hc9 | replace hc9 := nn_f hc9 | skip
       have hc2 : decide (e = e') = false := by simpa using hc9
       refine g_seq ?_
       refine g_region ?_
       refine gl_v rfl (o_assign rfl) ?_
       refine gl_nil ?_
       refine ge_then ?_
       refine g_ret ?_
       refine ge_block_ret ?_
       refine ge_then_ret ?_
       refine ge_then_ret ?_
       refine ge_block_ret ?_
       refine ge_then_ret ?_
       refine ge_block_ret ?_
       refine ge_then_ret ?_
       refine ge_then_ret ?_
       refine ge_block_ret ?_
       refine ge_then_ret ?_
       refine ret1 (.inl rfl) rfl rfl _ (⟨by rw [← hsj, sameL_drop hkx hky, hg, ← hsq, sameL_drop he he', hc2]; rfl, rfl⟩) (To.sat (by repeat (first | exact .nil | exact .done .refl | (apply To.cons; · (repeat (first | exact .head | apply Sel.tail))) | exact .done (by repeat (first | exact .refl | apply Drop.skip)))))
      ·
       first | replace hc9 := of_decide_eq_true hc9 | replace hc9 := lt_f hc9 | replace hc9 := le_f hc9 | replace hc9 := dec_f hc9 | replace hc9 := nlt_t hc9 | replace hc9 := nle_t hc9 | replace hc9 := ndec_t hc9 | replace hc9 := ndec_f hc9 | replace hc9 := nn_t hc9 | replace hc9 := nn_f hc9 | skip
       have hc2 : decide (e = e') = true := by simpa using hc9
       refine g_skip ?_
       refine ge_block ?_
       refine ge_then ?_
       refine g_region ?_
       refine gl_v rfl (o_move rfl) ?_
       refine gl_v rfl (o_addR ((q + 1 : Nat) : Int) (by rw [wr_i64 (by omega)]; omega) rfl rfl) ?_
       refine gl_v rfl (o_assign rfl) ?_
       refine gl_nil ?_
       refine ge_round (q + 1) ⟨show q + 1 ≤ k.cases.length by omega, by rw [← hsq, sameL_drop he he', hc2]; rfl⟩ (by show k.cases.length - (q + 1) < k.cases.length - q; omega) (Keep.cons rfl (Keep.cons rfl (Keep.cons rfl (Keep.cons rfl (Keep.cons rfl (Keep.cons rfl (Keep.nil))))))) (To.sat (by repeat (first | exact .nil | exact .done .refl | (apply To.cons; · (repeat (first | exact .head | apply Sel.tail))) | exact .done (by repeat (first | exact .refl | apply Drop.skip)))))
     ·
      first | replace hc8 := of_decide_eq_true hc8 | replace hc8 := lt_f hc8 | replace hc8 := le_f hc8 | replace hc8 := dec_f hc8 | replace hc8 := nlt_t hc8 | replace hc8 := nle_t hc8 | replace hc8 := ndec_t hc8 | replace hc8 := ndec_f hc8 | replace hc8 := nn_t hc8 | replace hc8 := nn_f hc8 | skip
      obtain rfl : q = k.cases.length := by omega
      rw [List.drop_length, List.drop_eq_nil_of_le (by omega)] at hsq
      have hcc : sameL (fun a b => decide (a = b)) k.cases k'.cases = true := by rw [← hsq]; rfl
      refine g_exit ?_
      refine ge_then_exit ?_
      refine ge_then_exit ?_
      refine ge_block_exit ?_
      refine ge_then ?_
      refine g_seq ?_
      refine g_region ?_
      refine gl_v rfl (o_assign rfl) ?_
      refine gl_nil ?_
      refine ge_then ?_
      refine g_block ?_
      refine g_loop (ι := Nat) (fun x_ => x_ ≤ k.states.length ∧ sameL staEq (k.states.drop x_) (k'.states.drop x_) = sameL staEq k.states k'.states) (fun x_ => [(9, I64 x_), (7, ptr b7 0), (6, ptr b6 0), (5, I64 j), (3, ptr b3 0), (2, ptr b2 0)]) (fun _ => cel b6 51 (kndC k) :: cel b7 51 (kndC k') :: cel b2 25 [.slice a1 K1.length c1] :: cel b3 25 [.slice a2 K2.length c2] :: M :: R) (fun x_ => k.states.length - x_) 0 (⟨Nat.zero_le _, rfl⟩) (Keep.cons rfl (Keep.cons rfl (Keep.cons rfl (Keep.cons rfl (Keep.cons rfl (Keep.cons rfl (Keep.nil))))))) (To.sat (by repeat (first | exact .nil | exact .done .refl | (apply To.cons; · (repeat (first | exact .head | apply Sel.tail))) | exact .done (by repeat (first | exact .refl | apply Drop.skip))))) ?_
      rintro q ⟨hq, hsq⟩
      replace hq : q ≤ k.states.length := hq
      replace hsq : sameL staEq (k.states.drop q) (k'.states.drop q) = sameL staEq k.states k'.states := hsq
      refine g_seq ?_
      refine g_seq ?_
      refine g_region ?_
      refine gl_v rfl (o_move rfl) ?_
      first | refine gl_v rfl (o_fldS rfl) ?_ | refine gl_v rfl (o_fld rfl) ?_
      first | refine gl_v rfl (o_load rfl rfl) ?_ | refine gl_v rfl (o_loadS rfl rfl) ?_ | refine gl_v rfl (o_loadC rfl) ?_
      first | refine gl_v rfl (o_len rfl) ?_ | refine gl_v rfl (o_lenL rfl) ?_
      refine gl_v rfl (o_lss rfl rfl) ?_
      refine gl_nil ?_
      refine ge_then ?_
      refine g_cond rfl (fun hc10 => ?_) (fun hc10 => ?_)
      ·
       first | replace hc10 := of_decide_eq_true hc10 | replace hc10 := lt_f hc10 | replace hc10 := le_f hc10 | replace hc10 := dec_f hc10 | replace hc10 := nlt_t hc10 | replace hc10 := nle_t hc10 | replace hc10 := ndec_t hc10 | replace hc10 := ndec_f hc10 | replace hc10 := nn_t hc10 | replace hc10 := nn_f hc10 | skip
       obtain ⟨s, hs⟩ : ∃ t, k.states[q]? = some t := ⟨_, List.getElem?_eq_getElem (show q < k.states.length by omega)⟩
       obtain ⟨s', hs'⟩ : ∃ t, k'.states[q]? = some t := ⟨_, List.getElem?_eq_getElem (show q < k'.states.length by omega)⟩
       obtain ⟨hn6, hn7⟩ := hn5 s (List.mem_of_getElem? hs)
       refine g_skip ?_
       refine ge_then ?_
       refine g_seq ?_
       refine g_block ?_
       refine g_seq ?_
       refine g_treeM [10] [] (.loc 0 (.loc 1 (.loc 2 (.loc 3 (.loc 4 (.loc 5 (.loc 6 (.loc 7 (.loc 8 (.loc 9 (.eff 10 (.loc 11 .nil) .nil))))))))))) [cel b6 51 (kndC k), cel b7 51 (kndC k'), M] mixed (by kernel_rfl) ?_
       first | refine gt_v rfl .none rfl (o_fldS rfl) ?_ | refine gt_v rfl .none rfl (o_fld rfl) ?_
       first | refine gt_v rfl .none rfl (o_load rfl rfl) ?_ | refine gt_v rfl .none rfl (o_loadS rfl rfl) ?_ | refine gt_v rfl .none rfl (o_loadC rfl) ?_
       refine gt_v rfl .none rfl (o_move rfl) ?_
       refine gt_v rfl .none rfl (o_idxS rfl rfl (show q < k.states.length by omega)) ?_
       refine gt_v rfl .none rfl (o_loadSA rfl (flat_take staC 2 staC_len hs) rfl) ?_
       first | refine gt_v rfl .none rfl (o_fldS rfl) ?_ | refine gt_v rfl .none rfl (o_fld rfl) ?_
       first | refine gt_v rfl .none rfl (o_load rfl rfl) ?_ | refine gt_v rfl .none rfl (o_loadS rfl rfl) ?_ | refine gt_v rfl .none rfl (o_loadC rfl) ?_
       refine gt_v rfl .none rfl (o_move rfl) ?_
       refine gt_v rfl .none rfl (o_idxS rfl rfl (show q < k'.states.length by omega)) ?_
       refine gt_v rfl .none rfl (o_loadSA rfl (flat_take staC 2 staC_len hs') rfl) ?_
       refine gt_c rfl .none rfl (o_call rfl (rsta_spec M s s' (fun h a => ((h1 h a).kinds k (List.mem_of_getElem? hkx)).states s (List.mem_of_getElem? hs)) (fun h a => ((h2 h a).kinds k' (List.mem_of_getElem? hky)).states s' (List.mem_of_getElem? hs')) hn6 hn7) (by repeat (first | exact .nil | (apply Part.cons; · (repeat (first | exact .head | apply Sel.tail)))))) ?_
       rintro _ R ⟨_, ⟨rfl, rfl⟩, rfl⟩
       try simp only [List.cons_append, List.nil_append]
       refine ⟨(fun hG => absurd hG (by decide)), ?_⟩
       refine gt_v rfl .none rfl (o_not rfl) ?_
       refine gt_nil ?_
       refine ge_then ?_
       refine g_cond rfl (fun hc11 => ?_) (fun hc11 => ?_)
       ·
        first | replace hc11 := of_decide_eq_true hc11 | replace hc11 := lt_f hc11 | replace hc11 := le_f hc11 | replace hc11 := dec_f hc11 | replace hc11 := nlt_t hc11 | replace hc11 := nle_t hc11 | replace hc11 := ndec_t hc11 | replace hc11 := ndec_f hc11 | replace hc11 := nn_t hc11 | replace hc11 := nn_f hc11 | skip
        have hc2 : staEq s s' = false := by simpa using hc11
        refine g_seq ?_
        refine g_region ?_
        refine gl_v rfl (o_assign rfl) ?_
        refine gl_nil ?_
        refine ge_then ?_
        refine g_ret ?_
        refine ge_block_ret ?_
        refine ge_then_ret ?_
        refine ge_then_ret ?_
        refine ge_block_ret ?_
        refine ge_block_ret ?_
        refine ge_then_ret ?_
        refine ge_then_ret ?_
        refine ge_block_ret ?_
        refine ge_then_ret ?_
        refine ret1 (.inl rfl) rfl rfl _ (⟨by rw [← hsj, sameL_drop hkx hky, hg, hcc, ← hsq, sameL_drop hs hs', hc2]; rfl, rfl⟩) (To.sat (by repeat (first | exact .nil | exact .done .refl | (apply To.cons; · (repeat (first | exact .head | apply Sel.tail))) | exact .done (by repeat (first | exact .refl | apply Drop.skip)))))
       ·
        first | replace hc11 := of_decide_eq_true hc11 | replace hc11 := lt_f hc11 | replace hc11 := le_f hc11 | replace hc11 := dec_f hc11 | replace hc11 := nlt_t hc11 | replace hc11 := nle_t hc11 | replace hc11 := ndec_t hc11 | replace hc11 := ndec_f hc11 | replace hc11 := nn_t hc11 | replace hc11 := nn_f hc11 | skip
        have hc2 : staEq s s' = true := by simpa using hc11
        refine g_skip ?_
        refine ge_block ?_
        refine ge_then ?_
        refine g_region ?_
        refine gl_v rfl (o_move rfl) ?_
        refine gl_v rfl (o_addR ((q + 1 : Nat) : Int) (by rw [wr_i64 (by omega)]; omega) rfl rfl) ?_
        refine gl_v rfl (o_assign rfl) ?_
        refine gl_nil ?_
        refine ge_round (q + 1) ⟨show q + 1 ≤ k.states.length by omega, by rw [← hsq, sameL_drop hs hs', hc2]; rfl⟩ (by show k.states.length - (q + 1) < k.states.length - q; omega) (Keep.cons rfl (Keep.cons rfl (Keep.cons rfl (Keep.cons rfl (Keep.cons rfl (Keep.cons rfl (Keep.nil))))))) (To.sat (by repeat (first | exact .nil | exact .done .refl | (apply To.cons; · (repeat (first | exact .head | apply Sel.tail))) | exact .done (by repeat (first | exact .refl | apply Drop.skip)))))
      ·
       first | replace hc10 := of_decide_eq_true hc10 | replace hc10 := lt_f hc10 | replace hc10 := le_f hc10 | replace hc10 := dec_f hc10 | replace hc10 := nlt_t hc10 | replace hc10 := nle_t hc10 | replace hc10 := ndec_t hc10 | replace hc10 := ndec_f hc10 | replace hc10 := nn_t hc10 | replace hc10 := nn_f hc10 | skip
       obtain rfl : q = k.states.length := by omega
       rw [List.drop_length, List.drop_eq_nil_of_le (by omega)] at hsq
       have hrw : kndEq k k' = true := by rw [hg, hcc, ← hsq]; rfl
       refine g_exit ?_
       refine ge_then_exit ?_
       refine ge_then_exit ?_
       refine ge_block_exit ?_
       refine ge_block ?_
       refine ge_then ?_
       refine g_region ?_
       refine gl_v rfl (o_move rfl) ?_
       refine gl_v rfl (o_addR ((j + 1 : Nat) : Int) (by rw [wr_i64 (by omega)]; omega) rfl rfl) ?_
       refine gl_v rfl (o_assign rfl) ?_
       refine gl_nil ?_
       refine ge_round (j + 1) ⟨show j + 1 ≤ K1.length by omega, by rw [← hsj, sameL_drop hkx hky, hrw]; rfl⟩ (by show K1.length - (j + 1) < K1.length - j; omega) (Keep.cons rfl (Keep.cons rfl (Keep.cons rfl (Keep.nil)))) (To.sat (by repeat (first | exact .nil | exact .done .refl | (apply To.cons; · (repeat (first | exact .head | apply Sel.tail))) | exact .done (by repeat (first | exact .refl | apply Drop.skip)))))
  ·
   first | replace hc2 := of_decide_eq_true hc2 | replace hc2 := lt_f hc2 | replace hc2 := le_f hc2 | replace hc2 := dec_f hc2 | replace hc2 := nlt_t hc2 | replace hc2 := nle_t hc2 | replace hc2 := ndec_t hc2 | replace hc2 := ndec_f hc2 | replace hc2 := nn_t hc2 | replace hc2 := nn_f hc2 | skip
   obtain rfl : j = K1.length := by omega
   rw [List.drop_length, List.drop_eq_nil_of_le (by omega)] at hsj
   refine g_exit ?_
   refine ge_then_exit ?_
   refine ge_then_exit ?_
   refine ge_block_exit ?_
   refine ge_then ?_
   refine g_seq ?_
   refine g_region ?_
   refine gl_v rfl (o_assign rfl) ?_
   refine gl_nil ?_
   refine ge_then ?_
   refine g_ret ?_
   refine ret1 (.inl rfl) rfl rfl _ (⟨by rw [← hsj]; rfl, rfl⟩) (To.sat (by repeat (first | exact .nil | exact .done .refl | (apply To.cons; · (repeat (first | exact .head | apply Sel.tail))) | exact .done (by repeat (first | exact .refl | apply Drop.skip)))))

end Go.Proofs.YtgkjnilckmminaaGreatDoor.L
