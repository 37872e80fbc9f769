/-
  The document's ring: accesses and steps; operations begun and looked at. Own work, printed in part by a program of its own.
-/
import Derived.Test.YtmohikdmdmplaaaGreatRingNf
set_option linter.unusedSimpArgs false
set_option linter.unusedVariables false
set_option linter.unusedSectionVars false
namespace Go.Proofs.YtmohikdmdmplaaaGreat.L
open Go.L Go.L.Ring
theorem acc_1 {w : Wt} {L : List Int} {i : Nat} (h : w.what = 1) (hc : w.cell = i) : accX w L = L.getD i 0 ∧ accL w L = L := by
  unfold accX accL; rw [h, hc, Int.toNat_natCast]; exact ⟨if_pos rfl, (if_neg (show ¬ (1 : Int) = 2 by decide)).trans (if_neg (show ¬ (1 : Int) = 3 by decide))⟩
theorem acc_2 {w : Wt} {L : List Int} {i : Nat} (h : w.what = 2) (hc : w.cell = i) : accX w L = 0 ∧ accL w L = L.set i w.a := by
  unfold accX accL; rw [h, hc, Int.toNat_natCast]; exact ⟨(if_neg (show ¬ (2 : Int) = 1 by decide)).trans (if_neg (show ¬ (2 : Int) = 3 by decide)), if_pos rfl⟩
theorem acc_3 {w : Wt} {L : List Int} {i : Nat} (h : w.what = 3) (hc : w.cell = i) : accX w L = (if L.getD i 0 = w.a then 1 else 0) ∧ accL w L = if L.getD i 0 = w.a then L.set i w.b else L := by
  unfold accX accL; rw [h, hc, Int.toNat_natCast]; exact ⟨(if_neg (show ¬ (3 : Int) = 1 by decide)).trans (if_pos rfl), (if_neg (show ¬ (3 : Int) = 2 by decide)).trans (if_pos rfl)⟩
theorem rep_set (N i : Nat) : (List.replicate N (0 : Int)).set i 0 = List.replicate N 0 := by
  apply List.ext_getElem
  · simp
  · intro j h1 h2; rw [List.getElem_set]; simp
theorem rep_setU (N i : Nat) : ((List.replicate N (0 : Int)).map U64).set (i * 1) (U64 0) = (List.replicate N 0).map U64 := by rw [map_set1, rep_set]
theorem map_len0 (N : Nat) : (List.replicate N (0 : Int)).length = N := List.length_replicate

set_option maxRecDepth 8000 in
theorem rLoad_spec (p : Nat) (L : List Int) (t : Int) (i : Nat) (hi : i < L.length) : FnS Tryz.prog 56 [ptr p 0, I64 i] [rmemA p L t] (fun u Bs => u = U64 (L.getD i 0) ∧ Bs = [rmemA p L (tup t)]) := by
 refine fn_body Tryz.func56 rfl rfl rfl ?_
 intro W0 R
 simp only [List.zipIdx_cons, List.zipIdx_nil, List.map_cons, List.map_nil, Nat.zero_add, Nat.reduceAdd, List.cons_append, List.nil_append]
 refine g_open (by repeat (first | exact .head | apply Sel.tail)) ?_
 rintro ⟨a, c⟩ -
 simp only [List.cons_append, List.nil_append]
 refine g_seq ?_
 refine g_region ?_
 refine gl_v rfl (o_assign rfl) ?_
 refine gl_nil ?_
 refine ge_then ?_
 refine g_seq ?_
 refine g_region ?_
 refine gl_v rfl (o_move rfl) ?_
 refine gl_v rfl (o_nil rfl) ?_
 first | refine gl_v rfl (o_fldS rfl) ?_ | refine gl_v rfl (o_fld rfl) ?_
 first | refine gl_v rfl (o_load rfl rfl) ?_ | refine gl_v rfl (o_loadS rfl rfl) ?_ | refine gl_v rfl (o_loadC rfl) ?_
 refine gl_v rfl (o_add rfl rfl) ?_
 refine gl_v rfl (o_nil rfl) ?_
 first | refine gl_v rfl (o_fldS rfl) ?_ | refine gl_v rfl (o_fld rfl) ?_
 first | refine gl_u (o_store rfl rfl rfl rfl) ?_ | refine gl_u (o_storeS rfl rfl rfl (by first | assumption | omega | simp)) ?_
 refine gl_nil ?_
 refine ge_then ?_
 refine g_seq ?_
 refine g_region ?_
 refine gl_v rfl (o_move rfl) ?_
 refine gl_v rfl (o_nil rfl) ?_
 first | refine gl_v rfl (o_fldS rfl) ?_ | refine gl_v rfl (o_fld rfl) ?_
 first | refine gl_v rfl (o_load rfl rfl) ?_ | refine gl_v rfl (o_loadS rfl rfl) ?_ | refine gl_v rfl (o_loadC rfl) ?_
 refine gl_v rfl (o_move rfl) ?_
 refine gl_v rfl (o_idxS rfl rfl (by first | assumption | omega)) ?_
 refine gl_v rfl (o_loadS rfl (map_at (d := 0) hi)) ?_
 refine gl_v rfl (o_assign rfl) ?_
 refine gl_nil ?_
 refine ge_then ?_
 refine g_ret ?_
 refine ret1 (.inl rfl) rfl rfl [rmemA p L (tup t)] (⟨rfl, rfl⟩) (rmem_close a c rfl rfl (To.sat (by repeat (first | exact .nil | exact .done .refl | (apply To.cons; · (repeat (first | exact .head | apply Sel.tail))) | exact .done (by repeat (first | exact .refl | apply Drop.skip))))))

set_option maxRecDepth 8000 in
theorem rStore_spec (p : Nat) (L : List Int) (t : Int) (i : Nat) (hi : i < L.length) (v : Int) : FnS Tryz.prog 57 [ptr p 0, I64 i, U64 v] [rmemA p L t] (fun u Bs => u = .tuple #[] ∧ Bs = [rmemA p (L.set i v) (tup t)]) := by
 refine fn_body Tryz.func57 rfl rfl rfl ?_
 intro W0 R
 simp only [List.zipIdx_cons, List.zipIdx_nil, List.map_cons, List.map_nil, Nat.zero_add, Nat.reduceAdd, List.cons_append, List.nil_append]
 refine g_open (by repeat (first | exact .head | apply Sel.tail)) ?_
 rintro ⟨a, c⟩ -
 simp only [List.cons_append, List.nil_append]
 refine g_seq ?_
 refine g_region ?_
 refine gl_v rfl (o_move rfl) ?_
 refine gl_v rfl (o_nil rfl) ?_
 first | refine gl_v rfl (o_fldS rfl) ?_ | refine gl_v rfl (o_fld rfl) ?_
 first | refine gl_v rfl (o_load rfl rfl) ?_ | refine gl_v rfl (o_loadS rfl rfl) ?_ | refine gl_v rfl (o_loadC rfl) ?_
 refine gl_v rfl (o_add rfl rfl) ?_
 refine gl_v rfl (o_nil rfl) ?_
 first | refine gl_v rfl (o_fldS rfl) ?_ | refine gl_v rfl (o_fld rfl) ?_
 first | refine gl_u (o_store rfl rfl rfl rfl) ?_ | refine gl_u (o_storeS rfl rfl rfl (by first | assumption | omega | simp)) ?_
 refine gl_nil ?_
 refine ge_then ?_
 refine g_region ?_
 refine gl_v rfl (o_move rfl) ?_
 refine gl_v rfl (o_nil rfl) ?_
 first | refine gl_v rfl (o_fldS rfl) ?_ | refine gl_v rfl (o_fld rfl) ?_
 first | refine gl_v rfl (o_load rfl rfl) ?_ | refine gl_v rfl (o_loadS rfl rfl) ?_ | refine gl_v rfl (o_loadC rfl) ?_
 refine gl_v rfl (o_move rfl) ?_
 refine gl_v rfl (o_move rfl) ?_
 refine gl_v rfl (o_idxS rfl rfl (by first | assumption | omega)) ?_
 refine gl_u (o_storeS rfl rfl rfl (by simp; omega)) ?_
 rw [map_set1]
 refine gl_nil ?_
 refine ret0 (.inr rfl) rfl [rmemA p (L.set i v) (tup t)] (⟨rfl, rfl⟩) (rmem_close a c rfl rfl (by simp only [List.length_set]; exact (To.sat (by repeat (first | exact .nil | exact .done .refl | (apply To.cons; · (repeat (first | exact .head | apply Sel.tail))) | exact .done (by repeat (first | exact .refl | apply Drop.skip)))))))

set_option maxRecDepth 8000 in
theorem rSwap_spec (p : Nat) (L : List Int) (t : Int) (i : Nat) (hi : i < L.length) (x v : Int) : FnS Tryz.prog 95 [ptr p 0, I64 i, U64 x, U64 v] [rmemA p L t] (fun u Bs => u = .bool (decide (L.getD i 0 = x)) ∧ Bs = [rmemA p (if L.getD i 0 = x then L.set i v else L) (tup t)]) := by
 refine fn_body Tryz.func95 rfl rfl rfl ?_
 intro W0 R
 simp only [List.zipIdx_cons, List.zipIdx_nil, List.map_cons, List.map_nil, Nat.zero_add, Nat.reduceAdd, List.cons_append, List.nil_append]
 refine g_open (by repeat (first | exact .head | apply Sel.tail)) ?_
 rintro ⟨a, c⟩ -
 simp only [List.cons_append, List.nil_append]
 refine g_seq ?_
 refine g_region ?_
 refine gl_v rfl (o_assign rfl) ?_
 refine gl_nil ?_
 refine ge_then ?_
 refine g_seq ?_
 refine g_region ?_
 refine gl_v rfl (o_move rfl) ?_
 refine gl_v rfl (o_nil rfl) ?_
 first | refine gl_v rfl (o_fldS rfl) ?_ | refine gl_v rfl (o_fld rfl) ?_
 first | refine gl_v rfl (o_load rfl rfl) ?_ | refine gl_v rfl (o_loadS rfl rfl) ?_ | refine gl_v rfl (o_loadC rfl) ?_
 refine gl_v rfl (o_add rfl rfl) ?_
 refine gl_v rfl (o_nil rfl) ?_
 first | refine gl_v rfl (o_fldS rfl) ?_ | refine gl_v rfl (o_fld rfl) ?_
 first | refine gl_u (o_store rfl rfl rfl rfl) ?_ | refine gl_u (o_storeS rfl rfl rfl (by first | assumption | omega | simp)) ?_
 refine gl_nil ?_
 refine ge_then ?_
 refine g_seq ?_
 refine g_seq ?_
 refine g_region ?_
 refine gl_v rfl (o_move rfl) ?_
 refine gl_v rfl (o_nil rfl) ?_
 first | refine gl_v rfl (o_fldS rfl) ?_ | refine gl_v rfl (o_fld rfl) ?_
 first | refine gl_v rfl (o_load rfl rfl) ?_ | refine gl_v rfl (o_loadS rfl rfl) ?_ | refine gl_v rfl (o_loadC rfl) ?_
 refine gl_v rfl (o_move rfl) ?_
 refine gl_v rfl (o_idxS rfl rfl (by first | assumption | omega)) ?_
 refine gl_v rfl (o_loadS rfl (map_at (d := 0) hi)) ?_
 refine gl_v rfl (o_move rfl) ?_
 refine gl_v rfl (o_eql rfl rfl) ?_
 refine gl_nil ?_
 refine ge_then ?_
 refine g_cond rfl (fun hc1 => ?_) (fun hc1 => ?_)
 ·
  first | replace hc1 := of_decide_eq_true hc1 | replace hc1 := lt_f hc1 | replace hc1 := le_f hc1 | replace hc1 := dec_f hc1 | replace hc1 := nlt_t hc1 | replace hc1 := nle_t hc1 | replace hc1 := ndec_t hc1 | replace hc1 := ndec_f hc1 | replace hc1 := nn_t hc1 | replace hc1 := nn_f hc1 | skip
  refine g_seq ?_
  refine g_region ?_
  refine gl_v rfl (o_move rfl) ?_
  refine gl_v rfl (o_nil rfl) ?_
  first | refine gl_v rfl (o_fldS rfl) ?_ | refine gl_v rfl (o_fld rfl) ?_
  first | refine gl_v rfl (o_load rfl rfl) ?_ | refine gl_v rfl (o_loadS rfl rfl) ?_ | refine gl_v rfl (o_loadC rfl) ?_
  refine gl_v rfl (o_move rfl) ?_
  refine gl_v rfl (o_move rfl) ?_
  refine gl_v rfl (o_idxS rfl rfl (by first | assumption | omega)) ?_
  refine gl_u (o_storeS rfl rfl rfl (by simp; omega)) ?_
  rw [map_set1]
  refine gl_nil ?_
  refine ge_then ?_
  refine g_seq ?_
  refine g_region ?_
  refine gl_v rfl (o_assign rfl) ?_
  refine gl_nil ?_
  refine ge_then ?_
  refine g_ret ?_
  refine ge_then_ret ?_
  refine ret1 (.inl rfl) rfl rfl [rmemA p (if L.getD i 0 = x then L.set i v else L) (tup t)] (⟨by rw [decide_eq_true hc1], rfl⟩) (rmem_close a c (if_pos hc1) rfl (by simp only [List.length_set]; exact (To.sat (by repeat (first | exact .nil | exact .done .refl | (apply To.cons; · (repeat (first | exact .head | apply Sel.tail))) | exact .done (by repeat (first | exact .refl | apply Drop.skip)))))))
 ·
  first | replace hc1 := of_decide_eq_true hc1 | replace hc1 := lt_f hc1 | replace hc1 := le_f hc1 | replace hc1 := dec_f hc1 | replace hc1 := nlt_t hc1 | replace hc1 := nle_t hc1 | replace hc1 := ndec_t hc1 | replace hc1 := ndec_f hc1 | replace hc1 := nn_t hc1 | replace hc1 := nn_f hc1 | skip
  refine g_skip ?_
  refine ge_then ?_
  refine g_seq ?_
  refine g_region ?_
  refine gl_v rfl (o_assign rfl) ?_
  refine gl_nil ?_
  refine ge_then ?_
  refine g_ret ?_
  refine ret1 (.inl rfl) rfl rfl [rmemA p (if L.getD i 0 = x then L.set i v else L) (tup t)] (⟨by rw [decide_eq_false hc1], rfl⟩) (rmem_close a c (if_neg hc1) rfl (To.sat (by repeat (first | exact .nil | exact .done .refl | (apply To.cons; · (repeat (first | exact .head | apply Sel.tail))) | exact .done (by repeat (first | exact .refl | apply Drop.skip))))))

set_option maxRecDepth 8000 in
theorem rDo_spec (p b n : Nat) (L : List Int) (t : Int) (w : Wt) (hw : WOk b n w) (hL : b + 2 + 2 * n ≤ L.length) : FnS Tryz.prog 75 [ptr p 0, .agg w.cells.toArray] [rmemA p L t]
      (fun u Bs => u = U64 (accX w L) ∧ Bs = [rmemA p (accL w L) (tup t)]) := by
 refine fn_body Tryz.func75 rfl rfl rfl ?_
 intro W0 R
 simp only [List.zipIdx_cons, List.zipIdx_nil, List.map_cons, List.map_nil, Nat.zero_add, Nat.reduceAdd, List.cons_append, List.nil_append]
 obtain ⟨⟨i, hc, hi⟩, hwh, ha, hb'⟩ := hw
 have hi2 : i < L.length := by omega
 obtain ⟨ov, what, cell, wa, wb, ou, va, ti⟩ := w
 dsimp only at hc hwh ha hb'
 subst hc
 have hc : (⟨ov, what, i, wa, wb, ou, va, ti⟩ : Wt).cell = (i : Nat) := rfl
 generalize hWd : (⟨ov, what, i, wa, wb, ou, va, ti⟩ : Wt) = wd at hc ⊢
 have hcs : wd.cells = [.bool ov, I64 what, I64 i, U64 wa, U64 wb, I64 ou, U64 va, U64 ti] := by rw [← hWd]; rfl
 have hwa : wd.a = wa := by rw [← hWd]
 have hwb : wd.b = wb := by rw [← hWd]
 have hww : wd.what = what := by rw [← hWd]
 rw [hcs]
 refine g_seq ?_
 refine g_region ?_
 refine gl_n rfl (o_boxA rfl) ?_
 rintro _ _ ⟨b3, rfl, rfl⟩
 refine gl_v rfl (o_assign rfl) ?_
 refine gl_nil ?_
 refine ge_then ?_
 refine g_seq ?_
 refine g_seq ?_
 refine g_region ?_
 first | refine gl_v rfl (o_fldS rfl) ?_ | refine gl_v rfl (o_fld rfl) ?_
 first | refine gl_v rfl (o_load rfl rfl) ?_ | refine gl_v rfl (o_loadS rfl rfl) ?_ | refine gl_v rfl (o_loadC rfl) ?_
 refine gl_nil ?_
 refine ge_then ?_
 refine g_block ?_
 refine g_seq ?_
 refine g_region ?_
 refine gl_v rfl (o_eql rfl rfl) ?_
 refine gl_v rfl (o_assign rfl) ?_
 refine gl_nil ?_
 refine ge_then ?_
 refine g_cond rfl (fun hc1 => ?_) (fun hc1 => ?_)
 ·
  first | replace hc1 := of_decide_eq_true hc1 | replace hc1 := lt_f hc1 | replace hc1 := le_f hc1 | replace hc1 := dec_f hc1 | replace hc1 := nlt_t hc1 | replace hc1 := nle_t hc1 | replace hc1 := ndec_t hc1 | replace hc1 := ndec_f hc1 | replace hc1 := nn_t hc1 | replace hc1 := nn_f hc1 | skip
  have hwh : wd.what = 1 := by rw [hww]; exact hc1
  refine g_seq ?_
  refine g_region ?_
  refine gl_v rfl (o_move rfl) ?_
  first | refine gl_v rfl (o_fldS rfl) ?_ | refine gl_v rfl (o_fld rfl) ?_
  first | refine gl_v rfl (o_load rfl rfl) ?_ | refine gl_v rfl (o_loadS rfl rfl) ?_ | refine gl_v rfl (o_loadC rfl) ?_
  refine gl_c rfl (o_call rfl (rLoad_spec p L t i hi2) (by repeat (first | exact .nil | (apply Part.cons; · (repeat (first | exact .head | apply Sel.tail)))))) ?_
  rintro _ R ⟨_, ⟨rfl, rfl⟩, rfl⟩
  try simp only [List.cons_append, List.nil_append]
  refine gl_v rfl (o_assign rfl) ?_
  refine gl_nil ?_
  refine ge_then ?_
  refine g_ret ?_
  refine ge_block_ret ?_
  refine ge_then_ret ?_
  rw [(acc_1 hwh hc).1, (acc_1 hwh hc).2]
  exact ret1 (.inl rfl) rfl rfl  _ ⟨rfl, rfl⟩ (To.sat (by repeat (first | exact .nil | exact .done .refl | (apply To.cons; · (repeat (first | exact .head | apply Sel.tail))) | exact .done (by repeat (first | exact .refl | apply Drop.skip)))))
 ·
  first | replace hc1 := of_decide_eq_true hc1 | replace hc1 := lt_f hc1 | replace hc1 := le_f hc1 | replace hc1 := dec_f hc1 | replace hc1 := nlt_t hc1 | replace hc1 := nle_t hc1 | replace hc1 := ndec_t hc1 | replace hc1 := ndec_f hc1 | replace hc1 := nn_t hc1 | replace hc1 := nn_f hc1 | skip
  refine g_seq ?_
  refine g_region ?_
  refine gl_v rfl (o_eql rfl rfl) ?_
  refine gl_v rfl (o_assign rfl) ?_
  refine gl_nil ?_
  refine ge_then ?_
  refine g_cond rfl (fun hc2 => ?_) (fun hc2 => ?_)
  ·
   first | replace hc2 := of_decide_eq_true hc2 | replace hc2 := lt_f hc2 | replace hc2 := le_f hc2 | replace hc2 := dec_f hc2 | replace hc2 := nlt_t hc2 | replace hc2 := nle_t hc2 | replace hc2 := ndec_t hc2 | replace hc2 := ndec_f hc2 | replace hc2 := nn_t hc2 | replace hc2 := nn_f hc2 | skip
   have hwh : wd.what = 2 := by rw [hww]; exact hc2
   refine g_region ?_
   refine gl_v rfl (o_move rfl) ?_
   first | refine gl_v rfl (o_fldS rfl) ?_ | refine gl_v rfl (o_fld rfl) ?_
   first | refine gl_v rfl (o_load rfl rfl) ?_ | refine gl_v rfl (o_loadS rfl rfl) ?_ | refine gl_v rfl (o_loadC rfl) ?_
   first | refine gl_v rfl (o_fldS rfl) ?_ | refine gl_v rfl (o_fld rfl) ?_
   first | refine gl_v rfl (o_load rfl rfl) ?_ | refine gl_v rfl (o_loadS rfl rfl) ?_ | refine gl_v rfl (o_loadC rfl) ?_
   refine gl_c rfl (o_call rfl (rStore_spec p L t i hi2 wa) (by repeat (first | exact .nil | (apply Part.cons; · (repeat (first | exact .head | apply Sel.tail)))))) ?_
   rintro _ R ⟨_, ⟨rfl, rfl⟩, rfl⟩
   try simp only [List.cons_append, List.nil_append]
   refine gl_nil ?_
   refine ge_block ?_
   refine ge_then ?_
   refine g_seq ?_
   refine g_region ?_
   refine gl_v rfl (o_assign rfl) ?_
   refine gl_nil ?_
   refine ge_then ?_
   refine g_ret ?_
   rw [(acc_2 hwh hc).1, (acc_2 hwh hc).2, hwa]
   exact ret1 (.inl rfl) rfl rfl  _ ⟨rfl, rfl⟩ (To.sat (by repeat (first | exact .nil | exact .done .refl | (apply To.cons; · (repeat (first | exact .head | apply Sel.tail))) | exact .done (by repeat (first | exact .refl | apply Drop.skip)))))
  ·
   first | replace hc2 := of_decide_eq_true hc2 | replace hc2 := lt_f hc2 | replace hc2 := le_f hc2 | replace hc2 := dec_f hc2 | replace hc2 := nlt_t hc2 | replace hc2 := nle_t hc2 | replace hc2 := ndec_t hc2 | replace hc2 := ndec_f hc2 | replace hc2 := nn_t hc2 | replace hc2 := nn_f hc2 | skip
   refine g_seq ?_
   refine g_region ?_
   refine gl_v rfl (o_eql rfl rfl) ?_
   refine gl_v rfl (o_assign rfl) ?_
   refine gl_nil ?_
   refine ge_then ?_
   refine g_cond rfl (fun hc3 => ?_) (fun hc3 => ?_)
   ·
    first | replace hc3 := of_decide_eq_true hc3 | replace hc3 := lt_f hc3 | replace hc3 := le_f hc3 | replace hc3 := dec_f hc3 | replace hc3 := nlt_t hc3 | replace hc3 := nle_t hc3 | replace hc3 := ndec_t hc3 | replace hc3 := ndec_f hc3 | replace hc3 := nn_t hc3 | replace hc3 := nn_f hc3 | skip
    have hwh : wd.what = 3 := by rw [hww]; exact hc3
    refine g_seq ?_
    refine g_region ?_
    refine gl_v rfl (o_move rfl) ?_
    first | refine gl_v rfl (o_fldS rfl) ?_ | refine gl_v rfl (o_fld rfl) ?_
    first | refine gl_v rfl (o_load rfl rfl) ?_ | refine gl_v rfl (o_loadS rfl rfl) ?_ | refine gl_v rfl (o_loadC rfl) ?_
    first | refine gl_v rfl (o_fldS rfl) ?_ | refine gl_v rfl (o_fld rfl) ?_
    first | refine gl_v rfl (o_load rfl rfl) ?_ | refine gl_v rfl (o_loadS rfl rfl) ?_ | refine gl_v rfl (o_loadC rfl) ?_
    first | refine gl_v rfl (o_fldS rfl) ?_ | refine gl_v rfl (o_fld rfl) ?_
    first | refine gl_v rfl (o_load rfl rfl) ?_ | refine gl_v rfl (o_loadS rfl rfl) ?_ | refine gl_v rfl (o_loadC rfl) ?_
    refine gl_c rfl (o_call rfl (rSwap_spec p L t i hi2 wa wb) (by repeat (first | exact .nil | (apply Part.cons; · (repeat (first | exact .head | apply Sel.tail)))))) ?_
    rintro _ R ⟨_, ⟨rfl, rfl⟩, rfl⟩
    try simp only [List.cons_append, List.nil_append]
    refine gl_nil ?_
    refine ge_then ?_
    refine g_cond rfl (fun hc4 => ?_) (fun hc4 => ?_)
    ·
     first | replace hc4 := of_decide_eq_true hc4 | replace hc4 := lt_f hc4 | replace hc4 := le_f hc4 | replace hc4 := dec_f hc4 | replace hc4 := nlt_t hc4 | replace hc4 := nle_t hc4 | replace hc4 := ndec_t hc4 | replace hc4 := ndec_f hc4 | replace hc4 := nn_t hc4 | replace hc4 := nn_f hc4 | skip
     refine g_seq ?_
     refine g_region ?_
     refine gl_v rfl (o_assign rfl) ?_
     refine gl_nil ?_
     refine ge_then ?_
     refine g_ret ?_
     refine ge_block_ret ?_
     refine ge_then_ret ?_
     rw [(acc_3 hwh hc).1, (acc_3 hwh hc).2, hwa, hwb, if_pos hc4, if_pos hc4]
     exact ret1 (.inl rfl) rfl rfl  _ ⟨rfl, rfl⟩ (To.sat (by repeat (first | exact .nil | exact .done .refl | (apply To.cons; · (repeat (first | exact .head | apply Sel.tail))) | exact .done (by repeat (first | exact .refl | apply Drop.skip)))))
    ·
     first | replace hc4 := of_decide_eq_true hc4 | replace hc4 := lt_f hc4 | replace hc4 := le_f hc4 | replace hc4 := dec_f hc4 | replace hc4 := nlt_t hc4 | replace hc4 := nle_t hc4 | replace hc4 := ndec_t hc4 | replace hc4 := ndec_f hc4 | replace hc4 := nn_t hc4 | replace hc4 := nn_f hc4 | skip
     refine g_skip ?_
     refine ge_block ?_
     refine ge_then ?_
     refine g_seq ?_
     refine g_region ?_
     refine gl_v rfl (o_assign rfl) ?_
     refine gl_nil ?_
     refine ge_then ?_
     refine g_ret ?_
     rw [(acc_3 hwh hc).1, (acc_3 hwh hc).2, hwa, hwb, if_neg hc4, if_neg hc4]
     exact ret1 (.inl rfl) rfl rfl  _ ⟨rfl, rfl⟩ (To.sat (by repeat (first | exact .nil | exact .done .refl | (apply To.cons; · (repeat (first | exact .head | apply Sel.tail))) | exact .done (by repeat (first | exact .refl | apply Drop.skip)))))
   ·
    first | replace hc3 := of_decide_eq_true hc3 | replace hc3 := lt_f hc3 | replace hc3 := le_f hc3 | replace hc3 := dec_f hc3 | replace hc3 := nlt_t hc3 | replace hc3 := nle_t hc3 | replace hc3 := ndec_t hc3 | replace hc3 := ndec_f hc3 | replace hc3 := nn_t hc3 | replace hc3 := nn_f hc3 | skip
    omega

set_option maxRecDepth 8000 in
theorem rstep_over (p b n : Nat) (hn : 1 ≤ n) (hn2 : n ≤ 64) (hb : b ≤ 65536) (kind v : Int) (hk : 1 ≤ kind ∧ kind ≤ 5) (hv : 0 ≤ v ∧ v ≤ 18446744073709551615) (a : Option Addr) (c : Nat) (l : List Int) (hl : ∀ x ∈ l, 0 ≤ x ∧ x ≤ 18446744073709551615) (hm : l.length ≤ 100000) (A : Assn) [RdA (.slice a l.length c) A l.length (l.map U64)] (L : List Int) (t : Int) (hL : b + 2 + 2 * n ≤ L.length) (hov : (nextN b n kind v l).over = true) : FnS Tryz.prog 59 [ptr p 0, atV b n, opV' kind v (.slice a l.length c)] [rmemA p L t, A]
      (fun u Bs => u = opV' kind v (.slice a l.length c) ∧ Bs = [rmemA p L t, A]) := by
 refine fn_body Tryz.func59 rfl rfl rfl ?_
 intro W0 R
 simp only [List.zipIdx_cons, List.zipIdx_nil, List.map_cons, List.map_nil, Nat.zero_add, Nat.reduceAdd, List.cons_append, List.nil_append]
 refine g_seq ?_
 refine g_region ?_
 refine gl_n rfl (o_boxA rfl) ?_
 rintro _ _ ⟨b4, rfl, rfl⟩
 refine gl_n rfl (o_boxA rfl) ?_
 rintro _ _ ⟨b5, rfl, rfl⟩
 refine gl_n rfl (o_alloc) ?_
 rintro _ _ ⟨b6, rfl, rfl⟩
 refine gl_nil ?_
 refine ge_then ?_
 refine g_seq ?_
 refine g_region ?_
 first | refine gl_v rfl (o_loadSA rfl rfl rfl) ?_ | refine gl_v rfl (o_loadA rfl rfl rfl) ?_
 first | refine gl_v rfl (o_loadSA rfl rfl rfl) ?_ | refine gl_v rfl (o_loadA rfl rfl rfl) ?_
 refine gl_c rfl (o_call rfl (rnext_spec b n hn hn2 hb kind v hk a c l hl (by omega) A) (by repeat (first | exact .nil | (apply Part.cons; · (repeat (first | exact .head | apply Sel.tail)))))) ?_
 rintro _ R ⟨_, ⟨rfl, rfl⟩, rfl⟩
 try simp only [List.cons_append, List.nil_append]
 refine gl_n rfl (o_alloc) ?_
 rintro _ _ ⟨b7, rfl, rfl⟩
 first | refine gl_u (o_storeSA rfl rfl rfl rfl (by simp; omega) (by simp)) ?_ | refine gl_u (o_storeA rfl rfl rfl rfl rfl) ?_
 refine gl_nil ?_
 refine ge_then ?_
 refine g_seq ?_
 refine g_seq ?_
 refine g_region ?_
 first | refine gl_v rfl (o_fldS rfl) ?_ | refine gl_v rfl (o_fld rfl) ?_
 first | refine gl_v rfl (o_load rfl rfl) ?_ | refine gl_v rfl (o_loadS rfl rfl) ?_ | refine gl_v rfl (o_loadC rfl) ?_
 refine gl_nil ?_
 refine ge_then ?_
 refine g_cond_true (by show some (Value.bool (nextN b n kind v l).over) = _; rw [hov]) ?_
 refine g_seq ?_
 refine g_region ?_
 first | refine gl_v rfl (o_loadSA rfl rfl rfl) ?_ | refine gl_v rfl (o_loadA rfl rfl rfl) ?_
 first | refine gl_u (o_storeSA rfl rfl rfl rfl (by simp; omega) (by simp)) ?_ | refine gl_u (o_storeA rfl rfl rfl rfl rfl) ?_
 refine gl_nil ?_
 refine ge_then ?_
 refine g_ret ?_
 refine ge_then_ret ?_
 refine ret1c (.inl rfl) rfl rfl rfl rfl _ (⟨rfl, rfl⟩) (To.sat (by repeat (first | exact .nil | exact .done .refl | (apply To.cons; · (repeat (first | exact .head | apply Sel.tail))) | exact .done (by repeat (first | exact .refl | apply Drop.skip)))))

set_option maxRecDepth 8000 in
theorem rstep_go (p b n : Nat) (hn : 1 ≤ n) (hn2 : n ≤ 64) (hb : b ≤ 65536) (kind v : Int) (hk : 1 ≤ kind ∧ kind ≤ 5) (hv : 0 ≤ v ∧ v ≤ 18446744073709551615) (a : Option Addr) (c : Nat) (l : List Int) (hl : ∀ x ∈ l, 0 ≤ x ∧ x ≤ 18446744073709551615) (hm : l.length ≤ 100000) (A : Assn) [RdA (.slice a l.length c) A l.length (l.map U64)] (L : List Int) (t : Int) (hL : b + 2 + 2 * n ≤ L.length) (hov : (nextN b n kind v l).over = false) : FnS Tryz.prog 59 [ptr p 0, atV b n, opV' kind v (.slice a l.length c)] [rmemA p L t, A]
      (fun u Bs => ∃ a' c', u = opV' kind v (.slice a' (l.length + 1) c') ∧ Bs = [rmemA p (accL (nextN b n kind v l) L) (tup t), own (.slice a' (l.length + 1) c') 22 1 (l.length + 1) ((l ++ [accX (nextN b n kind v l) L]).map U64), A]) := by
 refine fn_body Tryz.func59 rfl rfl rfl ?_
 intro W0 R
 simp only [List.zipIdx_cons, List.zipIdx_nil, List.map_cons, List.map_nil, Nat.zero_add, Nat.reduceAdd, List.cons_append, List.nil_append]
 refine g_seq ?_
 refine g_region ?_
 refine gl_n rfl (o_boxA rfl) ?_
 rintro _ _ ⟨b4, rfl, rfl⟩
 refine gl_n rfl (o_boxA rfl) ?_
 rintro _ _ ⟨b5, rfl, rfl⟩
 refine gl_n rfl (o_alloc) ?_
 rintro _ _ ⟨b6, rfl, rfl⟩
 refine gl_nil ?_
 refine ge_then ?_
 refine g_seq ?_
 refine g_region ?_
 first | refine gl_v rfl (o_loadSA rfl rfl rfl) ?_ | refine gl_v rfl (o_loadA rfl rfl rfl) ?_
 first | refine gl_v rfl (o_loadSA rfl rfl rfl) ?_ | refine gl_v rfl (o_loadA rfl rfl rfl) ?_
 refine gl_c rfl (o_call rfl (rnext_spec b n hn hn2 hb kind v hk a c l hl (by omega) A) (by repeat (first | exact .nil | (apply Part.cons; · (repeat (first | exact .head | apply Sel.tail)))))) ?_
 rintro _ R ⟨_, ⟨rfl, rfl⟩, rfl⟩
 try simp only [List.cons_append, List.nil_append]
 refine gl_n rfl (o_alloc) ?_
 rintro _ _ ⟨b7, rfl, rfl⟩
 first | refine gl_u (o_storeSA rfl rfl rfl rfl (by simp; omega) (by simp)) ?_ | refine gl_u (o_storeA rfl rfl rfl rfl rfl) ?_
 refine gl_nil ?_
 refine ge_then ?_
 refine g_seq ?_
 refine g_seq ?_
 refine g_region ?_
 first | refine gl_v rfl (o_fldS rfl) ?_ | refine gl_v rfl (o_fld rfl) ?_
 first | refine gl_v rfl (o_load rfl rfl) ?_ | refine gl_v rfl (o_loadS rfl rfl) ?_ | refine gl_v rfl (o_loadC rfl) ?_
 refine gl_nil ?_
 refine ge_then ?_
 refine g_cond_false (by show some (Value.bool (nextN b n kind v l).over) = _; rw [hov]) ?_
 refine g_skip ?_
 refine ge_then ?_
 refine g_seq ?_
 refine g_region ?_
 refine gl_v rfl (o_assign rfl) ?_
 refine gl_nil ?_
 refine ge_then ?_
 refine g_seq ?_
 refine g_imp (own_nil0 (e := 22) (sz := 1)) ?_
 refine g_region ?_
 refine gl_v rfl (o_move rfl) ?_
 first | refine gl_v rfl (o_fldS rfl) ?_ | refine gl_v rfl (o_fld rfl) ?_
 first | refine gl_v rfl (o_load rfl rfl) ?_ | refine gl_v rfl (o_loadS rfl rfl) ?_ | refine gl_v rfl (o_loadC rfl) ?_
 refine gl_n rfl (o_appendS rfl rfl (by repeat (first | exact .head | apply Sel.tail)) rfl (by simp) (by simp [List.all_map]; intro x _; rfl) (by omega) (by unfold maxLen; omega)) ?_
 rintro _ _ ⟨a18, c18, rfl, rfl⟩
 rw [Nat.zero_add]
 simp only [List.nil_append]
 refine gl_v rfl (o_assign rfl) ?_
 refine gl_nil ?_
 refine ge_then ?_
 refine g_seq ?_
 refine g_region ?_
 refine gl_v rfl (o_move rfl) ?_
 refine gl_v rfl (o_move rfl) ?_
 first | refine gl_v rfl (o_loadSA rfl rfl rfl) ?_ | refine gl_v rfl (o_loadA rfl rfl rfl) ?_
 refine gl_c rfl (o_call rfl (rDo_spec p b n L t (nextN b n kind v l) (wok_next hn hv hl hov) hL) (by repeat (first | exact .nil | (apply Part.cons; · (repeat (first | exact .head | apply Sel.tail)))))) ?_
 rintro _ R ⟨_, ⟨rfl, rfl⟩, rfl⟩
 try simp only [List.cons_append, List.nil_append]
 first | refine gl_n rfl (o_buildS1 rfl rfl rfl) ?_ | refine gl_n rfl (o_buildS1A rfl rfl rfl rfl) ?_ | refine gl_n rfl (o_buildS rfl rfl rfl rfl) ?_
 rintro _ _ ⟨b23, rfl, rfl⟩
 refine gl_n rfl (o_append rfl rfl (by repeat (first | exact .nil | (apply Part.cons; · (repeat (first | exact .head | apply Sel.tail))))) rfl rfl rfl (by omega) (by unfold maxLen; omega)) ?_
 rintro _ _ ⟨a24, c24, rfl, rfl⟩
 rw [show l.map U64 ++ [U64 (accX (nextN b n kind v l) L)] = (l ++ [accX (nextN b n kind v l) L]).map U64 by simp]
 refine gl_v rfl (o_assign rfl) ?_
 refine gl_nil ?_
 refine ge_then ?_
 refine g_seq ?_
 refine g_region ?_
 first | refine gl_v rfl (o_fldS rfl) ?_ | refine gl_v rfl (o_fld rfl) ?_
 first | refine gl_v rfl (o_load rfl rfl) ?_ | refine gl_v rfl (o_loadS rfl rfl) ?_ | refine gl_v rfl (o_loadC rfl) ?_
 first | refine gl_v rfl (o_fldS rfl) ?_ | refine gl_v rfl (o_fld rfl) ?_
 first | refine gl_v rfl (o_load rfl rfl) ?_ | refine gl_v rfl (o_loadS rfl rfl) ?_ | refine gl_v rfl (o_loadC rfl) ?_
 refine gl_v rfl (o_move rfl) ?_
 refine gl_v rfl (o_build rfl rfl) ?_
 first | refine gl_u (o_storeSA rfl rfl rfl rfl (by simp; omega) (by simp)) ?_ | refine gl_u (o_storeA rfl rfl rfl rfl rfl) ?_
 refine gl_nil ?_
 refine ge_then ?_
 refine g_ret ?_
 refine ret1c (.inl rfl) rfl rfl rfl rfl _ (⟨a24, c24, rfl, rfl⟩) (To.sat (by repeat (first | exact .nil | exact .done .refl | (apply To.cons; · (repeat (first | exact .head | apply Sel.tail))) | exact .done (by repeat (first | exact .refl | apply Drop.skip)))))

end Go.Proofs.YtmohikdmdmplaaaGreat.L
