/-
  Parse: the reference's Same. Own work, printed in part by a program of its own.
-/
import Derived.Test.YtgkjnilckmminaaGreatDoorParG
set_option linter.unusedSimpArgs false
set_option linter.unusedVariables false
set_option linter.unusedSectionVars false
namespace Go.Proofs.YtgkjnilckmminaaGreatDoor.L
open Go.L Go.L.Lx Go.L.Pg Go.L.Pa

theorem rowEq_ne {x y : Row} (h : (!decide (x.tag = y.tag) || !(x.only == y.only) || !decide (x.n = y.n) || !decide ((x.effs.length : Int) = y.effs.length)) = true) : rowEq x y = false := by
  unfold rowEq
  simp only [Bool.or_eq_true, Bool.not_eq_true'] at h
  rcases h with ((h | h) | h) | h
  · rw [h]; rfl
  · rw [h, Bool.and_false]; rfl
  · rw [h, Bool.and_false]; rfl
  · rw [sameL_len (by have := of_decide_eq_false h; omega), Bool.and_false]
theorem rowEq_if {x y : Row} (h : (!decide (x.tag = y.tag) || !(x.only == y.only) || !decide (x.n = y.n) || !decide ((x.effs.length : Int) = y.effs.length)) = false) : x.effs.length = y.effs.length ∧ rowEq x y = sameL (fun a b => decide (a = b)) x.effs y.effs := by
  simp only [Bool.or_eq_false_iff, Bool.not_eq_false'] at h
  obtain ⟨⟨⟨h1, h2⟩, h3⟩, h4⟩ := h
  refine ⟨by have := of_decide_eq_true h4; omega, ?_⟩
  unfold rowEq; rw [h1, h2, h3]; rfl
theorem staEq_ne {x y : Sta} (h : (!decide (x.name = y.name) || !decide ((x.rows.length : Int) = y.rows.length)) = true) : staEq x y = false := by
  unfold staEq
  simp only [Bool.or_eq_true, Bool.not_eq_true'] at h
  rcases h with h | h
  · rw [h]; rfl
  · rw [sameL_len (by have := of_decide_eq_false h; omega), Bool.and_false]
theorem staEq_if {x y : Sta} (h : (!decide (x.name = y.name) || !decide ((x.rows.length : Int) = y.rows.length)) = false) : x.rows.length = y.rows.length ∧ staEq x y = sameL rowEq x.rows y.rows := by
  simp only [Bool.or_eq_false_iff, Bool.not_eq_false'] at h
  refine ⟨by have := of_decide_eq_true h.2; omega, ?_⟩
  unfold staEq; rw [h.1]; rfl
theorem kndEq_ne {x y : Knd} (h : (!decide (x.name = y.name) || !decide (x.limit = y.limit) || !decide (x.within = y.within) || !decide ((x.cases.length : Int) = y.cases.length) || !decide ((x.states.length : Int) = y.states.length)) = true) : kndEq x y = false := by
  unfold kndEq
  simp only [Bool.or_eq_true, Bool.not_eq_true'] at h
  rcases h with (((h | h) | h) | h) | h
  · rw [h]; rfl
  · rw [h, Bool.and_false]; rfl
  · rw [h, Bool.and_false]; rfl
  · rw [sameL_len (l := x.cases) (m := y.cases) (by have := of_decide_eq_false h; omega), Bool.and_false]; rfl
  · rw [sameL_len (l := x.states) (m := y.states) (by have := of_decide_eq_false h; omega), Bool.and_false]
theorem kndEq_if {x y : Knd} (h : (!decide (x.name = y.name) || !decide (x.limit = y.limit) || !decide (x.within = y.within) || !decide ((x.cases.length : Int) = y.cases.length) || !decide ((x.states.length : Int) = y.states.length)) = false) : x.cases.length = y.cases.length ∧ x.states.length = y.states.length ∧ kndEq x y = (sameL (fun a b => decide (a = b)) x.cases y.cases && sameL staEq x.states y.states) := by
  simp only [Bool.or_eq_false_iff, Bool.not_eq_false'] at h
  obtain ⟨⟨⟨⟨h1, h2⟩, h3⟩, h4⟩, h5⟩ := h
  refine ⟨by have := of_decide_eq_true h4; omega, by have := of_decide_eq_true h5; omega, ?_⟩
  unfold kndEq; rw [h1, h2, h3]; rfl

set_option maxRecDepth 8000 in
set_option maxHeartbeats 2000000 in
theorem rsta_spec (M : Assn) (x y : Sta) (h1 : ∀ h, M h → StaOk h x) (h2 : ∀ h, M h → StaOk h y) (hn : x.rows.length ≤ 9223372036854775806) (hn2 : ∀ r ∈ x.rows, r.effs.length ≤ 9223372036854775806) : FnS Tryz.prog 29 [.agg (staC x).toArray, .agg (staC y).toArray] [M] (fun u Bs => u = .bool (staEq x y) ∧ Bs = [M]) := by
 refine fn_body Tryz.func29 rfl rfl rfl ?_
 intro W0 R
 simp only [List.zipIdx_cons, List.zipIdx_nil, List.map_cons, List.map_nil, Nat.zero_add, Nat.reduceAdd, List.cons_append, List.nil_append]
 haveI iX : RdA (.slice x.ra x.rows.length x.rc) M x.rows.length (x.rows.flatMap rowC) := ⟨fun a => (h1 _ a).rd.1⟩
 haveI iY : RdA (.slice y.ra y.rows.length y.rc) M y.rows.length (y.rows.flatMap rowC) := ⟨fun a => (h2 _ a).rd.1⟩
 refine g_seq ?_
 refine g_region ?_
 refine gl_n rfl (o_boxA rfl) ?_
 rintro _ _ ⟨b2, rfl, rfl⟩
 refine gl_n rfl (o_boxA rfl) ?_
 rintro _ _ ⟨b3, rfl, rfl⟩
 refine gl_v rfl (o_assign rfl) ?_
 refine gl_nil ?_
 refine ge_then ?_
 refine g_seq ?_
 refine g_seq ?_
 refine g_region ?_
 first | refine gl_v rfl (o_fldS rfl) ?_ | refine gl_v rfl (o_fld rfl) ?_
 first | refine gl_v rfl (o_load rfl rfl) ?_ | refine gl_v rfl (o_loadS rfl rfl) ?_ | refine gl_v rfl (o_loadC rfl) ?_
 first | refine gl_v rfl (o_fldS rfl) ?_ | refine gl_v rfl (o_fld rfl) ?_
 first | refine gl_v rfl (o_load rfl rfl) ?_ | refine gl_v rfl (o_loadS rfl rfl) ?_ | refine gl_v rfl (o_loadC rfl) ?_
 refine gl_v rfl (o_neqs rfl rfl) ?_
 refine gl_v rfl (o_move rfl) ?_
 refine gl_join (d := 22) 8 (.bool (!decide (x.name = y.name) || !decide ((x.rows.length : Int) = y.rows.length))) ?_ (fun jk22 => ?_)
 rotate_left
 ·
  refine gl_g rfl rfl (fun hc1 => ?_) (fun hc1 => ?_) rfl
  ·
   have hc1' := hc1
   replace hc1' := hs_ hc1'
   first | refine gl_v rfl (o_fldS rfl) ?_ | refine gl_v rfl (o_fld rfl) ?_
   refine gl_gT rfl rfl hc1 ?_
   first | refine gl_v rfl (o_load rfl rfl) ?_ | refine gl_v rfl (o_loadS rfl rfl) ?_ | refine gl_v rfl (o_loadC rfl) ?_
   refine gl_gT rfl rfl hc1 ?_
   first | refine gl_v rfl (o_len rfl) ?_ | refine gl_v rfl (o_lenL rfl) ?_
   refine gl_gT rfl rfl hc1 ?_
   first | refine gl_v rfl (o_fldS rfl) ?_ | refine gl_v rfl (o_fld rfl) ?_
   refine gl_gT rfl rfl hc1 ?_
   first | refine gl_v rfl (o_load rfl rfl) ?_ | refine gl_v rfl (o_loadS rfl rfl) ?_ | refine gl_v rfl (o_loadC rfl) ?_
   refine gl_gT rfl rfl hc1 ?_
   first | refine gl_v rfl (o_len rfl) ?_ | refine gl_v rfl (o_lenL rfl) ?_
   refine gl_gT rfl rfl hc1 ?_
   refine gl_v rfl (o_neq rfl rfl) ?_
   refine gl_v rfl (o_pickF hc1 rfl rfl) ?_
   first | exact jk22 _ (KeepS.top (by repeat (first | exact KeepS.refl _ | refine KeepS.push ?_ rfl)) (jval (by first | rfl | (simp only [hc1, Bool.not_true, Bool.not_false, Bool.false_and, Bool.true_and, Bool.true_or, Bool.false_or]; done) | (simp [hc1, ]; done) | simp_all))) | exact gl_imp (tO) (jk22 _ (KeepS.top (by repeat (first | exact KeepS.refl _ | refine KeepS.push ?_ rfl)) (jval (by first | rfl | (simp only [hc1, Bool.not_true, Bool.not_false, Bool.false_and, Bool.true_and, Bool.true_or, Bool.false_or]; done) | (simp [hc1, ]; done) | simp_all))))
  ·
   have hc1' := hc1
   replace hc1' := hs_ hc1'
   simp only [putO]
   refine gl_gF rfl rfl hc1 rfl ?_
   refine gl_gF rfl rfl hc1 rfl ?_
   refine gl_gF rfl rfl hc1 rfl ?_
   refine gl_gF rfl rfl hc1 rfl ?_
   refine gl_gF rfl rfl hc1 rfl ?_
   refine gl_gF rfl rfl hc1 rfl ?_
   refine gl_v rfl (o_pickT hc1 rfl rfl) ?_
   first | exact jk22 _ (KeepS.top (by repeat (first | exact KeepS.refl _ | refine KeepS.push ?_ rfl)) (jval (by first | rfl | (simp only [hc1, Bool.not_true, Bool.not_false, Bool.false_and, Bool.true_and, Bool.true_or, Bool.false_or]; done) | (simp [hc1, ]; done) | simp_all))) | exact gl_imp (tO) (jk22 _ (KeepS.top (by repeat (first | exact KeepS.refl _ | refine KeepS.push ?_ rfl)) (jval (by first | rfl | (simp only [hc1, Bool.not_true, Bool.not_false, Bool.false_and, Bool.true_and, Bool.true_or, Bool.false_or]; done) | (simp [hc1, ]; done) | simp_all))))
 refine gl_nil ?_
 refine ge_then ?_
 refine g_cond rfl (fun hc2 => ?_) (fun hc2 => ?_)
 ·
  replace hc2 := hs_ hc2
  have hf := staEq_ne hc2
  refine g_seq ?_
  refine g_region ?_
  refine gl_v rfl (o_assign rfl) ?_
  refine gl_nil ?_
  refine ge_then ?_
  refine g_ret ?_
  refine ge_then_ret ?_
  refine ret1 (.inl rfl) rfl rfl _ (⟨by rw [hf], rfl⟩) (tO)
 ·
  replace hc2 := hs_ hc2
  obtain ⟨hel, hf⟩ := staEq_if hc2
  refine g_skip ?_
  refine ge_then ?_
  refine g_seq ?_
  refine g_seq ?_
  refine g_region ?_
  refine gl_v rfl (o_assign rfl) ?_
  refine gl_nil ?_
  refine ge_then ?_
  refine g_block ?_
  refine g_loop (ι := Nat) (fun x_ => x_ ≤ x.rows.length ∧ sameL rowEq (x.rows.drop x_) (y.rows.drop x_) = sameL rowEq x.rows y.rows) (fun x_ => [(5, I64 x_), (3, ptr b3 0), (2, ptr b2 0)]) (fun _ => cel b2 54 (staC x) :: cel b3 54 (staC y) :: M :: R) (fun x_ => x.rows.length - x_) 0 (⟨Nat.zero_le _, rfl⟩) (Keep.cons rfl (Keep.cons rfl (Keep.cons rfl (Keep.nil)))) (tO) ?_
  rintro j ⟨hj, hsj⟩
  replace hj : j ≤ x.rows.length := hj
  replace hsj : sameL rowEq (x.rows.drop j) (y.rows.drop j) = sameL rowEq x.rows y.rows := hsj
  refine g_seq ?_
  refine g_seq ?_
  refine g_region ?_
  refine gl_v rfl (o_move rfl) ?_
  first | refine gl_v rfl (o_fldS rfl) ?_ | refine gl_v rfl (o_fld rfl) ?_
  first | refine gl_v rfl (o_load rfl rfl) ?_ | refine gl_v rfl (o_loadS rfl rfl) ?_ | refine gl_v rfl (o_loadC rfl) ?_
  first | refine gl_v rfl (o_len rfl) ?_ | refine gl_v rfl (o_lenL rfl) ?_
  refine gl_v rfl (o_lss rfl rfl) ?_
  refine gl_nil ?_
  refine ge_then ?_
  refine g_cond rfl (fun hc3 => ?_) (fun hc3 => ?_)
  ·
   replace hc3 := hs_ hc3
   obtain ⟨r, hr⟩ : ∃ t, x.rows[j]? = some t := ⟨_, List.getElem?_eq_getElem (show j < x.rows.length by omega)⟩
   obtain ⟨r', hr'⟩ : ∃ t, y.rows[j]? = some t := ⟨_, List.getElem?_eq_getElem (show j < y.rows.length by omega)⟩
   have hn3 := hn2 r (List.mem_of_getElem? hr)
   haveI iE : RdA (.slice r.ea r.effs.length r.ec) M r.effs.length (r.effs.flatMap effC) := ⟨fun a => ((h1 _ a).rows r (List.mem_of_getElem? hr)).rd.1⟩
   haveI iE' : RdA (.slice r'.ea r'.effs.length r'.ec) M r'.effs.length (r'.effs.flatMap effC) := ⟨fun a => ((h2 _ a).rows r' (List.mem_of_getElem? hr')).rd.1⟩
   refine g_skip ?_
   refine ge_then ?_
   refine g_seq ?_
   refine g_block ?_
   refine g_cut (fun act wo => ∃ (b6 b7 : Nat), HasSl Tryz.f29.ntmps [(7, ptr b7 0), (6, ptr b6 0), (5, I64 j), (3, ptr b3 0), (2, ptr b2 0)] act ∧ St W0 (cel b6 57 (rowC r) :: cel b7 57 (rowC r') :: cel b2 54 (staC x) :: cel b3 54 (staC y) :: M :: R) wo) ?_ ?_
   ·
    refine g_treeM [10, 11, 12, 13] [10, 11, 12] (.stab 0 (.stab 1 (.stab 2 (.stab 3 (.stab 4 (.stab 5 (.stab 6 (.stab 7 (.stab 8 (.stab 9 (.eff 10 (.eff 11 (.eff 12 (.eff 13 .nil .nil) .nil) .nil) (.eff 11 (.eff 10 (.eff 12 (.eff 13 .nil .nil) .nil) .nil) .nil)))))))))))) [cel b2 54 (staC x), cel b3 54 (staC y), M] mixed (by kernel_rfl) ?_
    first | refine gt_vs rfl .none rfl (o_fldS rfl) (tO) ?_ | refine gt_vs rfl .none rfl (o_fld rfl) (tO) ?_
    first | refine gt_vs rfl .none rfl (o_load rfl rfl) (tO) ?_ | refine gt_vs rfl .none rfl (o_loadS rfl rfl) (tO) ?_ | refine gt_vs rfl .none rfl (o_loadC rfl) (tO) ?_
    refine gt_vs rfl .none rfl (o_move rfl) (tO) ?_
    refine gt_vs rfl .none rfl (o_idxS rfl rfl (show j < x.rows.length by omega)) (tO) ?_
    refine gt_vs rfl .none rfl (o_loadSA rfl (flat_take rowC 4 rowC_len hr) rfl) (tO) ?_
    first | refine gt_vs rfl .none rfl (o_fldS rfl) (tO) ?_ | refine gt_vs rfl .none rfl (o_fld rfl) (tO) ?_
    first | refine gt_vs rfl .none rfl (o_load rfl rfl) (tO) ?_ | refine gt_vs rfl .none rfl (o_loadS rfl rfl) (tO) ?_ | refine gt_vs rfl .none rfl (o_loadC rfl) (tO) ?_
    refine gt_vs rfl .none rfl (o_move rfl) (tO) ?_
    refine gt_vs rfl .none rfl (o_idxS rfl rfl (show j < y.rows.length by omega)) (tO) ?_
    refine gt_vs rfl .none rfl (o_loadSA rfl (flat_take rowC 4 rowC_len hr') rfl) (tO) ?_
    refine gt_alts ?_ ?_
    ·
     refine gt_n rfl .none rfl (o_alloc) ?_
     rintro _ _ ⟨b6, rfl, rfl⟩
     refine ⟨(fun _ => (tO)), ?_⟩
     refine gt_n rfl .none rfl (o_alloc) ?_
     rintro _ _ ⟨b7, rfl, rfl⟩
     refine ⟨(fun _ => (tO)), ?_⟩
     first | refine gt_u rfl .none (o_storeSA rfl rfl rfl rfl (by simp; omega) (by simp)) (fun _ => (tO)) ?_ | refine gt_u rfl .none (o_storeA rfl rfl rfl rfl rfl) (fun _ => (tO)) ?_
     first | refine gt_u rfl .none (o_storeSA rfl rfl rfl rfl (by simp; omega) (by simp)) (fun hG => absurd hG (by decide)) ?_ | refine gt_u rfl .none (o_storeA rfl rfl rfl rfl rfl) (fun hG => absurd hG (by decide)) ?_
     refine gt_nil ?_
     exact fun act wo hsl st => ⟨b6, b7, hsl.keep (Keep.cons rfl (Keep.cons rfl (Keep.cons rfl (Keep.cons rfl (Keep.cons rfl (Keep.nil)))))), st.imp (tO)⟩
    ·
     refine gt_n rfl .none rfl (o_alloc) ?_
     rintro _ _ ⟨b7, rfl, rfl⟩
     refine ⟨(fun _ => (tO)), ?_⟩
     refine gt_n rfl .none rfl (o_alloc) ?_
     rintro _ _ ⟨b6, rfl, rfl⟩
     refine ⟨(fun _ => (tO)), ?_⟩
     first | refine gt_u rfl .none (o_storeSA rfl rfl rfl rfl (by simp; omega) (by simp)) (fun _ => (tO)) ?_ | refine gt_u rfl .none (o_storeA rfl rfl rfl rfl rfl) (fun _ => (tO)) ?_
     first | refine gt_u rfl .none (o_storeSA rfl rfl rfl rfl (by simp; omega) (by simp)) (fun hG => absurd hG (by decide)) ?_ | refine gt_u rfl .none (o_storeA rfl rfl rfl rfl rfl) (fun hG => absurd hG (by decide)) ?_
     refine gt_nil ?_
     exact fun act wo hsl st => ⟨b6, b7, hsl.keep (Keep.cons rfl (Keep.cons rfl (Keep.cons rfl (Keep.cons rfl (Keep.cons rfl (Keep.nil)))))), st.imp (tO)⟩
   ·
    rintro act wo ⟨b6, b7, hsl, st⟩
    refine g_of ?_ hsl st
    clear hsl st act wo
    refine g_seq ?_
    refine g_seq ?_
    refine g_region ?_
    first | refine gl_v rfl (o_fldS rfl) ?_ | refine gl_v rfl (o_fld rfl) ?_
    first | refine gl_v rfl (o_load rfl rfl) ?_ | refine gl_v rfl (o_loadS rfl rfl) ?_ | refine gl_v rfl (o_loadC rfl) ?_
    first | refine gl_v rfl (o_fldS rfl) ?_ | refine gl_v rfl (o_fld rfl) ?_
    first | refine gl_v rfl (o_load rfl rfl) ?_ | refine gl_v rfl (o_loadS rfl rfl) ?_ | refine gl_v rfl (o_loadC rfl) ?_
    refine gl_v rfl (o_neqs rfl rfl) ?_
    refine gl_v rfl (o_move rfl) ?_
    refine gl_join (d := 67) 22 (.bool (!decide (r.tag = r'.tag) || !(r.only == r'.only) || !decide (r.n = r'.n) || !decide ((r.effs.length : Int) = r'.effs.length))) ?_ (fun jk67 => ?_)
    rotate_left
    ·
     refine gl_g rfl rfl (fun hc4 => ?_) (fun hc4 => ?_) rfl
     ·
      have hc4' := hc4
      replace hc4' := hs_ hc4'
      first | refine gl_v rfl (o_fldS rfl) ?_ | refine gl_v rfl (o_fld rfl) ?_
      refine gl_gT rfl rfl hc4 ?_
      first | refine gl_v rfl (o_load rfl rfl) ?_ | refine gl_v rfl (o_loadS rfl rfl) ?_ | refine gl_v rfl (o_loadC rfl) ?_
      refine gl_gT rfl rfl hc4 ?_
      first | refine gl_v rfl (o_fldS rfl) ?_ | refine gl_v rfl (o_fld rfl) ?_
      refine gl_gT rfl rfl hc4 ?_
      first | refine gl_v rfl (o_load rfl rfl) ?_ | refine gl_v rfl (o_loadS rfl rfl) ?_ | refine gl_v rfl (o_loadC rfl) ?_
      refine gl_gT rfl rfl hc4 ?_
      refine gl_v rfl (o_neqb rfl rfl) ?_
      refine gl_v rfl (o_pickF hc4 rfl rfl) ?_
      refine gl_v rfl (o_move rfl) ?_
      refine gl_g rfl rfl (fun hc5 => ?_) (fun hc5 => ?_) rfl
      ·
       have hc5' := hc5
       replace hc5' := hs_ hc5'
       first | refine gl_v rfl (o_fldS rfl) ?_ | refine gl_v rfl (o_fld rfl) ?_
       refine gl_gT rfl rfl hc5 ?_
       first | refine gl_v rfl (o_load rfl rfl) ?_ | refine gl_v rfl (o_loadS rfl rfl) ?_ | refine gl_v rfl (o_loadC rfl) ?_
       refine gl_gT rfl rfl hc5 ?_
       first | refine gl_v rfl (o_fldS rfl) ?_ | refine gl_v rfl (o_fld rfl) ?_
       refine gl_gT rfl rfl hc5 ?_
       first | refine gl_v rfl (o_load rfl rfl) ?_ | refine gl_v rfl (o_loadS rfl rfl) ?_ | refine gl_v rfl (o_loadC rfl) ?_
       refine gl_gT rfl rfl hc5 ?_
       refine gl_v rfl (o_neq rfl rfl) ?_
       refine gl_v rfl (o_pickF hc5 rfl rfl) ?_
       refine gl_v rfl (o_move rfl) ?_
       refine gl_g rfl rfl (fun hc6 => ?_) (fun hc6 => ?_) rfl
       ·
        have hc6' := hc6
        replace hc6' := hs_ hc6'
        first | refine gl_v rfl (o_fldS rfl) ?_ | refine gl_v rfl (o_fld rfl) ?_
        refine gl_gT rfl rfl hc6 ?_
        first | refine gl_v rfl (o_load rfl rfl) ?_ | refine gl_v rfl (o_loadS rfl rfl) ?_ | refine gl_v rfl (o_loadC rfl) ?_
        refine gl_gT rfl rfl hc6 ?_
        first | refine gl_v rfl (o_len rfl) ?_ | refine gl_v rfl (o_lenL rfl) ?_
        refine gl_gT rfl rfl hc6 ?_
        first | refine gl_v rfl (o_fldS rfl) ?_ | refine gl_v rfl (o_fld rfl) ?_
        refine gl_gT rfl rfl hc6 ?_
        first | refine gl_v rfl (o_load rfl rfl) ?_ | refine gl_v rfl (o_loadS rfl rfl) ?_ | refine gl_v rfl (o_loadC rfl) ?_
        refine gl_gT rfl rfl hc6 ?_
        first | refine gl_v rfl (o_len rfl) ?_ | refine gl_v rfl (o_lenL rfl) ?_
        refine gl_gT rfl rfl hc6 ?_
        refine gl_v rfl (o_neq rfl rfl) ?_
        refine gl_v rfl (o_pickF hc6 rfl rfl) ?_
        first | exact jk67 _ (KeepS.top (by repeat (first | exact KeepS.refl _ | refine KeepS.push ?_ rfl)) (jval (by first | rfl | (simp only [hc4, hc5, hc6, Bool.not_true, Bool.not_false, Bool.false_and, Bool.true_and, Bool.true_or, Bool.false_or]; done) | (simp [hc4, hc5, hc6, ]; done) | simp_all))) | exact gl_imp (tO) (jk67 _ (KeepS.top (by repeat (first | exact KeepS.refl _ | refine KeepS.push ?_ rfl)) (jval (by first | rfl | (simp only [hc4, hc5, hc6, Bool.not_true, Bool.not_false, Bool.false_and, Bool.true_and, Bool.true_or, Bool.false_or]; done) | (simp [hc4, hc5, hc6, ]; done) | simp_all))))
       ·
        have hc6' := hc6
        replace hc6' := hs_ hc6'
        simp only [putO]
        refine gl_gF rfl rfl hc6 rfl ?_
        refine gl_gF rfl rfl hc6 rfl ?_
        refine gl_gF rfl rfl hc6 rfl ?_
        refine gl_gF rfl rfl hc6 rfl ?_
        refine gl_gF rfl rfl hc6 rfl ?_
        refine gl_gF rfl rfl hc6 rfl ?_
        refine gl_v rfl (o_pickT hc6 rfl rfl) ?_
        first | exact jk67 _ (KeepS.top (by repeat (first | exact KeepS.refl _ | refine KeepS.push ?_ rfl)) (jval (by first | rfl | (simp only [hc4, hc5, hc6, Bool.not_true, Bool.not_false, Bool.false_and, Bool.true_and, Bool.true_or, Bool.false_or]; done) | (simp [hc4, hc5, hc6, ]; done) | simp_all))) | exact gl_imp (tO) (jk67 _ (KeepS.top (by repeat (first | exact KeepS.refl _ | refine KeepS.push ?_ rfl)) (jval (by first | rfl | (simp only [hc4, hc5, hc6, Bool.not_true, Bool.not_false, Bool.false_and, Bool.true_and, Bool.true_or, Bool.false_or]; done) | (simp [hc4, hc5, hc6, ]; done) | simp_all))))
      ·
       have hc5' := hc5
       replace hc5' := hs_ hc5'
       simp only [putO]
       refine gl_gF rfl rfl hc5 rfl ?_
       refine gl_gF rfl rfl hc5 rfl ?_
       refine gl_gF rfl rfl hc5 rfl ?_
       refine gl_gF rfl rfl hc5 rfl ?_
       refine gl_v rfl (o_pickT hc5 rfl rfl) ?_
       refine gl_v rfl (o_move rfl) ?_
       refine gl_gF rfl rfl rfl rfl ?_
       refine gl_gF rfl rfl rfl rfl ?_
       refine gl_gF rfl rfl rfl rfl ?_
       refine gl_gF rfl rfl rfl rfl ?_
       refine gl_gF rfl rfl rfl rfl ?_
       refine gl_gF rfl rfl rfl rfl ?_
       refine gl_gF rfl rfl rfl rfl ?_
       refine gl_v rfl (o_pickT rfl rfl rfl) ?_
       first | exact jk67 _ (KeepS.top (by repeat (first | exact KeepS.refl _ | refine KeepS.push ?_ rfl)) (jval (by first | rfl | (simp only [hc4, hc5, Bool.not_true, Bool.not_false, Bool.false_and, Bool.true_and, Bool.true_or, Bool.false_or]; done) | (simp [hc4, hc5, ]; done) | simp_all))) | exact gl_imp (tO) (jk67 _ (KeepS.top (by repeat (first | exact KeepS.refl _ | refine KeepS.push ?_ rfl)) (jval (by first | rfl | (simp only [hc4, hc5, Bool.not_true, Bool.not_false, Bool.false_and, Bool.true_and, Bool.true_or, Bool.false_or]; done) | (simp [hc4, hc5, ]; done) | simp_all))))
     ·
      have hc4' := hc4
      replace hc4' := hs_ hc4'
      simp only [putO]
      refine gl_gF rfl rfl hc4 rfl ?_
      refine gl_gF rfl rfl hc4 rfl ?_
      refine gl_gF rfl rfl hc4 rfl ?_
      refine gl_gF rfl rfl hc4 rfl ?_
      refine gl_v rfl (o_pickT hc4 rfl rfl) ?_
      refine gl_v rfl (o_move rfl) ?_
      refine gl_gF rfl rfl rfl rfl ?_
      refine gl_gF rfl rfl rfl rfl ?_
      refine gl_gF rfl rfl rfl rfl ?_
      refine gl_gF rfl rfl rfl rfl ?_
      refine gl_gF rfl rfl rfl rfl ?_
      refine gl_v rfl (o_pickT rfl rfl rfl) ?_
      refine gl_v rfl (o_move rfl) ?_
      refine gl_gF rfl rfl rfl rfl ?_
      refine gl_gF rfl rfl rfl rfl ?_
      refine gl_gF rfl rfl rfl rfl ?_
      refine gl_gF rfl rfl rfl rfl ?_
      refine gl_gF rfl rfl rfl rfl ?_
      refine gl_gF rfl rfl rfl rfl ?_
      refine gl_gF rfl rfl rfl rfl ?_
      refine gl_v rfl (o_pickT rfl rfl rfl) ?_
      first | exact jk67 _ (KeepS.top (by repeat (first | exact KeepS.refl _ | refine KeepS.push ?_ rfl)) (jval (by first | rfl | (simp only [hc4, Bool.not_true, Bool.not_false, Bool.false_and, Bool.true_and, Bool.true_or, Bool.false_or]; done) | (simp [hc4, ]; done) | simp_all))) | exact gl_imp (tO) (jk67 _ (KeepS.top (by repeat (first | exact KeepS.refl _ | refine KeepS.push ?_ rfl)) (jval (by first | rfl | (simp only [hc4, Bool.not_true, Bool.not_false, Bool.false_and, Bool.true_and, Bool.true_or, Bool.false_or]; done) | (simp [hc4, ]; done) | simp_all))))
    refine gl_nil ?_
    refine ge_then ?_
    refine g_cond rfl (fun hc7 => ?_) (fun hc7 => ?_)
    ·
     replace hc7 := hs_ hc7
     have hg := rowEq_ne hc7
     refine g_seq ?_
     refine g_region ?_
     refine gl_v rfl (o_assign rfl) ?_
     refine gl_nil ?_
     refine ge_then ?_
     refine g_ret ?_
     refine ge_then_ret ?_
     refine ge_block_ret ?_
     refine ge_then_ret ?_
     refine ge_then_ret ?_
     refine ge_block_ret ?_
     refine ge_then_ret ?_
     refine ret1 (.inl rfl) rfl rfl _ (⟨by rw [hf, ← hsj, sameL_drop hr hr', hg]; rfl, rfl⟩) (tO)
    ·
     replace hc7 := hs_ hc7
     obtain ⟨hle, hg⟩ := rowEq_if hc7
     refine g_skip ?_
     refine ge_then ?_
     refine g_seq ?_
     refine g_region ?_
     refine gl_v rfl (o_assign rfl) ?_
     refine gl_nil ?_
     refine ge_then ?_
     refine g_block ?_
     refine g_loop (ι := Nat) (fun x_ => x_ ≤ r.effs.length ∧ sameL (fun a b => decide (a = b)) (r.effs.drop x_) (r'.effs.drop x_) = sameL (fun a b => decide (a = b)) r.effs r'.effs) (fun x_ => [(8, I64 x_), (7, ptr b7 0), (6, ptr b6 0), (5, I64 j), (3, ptr b3 0), (2, ptr b2 0)]) (fun _ => cel b6 57 (rowC r) :: cel b7 57 (rowC r') :: cel b2 54 (staC x) :: cel b3 54 (staC y) :: M :: R) (fun x_ => r.effs.length - x_) 0 (⟨Nat.zero_le _, rfl⟩) (Keep.cons rfl (Keep.cons rfl (Keep.cons rfl (Keep.cons rfl (Keep.cons rfl (Keep.cons rfl (Keep.nil))))))) (tO) ?_
     rintro q ⟨hq, hsq⟩
     replace hq : q ≤ r.effs.length := hq
     replace hsq : sameL (fun a b => decide (a = b)) (r.effs.drop q) (r'.effs.drop q) = sameL (fun a b => decide (a = b)) r.effs r'.effs := hsq
     refine g_seq ?_
     refine g_seq ?_
     refine g_region ?_
     refine gl_v rfl (o_move rfl) ?_
     first | refine gl_v rfl (o_fldS rfl) ?_ | refine gl_v rfl (o_fld rfl) ?_
     first | refine gl_v rfl (o_load rfl rfl) ?_ | refine gl_v rfl (o_loadS rfl rfl) ?_ | refine gl_v rfl (o_loadC rfl) ?_
     first | refine gl_v rfl (o_len rfl) ?_ | refine gl_v rfl (o_lenL rfl) ?_
     refine gl_v rfl (o_lss rfl rfl) ?_
     refine gl_nil ?_
     refine ge_then ?_
     refine g_cond rfl (fun hc8 => ?_) (fun hc8 => ?_)
     ·
      replace hc8 := hs_ hc8
      obtain ⟨e, he⟩ : ∃ t, r.effs[q]? = some t := ⟨_, List.getElem?_eq_getElem (show q < r.effs.length by omega)⟩
      obtain ⟨e', he'⟩ : ∃ t, r'.effs[q]? = some t := ⟨_, List.getElem?_eq_getElem (show q < r'.effs.length by omega)⟩
      refine g_skip ?_
      refine ge_then ?_
      refine g_seq ?_
      refine g_block ?_
      refine g_seq ?_
      refine g_treeM [] [] (.loc 0 (.loc 1 (.loc 2 (.loc 3 (.loc 4 (.loc 5 (.loc 6 (.loc 7 (.loc 8 (.loc 9 (.loc 10 .nil))))))))))) [cel b6 57 (rowC r), cel b7 57 (rowC r'), M] mixed (by kernel_rfl) ?_
      first | refine gt_v rfl .none rfl (o_fldS rfl) ?_ | refine gt_v rfl .none rfl (o_fld rfl) ?_
      first | refine gt_v rfl .none rfl (o_load rfl rfl) ?_ | refine gt_v rfl .none rfl (o_loadS rfl rfl) ?_ | refine gt_v rfl .none rfl (o_loadC rfl) ?_
      refine gt_v rfl .none rfl (o_move rfl) ?_
      refine gt_v rfl .none rfl (o_idxS rfl rfl (show q < r.effs.length by omega)) ?_
      refine gt_v rfl .none rfl (o_loadSA rfl (flat_take effC 7 effC_len he) rfl) ?_
      first | refine gt_v rfl .none rfl (o_fldS rfl) ?_ | refine gt_v rfl .none rfl (o_fld rfl) ?_
      first | refine gt_v rfl .none rfl (o_load rfl rfl) ?_ | refine gt_v rfl .none rfl (o_loadS rfl rfl) ?_ | refine gt_v rfl .none rfl (o_loadC rfl) ?_
      refine gt_v rfl .none rfl (o_move rfl) ?_
      refine gt_v rfl .none rfl (o_idxS rfl rfl (show q < r'.effs.length by omega)) ?_
      refine gt_v rfl .none rfl (o_loadSA rfl (flat_take effC 7 effC_len he') rfl) ?_
      refine gt_v rfl .none rfl (o_is (c := !decide (e = e')) (by rw [flatEq_Eff]) (o_neqA (xs := effC e) (ys := effC e') rfl rfl rfl rfl)) ?_
      refine gt_nil ?_
      refine ge_then ?_
      refine g_cond rfl (fun hc9 => ?_) (fun hc9 => ?_)
      ·
       replace hc9 := hs_ hc9
       have hc2 : decide (e = e') = false := by simpa using hc9
       refine g_seq ?_
       refine g_region ?_
       refine gl_v rfl (o_assign rfl) ?_
       refine gl_nil ?_
       refine ge_then ?_
       refine g_ret ?_
       refine ge_block_ret ?_
       refine ge_then_ret ?_
       refine ge_then_ret ?_
       refine ge_block_ret ?_
       refine ge_block_ret ?_
       refine ge_then_ret ?_
       refine ge_then_ret ?_
       refine ge_block_ret ?_
       refine ge_then_ret ?_
       refine ret1 (.inl rfl) rfl rfl _ (⟨by rw [hf, ← hsj, sameL_drop hr hr', hg, ← hsq, sameL_drop he he', hc2]; rfl, rfl⟩) (tO)
      ·
       replace hc9 := hs_ hc9
       have hc2 : decide (e = e') = true := by simpa using hc9
       refine g_skip ?_
       refine ge_block ?_
       refine ge_then ?_
       refine g_region ?_
       refine gl_v rfl (o_move rfl) ?_
       refine gl_v rfl (o_addR ((q + 1 : Nat) : Int) (by rw [wr_i64 (by omega)]; omega) rfl rfl) ?_
       refine gl_v rfl (o_assign rfl) ?_
       refine gl_nil ?_
       refine ge_round (q + 1) ⟨show q + 1 ≤ r.effs.length by omega, by rw [← hsq, sameL_drop he he', hc2]; rfl⟩ (by show r.effs.length - (q + 1) < r.effs.length - q; omega) (Keep.cons rfl (Keep.cons rfl (Keep.cons rfl (Keep.cons rfl (Keep.cons rfl (Keep.cons rfl (Keep.nil))))))) (tO)
     ·
      replace hc8 := hs_ hc8
      obtain rfl : q = r.effs.length := by omega
      rw [List.drop_length, List.drop_eq_nil_of_le (by omega)] at hsq
      have hrw : rowEq r r' = true := by rw [hg, ← hsq]; rfl
      refine g_exit ?_
      refine ge_then_exit ?_
      refine ge_then_exit ?_
      refine ge_block_exit ?_
      refine ge_block ?_
      refine ge_then ?_
      refine g_region ?_
      refine gl_v rfl (o_move rfl) ?_
      refine gl_v rfl (o_addR ((j + 1 : Nat) : Int) (by rw [wr_i64 (by omega)]; omega) rfl rfl) ?_
      refine gl_v rfl (o_assign rfl) ?_
      refine gl_nil ?_
      refine ge_round (j + 1) ⟨show j + 1 ≤ x.rows.length by omega, by rw [← hsj, sameL_drop hr hr', hrw]; rfl⟩ (by show x.rows.length - (j + 1) < x.rows.length - j; omega) (Keep.cons rfl (Keep.cons rfl (Keep.cons rfl (Keep.nil)))) (tO)
  ·
   replace hc3 := hs_ hc3
   obtain rfl : j = x.rows.length := by omega
   rw [List.drop_length, List.drop_eq_nil_of_le (by omega)] at hsj
   refine g_exit ?_
   refine ge_then_exit ?_
   refine ge_then_exit ?_
   refine ge_block_exit ?_
   refine ge_then ?_
   refine g_seq ?_
   refine g_region ?_
   refine gl_v rfl (o_assign rfl) ?_
   refine gl_nil ?_
   refine ge_then ?_
   refine g_ret ?_
   refine ret1 (.inl rfl) rfl rfl _ (⟨by rw [hf, ← hsj]; rfl, rfl⟩) (tO)

set_option maxRecDepth 8000 in
set_option maxHeartbeats 2000000 in
theorem rSame_spec (M : Assn) (K1 K2 : List Knd) (a1 a2 : Option Addr) (c1 c2 : Nat) (h1 : ∀ h, M h → PrgOk h a1 c1 K1) (h2 : ∀ h, M h → PrgOk h a2 c2 K2) (hn : K1.length ≤ 9223372036854775806) (hk : ∀ k ∈ K1, k.cases.length ≤ 9223372036854775806 ∧ k.states.length ≤ 9223372036854775806 ∧ ∀ s ∈ k.states, s.rows.length ≤ 9223372036854775806 ∧ ∀ r ∈ s.rows, r.effs.length ≤ 9223372036854775806) : FnS Tryz.prog 15 [.agg #[.slice a1 K1.length c1], .agg #[.slice a2 K2.length c2]] [M] (fun u Bs => u = .bool (sameL kndEq K1 K2) ∧ Bs = [M]) := by
 refine fn_body Tryz.func15 rfl rfl rfl ?_
 intro W0 R
 simp only [List.zipIdx_cons, List.zipIdx_nil, List.map_cons, List.map_nil, Nat.zero_add, Nat.reduceAdd, List.cons_append, List.nil_append]
 haveI iX : RdA (.slice a1 K1.length c1) M K1.length (K1.flatMap kndC) := ⟨fun a => (h1 _ a).rd.1⟩
 haveI iY : RdA (.slice a2 K2.length c2) M K2.length (K2.flatMap kndC) := ⟨fun a => (h2 _ a).rd.1⟩
 refine g_seq ?_
 refine g_region ?_
 refine gl_n rfl (o_boxA rfl) ?_
 rintro _ _ ⟨b2, rfl, rfl⟩
 refine gl_n rfl (o_boxA rfl) ?_
 rintro _ _ ⟨b3, rfl, rfl⟩
 refine gl_v rfl (o_assign rfl) ?_
 refine gl_nil ?_
 refine ge_then ?_
 refine g_seq ?_
 refine g_seq ?_
 refine g_region ?_
 first | refine gl_v rfl (o_fldS rfl) ?_ | refine gl_v rfl (o_fld rfl) ?_
 first | refine gl_v rfl (o_load rfl rfl) ?_ | refine gl_v rfl (o_loadS rfl rfl) ?_ | refine gl_v rfl (o_loadC rfl) ?_
 first | refine gl_v rfl (o_len rfl) ?_ | refine gl_v rfl (o_lenL rfl) ?_
 first | refine gl_v rfl (o_fldS rfl) ?_ | refine gl_v rfl (o_fld rfl) ?_
 first | refine gl_v rfl (o_load rfl rfl) ?_ | refine gl_v rfl (o_loadS rfl rfl) ?_ | refine gl_v rfl (o_loadC rfl) ?_
 first | refine gl_v rfl (o_len rfl) ?_ | refine gl_v rfl (o_lenL rfl) ?_
 refine gl_v rfl (o_neq rfl rfl) ?_
 refine gl_nil ?_
 refine ge_then ?_
 refine g_cond rfl (fun hc1 => ?_) (fun hc1 => ?_)
 ·
  replace hc1 := hs_ hc1
  have hf : sameL kndEq K1 K2 = false := sameL_len (by omega)
  refine g_seq ?_
  refine g_region ?_
  refine gl_v rfl (o_assign rfl) ?_
  refine gl_nil ?_
  refine ge_then ?_
  refine g_ret ?_
  refine ge_then_ret ?_
  refine ret1 (.inl rfl) rfl rfl _ (⟨by rw [hf], rfl⟩) (tO)
 ·
  replace hc1 := hs_ hc1
  have hel : K1.length = K2.length := by omega
  refine g_skip ?_
  refine ge_then ?_
  refine g_seq ?_
  refine g_seq ?_
  refine g_region ?_
  refine gl_v rfl (o_assign rfl) ?_
  refine gl_nil ?_
  refine ge_then ?_
  refine g_block ?_
  refine g_loop (ι := Nat) (fun x_ => x_ ≤ K1.length ∧ sameL kndEq (K1.drop x_) (K2.drop x_) = sameL kndEq K1 K2) (fun x_ => [(5, I64 x_), (3, ptr b3 0), (2, ptr b2 0)]) (fun _ => cel b2 25 [.slice a1 K1.length c1] :: cel b3 25 [.slice a2 K2.length c2] :: M :: R) (fun x_ => K1.length - x_) 0 (⟨Nat.zero_le _, rfl⟩) (Keep.cons rfl (Keep.cons rfl (Keep.cons rfl (Keep.nil)))) (tO) ?_
  rintro j ⟨hj, hsj⟩
  replace hj : j ≤ K1.length := hj
  replace hsj : sameL kndEq (K1.drop j) (K2.drop j) = sameL kndEq K1 K2 := hsj
  refine g_seq ?_
  refine g_seq ?_
  refine g_region ?_
  refine gl_v rfl (o_move rfl) ?_
  first | refine gl_v rfl (o_fldS rfl) ?_ | refine gl_v rfl (o_fld rfl) ?_
  first | refine gl_v rfl (o_load rfl rfl) ?_ | refine gl_v rfl (o_loadS rfl rfl) ?_ | refine gl_v rfl (o_loadC rfl) ?_
  first | refine gl_v rfl (o_len rfl) ?_ | refine gl_v rfl (o_lenL rfl) ?_
  refine gl_v rfl (o_lss rfl rfl) ?_
  refine gl_nil ?_
  refine ge_then ?_
  refine g_cond rfl (fun hc2 => ?_) (fun hc2 => ?_)
  ·
   replace hc2 := hs_ hc2
   obtain ⟨k, hkx⟩ : ∃ t, K1[j]? = some t := ⟨_, List.getElem?_eq_getElem (show j < K1.length by omega)⟩
   obtain ⟨k', hky⟩ : ∃ t, K2[j]? = some t := ⟨_, List.getElem?_eq_getElem (show j < K2.length by omega)⟩
   obtain ⟨hn3, hn4, hn5⟩ := hk k (List.mem_of_getElem? hkx)
   haveI ic1 : RdA (.slice k.ca k.cases.length k.cc) M k.cases.length (k.cases.flatMap casC) := ⟨fun a => ((h1 _ a).kinds k (List.mem_of_getElem? hkx)).rdc.1⟩
   haveI is1 : RdA (.slice k.sa k.states.length k.sc) M k.states.length (k.states.flatMap staC) := ⟨fun a => ((h1 _ a).kinds k (List.mem_of_getElem? hkx)).rds.1⟩
   haveI ic2 : RdA (.slice k'.ca k'.cases.length k'.cc) M k'.cases.length (k'.cases.flatMap casC) := ⟨fun a => ((h2 _ a).kinds k' (List.mem_of_getElem? hky)).rdc.1⟩
   haveI is2 : RdA (.slice k'.sa k'.states.length k'.sc) M k'.states.length (k'.states.flatMap staC) := ⟨fun a => ((h2 _ a).kinds k' (List.mem_of_getElem? hky)).rds.1⟩
   refine g_skip ?_
   refine ge_then ?_
   refine g_seq ?_
   refine g_block ?_
   refine g_cut (fun act wo => ∃ (b6 b7 : Nat), HasSl Tryz.f15.ntmps [(7, ptr b7 0), (6, ptr b6 0), (5, I64 j), (3, ptr b3 0), (2, ptr b2 0)] act ∧ St W0 (cel b6 51 (kndC k) :: cel b7 51 (kndC k') :: cel b2 25 [.slice a1 K1.length c1] :: cel b3 25 [.slice a2 K2.length c2] :: M :: R) wo) ?_ ?_
   ·
    refine g_treeM [10, 11, 12, 13] [10, 11, 12] (.stab 0 (.stab 1 (.stab 2 (.stab 3 (.stab 4 (.stab 5 (.stab 6 (.stab 7 (.stab 8 (.stab 9 (.eff 10 (.eff 11 (.eff 12 (.eff 13 .nil .nil) .nil) .nil) (.eff 11 (.eff 10 (.eff 12 (.eff 13 .nil .nil) .nil) .nil) .nil)))))))))))) [cel b2 25 [.slice a1 K1.length c1], cel b3 25 [.slice a2 K2.length c2], M] mixed (by kernel_rfl) ?_
    first | refine gt_vs rfl .none rfl (o_fldS rfl) (tO) ?_ | refine gt_vs rfl .none rfl (o_fld rfl) (tO) ?_
    first | refine gt_vs rfl .none rfl (o_load rfl rfl) (tO) ?_ | refine gt_vs rfl .none rfl (o_loadS rfl rfl) (tO) ?_ | refine gt_vs rfl .none rfl (o_loadC rfl) (tO) ?_
    refine gt_vs rfl .none rfl (o_move rfl) (tO) ?_
    refine gt_vs rfl .none rfl (o_idxS rfl rfl (show j < K1.length by omega)) (tO) ?_
    refine gt_vs rfl .none rfl (o_loadSA rfl (flat_take kndC 5 kndC_len hkx) rfl) (tO) ?_
    first | refine gt_vs rfl .none rfl (o_fldS rfl) (tO) ?_ | refine gt_vs rfl .none rfl (o_fld rfl) (tO) ?_
    first | refine gt_vs rfl .none rfl (o_load rfl rfl) (tO) ?_ | refine gt_vs rfl .none rfl (o_loadS rfl rfl) (tO) ?_ | refine gt_vs rfl .none rfl (o_loadC rfl) (tO) ?_
    refine gt_vs rfl .none rfl (o_move rfl) (tO) ?_
    refine gt_vs rfl .none rfl (o_idxS rfl rfl (show j < K2.length by omega)) (tO) ?_
    refine gt_vs rfl .none rfl (o_loadSA rfl (flat_take kndC 5 kndC_len hky) rfl) (tO) ?_
    refine gt_alts ?_ ?_
    ·
     refine gt_n rfl .none rfl (o_alloc) ?_
     rintro _ _ ⟨b6, rfl, rfl⟩
     refine ⟨(fun _ => (tO)), ?_⟩
     refine gt_n rfl .none rfl (o_alloc) ?_
     rintro _ _ ⟨b7, rfl, rfl⟩
     refine ⟨(fun _ => (tO)), ?_⟩
     first | refine gt_u rfl .none (o_storeSA rfl rfl rfl rfl (by simp; omega) (by simp)) (fun _ => (tO)) ?_ | refine gt_u rfl .none (o_storeA rfl rfl rfl rfl rfl) (fun _ => (tO)) ?_
     first | refine gt_u rfl .none (o_storeSA rfl rfl rfl rfl (by simp; omega) (by simp)) (fun hG => absurd hG (by decide)) ?_ | refine gt_u rfl .none (o_storeA rfl rfl rfl rfl rfl) (fun hG => absurd hG (by decide)) ?_
     refine gt_nil ?_
     exact fun act wo hsl st => ⟨b6, b7, hsl.keep (Keep.cons rfl (Keep.cons rfl (Keep.cons rfl (Keep.cons rfl (Keep.cons rfl (Keep.nil)))))), st.imp (tO)⟩
    ·
     refine gt_n rfl .none rfl (o_alloc) ?_
     rintro _ _ ⟨b7, rfl, rfl⟩
     refine ⟨(fun _ => (tO)), ?_⟩
     refine gt_n rfl .none rfl (o_alloc) ?_
     rintro _ _ ⟨b6, rfl, rfl⟩
     refine ⟨(fun _ => (tO)), ?_⟩
     first | refine gt_u rfl .none (o_storeSA rfl rfl rfl rfl (by simp; omega) (by simp)) (fun _ => (tO)) ?_ | refine gt_u rfl .none (o_storeA rfl rfl rfl rfl rfl) (fun _ => (tO)) ?_
     first | refine gt_u rfl .none (o_storeSA rfl rfl rfl rfl (by simp; omega) (by simp)) (fun hG => absurd hG (by decide)) ?_ | refine gt_u rfl .none (o_storeA rfl rfl rfl rfl rfl) (fun hG => absurd hG (by decide)) ?_
     refine gt_nil ?_
     exact fun act wo hsl st => ⟨b6, b7, hsl.keep (Keep.cons rfl (Keep.cons rfl (Keep.cons rfl (Keep.cons rfl (Keep.cons rfl (Keep.nil)))))), st.imp (tO)⟩
   ·
    rintro act wo ⟨b6, b7, hsl, st⟩
    refine g_of ?_ hsl st
    clear hsl st act wo
    refine g_seq ?_
    refine g_seq ?_
    refine g_region ?_
    first | refine gl_v rfl (o_fldS rfl) ?_ | refine gl_v rfl (o_fld rfl) ?_
    first | refine gl_v rfl (o_load rfl rfl) ?_ | refine gl_v rfl (o_loadS rfl rfl) ?_ | refine gl_v rfl (o_loadC rfl) ?_
    first | refine gl_v rfl (o_fldS rfl) ?_ | refine gl_v rfl (o_fld rfl) ?_
    first | refine gl_v rfl (o_load rfl rfl) ?_ | refine gl_v rfl (o_loadS rfl rfl) ?_ | refine gl_v rfl (o_loadC rfl) ?_
    refine gl_v rfl (o_neqs rfl rfl) ?_
    refine gl_v rfl (o_move rfl) ?_
    refine gl_join (d := 70) 31 (.bool (!decide (k.name = k'.name) || !decide (k.limit = k'.limit) || !decide (k.within = k'.within) || !decide ((k.cases.length : Int) = k'.cases.length) || !decide ((k.states.length : Int) = k'.states.length))) ?_ (fun jk70 => ?_)
    rotate_left
    ·
     refine gl_g rfl rfl (fun hc3 => ?_) (fun hc3 => ?_) rfl
     ·
      have hc3' := hc3
      replace hc3' := hs_ hc3'
      first | refine gl_v rfl (o_fldS rfl) ?_ | refine gl_v rfl (o_fld rfl) ?_
      refine gl_gT rfl rfl hc3 ?_
      first | refine gl_v rfl (o_load rfl rfl) ?_ | refine gl_v rfl (o_loadS rfl rfl) ?_ | refine gl_v rfl (o_loadC rfl) ?_
      refine gl_gT rfl rfl hc3 ?_
      first | refine gl_v rfl (o_fldS rfl) ?_ | refine gl_v rfl (o_fld rfl) ?_
      refine gl_gT rfl rfl hc3 ?_
      first | refine gl_v rfl (o_load rfl rfl) ?_ | refine gl_v rfl (o_loadS rfl rfl) ?_ | refine gl_v rfl (o_loadC rfl) ?_
      refine gl_gT rfl rfl hc3 ?_
      refine gl_v rfl (o_neq rfl rfl) ?_
      refine gl_v rfl (o_pickF hc3 rfl rfl) ?_
      refine gl_v rfl (o_move rfl) ?_
      refine gl_g rfl rfl (fun hc4 => ?_) (fun hc4 => ?_) rfl
      ·
       have hc4' := hc4
       replace hc4' := hs_ hc4'
       first | refine gl_v rfl (o_fldS rfl) ?_ | refine gl_v rfl (o_fld rfl) ?_
       refine gl_gT rfl rfl hc4 ?_
       first | refine gl_v rfl (o_load rfl rfl) ?_ | refine gl_v rfl (o_loadS rfl rfl) ?_ | refine gl_v rfl (o_loadC rfl) ?_
       refine gl_gT rfl rfl hc4 ?_
       first | refine gl_v rfl (o_fldS rfl) ?_ | refine gl_v rfl (o_fld rfl) ?_
       refine gl_gT rfl rfl hc4 ?_
       first | refine gl_v rfl (o_load rfl rfl) ?_ | refine gl_v rfl (o_loadS rfl rfl) ?_ | refine gl_v rfl (o_loadC rfl) ?_
       refine gl_gT rfl rfl hc4 ?_
       refine gl_v rfl (o_neq rfl rfl) ?_
       refine gl_v rfl (o_pickF hc4 rfl rfl) ?_
       refine gl_v rfl (o_move rfl) ?_
       refine gl_g rfl rfl (fun hc5 => ?_) (fun hc5 => ?_) rfl
       ·
        have hc5' := hc5
        replace hc5' := hs_ hc5'
        first | refine gl_v rfl (o_fldS rfl) ?_ | refine gl_v rfl (o_fld rfl) ?_
        refine gl_gT rfl rfl hc5 ?_
        first | refine gl_v rfl (o_load rfl rfl) ?_ | refine gl_v rfl (o_loadS rfl rfl) ?_ | refine gl_v rfl (o_loadC rfl) ?_
        refine gl_gT rfl rfl hc5 ?_
        first | refine gl_v rfl (o_len rfl) ?_ | refine gl_v rfl (o_lenL rfl) ?_
        refine gl_gT rfl rfl hc5 ?_
        first | refine gl_v rfl (o_fldS rfl) ?_ | refine gl_v rfl (o_fld rfl) ?_
        refine gl_gT rfl rfl hc5 ?_
        first | refine gl_v rfl (o_load rfl rfl) ?_ | refine gl_v rfl (o_loadS rfl rfl) ?_ | refine gl_v rfl (o_loadC rfl) ?_
        refine gl_gT rfl rfl hc5 ?_
        first | refine gl_v rfl (o_len rfl) ?_ | refine gl_v rfl (o_lenL rfl) ?_
        refine gl_gT rfl rfl hc5 ?_
        refine gl_v rfl (o_neq rfl rfl) ?_
        refine gl_v rfl (o_pickF hc5 rfl rfl) ?_
        refine gl_v rfl (o_move rfl) ?_
        refine gl_g rfl rfl (fun hc6 => ?_) (fun hc6 => ?_) rfl
        ·
         have hc6' := hc6
         replace hc6' := hs_ hc6'
         first | refine gl_v rfl (o_fldS rfl) ?_ | refine gl_v rfl (o_fld rfl) ?_
         refine gl_gT rfl rfl hc6 ?_
         first | refine gl_v rfl (o_load rfl rfl) ?_ | refine gl_v rfl (o_loadS rfl rfl) ?_ | refine gl_v rfl (o_loadC rfl) ?_
         refine gl_gT rfl rfl hc6 ?_
         first | refine gl_v rfl (o_len rfl) ?_ | refine gl_v rfl (o_lenL rfl) ?_
         refine gl_gT rfl rfl hc6 ?_
         first | refine gl_v rfl (o_fldS rfl) ?_ | refine gl_v rfl (o_fld rfl) ?_
         refine gl_gT rfl rfl hc6 ?_
         first | refine gl_v rfl (o_load rfl rfl) ?_ | refine gl_v rfl (o_loadS rfl rfl) ?_ | refine gl_v rfl (o_loadC rfl) ?_
         refine gl_gT rfl rfl hc6 ?_
         first | refine gl_v rfl (o_len rfl) ?_ | refine gl_v rfl (o_lenL rfl) ?_
         refine gl_gT rfl rfl hc6 ?_
         refine gl_v rfl (o_neq rfl rfl) ?_
         refine gl_v rfl (o_pickF hc6 rfl rfl) ?_
         first | exact jk70 _ (KeepS.top (by repeat (first | exact KeepS.refl _ | refine KeepS.push ?_ rfl)) (jval (by first | rfl | (simp only [hc3, hc4, hc5, hc6, Bool.not_true, Bool.not_false, Bool.false_and, Bool.true_and, Bool.true_or, Bool.false_or]; done) | (simp [hc3, hc4, hc5, hc6, ]; done) | simp_all))) | exact gl_imp (tO) (jk70 _ (KeepS.top (by repeat (first | exact KeepS.refl _ | refine KeepS.push ?_ rfl)) (jval (by first | rfl | (simp only [hc3, hc4, hc5, hc6, Bool.not_true, Bool.not_false, Bool.false_and, Bool.true_and, Bool.true_or, Bool.false_or]; done) | (simp [hc3, hc4, hc5, hc6, ]; done) | simp_all))))
        ·
         have hc6' := hc6
         replace hc6' := hs_ hc6'
         simp only [putO]
         refine gl_gF rfl rfl hc6 rfl ?_
         refine gl_gF rfl rfl hc6 rfl ?_
         refine gl_gF rfl rfl hc6 rfl ?_
         refine gl_gF rfl rfl hc6 rfl ?_
         refine gl_gF rfl rfl hc6 rfl ?_
         refine gl_gF rfl rfl hc6 rfl ?_
         refine gl_v rfl (o_pickT hc6 rfl rfl) ?_
         first | exact jk70 _ (KeepS.top (by repeat (first | exact KeepS.refl _ | refine KeepS.push ?_ rfl)) (jval (by first | rfl | (simp only [hc3, hc4, hc5, hc6, Bool.not_true, Bool.not_false, Bool.false_and, Bool.true_and, Bool.true_or, Bool.false_or]; done) | (simp [hc3, hc4, hc5, hc6, ]; done) | simp_all))) | exact gl_imp (tO) (jk70 _ (KeepS.top (by repeat (first | exact KeepS.refl _ | refine KeepS.push ?_ rfl)) (jval (by first | rfl | (simp only [hc3, hc4, hc5, hc6, Bool.not_true, Bool.not_false, Bool.false_and, Bool.true_and, Bool.true_or, Bool.false_or]; done) | (simp [hc3, hc4, hc5, hc6, ]; done) | simp_all))))
       ·
        have hc5' := hc5
        replace hc5' := hs_ hc5'
        simp only [putO]
        refine gl_gF rfl rfl hc5 rfl ?_
        refine gl_gF rfl rfl hc5 rfl ?_
        refine gl_gF rfl rfl hc5 rfl ?_
        refine gl_gF rfl rfl hc5 rfl ?_
        refine gl_gF rfl rfl hc5 rfl ?_
        refine gl_gF rfl rfl hc5 rfl ?_
        refine gl_v rfl (o_pickT hc5 rfl rfl) ?_
        refine gl_v rfl (o_move rfl) ?_
        refine gl_gF rfl rfl rfl rfl ?_
        refine gl_gF rfl rfl rfl rfl ?_
        refine gl_gF rfl rfl rfl rfl ?_
        refine gl_gF rfl rfl rfl rfl ?_
        refine gl_gF rfl rfl rfl rfl ?_
        refine gl_gF rfl rfl rfl rfl ?_
        refine gl_gF rfl rfl rfl rfl ?_
        refine gl_v rfl (o_pickT rfl rfl rfl) ?_
        first | exact jk70 _ (KeepS.top (by repeat (first | exact KeepS.refl _ | refine KeepS.push ?_ rfl)) (jval (by first | rfl | (simp only [hc3, hc4, hc5, Bool.not_true, Bool.not_false, Bool.false_and, Bool.true_and, Bool.true_or, Bool.false_or]; done) | (simp [hc3, hc4, hc5, ]; done) | simp_all))) | exact gl_imp (tO) (jk70 _ (KeepS.top (by repeat (first | exact KeepS.refl _ | refine KeepS.push ?_ rfl)) (jval (by first | rfl | (simp only [hc3, hc4, hc5, Bool.not_true, Bool.not_false, Bool.false_and, Bool.true_and, Bool.true_or, Bool.false_or]; done) | (simp [hc3, hc4, hc5, ]; done) | simp_all))))
      ·
       have hc4' := hc4
       replace hc4' := hs_ hc4'
       simp only [putO]
       refine gl_gF rfl rfl hc4 rfl ?_
       refine gl_gF rfl rfl hc4 rfl ?_
       refine gl_gF rfl rfl hc4 rfl ?_
       refine gl_gF rfl rfl hc4 rfl ?_
       refine gl_v rfl (o_pickT hc4 rfl rfl) ?_
       refine gl_v rfl (o_move rfl) ?_
       refine gl_gF rfl rfl rfl rfl ?_
       refine gl_gF rfl rfl rfl rfl ?_
       refine gl_gF rfl rfl rfl rfl ?_
       refine gl_gF rfl rfl rfl rfl ?_
       refine gl_gF rfl rfl rfl rfl ?_
       refine gl_gF rfl rfl rfl rfl ?_
       refine gl_gF rfl rfl rfl rfl ?_
       refine gl_v rfl (o_pickT rfl rfl rfl) ?_
       refine gl_v rfl (o_move rfl) ?_
       refine gl_gF rfl rfl rfl rfl ?_
       refine gl_gF rfl rfl rfl rfl ?_
       refine gl_gF rfl rfl rfl rfl ?_
       refine gl_gF rfl rfl rfl rfl ?_
       refine gl_gF rfl rfl rfl rfl ?_
       refine gl_gF rfl rfl rfl rfl ?_
       refine gl_gF rfl rfl rfl rfl ?_
       refine gl_v rfl (o_pickT rfl rfl rfl) ?_
       first | exact jk70 _ (KeepS.top (by repeat (first | exact KeepS.refl _ | refine KeepS.push ?_ rfl)) (jval (by first | rfl | (simp only [hc3, hc4, Bool.not_true, Bool.not_false, Bool.false_and, Bool.true_and, Bool.true_or, Bool.false_or]; done) | (simp [hc3, hc4, ]; done) | simp_all))) | exact gl_imp (tO) (jk70 _ (KeepS.top (by repeat (first | exact KeepS.refl _ | refine KeepS.push ?_ rfl)) (jval (by first | rfl | (simp only [hc3, hc4, Bool.not_true, Bool.not_false, Bool.false_and, Bool.true_and, Bool.true_or, Bool.false_or]; done) | (simp [hc3, hc4, ]; done) | simp_all))))
     ·
      have hc3' := hc3
      replace hc3' := hs_ hc3'
      simp only [putO]
      refine gl_gF rfl rfl hc3 rfl ?_
      refine gl_gF rfl rfl hc3 rfl ?_
      refine gl_gF rfl rfl hc3 rfl ?_
      refine gl_gF rfl rfl hc3 rfl ?_
      refine gl_v rfl (o_pickT hc3 rfl rfl) ?_
      refine gl_v rfl (o_move rfl) ?_
      refine gl_gF rfl rfl rfl rfl ?_
      refine gl_gF rfl rfl rfl rfl ?_
      refine gl_gF rfl rfl rfl rfl ?_
      refine gl_gF rfl rfl rfl rfl ?_
      refine gl_gF rfl rfl rfl rfl ?_
      refine gl_v rfl (o_pickT rfl rfl rfl) ?_
      refine gl_v rfl (o_move rfl) ?_
      refine gl_gF rfl rfl rfl rfl ?_
      refine gl_gF rfl rfl rfl rfl ?_
      refine gl_gF rfl rfl rfl rfl ?_
      refine gl_gF rfl rfl rfl rfl ?_
      refine gl_gF rfl rfl rfl rfl ?_
      refine gl_gF rfl rfl rfl rfl ?_
      refine gl_gF rfl rfl rfl rfl ?_
      refine gl_v rfl (o_pickT rfl rfl rfl) ?_
      refine gl_v rfl (o_move rfl) ?_
      refine gl_gF rfl rfl rfl rfl ?_
      refine gl_gF rfl rfl rfl rfl ?_
      refine gl_gF rfl rfl rfl rfl ?_
      refine gl_gF rfl rfl rfl rfl ?_
      refine gl_gF rfl rfl rfl rfl ?_
      refine gl_gF rfl rfl rfl rfl ?_
      refine gl_gF rfl rfl rfl rfl ?_
      refine gl_v rfl (o_pickT rfl rfl rfl) ?_
      first | exact jk70 _ (KeepS.top (by repeat (first | exact KeepS.refl _ | refine KeepS.push ?_ rfl)) (jval (by first | rfl | (simp only [hc3, Bool.not_true, Bool.not_false, Bool.false_and, Bool.true_and, Bool.true_or, Bool.false_or]; done) | (simp [hc3, ]; done) | simp_all))) | exact gl_imp (tO) (jk70 _ (KeepS.top (by repeat (first | exact KeepS.refl _ | refine KeepS.push ?_ rfl)) (jval (by first | rfl | (simp only [hc3, Bool.not_true, Bool.not_false, Bool.false_and, Bool.true_and, Bool.true_or, Bool.false_or]; done) | (simp [hc3, ]; done) | simp_all))))
    refine gl_nil ?_
    refine ge_then ?_
    refine g_cond rfl (fun hc7 => ?_) (fun hc7 => ?_)
    ·
     replace hc7 := hs_ hc7
     have hg := kndEq_ne hc7
     refine g_seq ?_
     refine g_region ?_
     refine gl_v rfl (o_assign rfl) ?_
     refine gl_nil ?_
     refine ge_then ?_
     refine g_ret ?_
     refine ge_then_ret ?_
     refine ge_block_ret ?_
     refine ge_then_ret ?_
     refine ge_then_ret ?_
     refine ge_block_ret ?_
     refine ge_then_ret ?_
     refine ret1 (.inl rfl) rfl rfl _ (⟨by rw [← hsj, sameL_drop hkx hky, hg]; rfl, rfl⟩) (tO)
    ·
     replace hc7 := hs_ hc7
     obtain ⟨hle, hle2, hg⟩ := kndEq_if hc7
     refine g_skip ?_
     refine ge_then ?_
     refine g_seq ?_
     refine g_seq ?_
     refine g_region ?_
     refine gl_v rfl (o_assign rfl) ?_
     refine gl_nil ?_
     refine ge_then ?_
     refine g_block ?_
     refine g_loop (ι := Nat) (fun x_ => x_ ≤ k.cases.length ∧ sameL (fun a b => decide (a = b)) (k.cases.drop x_) (k'.cases.drop x_) = sameL (fun a b => decide (a = b)) k.cases k'.cases) (fun x_ => [(8, I64 x_), (7, ptr b7 0), (6, ptr b6 0), (5, I64 j), (3, ptr b3 0), (2, ptr b2 0)]) (fun _ => cel b6 51 (kndC k) :: cel b7 51 (kndC k') :: cel b2 25 [.slice a1 K1.length c1] :: cel b3 25 [.slice a2 K2.length c2] :: M :: R) (fun x_ => k.cases.length - x_) 0 (⟨Nat.zero_le _, rfl⟩) (Keep.cons rfl (Keep.cons rfl (Keep.cons rfl (Keep.cons rfl (Keep.cons rfl (Keep.cons rfl (Keep.nil))))))) (tO) ?_
     rintro q ⟨hq, hsq⟩
     replace hq : q ≤ k.cases.length := hq
     replace hsq : sameL (fun a b => decide (a = b)) (k.cases.drop q) (k'.cases.drop q) = sameL (fun a b => decide (a = b)) k.cases k'.cases := hsq
     refine g_seq ?_
     refine g_seq ?_
     refine g_region ?_
     refine gl_v rfl (o_move rfl) ?_
     first | refine gl_v rfl (o_fldS rfl) ?_ | refine gl_v rfl (o_fld rfl) ?_
     first | refine gl_v rfl (o_load rfl rfl) ?_ | refine gl_v rfl (o_loadS rfl rfl) ?_ | refine gl_v rfl (o_loadC rfl) ?_
     first | refine gl_v rfl (o_len rfl) ?_ | refine gl_v rfl (o_lenL rfl) ?_
     refine gl_v rfl (o_lss rfl rfl) ?_
     refine gl_nil ?_
     refine ge_then ?_
     refine g_cond rfl (fun hc8 => ?_) (fun hc8 => ?_)
     ·
      replace hc8 := hs_ hc8
      obtain ⟨e, he⟩ : ∃ t, k.cases[q]? = some t := ⟨_, List.getElem?_eq_getElem (show q < k.cases.length by omega)⟩
      obtain ⟨e', he'⟩ : ∃ t, k'.cases[q]? = some t := ⟨_, List.getElem?_eq_getElem (show q < k'.cases.length by omega)⟩
      refine g_skip ?_
      refine ge_then ?_
      refine g_seq ?_
      refine g_block ?_
      refine g_seq ?_
      refine g_treeM [] [] (.loc 0 (.loc 1 (.loc 2 (.loc 3 (.loc 4 (.loc 5 (.loc 6 (.loc 7 (.loc 8 (.loc 9 (.loc 10 .nil))))))))))) [cel b6 51 (kndC k), cel b7 51 (kndC k'), M] mixed (by kernel_rfl) ?_
      first | refine gt_v rfl .none rfl (o_fldS rfl) ?_ | refine gt_v rfl .none rfl (o_fld rfl) ?_
      first | refine gt_v rfl .none rfl (o_load rfl rfl) ?_ | refine gt_v rfl .none rfl (o_loadS rfl rfl) ?_ | refine gt_v rfl .none rfl (o_loadC rfl) ?_
      refine gt_v rfl .none rfl (o_move rfl) ?_
      refine gt_v rfl .none rfl (o_idxS rfl rfl (show q < k.cases.length by omega)) ?_
      refine gt_v rfl .none rfl (o_loadSA rfl (flat_take casC 2 casC_len he) rfl) ?_
      first | refine gt_v rfl .none rfl (o_fldS rfl) ?_ | refine gt_v rfl .none rfl (o_fld rfl) ?_
      first | refine gt_v rfl .none rfl (o_load rfl rfl) ?_ | refine gt_v rfl .none rfl (o_loadS rfl rfl) ?_ | refine gt_v rfl .none rfl (o_loadC rfl) ?_
      refine gt_v rfl .none rfl (o_move rfl) ?_
      refine gt_v rfl .none rfl (o_idxS rfl rfl (show q < k'.cases.length by omega)) ?_
      refine gt_v rfl .none rfl (o_loadSA rfl (flat_take casC 2 casC_len he') rfl) ?_
      refine gt_v rfl .none rfl (o_is (c := !decide (e = e')) (by rw [flatEq_Cas]) (o_neqA (xs := casC e) (ys := casC e') rfl rfl rfl rfl)) ?_
      refine gt_nil ?_
      refine ge_then ?_
      refine g_cond rfl (fun hc9 => ?_) (fun hc9 => ?_)
      ·
       replace hc9 := hs_ hc9
       have hc2 : decide (e = e') = false := by simpa using hc9
       refine g_seq ?_
       refine g_region ?_
       refine gl_v rfl (o_assign rfl) ?_
       refine gl_nil ?_
       refine ge_then ?_
       refine g_ret ?_
       refine ge_block_ret ?_
       refine ge_then_ret ?_
       refine ge_then_ret ?_
       refine ge_block_ret ?_
       refine ge_then_ret ?_
       refine ge_block_ret ?_
       refine ge_then_ret ?_
       refine ge_then_ret ?_
       refine ge_block_ret ?_
       refine ge_then_ret ?_
       refine ret1 (.inl rfl) rfl rfl _ (⟨by rw [← hsj, sameL_drop hkx hky, hg, ← hsq, sameL_drop he he', hc2]; rfl, rfl⟩) (tO)
      ·
       replace hc9 := hs_ hc9
       have hc2 : decide (e = e') = true := by simpa using hc9
       refine g_skip ?_
       refine ge_block ?_
       refine ge_then ?_
       refine g_region ?_
       refine gl_v rfl (o_move rfl) ?_
       refine gl_v rfl (o_addR ((q + 1 : Nat) : Int) (by rw [wr_i64 (by omega)]; omega) rfl rfl) ?_
       refine gl_v rfl (o_assign rfl) ?_
       refine gl_nil ?_
       refine ge_round (q + 1) ⟨show q + 1 ≤ k.cases.length by omega, by rw [← hsq, sameL_drop he he', hc2]; rfl⟩ (by show k.cases.length - (q + 1) < k.cases.length - q; omega) (Keep.cons rfl (Keep.cons rfl (Keep.cons rfl (Keep.cons rfl (Keep.cons rfl (Keep.cons rfl (Keep.nil))))))) (tO)
     ·
      replace hc8 := hs_ hc8
      obtain rfl : q = k.cases.length := by omega
      rw [List.drop_length, List.drop_eq_nil_of_le (by omega)] at hsq
      have hcc : sameL (fun a b => decide (a = b)) k.cases k'.cases = true := by rw [← hsq]; rfl
      refine g_exit ?_
      refine ge_then_exit ?_
      refine ge_then_exit ?_
      refine ge_block_exit ?_
      refine ge_then ?_
      refine g_seq ?_
      refine g_region ?_
      refine gl_v rfl (o_assign rfl) ?_
      refine gl_nil ?_
      refine ge_then ?_
      refine g_block ?_
      refine g_loop (ι := Nat) (fun x_ => x_ ≤ k.states.length ∧ sameL staEq (k.states.drop x_) (k'.states.drop x_) = sameL staEq k.states k'.states) (fun x_ => [(9, I64 x_), (7, ptr b7 0), (6, ptr b6 0), (5, I64 j), (3, ptr b3 0), (2, ptr b2 0)]) (fun _ => cel b6 51 (kndC k) :: cel b7 51 (kndC k') :: cel b2 25 [.slice a1 K1.length c1] :: cel b3 25 [.slice a2 K2.length c2] :: M :: R) (fun x_ => k.states.length - x_) 0 (⟨Nat.zero_le _, rfl⟩) (Keep.cons rfl (Keep.cons rfl (Keep.cons rfl (Keep.cons rfl (Keep.cons rfl (Keep.cons rfl (Keep.nil))))))) (tO) ?_
      rintro q ⟨hq, hsq⟩
      replace hq : q ≤ k.states.length := hq
      replace hsq : sameL staEq (k.states.drop q) (k'.states.drop q) = sameL staEq k.states k'.states := hsq
      refine g_seq ?_
      refine g_seq ?_
      refine g_region ?_
      refine gl_v rfl (o_move rfl) ?_
      first | refine gl_v rfl (o_fldS rfl) ?_ | refine gl_v rfl (o_fld rfl) ?_
      first | refine gl_v rfl (o_load rfl rfl) ?_ | refine gl_v rfl (o_loadS rfl rfl) ?_ | refine gl_v rfl (o_loadC rfl) ?_
      first | refine gl_v rfl (o_len rfl) ?_ | refine gl_v rfl (o_lenL rfl) ?_
      refine gl_v rfl (o_lss rfl rfl) ?_
      refine gl_nil ?_
      refine ge_then ?_
      refine g_cond rfl (fun hc10 => ?_) (fun hc10 => ?_)
      ·
       replace hc10 := hs_ hc10
       obtain ⟨s, hs⟩ : ∃ t, k.states[q]? = some t := ⟨_, List.getElem?_eq_getElem (show q < k.states.length by omega)⟩
       obtain ⟨s', hs'⟩ : ∃ t, k'.states[q]? = some t := ⟨_, List.getElem?_eq_getElem (show q < k'.states.length by omega)⟩
       obtain ⟨hn6, hn7⟩ := hn5 s (List.mem_of_getElem? hs)
       refine g_skip ?_
       refine ge_then ?_
       refine g_seq ?_
       refine g_block ?_
       refine g_seq ?_
       refine g_treeM [10] [] (.loc 0 (.loc 1 (.loc 2 (.loc 3 (.loc 4 (.loc 5 (.loc 6 (.loc 7 (.loc 8 (.loc 9 (.eff 10 (.loc 11 .nil) .nil))))))))))) [cel b6 51 (kndC k), cel b7 51 (kndC k'), M] mixed (by kernel_rfl) ?_
       first | refine gt_v rfl .none rfl (o_fldS rfl) ?_ | refine gt_v rfl .none rfl (o_fld rfl) ?_
       first | refine gt_v rfl .none rfl (o_load rfl rfl) ?_ | refine gt_v rfl .none rfl (o_loadS rfl rfl) ?_ | refine gt_v rfl .none rfl (o_loadC rfl) ?_
       refine gt_v rfl .none rfl (o_move rfl) ?_
       refine gt_v rfl .none rfl (o_idxS rfl rfl (show q < k.states.length by omega)) ?_
       refine gt_v rfl .none rfl (o_loadSA rfl (flat_take staC 2 staC_len hs) rfl) ?_
       first | refine gt_v rfl .none rfl (o_fldS rfl) ?_ | refine gt_v rfl .none rfl (o_fld rfl) ?_
       first | refine gt_v rfl .none rfl (o_load rfl rfl) ?_ | refine gt_v rfl .none rfl (o_loadS rfl rfl) ?_ | refine gt_v rfl .none rfl (o_loadC rfl) ?_
       refine gt_v rfl .none rfl (o_move rfl) ?_
       refine gt_v rfl .none rfl (o_idxS rfl rfl (show q < k'.states.length by omega)) ?_
       refine gt_v rfl .none rfl (o_loadSA rfl (flat_take staC 2 staC_len hs') rfl) ?_
       refine gt_c rfl .none rfl (o_call rfl (rsta_spec M s s' (fun h a => ((h1 h a).kinds k (List.mem_of_getElem? hkx)).states s (List.mem_of_getElem? hs)) (fun h a => ((h2 h a).kinds k' (List.mem_of_getElem? hky)).states s' (List.mem_of_getElem? hs')) hn6 hn7) pA) ?_
       rintro _ R ⟨_, ⟨rfl, rfl⟩, rfl⟩
       try simp only [List.cons_append, List.nil_append]
       refine ⟨(fun hG => absurd hG (by decide)), ?_⟩
       refine gt_v rfl .none rfl (o_not rfl) ?_
       refine gt_nil ?_
       refine ge_then ?_
       refine g_cond rfl (fun hc11 => ?_) (fun hc11 => ?_)
       ·
        replace hc11 := hs_ hc11
        have hc2 : staEq s s' = false := by simpa using hc11
        refine g_seq ?_
        refine g_region ?_
        refine gl_v rfl (o_assign rfl) ?_
        refine gl_nil ?_
        refine ge_then ?_
        refine g_ret ?_
        refine ge_block_ret ?_
        refine ge_then_ret ?_
        refine ge_then_ret ?_
        refine ge_block_ret ?_
        refine ge_block_ret ?_
        refine ge_then_ret ?_
        refine ge_then_ret ?_
        refine ge_block_ret ?_
        refine ge_then_ret ?_
        refine ret1 (.inl rfl) rfl rfl _ (⟨by rw [← hsj, sameL_drop hkx hky, hg, hcc, ← hsq, sameL_drop hs hs', hc2]; rfl, rfl⟩) (tO)
       ·
        replace hc11 := hs_ hc11
        have hc2 : staEq s s' = true := by simpa using hc11
        refine g_skip ?_
        refine ge_block ?_
        refine ge_then ?_
        refine g_region ?_
        refine gl_v rfl (o_move rfl) ?_
        refine gl_v rfl (o_addR ((q + 1 : Nat) : Int) (by rw [wr_i64 (by omega)]; omega) rfl rfl) ?_
        refine gl_v rfl (o_assign rfl) ?_
        refine gl_nil ?_
        refine ge_round (q + 1) ⟨show q + 1 ≤ k.states.length by omega, by rw [← hsq, sameL_drop hs hs', hc2]; rfl⟩ (by show k.states.length - (q + 1) < k.states.length - q; omega) (Keep.cons rfl (Keep.cons rfl (Keep.cons rfl (Keep.cons rfl (Keep.cons rfl (Keep.cons rfl (Keep.nil))))))) (tO)
      ·
       replace hc10 := hs_ hc10
       obtain rfl : q = k.states.length := by omega
       rw [List.drop_length, List.drop_eq_nil_of_le (by omega)] at hsq
       have hrw : kndEq k k' = true := by rw [hg, hcc, ← hsq]; rfl
       refine g_exit ?_
       refine ge_then_exit ?_
       refine ge_then_exit ?_
       refine ge_block_exit ?_
       refine ge_block ?_
       refine ge_then ?_
       refine g_region ?_
       refine gl_v rfl (o_move rfl) ?_
       refine gl_v rfl (o_addR ((j + 1 : Nat) : Int) (by rw [wr_i64 (by omega)]; omega) rfl rfl) ?_
       refine gl_v rfl (o_assign rfl) ?_
       refine gl_nil ?_
       refine ge_round (j + 1) ⟨show j + 1 ≤ K1.length by omega, by rw [← hsj, sameL_drop hkx hky, hrw]; rfl⟩ (by show K1.length - (j + 1) < K1.length - j; omega) (Keep.cons rfl (Keep.cons rfl (Keep.cons rfl (Keep.nil)))) (tO)
  ·
   replace hc2 := hs_ hc2
   obtain rfl : j = K1.length := by omega
   rw [List.drop_length, List.drop_eq_nil_of_le (by omega)] at hsj
   refine g_exit ?_
   refine ge_then_exit ?_
   refine ge_then_exit ?_
   refine ge_block_exit ?_
   refine ge_then ?_
   refine g_seq ?_
   refine g_region ?_
   refine gl_v rfl (o_assign rfl) ?_
   refine gl_nil ?_
   refine ge_then ?_
   refine g_ret ?_
   refine ret1 (.inl rfl) rfl rfl _ (⟨by rw [← hsj]; rfl, rfl⟩) (tO)

end Go.Proofs.YtgkjnilckmminaaGreatDoor.L
