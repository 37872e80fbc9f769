/-
  Script: an event written. Own work, printed in part by a program of its own.
-/
import Derived.Test.YtcglaiacohkaeaaDoorScrF
set_option linter.unusedSimpArgs false
set_option linter.unusedVariables false
set_option linter.unusedSectionVars false
namespace Go.Proofs.YtcglaiacohkaeaaDoor.L
open Go.L Go.L.Lx Go.L.Pa Go.L.Sc
abbrev i64R (n : Int) : Prop := -9223372036854775808 ≤ n ∧ n ≤ 9223372036854775807
structure EvtR (e : Evt) : Prop where
  actor : i64R e.actor
  from' : i64R e.from'
  «to» : i64R e.to
  n : i64R e.n
  why : i64R e.why
  id : e.id < 18446744073709551616
  name : e.name.length ≤ 1048576
theorem itoa_nat (n : Nat) : itoaB (n : Int) = dec n := by unfold itoaB; rw [if_neg (by omega), Int.toNat_natCast]
theorem id_len {n : Nat} (h : n < 18446744073709551616) : (dec n).length ≤ 20 := by have := dec_len n 19 (by omega); omega
theorem join_len {c : UInt8} {m : Nat} : ∀ {ws : List By}, (∀ w ∈ ws, w.length ≤ m) → (joinC c ws).length ≤ ws.length * (m + 1)
  | [], _ => Nat.zero_le _
  | [w], h => by
    have := h w List.mem_cons_self
    show (w ++ []).length ≤ 1 * (m + 1)
    rw [List.append_nil]; omega
  | w :: v :: ws, h => by
    have h1 := h w List.mem_cons_self
    have h2 := join_len (c := c) (ws := v :: ws) (fun x hx => h x (List.mem_cons_of_mem _ hx))
    rw [joinC_cons]
    simp only [List.length_append, List.length_cons] at h2 ⊢
    have : (ws.length + 1 + 1) * (m + 1) = (ws.length + 1) * (m + 1) + (m + 1) := by rw [Nat.add_mul]; omega
    omega
theorem field_len {e : Evt} (h : EvtR e) (c : UInt8) : (fieldV e c).length ≤ 1048576 := by
  unfold fieldV
  split
  · decide
  · split
    · exact h.name
    · have : ∀ n, i64R n → (itoaB n).length ≤ 1048576 := fun n hn => by have := itoa_len hn; omega
      split
      · rw [itoa_nat]; have := id_len h.id; omega
      · split
        · exact this _ h.actor
        · split
          · exact this _ h.from'
          · split
            · exact this _ h.to
            · split
              · exact this _ h.why
              · exact this _ h.n
theorem form_bad {k : Int} (h : ¬ (1 ≤ k ∧ k ≤ 15)) : formV k = ([], []) := by unfold formV; rw [if_neg (by omega), if_neg (by omega), if_neg (by omega), if_neg (by omega), if_neg (by omega), if_neg (by omega), if_neg (by omega), if_neg (by omega), if_neg (by omega), if_neg (by omega), if_neg (by omega), if_neg (by omega), if_neg (by omega), if_neg (by omega), if_neg (by omega)]
theorem form_len (k : Int) : (formV k).1.length ≤ 20 ∧ (formV k).2.length ≤ 5 := by
  by_cases h : 1 ≤ k ∧ k ≤ 15
  · obtain ⟨n, rfl⟩ : ∃ n : Nat, k = n := ⟨k.toNat, by omega⟩
    have : ∀ n : Nat, n < 16 → (formV n).1.length ≤ 20 ∧ (formV n).2.length ≤ 5 := by decide
    exact this n (by omega)
  · rw [form_bad h]; decide
theorem candV_len {e : Evt} (h : EvtR e) : (candV e).length ≤ 10000000 := by
  unfold candV
  have hf := form_len e.kind
  refine Nat.le_trans (join_len (m := 1048576) ?_) ?_
  · intro w hw
    rcases List.mem_append.1 hw with hw | hw
    · rcases List.mem_cons.1 hw with rfl | hw
      · omega
      · obtain ⟨c, _, rfl⟩ := List.mem_map.1 hw; exact field_len h c
    · split at hw
      · rw [List.mem_singleton.1 hw]; decide
      · cases hw
  · have : (if e.kind = 2 ∧ e.timed = true then [wTimed] else []).length ≤ 1 := by split <;> decide
    simp only [List.length_append, List.length_cons, List.length_map] at this ⊢
    omega
theorem join_kit (ws : List By) : joinB ws [32] = joinC 32 ws := by
  unfold joinB
  induction ws with
  | nil => rfl
  | cons w ws ih =>
    cases ws with
    | nil => simp [Lib.join, joinC]
    | cons v ws => rw [joinC_cons, ← ih]; simp [Lib.join]
theorem cand_form {e : Evt} {k : Nat} (h : e.kind = k) {ws : List By} (hf : (formV k).1 :: (formV k).2.map (fieldV e) ++ (if (k : Int) = 2 ∧ e.timed = true then [wTimed] else []) = ws) : joinC 32 ws = candV e := by unfold candV; rw [h, hf]
theorem candV_bad {e : Evt} (h : ¬ (1 ≤ e.kind ∧ e.kind ≤ 15)) : lineV e = none := by
  have hf : formV e.kind = ([], []) := form_bad h
  have hc : candV e = [] := by unfold candV; rw [hf, if_neg (fun h2 => by have := h2.1; omega)]; rfl
  unfold lineV
  rw [hc, show readV [] = none from rfl, if_neg (by simp)]
theorem flatEq_evt (x y : Evt) : flatEq (evtC x) (evtC y) = decide (x = y) := by
  cases x; cases y
  rw [Bool.eq_iff_iff, decide_eq_true_eq]
  simp [flatEq, evtC, S_toList, and_assoc, Int.ofNat_inj]
theorem rd_cases (l : By) (e : Evt) : readV l = none ∨ (∃ e', readV l = some e' ∧ ¬ e' = e) ∨ readV l = some e := by
  cases h : readV l with
  | none => exact .inl rfl
  | some e' =>
    by_cases h2 : e' = e
    · exact .inr (.inr (by rw [h2]))
    · exact .inr (.inl ⟨e', rfl, h2⟩)

theorem num1 {W : World} (hG : Gok W) (p b : Nat) (ws : List By) (x0 : Int) (h0 : i64R x0) (h9 : ws.length ≤ 900) : FnS Tryd.prog 35 [.slice (some ⟨b, 0, none⟩) 1 1, ptr p 0] [wl p ws, cel b 3 [I64 x0], base W] (fun u Bs => u = .tuple #[] ∧ Bs = [wl p (ws ++ [itoaB x0]), cel b 3 [I64 x0], base W]) :=
  haveI : RdA (.slice (some ⟨b, 0, none⟩) 1 1) (cel b 3 [I64 x0]) ([x0] : List Int).length (isC [x0]) := lit_rda
  num_spec hG p ws (.slice (some ⟨b, 0, none⟩) 1 1) (cel b 3 [I64 x0]) [x0] (by simp; omega) (by simp; omega)

theorem num2 {W : World} (hG : Gok W) (p b : Nat) (ws : List By) (x0 x1 : Int) (h0 : i64R x0) (h1 : i64R x1) (h9 : ws.length ≤ 900) : FnS Tryd.prog 35 [.slice (some ⟨b, 0, none⟩) 2 2, ptr p 0] [wl p ws, cel b 3 [I64 x0, I64 x1], base W] (fun u Bs => u = .tuple #[] ∧ Bs = [wl p (ws ++ [itoaB x0, itoaB x1]), cel b 3 [I64 x0, I64 x1], base W]) :=
  haveI : RdA (.slice (some ⟨b, 0, none⟩) 2 2) (cel b 3 [I64 x0, I64 x1]) ([x0, x1] : List Int).length (isC [x0, x1]) := lit_rda
  num_spec hG p ws (.slice (some ⟨b, 0, none⟩) 2 2) (cel b 3 [I64 x0, I64 x1]) [x0, x1] (by simp; omega) (by simp; omega)

theorem num3 {W : World} (hG : Gok W) (p b : Nat) (ws : List By) (x0 x1 x2 : Int) (h0 : i64R x0) (h1 : i64R x1) (h2 : i64R x2) (h9 : ws.length ≤ 900) : FnS Tryd.prog 35 [.slice (some ⟨b, 0, none⟩) 3 3, ptr p 0] [wl p ws, cel b 3 [I64 x0, I64 x1, I64 x2], base W] (fun u Bs => u = .tuple #[] ∧ Bs = [wl p (ws ++ [itoaB x0, itoaB x1, itoaB x2]), cel b 3 [I64 x0, I64 x1, I64 x2], base W]) :=
  haveI : RdA (.slice (some ⟨b, 0, none⟩) 3 3) (cel b 3 [I64 x0, I64 x1, I64 x2]) ([x0, x1, x2] : List Int).length (isC [x0, x1, x2]) := lit_rda
  num_spec hG p ws (.slice (some ⟨b, 0, none⟩) 3 3) (cel b 3 [I64 x0, I64 x1, I64 x2]) [x0, x1, x2] (by simp; omega) (by simp; omega)

set_option maxRecDepth 8000 in
set_option maxHeartbeats 3000000 in
theorem Event_spec {W : World} (hG : Gok W) (hm : ∃ m, W.cell? ⟨Tryd.spTm_ren.g 1, 0, none⟩ = some (.int .i64 m)) (e : Evt) (hr : EvtR e) : FnS Tryd.prog 13 [.agg (evtC e).toArray] [base W] (fun u Bs => u = (match lineV e with | some s => Value.tuple #[S s, I64 0] | none => Value.tuple #[S [], I64 1]) ∧ Bs = [base W]) := by
 refine fn_body Tryd.func13 rfl rfl rfl ?_
 intro W0 R
 simp only [List.zipIdx_cons, List.zipIdx_nil, List.map_cons, List.map_nil, Nat.zero_add, Nat.reduceAdd, List.cons_append, List.nil_append]
 have hkm : (evtC e).length = 9 := rfl
 have hcl := candV_len hr
 refine g_seq ?_
 refine g_region ?_
 refine gl_n rfl (o_boxA rfl) ?_
 rintro _ _ ⟨b1, rfl, rfl⟩
 refine gl_v rfl (o_assign rfl) ?_
 refine gl_v rfl (o_assign rfl) ?_
 refine gl_nil ?_
 refine ge_then ?_
 refine g_seq ?_
 refine g_seq ?_
 refine g_region ?_
 first | refine gl_v rfl (o_fldS rfl) ?_ | refine gl_v rfl (o_fld rfl) ?_
 first | refine gl_v rfl (o_load rfl rfl) ?_ | refine gl_v rfl (o_loadS rfl rfl) ?_ | refine gl_v rfl (o_loadC rfl) ?_
 refine gl_v rfl (o_lss rfl rfl) ?_
 refine gl_v rfl (o_move rfl) ?_
 refine gl_join (d := 18) 4 (.bool (decide (e.kind < 1) || decide (15 < e.kind))) ?_ (fun jk18 => ?_)
 rotate_left
 ·
  refine gl_g rfl rfl (fun hc1 => ?_) (fun hc1 => ?_) rfl
  ·
   have hc1' := hc1
   replace hc1' := hs_ hc1'
   first | refine gl_v rfl (o_fldS rfl) ?_ | refine gl_v rfl (o_fld rfl) ?_
   refine gl_gT rfl rfl hc1 ?_
   first | refine gl_v rfl (o_load rfl rfl) ?_ | refine gl_v rfl (o_loadS rfl rfl) ?_ | refine gl_v rfl (o_loadC rfl) ?_
   refine gl_gT rfl rfl hc1 ?_
   refine gl_v rfl (o_gtr rfl rfl) ?_
   refine gl_v rfl (o_pickF hc1 rfl rfl) ?_
   first | exact jk18 _ (KeepS.top (by repeat (first | exact KeepS.refl _ | refine KeepS.push ?_ rfl)) (jval (by first | rfl | (simp only [hc1, Bool.not_true, Bool.not_false, Bool.false_and, Bool.true_and, Bool.true_or, Bool.false_or]; done) | (simp [hc1]; done) | simp_all))) | exact gl_imp (tO) (jk18 _ (KeepS.top (by repeat (first | exact KeepS.refl _ | refine KeepS.push ?_ rfl)) (jval (by first | rfl | (simp only [hc1, Bool.not_true, Bool.not_false, Bool.false_and, Bool.true_and, Bool.true_or, Bool.false_or]; done) | (simp [hc1]; done) | simp_all))))
  ·
   have hc1' := hc1
   replace hc1' := hs_ hc1'
   simp only [putO]
   refine gl_gF rfl rfl hc1 rfl ?_
   refine gl_gF rfl rfl hc1 rfl ?_
   refine gl_v rfl (o_pickT hc1 rfl rfl) ?_
   first | exact jk18 _ (KeepS.top (by repeat (first | exact KeepS.refl _ | refine KeepS.push ?_ rfl)) (jval (by first | rfl | (simp only [hc1, Bool.not_true, Bool.not_false, Bool.false_and, Bool.true_and, Bool.true_or, Bool.false_or]; done) | (simp [hc1]; done) | simp_all))) | exact gl_imp (tO) (jk18 _ (KeepS.top (by repeat (first | exact KeepS.refl _ | refine KeepS.push ?_ rfl)) (jval (by first | rfl | (simp only [hc1, Bool.not_true, Bool.not_false, Bool.false_and, Bool.true_and, Bool.true_or, Bool.false_or]; done) | (simp [hc1]; done) | simp_all))))
 refine gl_nil ?_
 refine ge_then ?_
 refine g_cond rfl (fun hc2 => ?_) (fun hc2 => ?_)
 ·
  replace hc2 := hs_ hc2
  have hbad : ¬ (1 ≤ e.kind ∧ e.kind ≤ 15) := by have h9 := hc2; simp at h9; omega
  refine g_seq ?_
  refine g_region ?_
  refine gl_v rfl (o_assign rfl) ?_
  refine gl_v rfl (o_assign rfl) ?_
  refine gl_nil ?_
  refine ge_then ?_
  refine g_ret ?_
  refine ge_then_ret ?_
  refine ret2 (.inl rfl) rfl rfl rfl [base W] (⟨by rw [candV_bad hbad], rfl⟩) (tO)
 ·
  replace hc2 := hs_ hc2
  have hgood : 1 ≤ e.kind ∧ e.kind ≤ 15 := by have h9 := hc2; simp at h9; omega
  obtain ⟨k, hk⟩ : ∃ k : Nat, e.kind = k := ⟨e.kind.toNat, by omega⟩
  refine g_skip ?_
  refine ge_then ?_
  refine g_cut (fun act wo => ∃ b4 : Nat, HasSl Tryd.f13.ntmps [(4, ptr b4 0), (1, ptr b1 0)] act ∧ St W0 (wl b4 [vb k] :: cel b1 37 (evtC e) :: base W :: R) wo) ?_ ?_
  ·
   refine g_treeM [0, 4, 5, 6] [0, 5] (.stab 1 (.stab 2 (.eff 0 (.stab 3 (.eff 4 (.eff 5 (.eff 6 .nil .nil) .nil) (.eff 5 (.eff 4 (.eff 6 .nil .nil) .nil) .nil))) (.eff 5 (.eff 0 (.loc 3 (.eff 4 (.eff 6 .nil .nil) .nil)) .nil) .nil)))) [cel b1 37 (evtC e)] mixed (by kernel_rfl) ?_
   first | refine gt_vs rfl .none rfl (o_fldS rfl) (tO) ?_ | refine gt_vs rfl .none rfl (o_fld rfl) (tO) ?_
   first | refine gt_vs rfl .none rfl (o_load rfl rfl) (tO) ?_ | refine gt_vs rfl .none rfl (o_loadS rfl rfl) (tO) ?_ | refine gt_vs rfl .none rfl (o_loadC rfl) (tO) ?_
   refine gt_alts ?_ ?_
   ·
    refine gt_c rfl .none rfl (o_call rfl (verbs_spec) pA) ?_
    rintro _ R ⟨_, ⟨rfl, rfl⟩, rfl⟩
    try simp only [List.cons_append, List.nil_append]
    refine ⟨(fun _ => (tO)), ?_⟩
    refine gt_vs rfl .none rfl (o_indexV (kk := .i64) (i := k) rfl rfl (by rw [← hk]; rfl) (by omega) (verb_at (by omega))) (tO) ?_
    refine gt_alts ?_ ?_
    ·
     first | refine gt_n rfl .none rfl (o_buildS1 rfl rfl rfl) ?_ | refine gt_n rfl .none rfl (o_buildS1A rfl rfl rfl rfl) ?_ | refine gt_n rfl .none rfl (o_buildS rfl rfl rfl rfl) ?_
     rintro _ _ ⟨b23, rfl, rfl⟩
     refine ⟨(fun hG => absurd hG (by decide)), ?_⟩
     refine gt_n rfl .none rfl (o_alloc) ?_
     rintro _ _ ⟨b4, rfl, rfl⟩
     refine ⟨(fun _ => (tO)), ?_⟩
     first | refine gt_u rfl .none (o_store rfl rfl rfl rfl) (fun hG => absurd hG (by decide)) ?_ | refine gt_u rfl .none (o_storeS rfl rfl rfl (by first | assumption | omega | simp)) (fun hG => absurd hG (by decide)) ?_
     refine gt_nil ?_
     exact fun act wo hsl st => ⟨b4, hsl.keep (Keep.cons rfl (Keep.cons rfl (Keep.nil))), st.imp (fun h s => wl_close (ws := [vb k]) (some ⟨b23, 0, none⟩) 1 (As := cel b4 63 [.slice (some ⟨b23, 0, none⟩) 1 1] :: cel b23 9 [S (vb k)] :: cel b1 37 (evtC e) :: base W :: R) (fun h s => Sat.tail (fun h s => own_lit rfl (show 1 ≤ maxLen by unfold maxLen; omega) h s) s) h ((tO) h s))⟩
    ·
     refine gt_n rfl .none rfl (o_alloc) ?_
     rintro _ _ ⟨b4, rfl, rfl⟩
     refine ⟨(fun _ => (tO)), ?_⟩
     first | refine gt_n rfl .none rfl (o_buildS1 rfl rfl rfl) ?_ | refine gt_n rfl .none rfl (o_buildS1A rfl rfl rfl rfl) ?_ | refine gt_n rfl .none rfl (o_buildS rfl rfl rfl rfl) ?_
     rintro _ _ ⟨b23, rfl, rfl⟩
     refine ⟨(fun hG => absurd hG (by decide)), ?_⟩
     first | refine gt_u rfl .none (o_store rfl rfl rfl rfl) (fun hG => absurd hG (by decide)) ?_ | refine gt_u rfl .none (o_storeS rfl rfl rfl (by first | assumption | omega | simp)) (fun hG => absurd hG (by decide)) ?_
     refine gt_nil ?_
     exact fun act wo hsl st => ⟨b4, hsl.keep (Keep.cons rfl (Keep.cons rfl (Keep.nil))), st.imp (fun h s => wl_close (ws := [vb k]) (some ⟨b23, 0, none⟩) 1 (As := cel b4 63 [.slice (some ⟨b23, 0, none⟩) 1 1] :: cel b23 9 [S (vb k)] :: cel b1 37 (evtC e) :: base W :: R) (fun h s => Sat.tail (fun h s => own_lit rfl (show 1 ≤ maxLen by unfold maxLen; omega) h s) s) h ((tO) h s))⟩
   ·
    refine gt_n rfl .none rfl (o_alloc) ?_
    rintro _ _ ⟨b4, rfl, rfl⟩
    refine ⟨(fun _ => (tO)), ?_⟩
    refine gt_c rfl .none rfl (o_call rfl (verbs_spec) pA) ?_
    rintro _ R ⟨_, ⟨rfl, rfl⟩, rfl⟩
    try simp only [List.cons_append, List.nil_append]
    refine ⟨(fun _ => (tO)), ?_⟩
    refine gt_v rfl .none rfl (o_indexV (kk := .i64) (i := k) rfl rfl (by rw [← hk]; rfl) (by omega) (verb_at (by omega))) ?_
    first | refine gt_n rfl .none rfl (o_buildS1 rfl rfl rfl) ?_ | refine gt_n rfl .none rfl (o_buildS1A rfl rfl rfl rfl) ?_ | refine gt_n rfl .none rfl (o_buildS rfl rfl rfl rfl) ?_
    rintro _ _ ⟨b23, rfl, rfl⟩
    refine ⟨(fun hG => absurd hG (by decide)), ?_⟩
    first | refine gt_u rfl .none (o_store rfl rfl rfl rfl) (fun hG => absurd hG (by decide)) ?_ | refine gt_u rfl .none (o_storeS rfl rfl rfl (by first | assumption | omega | simp)) (fun hG => absurd hG (by decide)) ?_
    refine gt_nil ?_
    exact fun act wo hsl st => ⟨b4, hsl.keep (Keep.cons rfl (Keep.cons rfl (Keep.nil))), st.imp (fun h s => wl_close (ws := [vb k]) (some ⟨b23, 0, none⟩) 1 (As := cel b4 63 [.slice (some ⟨b23, 0, none⟩) 1 1] :: cel b23 9 [S (vb k)] :: cel b1 37 (evtC e) :: base W :: R) (fun h s => Sat.tail (fun h s => own_lit rfl (show 1 ≤ maxLen by unfold maxLen; omega) h s) s) h ((tO) h s))⟩
  ·
   rintro act wo ⟨b4, hsl, st⟩
   refine g_of ?_ hsl st
   clear hsl st act wo
   refine g_seq ?_
   refine g_region ?_
   refine gl_v rfl (o_func rfl rfl) ?_
   refine gl_v rfl (o_assign rfl) ?_
   refine gl_nil ?_
   refine ge_then ?_
   refine g_seq ?_
   refine g_region ?_
   first | refine gl_v rfl (o_fldS rfl) ?_ | refine gl_v rfl (o_fld rfl) ?_
   first | refine gl_v rfl (o_load rfl rfl) ?_ | refine gl_v rfl (o_loadS rfl rfl) ?_ | refine gl_v rfl (o_loadC rfl) ?_
   refine gl_c rfl (o_call rfl (Fu_spec hG e.id hr.id) pA) ?_
   rintro _ R ⟨_, ⟨rfl, rfl⟩, rfl⟩
   try simp only [List.cons_append, List.nil_append]
   rw [← itoa_nat]
   refine gl_v rfl (o_assign rfl) ?_
   refine gl_nil ?_
   refine ge_then ?_
   refine g_cut (fun act wo => ∃ ws : List By, joinC 32 ws = candV e ∧ ws.length ≤ 10 ∧ HasSl Tryd.f13.ntmps [(4, ptr b4 0), (1, ptr b1 0)] act ∧ St W0 (wl b4 ws :: cel b1 37 (evtC e) :: base W :: R) wo) ?_ ?_
   ·
    refine g_seq ?_
    refine g_region ?_
    first | refine gl_v rfl (o_fldS rfl) ?_ | refine gl_v rfl (o_fld rfl) ?_
    first | refine gl_v rfl (o_load rfl rfl) ?_ | refine gl_v rfl (o_loadS rfl rfl) ?_ | refine gl_v rfl (o_loadC rfl) ?_
    refine gl_nil ?_
    refine ge_then ?_
    refine g_block ?_
    refine g_seq ?_
    refine g_region ?_
    refine gl_v rfl (o_eql rfl rfl) ?_
    refine gl_v rfl (o_assign rfl) ?_
    refine gl_nil ?_
    refine ge_then ?_
    refine g_cond rfl (fun hc3 => ?_) (fun hc3 => ?_)
    ·
     replace hc3 := hs_ hc3
     obtain rfl : k = 1 := by omega
     refine g_seq ?_
     refine g_region ?_
     refine gl_v rfl (o_move rfl) ?_
     first | refine gl_v rfl (o_fldS rfl) ?_ | refine gl_v rfl (o_fld rfl) ?_
     first | refine gl_v rfl (o_load rfl rfl) ?_ | refine gl_v rfl (o_loadS rfl rfl) ?_ | refine gl_v rfl (o_loadC rfl) ?_
     first | refine gl_v rfl (o_fldS rfl) ?_ | refine gl_v rfl (o_fld rfl) ?_
     first | refine gl_v rfl (o_load rfl rfl) ?_ | refine gl_v rfl (o_loadS rfl rfl) ?_ | refine gl_v rfl (o_loadC rfl) ?_
     refine gl_n rfl (o_buildS rfl rfl rfl rfl) ?_
     rintro _ _ ⟨b42, rfl, rfl⟩
     refine gl_c rfl (o_callV rfl rfl (num2 hG b4 b42 ([vb 1]) e.from' e.to hr.from' hr.to (by simp)) pA) ?_
     rintro _ R ⟨_, ⟨rfl, rfl⟩, rfl⟩
     try simp only [List.cons_append, List.nil_append]
     refine gl_nil ?_
     refine ge_then ?_
     refine g_seq ?_
     refine g_region ?_
     first | refine gl_v rfl (o_fldS rfl) ?_ | refine gl_v rfl (o_fld rfl) ?_
     first | refine gl_v rfl (o_load rfl rfl) ?_ | refine gl_v rfl (o_loadS rfl rfl) ?_ | refine gl_v rfl (o_loadC rfl) ?_
     refine gl_v rfl (o_assign rfl) ?_
     refine gl_nil ?_
     refine ge_then ?_
     refine g_cut (fun act wo => ∃ w : By, fieldV e 82 = w ∧ HasSl Tryd.f13.ntmps [(7, S w), (5, .func (.func 35) #[] #[ptr b4 0]), (4, ptr b4 0), (1, ptr b1 0)] act ∧ St W0 (wl b4 ([vb 1] ++ [itoaB e.from', itoaB e.to]) :: cel b1 37 (evtC e) :: base W :: R) wo) ?_ ?_
     ·
      refine g_seq ?_
      refine g_region ?_
      refine gl_v rfl (o_move rfl) ?_
      refine gl_v rfl (o_eqls rfl rfl) ?_
      refine gl_nil ?_
      refine ge_then ?_
      refine g_cond rfl (fun hc4 => ?_) (fun hc4 => ?_)
      ·
       replace hc4 := hs_ hc4
       have hnm : e.name = [] := by simpa using hc4
       refine g_region ?_
       refine gl_v rfl (o_assign rfl) ?_
       refine gl_nil ?_
       exact fun act wo hsl st => ⟨wDash, by unfold fieldV; rw [if_pos ⟨by decide, hnm⟩], hsl.keep (Keep.cons rfl (Keep.cons rfl (Keep.cons rfl (Keep.cons rfl (Keep.nil))))), st.imp (tO)⟩
      ·
       replace hc4 := hs_ hc4
       have hnm : ¬ e.name = [] := by simpa using hc4
       refine g_skip ?_
       exact fun act wo hsl st => ⟨e.name, by unfold fieldV; rw [if_neg (fun h9 => hnm h9.2), if_pos (.inr (by decide))], hsl.keep (Keep.cons rfl (Keep.cons rfl (Keep.cons rfl (Keep.cons rfl (Keep.nil))))), st.imp (tO)⟩
     ·
      rintro act wo ⟨w, hfw, hsl, st⟩
      refine g_of ?_ hsl st
      clear hsl st act wo
      refine g_seq ?_
      refine g_imp (fun h s => Sel.to (A := wl b4 ([vb 1] ++ [itoaB e.from', itoaB e.to])) sE s) ?_
      refine g_open .head ?_
      rintro ⟨wa, wc⟩ -
      simp only [List.cons_append, List.nil_append]
      refine g_region ?_
      first | refine gl_v rfl (o_load rfl rfl) ?_ | refine gl_v rfl (o_loadS rfl rfl) ?_ | refine gl_v rfl (o_loadC rfl) ?_
      refine gl_v rfl (o_move rfl) ?_
      first | refine gl_n rfl (o_buildS1 rfl rfl rfl) ?_ | refine gl_n rfl (o_buildS1A rfl rfl rfl rfl) ?_ | refine gl_n rfl (o_buildS rfl rfl rfl rfl) ?_
      rintro _ _ ⟨b50, rfl, rfl⟩
      refine gl_n rfl (o_append (sz := 1) (news := [S (w)]) rfl rfl pA rfl rfl rfl (by simp) (by unfold maxLen; simp)) ?_
      rintro _ _ ⟨a51, c51, rfl, rfl⟩
      first | refine gl_u (o_store rfl rfl rfl rfl) ?_ | refine gl_u (o_storeS rfl rfl rfl (by first | assumption | omega | simp)) ?_
      refine gl_nil ?_
      refine ge_imp (Bs := wl b4 ([vb 1] ++ [itoaB e.from', itoaB e.to] ++ [w]) :: cel b1 37 (evtC e) :: base W :: R) (wl_close (ws := [vb 1] ++ [itoaB e.from', itoaB e.to] ++ [w]) a51 c51 (tO)) ?_
      refine ge_then ?_
      refine g_region ?_
      refine gl_v rfl (o_move rfl) ?_
      first | refine gl_v rfl (o_fldS rfl) ?_ | refine gl_v rfl (o_fld rfl) ?_
      first | refine gl_v rfl (o_load rfl rfl) ?_ | refine gl_v rfl (o_loadS rfl rfl) ?_ | refine gl_v rfl (o_loadC rfl) ?_
      first | refine gl_n rfl (o_buildS1 rfl rfl rfl) ?_ | refine gl_n rfl (o_buildS1A rfl rfl rfl rfl) ?_ | refine gl_n rfl (o_buildS rfl rfl rfl rfl) ?_
      rintro _ _ ⟨b55, rfl, rfl⟩
      refine gl_c rfl (o_callV rfl rfl (num1 hG b4 b55 ([vb 1] ++ [itoaB e.from', itoaB e.to] ++ [w]) e.n hr.n (by simp)) pA) ?_
      rintro _ R ⟨_, ⟨rfl, rfl⟩, rfl⟩
      try simp only [List.cons_append, List.nil_append]
      refine gl_nil ?_
      refine ge_block ?_
      exact fun act wo hsl st => ⟨[vb 1] ++ [itoaB e.from', itoaB e.to] ++ [w] ++ [itoaB e.n], cand_form hk (by rw [show (formV ((1 : Nat) : Int)).2 = [70, 84, 82, 78] from rfl, List.map_cons, List.map_cons, List.map_cons, hfw]; rfl), by simp, hsl.keep (Keep.cons rfl (Keep.cons rfl (Keep.nil))), st.imp (tO)⟩
    ·
     replace hc3 := hs_ hc3
     refine g_seq ?_
     refine g_region ?_
     refine gl_v rfl (o_eql rfl rfl) ?_
     refine gl_v rfl (o_assign rfl) ?_
     refine gl_nil ?_
     refine ge_then ?_
     refine g_cond rfl (fun hc5 => ?_) (fun hc5 => ?_)
     ·
      replace hc5 := hs_ hc5
      obtain rfl : k = 2 := by omega
      refine g_seq ?_
      refine g_imp (fun h s => Sel.to (A := wl b4 ([vb 2])) sE s) ?_
      refine g_open .head ?_
      rintro ⟨wa, wc⟩ -
      simp only [List.cons_append, List.nil_append]
      refine g_region ?_
      first | refine gl_v rfl (o_load rfl rfl) ?_ | refine gl_v rfl (o_loadS rfl rfl) ?_ | refine gl_v rfl (o_loadC rfl) ?_
      refine gl_v rfl (o_move rfl) ?_
      first | refine gl_n rfl (o_buildS1 rfl rfl rfl) ?_ | refine gl_n rfl (o_buildS1A rfl rfl rfl rfl) ?_ | refine gl_n rfl (o_buildS rfl rfl rfl rfl) ?_
      rintro _ _ ⟨b61, rfl, rfl⟩
      refine gl_n rfl (o_append (sz := 1) (news := [S (itoaB (e.id : Int))]) rfl rfl pA rfl rfl rfl (by simp) (by unfold maxLen; simp)) ?_
      rintro _ _ ⟨a62, c62, rfl, rfl⟩
      first | refine gl_u (o_store rfl rfl rfl rfl) ?_ | refine gl_u (o_storeS rfl rfl rfl (by first | assumption | omega | simp)) ?_
      refine gl_nil ?_
      refine ge_imp (Bs := wl b4 ([vb 2] ++ [itoaB (e.id : Int)]) :: cel b1 37 (evtC e) :: base W :: R) (wl_close (ws := [vb 2] ++ [itoaB (e.id : Int)]) a62 c62 (tO)) ?_
      refine ge_then ?_
      refine g_seq ?_
      refine g_region ?_
      refine gl_v rfl (o_move rfl) ?_
      first | refine gl_v rfl (o_fldS rfl) ?_ | refine gl_v rfl (o_fld rfl) ?_
      first | refine gl_v rfl (o_load rfl rfl) ?_ | refine gl_v rfl (o_loadS rfl rfl) ?_ | refine gl_v rfl (o_loadC rfl) ?_
      first | refine gl_v rfl (o_fldS rfl) ?_ | refine gl_v rfl (o_fld rfl) ?_
      first | refine gl_v rfl (o_load rfl rfl) ?_ | refine gl_v rfl (o_loadS rfl rfl) ?_ | refine gl_v rfl (o_loadC rfl) ?_
      refine gl_n rfl (o_buildS rfl rfl rfl rfl) ?_
      rintro _ _ ⟨b68, rfl, rfl⟩
      refine gl_c rfl (o_callV rfl rfl (num2 hG b4 b68 ([vb 2] ++ [itoaB (e.id : Int)]) e.from' e.to hr.from' hr.to (by simp)) pA) ?_
      rintro _ R ⟨_, ⟨rfl, rfl⟩, rfl⟩
      try simp only [List.cons_append, List.nil_append]
      refine gl_nil ?_
      refine ge_then ?_
      refine g_seq ?_
      refine g_imp (fun h s => Sel.to (A := wl b4 ([vb 2] ++ [itoaB (e.id : Int)] ++ [itoaB e.from', itoaB e.to])) sE s) ?_
      refine g_open .head ?_
      rintro ⟨wa, wc⟩ -
      simp only [List.cons_append, List.nil_append]
      refine g_region ?_
      first | refine gl_v rfl (o_load rfl rfl) ?_ | refine gl_v rfl (o_loadS rfl rfl) ?_ | refine gl_v rfl (o_loadC rfl) ?_
      first | refine gl_v rfl (o_fldS rfl) ?_ | refine gl_v rfl (o_fld rfl) ?_
      first | refine gl_v rfl (o_load rfl rfl) ?_ | refine gl_v rfl (o_loadS rfl rfl) ?_ | refine gl_v rfl (o_loadC rfl) ?_
      first | refine gl_n rfl (o_buildS1 rfl rfl rfl) ?_ | refine gl_n rfl (o_buildS1A rfl rfl rfl rfl) ?_ | refine gl_n rfl (o_buildS rfl rfl rfl rfl) ?_
      rintro _ _ ⟨b73, rfl, rfl⟩
      refine gl_n rfl (o_append (sz := 1) (news := [S (e.name)]) rfl rfl pA rfl rfl rfl (by simp) (by unfold maxLen; simp)) ?_
      rintro _ _ ⟨a74, c74, rfl, rfl⟩
      first | refine gl_u (o_store rfl rfl rfl rfl) ?_ | refine gl_u (o_storeS rfl rfl rfl (by first | assumption | omega | simp)) ?_
      refine gl_nil ?_
      refine ge_imp (Bs := wl b4 ([vb 2] ++ [itoaB (e.id : Int)] ++ [itoaB e.from', itoaB e.to] ++ [e.name]) :: cel b1 37 (evtC e) :: base W :: R) (wl_close (ws := [vb 2] ++ [itoaB (e.id : Int)] ++ [itoaB e.from', itoaB e.to] ++ [e.name]) a74 c74 (tO)) ?_
      refine ge_then ?_
      refine g_seq ?_
      refine g_region ?_
      refine gl_v rfl (o_move rfl) ?_
      first | refine gl_v rfl (o_fldS rfl) ?_ | refine gl_v rfl (o_fld rfl) ?_
      first | refine gl_v rfl (o_load rfl rfl) ?_ | refine gl_v rfl (o_loadS rfl rfl) ?_ | refine gl_v rfl (o_loadC rfl) ?_
      first | refine gl_n rfl (o_buildS1 rfl rfl rfl) ?_ | refine gl_n rfl (o_buildS1A rfl rfl rfl rfl) ?_ | refine gl_n rfl (o_buildS rfl rfl rfl rfl) ?_
      rintro _ _ ⟨b78, rfl, rfl⟩
      refine gl_c rfl (o_callV rfl rfl (num1 hG b4 b78 ([vb 2] ++ [itoaB (e.id : Int)] ++ [itoaB e.from', itoaB e.to] ++ [e.name]) e.n hr.n (by simp)) pA) ?_
      rintro _ R ⟨_, ⟨rfl, rfl⟩, rfl⟩
      try simp only [List.cons_append, List.nil_append]
      refine gl_nil ?_
      refine ge_then ?_
      refine g_seq ?_
      refine g_region ?_
      first | refine gl_v rfl (o_fldS rfl) ?_ | refine gl_v rfl (o_fld rfl) ?_
      first | refine gl_v rfl (o_load rfl rfl) ?_ | refine gl_v rfl (o_loadS rfl rfl) ?_ | refine gl_v rfl (o_loadC rfl) ?_
      refine gl_nil ?_
      refine ge_then ?_
      refine g_cond rfl (fun hc6 => ?_) (fun hc6 => ?_)
      ·
       replace hc6 := hs_ hc6
       have htm : e.timed = true := hc6
       refine g_imp (fun h s => Sel.to (A := wl b4 ([vb 2] ++ [itoaB (e.id : Int)] ++ [itoaB e.from', itoaB e.to] ++ [e.name] ++ [itoaB e.n])) sE s) ?_
       refine g_open .head ?_
       rintro ⟨wa, wc⟩ -
       simp only [List.cons_append, List.nil_append]
       refine g_region ?_
       first | refine gl_v rfl (o_load rfl rfl) ?_ | refine gl_v rfl (o_loadS rfl rfl) ?_ | refine gl_v rfl (o_loadC rfl) ?_
       first | refine gl_n rfl (o_buildS1 rfl rfl rfl) ?_ | refine gl_n rfl (o_buildS1A rfl rfl rfl rfl) ?_ | refine gl_n rfl (o_buildS rfl rfl rfl rfl) ?_
       rintro _ _ ⟨b83, rfl, rfl⟩
       refine gl_n rfl (o_append (sz := 1) (news := [S (wTimed)]) rfl rfl pA rfl rfl rfl (by simp) (by unfold maxLen; simp)) ?_
       rintro _ _ ⟨a84, c84, rfl, rfl⟩
       first | refine gl_u (o_store rfl rfl rfl rfl) ?_ | refine gl_u (o_storeS rfl rfl rfl (by first | assumption | omega | simp)) ?_
       refine gl_nil ?_
       refine ge_imp (Bs := wl b4 ([vb 2] ++ [itoaB (e.id : Int)] ++ [itoaB e.from', itoaB e.to] ++ [e.name] ++ [itoaB e.n] ++ [wTimed]) :: cel b1 37 (evtC e) :: base W :: R) (wl_close (ws := [vb 2] ++ [itoaB (e.id : Int)] ++ [itoaB e.from', itoaB e.to] ++ [e.name] ++ [itoaB e.n] ++ [wTimed]) a84 c84 (tO)) ?_
       refine ge_block ?_
       exact fun act wo hsl st => ⟨[vb 2] ++ [itoaB (e.id : Int)] ++ [itoaB e.from', itoaB e.to] ++ [e.name] ++ [itoaB e.n] ++ [wTimed], cand_form hk (by rw [htm]; rfl), by simp, hsl.keep (Keep.cons rfl (Keep.cons rfl (Keep.nil))), st.imp (tO)⟩
      ·
       replace hc6 := hs_ hc6
       have htm : e.timed = false := hc6
       refine g_skip ?_
       refine ge_block ?_
       exact fun act wo hsl st => ⟨[vb 2] ++ [itoaB (e.id : Int)] ++ [itoaB e.from', itoaB e.to] ++ [e.name] ++ [itoaB e.n], cand_form hk (by rw [htm]; rfl), by simp, hsl.keep (Keep.cons rfl (Keep.cons rfl (Keep.nil))), st.imp (tO)⟩
     ·
      replace hc5 := hs_ hc5
      refine g_cut (fun act wo => ∃ b : Bool, (b = true ↔ e.kind = 3 ∨ e.kind = 5 ∨ e.kind = 4) ∧ HasSl Tryd.f13.ntmps [(85, .bool b), (29, I64 e.kind), (6, S (itoaB (e.id : Int))), (5, .func (.func 35) #[] #[ptr b4 0]), (4, ptr b4 0), (1, ptr b1 0)] act ∧ St W0 (wl b4 [vb k] :: cel b1 37 (evtC e) :: base W :: R) wo) ?_ ?_
      ·
       refine g_seq ?_
       refine g_region ?_
       refine gl_v rfl (o_eql rfl rfl) ?_
       refine gl_v rfl (o_assign rfl) ?_
       refine gl_nil ?_
       refine ge_then ?_
       refine g_cond rfl (fun hc7 => ?_) (fun hc7 => ?_)
       ·
        replace hc7 := hs_ hc7
        try have hk85 := hb.1 hc7
        refine g_skip ?_
        exact fun act wo hsl st => ⟨_, (by simp only [decide_eq_true_eq]; omega), hsl.keep (Keep.cons rfl (Keep.cons rfl (Keep.cons rfl (Keep.cons rfl (Keep.cons rfl (Keep.cons rfl (Keep.nil))))))), st.imp (tO)⟩
       ·
        replace hc7 := hs_ hc7
        try have hk85 : ¬ _ := fun h9 => absurd (hb.2 h9) (by rw [hc7]; decide)
        refine g_seq ?_
        refine g_region ?_
        refine gl_v rfl (o_eql rfl rfl) ?_
        refine gl_v rfl (o_assign rfl) ?_
        refine gl_nil ?_
        refine ge_then ?_
        refine g_cond rfl (fun hc8 => ?_) (fun hc8 => ?_)
        ·
         replace hc8 := hs_ hc8
         try have hk85 := hb.1 hc8
         refine g_skip ?_
         exact fun act wo hsl st => ⟨_, (by simp only [decide_eq_true_eq]; omega), hsl.keep (Keep.cons rfl (Keep.cons rfl (Keep.cons rfl (Keep.cons rfl (Keep.cons rfl (Keep.cons rfl (Keep.nil))))))), st.imp (tO)⟩
        ·
         replace hc8 := hs_ hc8
         try have hk85 : ¬ _ := fun h9 => absurd (hb.2 h9) (by rw [hc8]; decide)
         refine g_region ?_
         refine gl_v rfl (o_eql rfl rfl) ?_
         refine gl_v rfl (o_assign rfl) ?_
         refine gl_nil ?_
         exact fun act wo hsl st => ⟨_, (by simp only [decide_eq_true_eq]; omega), hsl.keep (Keep.cons rfl (Keep.cons rfl (Keep.cons rfl (Keep.cons rfl (Keep.cons rfl (Keep.cons rfl (Keep.nil))))))), st.imp (tO)⟩
      ·
       rintro act wo ⟨b, hb, hsl, st⟩
       refine g_of ?_ hsl st
       clear hsl st act wo
       refine g_cond rfl (fun hc9 => ?_) (fun hc9 => ?_)
       ·
        replace hc9 := hs_ hc9
        try have hk85 := hb.1 hc9
        refine g_seq ?_
        refine g_region ?_
        refine gl_v rfl (o_move rfl) ?_
        first | refine gl_v rfl (o_fldS rfl) ?_ | refine gl_v rfl (o_fld rfl) ?_
        first | refine gl_v rfl (o_load rfl rfl) ?_ | refine gl_v rfl (o_loadS rfl rfl) ?_ | refine gl_v rfl (o_loadC rfl) ?_
        first | refine gl_n rfl (o_buildS1 rfl rfl rfl) ?_ | refine gl_n rfl (o_buildS1A rfl rfl rfl rfl) ?_ | refine gl_n rfl (o_buildS rfl rfl rfl rfl) ?_
        rintro _ _ ⟨b92, rfl, rfl⟩
        refine gl_c rfl (o_callV rfl rfl (num1 hG b4 b92 ([vb k]) e.actor hr.actor (by simp)) pA) ?_
        rintro _ R ⟨_, ⟨rfl, rfl⟩, rfl⟩
        try simp only [List.cons_append, List.nil_append]
        refine gl_nil ?_
        refine ge_then ?_
        refine g_seq ?_
        refine g_imp (fun h s => Sel.to (A := wl b4 ([vb k] ++ [itoaB e.actor])) sE s) ?_
        refine g_open .head ?_
        rintro ⟨wa, wc⟩ -
        simp only [List.cons_append, List.nil_append]
        refine g_region ?_
        first | refine gl_v rfl (o_load rfl rfl) ?_ | refine gl_v rfl (o_loadS rfl rfl) ?_ | refine gl_v rfl (o_loadC rfl) ?_
        refine gl_v rfl (o_move rfl) ?_
        first | refine gl_n rfl (o_buildS1 rfl rfl rfl) ?_ | refine gl_n rfl (o_buildS1A rfl rfl rfl rfl) ?_ | refine gl_n rfl (o_buildS rfl rfl rfl rfl) ?_
        rintro _ _ ⟨b96, rfl, rfl⟩
        refine gl_n rfl (o_append (sz := 1) (news := [S (itoaB (e.id : Int))]) rfl rfl pA rfl rfl rfl (by simp) (by unfold maxLen; simp)) ?_
        rintro _ _ ⟨a97, c97, rfl, rfl⟩
        first | refine gl_u (o_store rfl rfl rfl rfl) ?_ | refine gl_u (o_storeS rfl rfl rfl (by first | assumption | omega | simp)) ?_
        refine gl_nil ?_
        refine ge_imp (Bs := wl b4 ([vb k] ++ [itoaB e.actor] ++ [itoaB (e.id : Int)]) :: cel b1 37 (evtC e) :: base W :: R) (wl_close (ws := [vb k] ++ [itoaB e.actor] ++ [itoaB (e.id : Int)]) a97 c97 (tO)) ?_
        refine ge_then ?_
        refine g_seq ?_
        refine g_region ?_
        first | refine gl_v rfl (o_fldS rfl) ?_ | refine gl_v rfl (o_fld rfl) ?_
        first | refine gl_v rfl (o_load rfl rfl) ?_ | refine gl_v rfl (o_loadS rfl rfl) ?_ | refine gl_v rfl (o_loadC rfl) ?_
        refine gl_v rfl (o_eql rfl rfl) ?_
        refine gl_nil ?_
        refine ge_then ?_
        refine g_cond rfl (fun hc10 => ?_) (fun hc10 => ?_)
        ·
         replace hc10 := hs_ hc10
         obtain rfl : k = 4 := by omega
         refine g_imp (fun h s => Sel.to (A := wl b4 ([vb 4] ++ [itoaB e.actor] ++ [itoaB (e.id : Int)])) sE s) ?_
         refine g_open .head ?_
         rintro ⟨wa, wc⟩ -
         simp only [List.cons_append, List.nil_append]
         refine g_region ?_
         first | refine gl_v rfl (o_load rfl rfl) ?_ | refine gl_v rfl (o_loadS rfl rfl) ?_ | refine gl_v rfl (o_loadC rfl) ?_
         first | refine gl_v rfl (o_fldS rfl) ?_ | refine gl_v rfl (o_fld rfl) ?_
         first | refine gl_v rfl (o_load rfl rfl) ?_ | refine gl_v rfl (o_loadS rfl rfl) ?_ | refine gl_v rfl (o_loadC rfl) ?_
         first | refine gl_n rfl (o_buildS1 rfl rfl rfl) ?_ | refine gl_n rfl (o_buildS1A rfl rfl rfl rfl) ?_ | refine gl_n rfl (o_buildS rfl rfl rfl rfl) ?_
         rintro _ _ ⟨b104, rfl, rfl⟩
         refine gl_n rfl (o_append (sz := 1) (news := [S (e.name)]) rfl rfl pA rfl rfl rfl (by simp) (by unfold maxLen; simp)) ?_
         rintro _ _ ⟨a105, c105, rfl, rfl⟩
         first | refine gl_u (o_store rfl rfl rfl rfl) ?_ | refine gl_u (o_storeS rfl rfl rfl (by first | assumption | omega | simp)) ?_
         refine gl_nil ?_
         refine ge_imp (Bs := wl b4 ([vb 4] ++ [itoaB e.actor] ++ [itoaB (e.id : Int)] ++ [e.name]) :: cel b1 37 (evtC e) :: base W :: R) (wl_close (ws := [vb 4] ++ [itoaB e.actor] ++ [itoaB (e.id : Int)] ++ [e.name]) a105 c105 (tO)) ?_
         refine ge_block ?_
         exact fun act wo hsl st => ⟨[vb 4] ++ [itoaB e.actor] ++ [itoaB (e.id : Int)] ++ [e.name], cand_form hk (rfl), by simp, hsl.keep (Keep.cons rfl (Keep.cons rfl (Keep.nil))), st.imp (tO)⟩
        ·
         replace hc10 := hs_ hc10
         refine g_skip ?_
         refine ge_block ?_
         exact fun act wo hsl st => ⟨[vb k] ++ [itoaB e.actor] ++ [itoaB (e.id : Int)], by rcases (show k = 3 ∨ k = 5 by omega) with rfl | rfl <;> exact cand_form hk rfl, by simp, hsl.keep (Keep.cons rfl (Keep.cons rfl (Keep.nil))), st.imp (tO)⟩
       ·
        replace hc9 := hs_ hc9
        try have hk85 : ¬ _ := fun h9 => absurd (hb.2 h9) (by rw [hc9]; decide)
        refine g_seq ?_
        refine g_region ?_
        refine gl_v rfl (o_eql rfl rfl) ?_
        refine gl_v rfl (o_assign rfl) ?_
        refine gl_nil ?_
        refine ge_then ?_
        refine g_cond rfl (fun hc11 => ?_) (fun hc11 => ?_)
        ·
         replace hc11 := hs_ hc11
         obtain rfl : k = 6 := by omega
         refine g_seq ?_
         refine g_imp (fun h s => Sel.to (A := wl b4 ([vb 6])) sE s) ?_
         refine g_open .head ?_
         rintro ⟨wa, wc⟩ -
         simp only [List.cons_append, List.nil_append]
         refine g_region ?_
         first | refine gl_v rfl (o_load rfl rfl) ?_ | refine gl_v rfl (o_loadS rfl rfl) ?_ | refine gl_v rfl (o_loadC rfl) ?_
         refine gl_v rfl (o_move rfl) ?_
         first | refine gl_n rfl (o_buildS1 rfl rfl rfl) ?_ | refine gl_n rfl (o_buildS1A rfl rfl rfl rfl) ?_ | refine gl_n rfl (o_buildS rfl rfl rfl rfl) ?_
         rintro _ _ ⟨b110, rfl, rfl⟩
         refine gl_n rfl (o_append (sz := 1) (news := [S (itoaB (e.id : Int))]) rfl rfl pA rfl rfl rfl (by simp) (by unfold maxLen; simp)) ?_
         rintro _ _ ⟨a111, c111, rfl, rfl⟩
         first | refine gl_u (o_store rfl rfl rfl rfl) ?_ | refine gl_u (o_storeS rfl rfl rfl (by first | assumption | omega | simp)) ?_
         refine gl_nil ?_
         refine ge_imp (Bs := wl b4 ([vb 6] ++ [itoaB (e.id : Int)]) :: cel b1 37 (evtC e) :: base W :: R) (wl_close (ws := [vb 6] ++ [itoaB (e.id : Int)]) a111 c111 (tO)) ?_
         refine ge_then ?_
         refine g_region ?_
         refine gl_v rfl (o_move rfl) ?_
         first | refine gl_v rfl (o_fldS rfl) ?_ | refine gl_v rfl (o_fld rfl) ?_
         first | refine gl_v rfl (o_load rfl rfl) ?_ | refine gl_v rfl (o_loadS rfl rfl) ?_ | refine gl_v rfl (o_loadC rfl) ?_
         first | refine gl_v rfl (o_fldS rfl) ?_ | refine gl_v rfl (o_fld rfl) ?_
         first | refine gl_v rfl (o_load rfl rfl) ?_ | refine gl_v rfl (o_loadS rfl rfl) ?_ | refine gl_v rfl (o_loadC rfl) ?_
         refine gl_n rfl (o_buildS rfl rfl rfl rfl) ?_
         rintro _ _ ⟨b117, rfl, rfl⟩
         refine gl_c rfl (o_callV rfl rfl (num2 hG b4 b117 ([vb 6] ++ [itoaB (e.id : Int)]) e.to e.why hr.to hr.why (by simp)) pA) ?_
         rintro _ R ⟨_, ⟨rfl, rfl⟩, rfl⟩
         try simp only [List.cons_append, List.nil_append]
         refine gl_nil ?_
         refine ge_block ?_
         exact fun act wo hsl st => ⟨[vb 6] ++ [itoaB (e.id : Int)] ++ [itoaB e.to, itoaB e.why], cand_form hk (rfl), by simp, hsl.keep (Keep.cons rfl (Keep.cons rfl (Keep.nil))), st.imp (tO)⟩
        ·
         replace hc11 := hs_ hc11
         refine g_seq ?_
         refine g_region ?_
         refine gl_v rfl (o_eql rfl rfl) ?_
         refine gl_v rfl (o_assign rfl) ?_
         refine gl_nil ?_
         refine ge_then ?_
         refine g_cond rfl (fun hc12 => ?_) (fun hc12 => ?_)
         ·
          replace hc12 := hs_ hc12
          obtain rfl : k = 7 := by omega
          refine g_seq ?_
          refine g_region ?_
          refine gl_v rfl (o_move rfl) ?_
          first | refine gl_v rfl (o_fldS rfl) ?_ | refine gl_v rfl (o_fld rfl) ?_
          first | refine gl_v rfl (o_load rfl rfl) ?_ | refine gl_v rfl (o_loadS rfl rfl) ?_ | refine gl_v rfl (o_loadC rfl) ?_
          first | refine gl_v rfl (o_fldS rfl) ?_ | refine gl_v rfl (o_fld rfl) ?_
          first | refine gl_v rfl (o_load rfl rfl) ?_ | refine gl_v rfl (o_loadS rfl rfl) ?_ | refine gl_v rfl (o_loadC rfl) ?_
          refine gl_n rfl (o_buildS rfl rfl rfl rfl) ?_
          rintro _ _ ⟨b126, rfl, rfl⟩
          refine gl_c rfl (o_callV rfl rfl (num2 hG b4 b126 ([vb 7]) e.actor e.from' hr.actor hr.from' (by simp)) pA) ?_
          rintro _ R ⟨_, ⟨rfl, rfl⟩, rfl⟩
          try simp only [List.cons_append, List.nil_append]
          refine gl_nil ?_
          refine ge_then ?_
          refine g_imp (fun h s => Sel.to (A := wl b4 ([vb 7] ++ [itoaB e.actor, itoaB e.from'])) sE s) ?_
          refine g_open .head ?_
          rintro ⟨wa, wc⟩ -
          simp only [List.cons_append, List.nil_append]
          refine g_region ?_
          first | refine gl_v rfl (o_load rfl rfl) ?_ | refine gl_v rfl (o_loadS rfl rfl) ?_ | refine gl_v rfl (o_loadC rfl) ?_
          first | refine gl_v rfl (o_fldS rfl) ?_ | refine gl_v rfl (o_fld rfl) ?_
          first | refine gl_v rfl (o_load rfl rfl) ?_ | refine gl_v rfl (o_loadS rfl rfl) ?_ | refine gl_v rfl (o_loadC rfl) ?_
          first | refine gl_n rfl (o_buildS1 rfl rfl rfl) ?_ | refine gl_n rfl (o_buildS1A rfl rfl rfl rfl) ?_ | refine gl_n rfl (o_buildS rfl rfl rfl rfl) ?_
          rintro _ _ ⟨b131, rfl, rfl⟩
          refine gl_n rfl (o_append (sz := 1) (news := [S (e.name)]) rfl rfl pA rfl rfl rfl (by simp) (by unfold maxLen; simp)) ?_
          rintro _ _ ⟨a132, c132, rfl, rfl⟩
          first | refine gl_u (o_store rfl rfl rfl rfl) ?_ | refine gl_u (o_storeS rfl rfl rfl (by first | assumption | omega | simp)) ?_
          refine gl_nil ?_
          refine ge_imp (Bs := wl b4 ([vb 7] ++ [itoaB e.actor, itoaB e.from'] ++ [e.name]) :: cel b1 37 (evtC e) :: base W :: R) (wl_close (ws := [vb 7] ++ [itoaB e.actor, itoaB e.from'] ++ [e.name]) a132 c132 (tO)) ?_
          refine ge_block ?_
          exact fun act wo hsl st => ⟨[vb 7] ++ [itoaB e.actor, itoaB e.from'] ++ [e.name], cand_form hk (rfl), by simp, hsl.keep (Keep.cons rfl (Keep.cons rfl (Keep.nil))), st.imp (tO)⟩
         ·
          replace hc12 := hs_ hc12
          refine g_seq ?_
          refine g_region ?_
          refine gl_v rfl (o_eql rfl rfl) ?_
          refine gl_v rfl (o_assign rfl) ?_
          refine gl_nil ?_
          refine ge_then ?_
          refine g_cond rfl (fun hc13 => ?_) (fun hc13 => ?_)
          ·
           replace hc13 := hs_ hc13
           obtain rfl : k = 10 := by omega
           refine g_seq ?_
           refine g_region ?_
           refine gl_v rfl (o_move rfl) ?_
           first | refine gl_v rfl (o_fldS rfl) ?_ | refine gl_v rfl (o_fld rfl) ?_
           first | refine gl_v rfl (o_load rfl rfl) ?_ | refine gl_v rfl (o_loadS rfl rfl) ?_ | refine gl_v rfl (o_loadC rfl) ?_
           first | refine gl_v rfl (o_fldS rfl) ?_ | refine gl_v rfl (o_fld rfl) ?_
           first | refine gl_v rfl (o_load rfl rfl) ?_ | refine gl_v rfl (o_loadS rfl rfl) ?_ | refine gl_v rfl (o_loadC rfl) ?_
           first | refine gl_v rfl (o_fldS rfl) ?_ | refine gl_v rfl (o_fld rfl) ?_
           first | refine gl_v rfl (o_load rfl rfl) ?_ | refine gl_v rfl (o_loadS rfl rfl) ?_ | refine gl_v rfl (o_loadC rfl) ?_
           refine gl_n rfl (o_buildS rfl rfl rfl rfl) ?_
           rintro _ _ ⟨b142, rfl, rfl⟩
           refine gl_c rfl (o_callV rfl rfl (num3 hG b4 b142 ([vb 10]) e.actor e.from' e.why hr.actor hr.from' hr.why (by simp)) pA) ?_
           rintro _ R ⟨_, ⟨rfl, rfl⟩, rfl⟩
           try simp only [List.cons_append, List.nil_append]
           refine gl_nil ?_
           refine ge_then ?_
           refine g_imp (fun h s => Sel.to (A := wl b4 ([vb 10] ++ [itoaB e.actor, itoaB e.from', itoaB e.why])) sE s) ?_
           refine g_open .head ?_
           rintro ⟨wa, wc⟩ -
           simp only [List.cons_append, List.nil_append]
           refine g_region ?_
           first | refine gl_v rfl (o_load rfl rfl) ?_ | refine gl_v rfl (o_loadS rfl rfl) ?_ | refine gl_v rfl (o_loadC rfl) ?_
           first | refine gl_v rfl (o_fldS rfl) ?_ | refine gl_v rfl (o_fld rfl) ?_
           first | refine gl_v rfl (o_load rfl rfl) ?_ | refine gl_v rfl (o_loadS rfl rfl) ?_ | refine gl_v rfl (o_loadC rfl) ?_
           first | refine gl_n rfl (o_buildS1 rfl rfl rfl) ?_ | refine gl_n rfl (o_buildS1A rfl rfl rfl rfl) ?_ | refine gl_n rfl (o_buildS rfl rfl rfl rfl) ?_
           rintro _ _ ⟨b147, rfl, rfl⟩
           refine gl_n rfl (o_append (sz := 1) (news := [S (e.name)]) rfl rfl pA rfl rfl rfl (by simp) (by unfold maxLen; simp)) ?_
           rintro _ _ ⟨a148, c148, rfl, rfl⟩
           first | refine gl_u (o_store rfl rfl rfl rfl) ?_ | refine gl_u (o_storeS rfl rfl rfl (by first | assumption | omega | simp)) ?_
           refine gl_nil ?_
           refine ge_imp (Bs := wl b4 ([vb 10] ++ [itoaB e.actor, itoaB e.from', itoaB e.why] ++ [e.name]) :: cel b1 37 (evtC e) :: base W :: R) (wl_close (ws := [vb 10] ++ [itoaB e.actor, itoaB e.from', itoaB e.why] ++ [e.name]) a148 c148 (tO)) ?_
           refine ge_block ?_
           exact fun act wo hsl st => ⟨[vb 10] ++ [itoaB e.actor, itoaB e.from', itoaB e.why] ++ [e.name], cand_form hk (rfl), by simp, hsl.keep (Keep.cons rfl (Keep.cons rfl (Keep.nil))), st.imp (tO)⟩
          ·
           replace hc13 := hs_ hc13
           refine g_cut (fun act wo => ∃ b : Bool, (b = true ↔ e.kind = 8 ∨ e.kind = 9) ∧ HasSl Tryd.f13.ntmps [(149, .bool b), (29, I64 e.kind), (6, S (itoaB (e.id : Int))), (5, .func (.func 35) #[] #[ptr b4 0]), (4, ptr b4 0), (1, ptr b1 0)] act ∧ St W0 (wl b4 [vb k] :: cel b1 37 (evtC e) :: base W :: R) wo) ?_ ?_
           ·
            refine g_seq ?_
            refine g_region ?_
            refine gl_v rfl (o_eql rfl rfl) ?_
            refine gl_v rfl (o_assign rfl) ?_
            refine gl_nil ?_
            refine ge_then ?_
            refine g_cond rfl (fun hc14 => ?_) (fun hc14 => ?_)
            ·
             replace hc14 := hs_ hc14
             try have hk149 := hb.1 hc14
             refine g_skip ?_
             exact fun act wo hsl st => ⟨_, (by simp only [decide_eq_true_eq]; omega), hsl.keep (Keep.cons rfl (Keep.cons rfl (Keep.cons rfl (Keep.cons rfl (Keep.cons rfl (Keep.cons rfl (Keep.nil))))))), st.imp (tO)⟩
            ·
             replace hc14 := hs_ hc14
             try have hk149 : ¬ _ := fun h9 => absurd (hb.2 h9) (by rw [hc14]; decide)
             refine g_region ?_
             refine gl_v rfl (o_eql rfl rfl) ?_
             refine gl_v rfl (o_assign rfl) ?_
             refine gl_nil ?_
             exact fun act wo hsl st => ⟨_, (by simp only [decide_eq_true_eq]; omega), hsl.keep (Keep.cons rfl (Keep.cons rfl (Keep.cons rfl (Keep.cons rfl (Keep.cons rfl (Keep.cons rfl (Keep.nil))))))), st.imp (tO)⟩
           ·
            rintro act wo ⟨b, hb, hsl, st⟩
            refine g_of ?_ hsl st
            clear hsl st act wo
            refine g_cond rfl (fun hc15 => ?_) (fun hc15 => ?_)
            ·
             replace hc15 := hs_ hc15
             try have hk149 := hb.1 hc15
             refine g_seq ?_
             refine g_region ?_
             refine gl_v rfl (o_move rfl) ?_
             first | refine gl_v rfl (o_fldS rfl) ?_ | refine gl_v rfl (o_fld rfl) ?_
             first | refine gl_v rfl (o_load rfl rfl) ?_ | refine gl_v rfl (o_loadS rfl rfl) ?_ | refine gl_v rfl (o_loadC rfl) ?_
             first | refine gl_n rfl (o_buildS1 rfl rfl rfl) ?_ | refine gl_n rfl (o_buildS1A rfl rfl rfl rfl) ?_ | refine gl_n rfl (o_buildS rfl rfl rfl rfl) ?_
             rintro _ _ ⟨b155, rfl, rfl⟩
             refine gl_c rfl (o_callV rfl rfl (num1 hG b4 b155 ([vb k]) e.actor hr.actor (by simp)) pA) ?_
             rintro _ R ⟨_, ⟨rfl, rfl⟩, rfl⟩
             try simp only [List.cons_append, List.nil_append]
             refine gl_nil ?_
             refine ge_then ?_
             refine g_imp (fun h s => Sel.to (A := wl b4 ([vb k] ++ [itoaB e.actor])) sE s) ?_
             refine g_open .head ?_
             rintro ⟨wa, wc⟩ -
             simp only [List.cons_append, List.nil_append]
             refine g_region ?_
             first | refine gl_v rfl (o_load rfl rfl) ?_ | refine gl_v rfl (o_loadS rfl rfl) ?_ | refine gl_v rfl (o_loadC rfl) ?_
             first | refine gl_v rfl (o_fldS rfl) ?_ | refine gl_v rfl (o_fld rfl) ?_
             first | refine gl_v rfl (o_load rfl rfl) ?_ | refine gl_v rfl (o_loadS rfl rfl) ?_ | refine gl_v rfl (o_loadC rfl) ?_
             first | refine gl_n rfl (o_buildS1 rfl rfl rfl) ?_ | refine gl_n rfl (o_buildS1A rfl rfl rfl rfl) ?_ | refine gl_n rfl (o_buildS rfl rfl rfl rfl) ?_
             rintro _ _ ⟨b160, rfl, rfl⟩
             refine gl_n rfl (o_append (sz := 1) (news := [S (e.name)]) rfl rfl pA rfl rfl rfl (by simp) (by unfold maxLen; simp)) ?_
             rintro _ _ ⟨a161, c161, rfl, rfl⟩
             first | refine gl_u (o_store rfl rfl rfl rfl) ?_ | refine gl_u (o_storeS rfl rfl rfl (by first | assumption | omega | simp)) ?_
             refine gl_nil ?_
             refine ge_imp (Bs := wl b4 ([vb k] ++ [itoaB e.actor] ++ [e.name]) :: cel b1 37 (evtC e) :: base W :: R) (wl_close (ws := [vb k] ++ [itoaB e.actor] ++ [e.name]) a161 c161 (tO)) ?_
             refine ge_block ?_
             exact fun act wo hsl st => ⟨[vb k] ++ [itoaB e.actor] ++ [e.name], by rcases (show k = 8 ∨ k = 9 by omega) with rfl | rfl <;> exact cand_form hk rfl, by simp, hsl.keep (Keep.cons rfl (Keep.cons rfl (Keep.nil))), st.imp (tO)⟩
            ·
             replace hc15 := hs_ hc15
             try have hk149 : ¬ _ := fun h9 => absurd (hb.2 h9) (by rw [hc15]; decide)
             refine g_seq ?_
             refine g_region ?_
             refine gl_v rfl (o_eql rfl rfl) ?_
             refine gl_v rfl (o_assign rfl) ?_
             refine gl_nil ?_
             refine ge_then ?_
             refine g_cond rfl (fun hc16 => ?_) (fun hc16 => ?_)
             ·
              replace hc16 := hs_ hc16
              obtain rfl : k = 15 := by omega
              refine g_region ?_
              refine gl_v rfl (o_move rfl) ?_
              first | refine gl_v rfl (o_fldS rfl) ?_ | refine gl_v rfl (o_fld rfl) ?_
              first | refine gl_v rfl (o_load rfl rfl) ?_ | refine gl_v rfl (o_loadS rfl rfl) ?_ | refine gl_v rfl (o_loadC rfl) ?_
              first | refine gl_n rfl (o_buildS1 rfl rfl rfl) ?_ | refine gl_n rfl (o_buildS1A rfl rfl rfl rfl) ?_ | refine gl_n rfl (o_buildS rfl rfl rfl rfl) ?_
              rintro _ _ ⟨b167, rfl, rfl⟩
              refine gl_c rfl (o_callV rfl rfl (num1 hG b4 b167 ([vb 15]) e.n hr.n (by simp)) pA) ?_
              rintro _ R ⟨_, ⟨rfl, rfl⟩, rfl⟩
              try simp only [List.cons_append, List.nil_append]
              refine gl_nil ?_
              refine ge_block ?_
              exact fun act wo hsl st => ⟨[vb 15] ++ [itoaB e.n], cand_form hk (rfl), by simp, hsl.keep (Keep.cons rfl (Keep.cons rfl (Keep.nil))), st.imp (tO)⟩
             ·
              replace hc16 := hs_ hc16
              refine g_region ?_
              refine gl_v rfl (o_move rfl) ?_
              first | refine gl_v rfl (o_fldS rfl) ?_ | refine gl_v rfl (o_fld rfl) ?_
              first | refine gl_v rfl (o_load rfl rfl) ?_ | refine gl_v rfl (o_loadS rfl rfl) ?_ | refine gl_v rfl (o_loadC rfl) ?_
              first | refine gl_n rfl (o_buildS1 rfl rfl rfl) ?_ | refine gl_n rfl (o_buildS1A rfl rfl rfl rfl) ?_ | refine gl_n rfl (o_buildS rfl rfl rfl rfl) ?_
              rintro _ _ ⟨b33, rfl, rfl⟩
              refine gl_c rfl (o_callV rfl rfl (num1 hG b4 b33 ([vb k]) e.actor hr.actor (by simp)) pA) ?_
              rintro _ R ⟨_, ⟨rfl, rfl⟩, rfl⟩
              try simp only [List.cons_append, List.nil_append]
              refine gl_nil ?_
              refine ge_block ?_
              exact fun act wo hsl st => ⟨[vb k] ++ [itoaB e.actor], by rcases (show k = 11 ∨ k = 12 ∨ k = 13 ∨ k = 14 by omega) with rfl | rfl | rfl | rfl <;> exact cand_form hk rfl, by simp, hsl.keep (Keep.cons rfl (Keep.cons rfl (Keep.nil))), st.imp (tO)⟩
   ·
    rintro act wo ⟨ws, hcd, hwl, hsl, st⟩
    refine g_of ?_ hsl st
    clear hsl st act wo
    refine g_seq ?_
    refine g_imp (fun h s => Sel.to (A := wl b4 (ws)) sE s) ?_
    refine g_open .head ?_
    rintro ⟨wa, wc⟩ -
    simp only [List.cons_append, List.nil_append]
    refine g_region ?_
    first | refine gl_v rfl (o_load rfl rfl) ?_ | refine gl_v rfl (o_loadS rfl rfl) ?_ | refine gl_v rfl (o_loadC rfl) ?_
    refine gl_c rfl (o_call rfl (Join_spec wa wc ws [32] (by omega) (by rw [join_kit, hcd]; omega)) pA) ?_
    rintro _ R ⟨_, ⟨rfl, rfl⟩, rfl⟩
    try simp only [List.cons_append, List.nil_append]
    rw [join_kit, hcd]
    refine gl_v rfl (o_assign rfl) ?_
    refine gl_nil ?_
    refine ge_then ?_
    refine g_seq ?_
    refine g_seq ?_
    rcases rd_cases (candV e) e with hrd | ⟨e', hrd, hne⟩ | hrd
    ·
     refine g_region ?_
     refine gl_v rfl (o_move rfl) ?_
     refine gl_c rfl (o_call rfl (ReadEvent_spec hG hm (candV e) (by omega)) pA) ?_
     rintro _ R ⟨_, ⟨rfl, rfl⟩, rfl⟩
     try simp only [List.cons_append, List.nil_append]
     rw [hrd]; dsimp only
     refine gl_v rfl (o_move rfl) ?_
     refine gl_v rfl (o_extract rfl rfl) ?_
     refine gl_v rfl (o_extract rfl rfl) ?_
     refine gl_n rfl (o_alloc) ?_
     rintro _ _ ⟨b9, rfl, rfl⟩
     first | refine gl_u (o_storeSA rfl rfl rfl rfl (by simp; omega) (by simp)) ?_ | refine gl_u (o_storeA rfl rfl rfl rfl rfl) ?_
     refine gl_v rfl (o_assign rfl) ?_
     refine gl_nil ?_
     refine ge_then ?_
     refine g_seq ?_
     refine g_region ?_
     refine gl_v rfl (o_move rfl) ?_
     refine gl_v rfl (o_is (c := true) (by rfl) (o_neq rfl rfl)) ?_
     refine gl_v rfl (o_move rfl) ?_
     refine gl_gF rfl rfl rfl rfl ?_
     refine gl_gF rfl rfl rfl rfl ?_
     refine gl_gF rfl rfl rfl rfl ?_
     refine gl_v rfl (o_pickT rfl rfl rfl) ?_
     refine gl_nil ?_
     refine ge_then ?_
     refine g_cond_true rfl ?_
     refine g_seq ?_
     refine g_region ?_
     refine gl_v rfl (o_assign rfl) ?_
     refine gl_v rfl (o_assign rfl) ?_
     refine gl_nil ?_
     refine ge_then ?_
     refine g_ret ?_
     refine ge_then_ret ?_
     refine ret2 (.inl rfl) rfl rfl rfl [base W] (⟨by unfold lineV; rw [hrd, if_neg (by first | (intro h; exact hne (by rw [Option.some.inj h])) | exact hne | (intro h; cases h))], rfl⟩) (tO)
    ·
     refine g_region ?_
     refine gl_v rfl (o_move rfl) ?_
     refine gl_c rfl (o_call rfl (ReadEvent_spec hG hm (candV e) (by omega)) pA) ?_
     rintro _ R ⟨_, ⟨rfl, rfl⟩, rfl⟩
     try simp only [List.cons_append, List.nil_append]
     rw [hrd]; dsimp only
     refine gl_v rfl (o_move rfl) ?_
     refine gl_v rfl (o_extract rfl rfl) ?_
     refine gl_v rfl (o_extract rfl rfl) ?_
     refine gl_n rfl (o_alloc) ?_
     rintro _ _ ⟨b9, rfl, rfl⟩
     first | refine gl_u (o_storeSA rfl rfl rfl rfl (by simp; omega) (by simp)) ?_ | refine gl_u (o_storeA rfl rfl rfl rfl rfl) ?_
     refine gl_v rfl (o_assign rfl) ?_
     refine gl_nil ?_
     refine ge_then ?_
     refine g_seq ?_
     refine g_region ?_
     refine gl_v rfl (o_move rfl) ?_
     refine gl_v rfl (o_is (c := false) (by rfl) (o_neq rfl rfl)) ?_
     refine gl_v rfl (o_move rfl) ?_
     refine gl_gT rfl rfl rfl ?_
     first | refine gl_v rfl (o_loadSA rfl rfl rfl) ?_ | refine gl_v rfl (o_loadA rfl rfl rfl) ?_
     refine gl_gT rfl rfl rfl ?_
     first | refine gl_v rfl (o_loadSA rfl rfl rfl) ?_ | refine gl_v rfl (o_loadA rfl rfl rfl) ?_
     refine gl_gT rfl rfl rfl ?_
     refine gl_v rfl (o_is (c := true) (by show (!flatEq (evtC e') (evtC e)) = true; rw [flatEq_evt, decide_eq_false hne]; rfl) (o_neqA rfl rfl rfl rfl)) ?_
     refine gl_v rfl (o_pickF rfl rfl rfl) ?_
     refine gl_nil ?_
     refine ge_then ?_
     refine g_cond_true rfl ?_
     refine g_seq ?_
     refine g_region ?_
     refine gl_v rfl (o_assign rfl) ?_
     refine gl_v rfl (o_assign rfl) ?_
     refine gl_nil ?_
     refine ge_then ?_
     refine g_ret ?_
     refine ge_then_ret ?_
     refine ret2 (.inl rfl) rfl rfl rfl [base W] (⟨by unfold lineV; rw [hrd, if_neg (by first | (intro h; exact hne (by rw [Option.some.inj h])) | exact hne | (intro h; cases h))], rfl⟩) (tO)
    ·
     refine g_region ?_
     refine gl_v rfl (o_move rfl) ?_
     refine gl_c rfl (o_call rfl (ReadEvent_spec hG hm (candV e) (by omega)) pA) ?_
     rintro _ R ⟨_, ⟨rfl, rfl⟩, rfl⟩
     try simp only [List.cons_append, List.nil_append]
     rw [hrd]; dsimp only
     refine gl_v rfl (o_move rfl) ?_
     refine gl_v rfl (o_extract rfl rfl) ?_
     refine gl_v rfl (o_extract rfl rfl) ?_
     refine gl_n rfl (o_alloc) ?_
     rintro _ _ ⟨b9, rfl, rfl⟩
     first | refine gl_u (o_storeSA rfl rfl rfl rfl (by simp; omega) (by simp)) ?_ | refine gl_u (o_storeA rfl rfl rfl rfl rfl) ?_
     refine gl_v rfl (o_assign rfl) ?_
     refine gl_nil ?_
     refine ge_then ?_
     refine g_seq ?_
     refine g_region ?_
     refine gl_v rfl (o_move rfl) ?_
     refine gl_v rfl (o_is (c := false) (by rfl) (o_neq rfl rfl)) ?_
     refine gl_v rfl (o_move rfl) ?_
     refine gl_gT rfl rfl rfl ?_
     first | refine gl_v rfl (o_loadSA rfl rfl rfl) ?_ | refine gl_v rfl (o_loadA rfl rfl rfl) ?_
     refine gl_gT rfl rfl rfl ?_
     first | refine gl_v rfl (o_loadSA rfl rfl rfl) ?_ | refine gl_v rfl (o_loadA rfl rfl rfl) ?_
     refine gl_gT rfl rfl rfl ?_
     refine gl_v rfl (o_is (c := false) (by show (!flatEq (evtC e) (evtC e)) = false; rw [flatEq_evt, decide_eq_true rfl]; rfl) (o_neqA rfl rfl rfl rfl)) ?_
     refine gl_v rfl (o_pickF rfl rfl rfl) ?_
     refine gl_nil ?_
     refine ge_then ?_
     refine g_cond_false rfl ?_
     refine g_skip ?_
     refine ge_then ?_
     refine g_seq ?_
     refine g_region ?_
     refine gl_v rfl (o_move rfl) ?_
     refine gl_v rfl (o_assign rfl) ?_
     refine gl_v rfl (o_assign rfl) ?_
     refine gl_nil ?_
     refine ge_then ?_
     refine g_ret ?_
     refine ret2 (.inl rfl) rfl rfl rfl [base W] (⟨by unfold lineV; rw [hrd, if_pos rfl], rfl⟩) (tO)

end Go.Proofs.YtcglaiacohkaeaaDoor.L
