/-
  Script: the reference's way of writing an event. Own work, printed in part by a program of its own.
-/
import Derived.Test.YtcglaiacohkaeaaDoorScrRf
set_option linter.unusedSimpArgs false
set_option linter.unusedVariables false
set_option linter.unusedSectionVars false
namespace Go.Proofs.YtcglaiacohkaeaaDoor.L
open Go.L Go.L.Lx Go.L.Pa Go.L.Sc
theorem refH_nil {e : Evt} {s : By} {l : Evt} : refH e [] s l = if l = evt0 then some (if e.timed then s ++ 32 :: wTimed else s) else none := rfl
theorem refH_cons {e : Evt} {x : UInt8} {cs s : By} {l : Evt} : refH e (x :: cs) s l = if okV x e = true then refH e cs (s ++ 32 :: fieldV e x) (clrV x l) else none := rfl
theorem refV_no {e : Evt} (h : (formV e.kind).1 = [] ∨ (e.timed = true ∧ e.kind ≠ 2) ∨ ¬ (e.id : Int) ≤ big50) : refV e = none := if_pos h
theorem refV_go {e : Evt} (h : ¬ ((formV e.kind).1 = [] ∨ (e.timed = true ∧ e.kind ≠ 2) ∨ ¬ (e.id : Int) ≤ big50)) : refV e = refH e (formV e.kind).2 (formV e.kind).1 { e with kind := 0, timed := false } := if_neg h
theorem okV_dash {x : UInt8} {e : Evt} (h : x.toNat = 82 ∧ e.name = []) : okV x e = true ∧ fieldV e x = wDash := ⟨if_pos h, if_pos h⟩
theorem okV_name {x : UInt8} {e : Evt} (h : ¬ (x.toNat = 82 ∧ e.name = [])) (h2 : x.toNat = 77 ∨ x.toNat = 82) : okV x e = isName e.name ∧ fieldV e x = e.name := ⟨(if_neg h).trans (if_pos h2), (if_neg h).trans (if_pos h2)⟩
theorem clr_name {x : UInt8} {l : Evt} (h2 : x.toNat = 77 ∨ x.toNat = 82) : clrV x l = { l with name := [] } := if_pos h2
theorem okV_id {x : UInt8} {e : Evt} (h : x.toNat = 105) (h2 : (e.id : Int) ≤ big50) : okV x e = true ∧ fieldV e x = itoaB (e.id : Int) := by
  have h1 : ¬ (x.toNat = 82 ∧ e.name = []) := fun h => by omega
  have h3 : ¬ (x.toNat = 77 ∨ x.toNat = 82) := fun h => by omega
  constructor
  · unfold okV; rw [if_neg h1, if_neg h3, if_pos h, decide_eq_true h2]
  · unfold fieldV; rw [if_neg h1, if_neg h3, if_pos h]
theorem clr_id {x : UInt8} {l : Evt} (h : x.toNat = 105) : clrV x l = { l with id := 0 } := (if_neg (fun h => by omega)).trans (if_pos h)
theorem ref_num {e : Evt} {x : UInt8} {cs s : By} {l : Evt} {n : Int} {l' : Evt} (h1 : ¬ (x.toNat = 77 ∨ x.toNat = 82)) (h2 : ¬ x.toNat = 105) (hn : numF e x = n) (hl : clrV x l = l') : refH e (x :: cs) s l = if -65535 ≤ n ∧ n ≤ 65535 then refH e cs (s ++ 32 :: itoaB n) l' else none := by
  subst hn hl
  have h3 : ¬ (x.toNat = 82 ∧ e.name = []) := fun h => h1 (.inr h.1)
  rw [refH_cons, fieldV_num h1 h2]
  have : okV x e = true ↔ -65535 ≤ numF e x ∧ numF e x ≤ 65535 := by
    unfold okV; rw [if_neg h3, if_neg h1, if_neg h2]
    simp
  by_cases h : -65535 ≤ numF e x ∧ numF e x ≤ 65535
  · rw [if_pos h, if_pos (this.2 h)]
  · rw [if_neg h, if_neg (fun h9 => h (this.1 h9))]
theorem app_spv (s w : By) : s ++ [32] ++ w = s ++ 32 :: w := by simp
theorem clr_num {x : UInt8} {l : Evt} (h1 : ¬ (x.toNat = 77 ∨ x.toNat = 82)) (h2 : ¬ x.toNat = 105) : clrV x l = if x.toNat = 65 then { l with actor := 0 } else if x.toNat = 70 then { l with from' := 0 } else if x.toNat = 84 then { l with «to» := 0 } else if x.toNat = 87 then { l with why := 0 } else { l with n := 0 } := (if_neg h1).trans (if_neg h2)

set_option maxRecDepth 8000 in
set_option maxHeartbeats 3000000 in
theorem rEvent_spec (e : Evt) (hr : EvtR e) : FnS Tryd.prog 14 [.agg (evtC e).toArray] [] (fun u Bs => u = (match lineV e with | some s => Value.tuple #[S s, .bool true] | none => Value.tuple #[S [], .bool false]) ∧ Bs = []) := by
 refine fn_body Tryd.func14 rfl rfl rfl ?_
 intro W0 R
 simp only [List.zipIdx_cons, List.zipIdx_nil, List.map_cons, List.map_nil, Nat.zero_add, Nat.reduceAdd, List.cons_append, List.nil_append]
 have hfl := form_len e.kind
 have hkm := evtC_len e
 have htg := hr.name
 have hix := hr.id
 refine g_seq ?_
 refine g_region ?_
 refine gl_n rfl (o_boxA rfl) ?_
 rintro _ _ ⟨b1, rfl, rfl⟩
 refine gl_v rfl (o_assign rfl) ?_
 refine gl_v rfl (o_assign rfl) ?_
 refine gl_nil ?_
 refine ge_then ?_
 refine g_seq ?_
 refine g_region ?_
 first | refine gl_v rfl (o_fldS rfl) ?_ | refine gl_v rfl (o_fld rfl) ?_
 first | refine gl_v rfl (o_load rfl rfl) ?_ | refine gl_v rfl (o_loadS rfl rfl) ?_ | refine gl_v rfl (o_loadC rfl) ?_
 refine gl_c rfl (o_call rfl (rEventForm_spec e.kind) pA) ?_
 rintro _ R ⟨_, ⟨rfl, rfl⟩, rfl⟩
 try simp only [List.cons_append, List.nil_append]
 refine gl_v rfl (o_move rfl) ?_
 refine gl_v rfl (o_extract rfl rfl) ?_
 refine gl_v rfl (o_extract rfl rfl) ?_
 refine gl_v rfl (o_assign rfl) ?_
 refine gl_v rfl (o_assign rfl) ?_
 refine gl_nil ?_
 refine ge_then ?_
 refine g_seq ?_
 refine g_seq ?_
 refine g_region ?_
 refine gl_v rfl (o_move rfl) ?_
 refine gl_v rfl (o_eqls rfl rfl) ?_
 refine gl_v rfl (o_move rfl) ?_
 refine gl_join (d := 32) 13 (.bool ((decide ((formV e.kind).1 = []) || (e.timed && !decide (e.kind = 2))) || decide ((1125899906842624 : Int) < (e.id : Int)))) ?_ (fun jk32 => ?_)
 rotate_left
 ·
  refine gl_g rfl rfl (fun hc1 => ?_) (fun hc1 => ?_) rfl
  ·
   have hc1' := hc1
   replace hc1' := hs_ hc1'
   first | refine gl_v rfl (o_fldS rfl) ?_ | refine gl_v rfl (o_fld rfl) ?_
   refine gl_gT rfl rfl hc1 ?_
   first | refine gl_v rfl (o_load rfl rfl) ?_ | refine gl_v rfl (o_loadS rfl rfl) ?_ | refine gl_v rfl (o_loadC rfl) ?_
   refine gl_gT rfl rfl hc1 ?_
   refine gl_v rfl (o_move rfl) ?_
   refine gl_g rfl rfl (fun hc2 => ?_) (fun hc2 => ?_) rfl
   ·
    have hc2' := hc2
    replace hc2' := hs_ hc2'
    first | refine gl_v rfl (o_fldS rfl) ?_ | refine gl_v rfl (o_fld rfl) ?_
    refine gl_gT rfl rfl hc2 ?_
    first | refine gl_v rfl (o_load rfl rfl) ?_ | refine gl_v rfl (o_loadS rfl rfl) ?_ | refine gl_v rfl (o_loadC rfl) ?_
    refine gl_gT rfl rfl hc2 ?_
    refine gl_v rfl (o_neq rfl rfl) ?_
    refine gl_gT rfl rfl hc1 ?_
    refine gl_v rfl (o_pickT hc2 rfl rfl) ?_
    refine gl_v rfl (o_pickF hc1 rfl rfl) ?_
    refine gl_v rfl (o_move rfl) ?_
    refine gl_g rfl rfl (fun hc3 => ?_) (fun hc3 => ?_) rfl
    ·
     have hc3' := hc3
     replace hc3' := hs_ hc3'
     first | refine gl_v rfl (o_fldS rfl) ?_ | refine gl_v rfl (o_fld rfl) ?_
     refine gl_gT rfl rfl hc3 ?_
     first | refine gl_v rfl (o_load rfl rfl) ?_ | refine gl_v rfl (o_loadS rfl rfl) ?_ | refine gl_v rfl (o_loadC rfl) ?_
     refine gl_gT rfl rfl hc3 ?_
     refine gl_v rfl (o_gtr rfl rfl) ?_
     refine gl_v rfl (o_pickF hc3 rfl rfl) ?_
     first | exact jk32 _ (KeepS.top (by repeat (first | exact KeepS.refl _ | refine KeepS.push ?_ rfl)) (jval (by first | rfl | (simp only [hc1, hc2, hc3, Bool.not_true, Bool.not_false, Bool.false_and, Bool.true_and, Bool.true_or, Bool.false_or]; done) | (simp [hc1, hc2, hc3]; done) | simp_all))) | exact gl_imp (tO) (jk32 _ (KeepS.top (by repeat (first | exact KeepS.refl _ | refine KeepS.push ?_ rfl)) (jval (by first | rfl | (simp only [hc1, hc2, hc3, Bool.not_true, Bool.not_false, Bool.false_and, Bool.true_and, Bool.true_or, Bool.false_or]; done) | (simp [hc1, hc2, hc3]; done) | simp_all))))
    ·
     have hc3' := hc3
     replace hc3' := hs_ hc3'
     simp only [putO]
     refine gl_gF rfl rfl hc3 rfl ?_
     refine gl_gF rfl rfl hc3 rfl ?_
     refine gl_v rfl (o_pickT hc3 rfl rfl) ?_
     first | exact jk32 _ (KeepS.top (by repeat (first | exact KeepS.refl _ | refine KeepS.push ?_ rfl)) (jval (by first | rfl | (simp only [hc1, hc2, hc3, Bool.not_true, Bool.not_false, Bool.false_and, Bool.true_and, Bool.true_or, Bool.false_or]; done) | (simp [hc1, hc2, hc3]; done) | simp_all))) | exact gl_imp (tO) (jk32 _ (KeepS.top (by repeat (first | exact KeepS.refl _ | refine KeepS.push ?_ rfl)) (jval (by first | rfl | (simp only [hc1, hc2, hc3, Bool.not_true, Bool.not_false, Bool.false_and, Bool.true_and, Bool.true_or, Bool.false_or]; done) | (simp [hc1, hc2, hc3]; done) | simp_all))))
   ·
    have hc2' := hc2
    replace hc2' := hs_ hc2'
    simp only [putO]
    refine gl_gF rfl rfl hc2 rfl ?_
    refine gl_gF rfl rfl hc2 rfl ?_
    refine gl_gT rfl rfl hc1 ?_
    refine gl_v rfl (o_pickF hc2 rfl rfl) ?_
    refine gl_v rfl (o_pickF hc1 rfl rfl) ?_
    refine gl_v rfl (o_move rfl) ?_
    refine gl_gT rfl rfl rfl ?_
    first | refine gl_v rfl (o_fldS rfl) ?_ | refine gl_v rfl (o_fld rfl) ?_
    refine gl_gT rfl rfl rfl ?_
    first | refine gl_v rfl (o_load rfl rfl) ?_ | refine gl_v rfl (o_loadS rfl rfl) ?_ | refine gl_v rfl (o_loadC rfl) ?_
    refine gl_gT rfl rfl rfl ?_
    refine gl_v rfl (o_gtr rfl rfl) ?_
    refine gl_v rfl (o_pickF rfl rfl rfl) ?_
    first | exact jk32 _ (KeepS.top (by repeat (first | exact KeepS.refl _ | refine KeepS.push ?_ rfl)) (jval (by first | rfl | (simp only [hc1, hc2, Bool.not_true, Bool.not_false, Bool.false_and, Bool.true_and, Bool.true_or, Bool.false_or]; done) | (simp [hc1, hc2]; done) | simp_all))) | exact gl_imp (tO) (jk32 _ (KeepS.top (by repeat (first | exact KeepS.refl _ | refine KeepS.push ?_ rfl)) (jval (by first | rfl | (simp only [hc1, hc2, Bool.not_true, Bool.not_false, Bool.false_and, Bool.true_and, Bool.true_or, Bool.false_or]; done) | (simp [hc1, hc2]; done) | simp_all))))
  ·
   have hc1' := hc1
   replace hc1' := hs_ hc1'
   simp only [putO]
   refine gl_gF rfl rfl hc1 rfl ?_
   refine gl_gF rfl rfl hc1 rfl ?_
   refine gl_gU rfl rfl rfl ?_
   refine gl_gU rfl rfl rfl ?_
   refine gl_gU rfl rfl rfl ?_
   refine gl_gF rfl rfl hc1 rfl ?_
   refine gl_v rfl (o_pickT hc1 rfl rfl) ?_
   refine gl_v rfl (o_move rfl) ?_
   refine gl_gF rfl rfl rfl rfl ?_
   refine gl_gF rfl rfl rfl rfl ?_
   refine gl_gF rfl rfl rfl rfl ?_
   refine gl_v rfl (o_pickT rfl rfl rfl) ?_
   first | exact jk32 _ (KeepS.top (by repeat (first | exact KeepS.refl _ | refine KeepS.push ?_ rfl)) (jval (by first | rfl | (simp only [hc1, Bool.not_true, Bool.not_false, Bool.false_and, Bool.true_and, Bool.true_or, Bool.false_or]; done) | (simp [hc1]; done) | simp_all))) | exact gl_imp (tO) (jk32 _ (KeepS.top (by repeat (first | exact KeepS.refl _ | refine KeepS.push ?_ rfl)) (jval (by first | rfl | (simp only [hc1, Bool.not_true, Bool.not_false, Bool.false_and, Bool.true_and, Bool.true_or, Bool.false_or]; done) | (simp [hc1]; done) | simp_all))))
 refine gl_nil ?_
 refine ge_then ?_
 refine g_cond rfl (fun hc4 => ?_) (fun hc4 => ?_)
 ·
  replace hc4 := hs_ hc4
  have hno : lineV e = none := by rw [← refV_eq]; refine refV_no ?_; have h9 := hc4; simp only [Bool.or_eq_true, Bool.and_eq_true, Bool.not_eq_true', decide_eq_true_eq, decide_eq_false_iff_not] at h9; rcases h9 with (h9 | h9) | h9; exact .inl h9; exact .inr (.inl h9); exact .inr (.inr (by unfold big50; omega))
  refine g_seq ?_
  refine g_region ?_
  refine gl_v rfl (o_assign rfl) ?_
  refine gl_v rfl (o_assign rfl) ?_
  refine gl_nil ?_
  refine ge_then ?_
  refine g_ret ?_
  refine ge_then_ret ?_
  rw [hno]
  refine ret2 (.inl rfl) rfl rfl rfl  [] ⟨rfl, rfl⟩ (tO)
 ·
  replace hc4 := hs_ hc4
  have hgo : ¬ ((formV e.kind).1 = [] ∨ (e.timed = true ∧ e.kind ≠ 2) ∨ ¬ (e.id : Int) ≤ big50) := by intro h8; have h9 := hc4; simp only [Bool.or_eq_false_iff, Bool.and_eq_false_iff, Bool.not_eq_false', decide_eq_false_iff_not, decide_eq_true_eq] at h9; rcases h8 with h8 | ⟨h8, h7⟩ | h8; exact h9.1.1 h8; rcases h9.1.2 with h6 | h6; rw [h8] at h6; cases h6; exact h7 h6; exact h8 (by unfold big50; omega)
  have hid : (e.id : Int) ≤ big50 := Classical.byContradiction fun h8 => hgo (.inr (.inr h8))
  refine g_skip ?_
  refine ge_then ?_
  refine g_seq ?_
  refine g_region ?_
  refine gl_v rfl (o_move rfl) ?_
  refine gl_v rfl (o_assign rfl) ?_
  refine gl_nil ?_
  refine ge_then ?_
  refine g_seq ?_
  refine g_region ?_
  first | refine gl_v rfl (o_loadSA rfl rfl rfl) ?_ | refine gl_v rfl (o_loadA rfl rfl rfl) ?_
  refine gl_n rfl (o_alloc) ?_
  rintro _ _ ⟨b7, rfl, rfl⟩
  first | refine gl_u (o_storeSA rfl rfl rfl rfl (by simp; omega) (by simp)) ?_ | refine gl_u (o_storeA rfl rfl rfl rfl rfl) ?_
  refine gl_nil ?_
  refine ge_then ?_
  refine g_seq ?_
  refine g_region ?_
  first | refine gl_v rfl (o_fldS rfl) ?_ | refine gl_v rfl (o_fld rfl) ?_
  first | refine gl_u (o_store rfl rfl rfl rfl) ?_ | refine gl_u (o_storeS rfl rfl rfl (by first | assumption | omega | simp)) ?_
  refine gl_nil ?_
  refine ge_then ?_
  refine g_seq ?_
  refine g_region ?_
  first | refine gl_v rfl (o_fldS rfl) ?_ | refine gl_v rfl (o_fld rfl) ?_
  first | refine gl_u (o_store rfl rfl rfl rfl) ?_ | refine gl_u (o_storeS rfl rfl rfl (by first | assumption | omega | simp)) ?_
  refine gl_nil ?_
  refine ge_then ?_
  refine g_seq ?_
  refine g_seq ?_
  refine g_region ?_
  refine gl_v rfl (o_assign rfl) ?_
  refine gl_nil ?_
  refine ge_then ?_
  refine g_block ?_
  refine g_loop (ι := Nat × By × Evt) (fun x => x.1 ≤ (formV e.kind).2.length ∧ x.2.1.length ≤ 20 + x.1 * 1048600 ∧ refH e ((formV e.kind).2.drop x.1) x.2.1 x.2.2 = lineV e) (fun x => [(8, I64 x.1), (7, ptr b7 0), (6, S x.2.1), (5, S (formV e.kind).2), (1, ptr b1 0)]) (fun x => cel b7 37 (evtC (x.2.2)) :: cel b1 37 (evtC (e)) :: R) (fun x => (formV e.kind).2.length - x.1) (0, (formV e.kind).1, { e with kind := 0, timed := false }) (⟨Nat.zero_le _, by show (formV e.kind).1.length ≤ 20 + 0 * 1048600; omega, by rw [← refV_eq]; exact (refV_go hgo).symm⟩) (Keep.cons rfl (Keep.cons rfl (Keep.cons rfl (Keep.cons rfl (Keep.cons rfl (Keep.nil)))))) (tO) ?_
  rintro ⟨i, s, left⟩ ⟨hi, hsl, hI⟩
  replace hi : i ≤ (formV e.kind).2.length := hi
  replace hsl : s.length ≤ 20 + i * 1048600 := hsl
  replace hI : refH e ((formV e.kind).2.drop i) s left = lineV e := hI
  dsimp only
  have hkl := evtC_len left
  refine g_seq ?_
  refine g_seq ?_
  refine g_region ?_
  refine gl_v rfl (o_move rfl) ?_
  refine gl_v rfl (o_move rfl) ?_
  refine gl_v rfl (o_lens rfl) ?_
  refine gl_v rfl (o_lss rfl rfl) ?_
  refine gl_nil ?_
  refine ge_then ?_
  refine g_cond rfl (fun hc5 => ?_) (fun hc5 => ?_)
  ·
   replace hc5 := hs_ hc5
   have hi1 : i < (formV e.kind).2.length := by omega
   obtain ⟨x, hx⟩ : ∃ x, (formV e.kind).2[i]? = some x := ⟨_, List.getElem?_eq_getElem hi1⟩
   have hxc := form_okL e.kind x (List.mem_of_getElem? hx)
   unfold okL at hxc
   refine g_skip ?_
   refine ge_then ?_
   refine g_seq ?_
   refine g_block ?_
   refine g_seq ?_
   refine g_region ?_
   refine gl_v rfl (o_assign rfl) ?_
   refine gl_nil ?_
   refine ge_then ?_
   refine g_cut (fun act wo => ∃ (n : Int) (left' : Evt), refH e ((formV e.kind).2.drop i) s left = (if -65535 ≤ n ∧ n ≤ 65535 then refH e ((formV e.kind).2.drop (i + 1)) (s ++ 32 :: itoaB n) left' else none) ∧ i64R n ∧ HasSl Tryd.f14.ntmps [(9, I64 n), (8, I64 i), (7, ptr b7 0), (6, S s), (5, S (formV e.kind).2), (1, ptr b1 0)] act ∧ St W0 (cel b7 37 (evtC (left')) :: cel b1 37 (evtC (e)) :: R) wo) ?_ ?_
   ·
    refine g_seq ?_
    refine g_region ?_
    refine gl_v rfl (o_move rfl) ?_
    refine gl_v rfl (o_move rfl) ?_
    refine gl_v rfl (o_index_string (i := i) rfl rfl hx) ?_
    refine gl_nil ?_
    refine ge_then ?_
    refine g_block ?_
    refine g_cut (fun act wo => ∃ b : Bool, (b = true ↔ x.toNat = 77 ∨ x.toNat = 82) ∧ HasSl Tryd.f14.ntmps [(46, .bool b), (9, I64 0), (45, B8 x), (8, I64 i), (7, ptr b7 0), (6, S s), (5, S (formV e.kind).2), (1, ptr b1 0)] act ∧ St W0 (cel b7 37 (evtC (left)) :: cel b1 37 (evtC (e)) :: R) wo) ?_ ?_
    ·
     refine g_seq ?_
     refine g_region ?_
     refine gl_v rfl (o_eql rfl rfl) ?_
     refine gl_v rfl (o_assign rfl) ?_
     refine gl_nil ?_
     refine ge_then ?_
     refine g_cond rfl (fun hc6 => ?_) (fun hc6 => ?_)
     ·
      replace hc6 := hs_ hc6
      try have hk := hb.1 hc6
      refine g_skip ?_
      exact fun act wo hsl st => ⟨_, (by simp only [decide_eq_true_eq]; omega), hsl.keep (Keep.cons rfl (Keep.cons rfl (Keep.cons rfl (Keep.cons rfl (Keep.cons rfl (Keep.cons rfl (Keep.cons rfl (Keep.cons rfl (Keep.nil))))))))), st.imp (tO)⟩
     ·
      replace hc6 := hs_ hc6
      try have hk : ¬ _ := fun h9 => absurd (hb.2 h9) (by rw [hc6]; decide)
      refine g_region ?_
      refine gl_v rfl (o_eql rfl rfl) ?_
      refine gl_v rfl (o_assign rfl) ?_
      refine gl_nil ?_
      exact fun act wo hsl st => ⟨_, (by simp only [decide_eq_true_eq]; omega), hsl.keep (Keep.cons rfl (Keep.cons rfl (Keep.cons rfl (Keep.cons rfl (Keep.cons rfl (Keep.cons rfl (Keep.cons rfl (Keep.cons rfl (Keep.nil))))))))), st.imp (tO)⟩
    ·
     rintro act wo ⟨b, hb, hsl, st⟩
     refine g_of ?_ hsl st
     clear hsl st act wo
     refine g_cond rfl (fun hc7 => ?_) (fun hc7 => ?_)
     ·
      replace hc7 := hs_ hc7
      try have hk := hb.1 hc7
      refine g_seq ?_
      refine g_region ?_
      first | refine gl_v rfl (o_fldS rfl) ?_ | refine gl_v rfl (o_fld rfl) ?_
      first | refine gl_u (o_store rfl rfl rfl rfl) ?_ | refine gl_u (o_storeS rfl rfl rfl (by first | assumption | omega | simp)) ?_
      refine gl_nil ?_
      refine ge_then ?_
      refine g_seq ?_
      refine g_region ?_
      first | refine gl_v rfl (o_fldS rfl) ?_ | refine gl_v rfl (o_fld rfl) ?_
      first | refine gl_v rfl (o_load rfl rfl) ?_ | refine gl_v rfl (o_loadS rfl rfl) ?_ | refine gl_v rfl (o_loadC rfl) ?_
      refine gl_v rfl (o_assign rfl) ?_
      refine gl_nil ?_
      refine ge_then ?_
      refine g_cut (fun act wo => ∃ w : By, okV x e = true ∧ fieldV e x = w ∧ w.length ≤ 1048576 ∧ HasSl Tryd.f14.ntmps [(10, S w), (8, I64 i), (7, ptr b7 0), (6, S s), (5, S (formV e.kind).2), (1, ptr b1 0)] act ∧ St W0 (cel b7 37 (evtC ({ left with name := [] })) :: cel b1 37 (evtC (e)) :: R) wo) ?_ ?_
      ·
       refine g_seq ?_
       refine g_region ?_
       refine gl_v rfl (o_move rfl) ?_
       refine gl_v rfl (o_move rfl) ?_
       refine gl_v rfl (o_index_string (i := i) rfl rfl hx) ?_
       refine gl_v rfl (o_eql rfl rfl) ?_
       refine gl_v rfl (o_move rfl) ?_
       refine gl_join (d := 59) 3 (.bool (decide ((x.toNat : Int) = 82) && decide (e.name = []))) ?_ (fun jk59 => ?_)
       rotate_left
       ·
        refine gl_g rfl rfl (fun hc8 => ?_) (fun hc8 => ?_) rfl
        ·
         have hc8' := hc8
         replace hc8' := hs_ hc8'
         refine gl_v rfl (o_move rfl) ?_
         refine gl_gT rfl rfl hc8 ?_
         refine gl_v rfl (o_eqls rfl rfl) ?_
         refine gl_v rfl (o_pickT hc8 rfl rfl) ?_
         first | exact jk59 _ (KeepS.top (by repeat (first | exact KeepS.refl _ | refine KeepS.push ?_ rfl)) (jval (by first | rfl | (simp only [hc8, Bool.not_true, Bool.not_false, Bool.false_and, Bool.true_and, Bool.true_or, Bool.false_or]; done) | (simp [hc8]; done) | simp_all))) | exact gl_imp (tO) (jk59 _ (KeepS.top (by repeat (first | exact KeepS.refl _ | refine KeepS.push ?_ rfl)) (jval (by first | rfl | (simp only [hc8, Bool.not_true, Bool.not_false, Bool.false_and, Bool.true_and, Bool.true_or, Bool.false_or]; done) | (simp [hc8]; done) | simp_all))))
        ·
         have hc8' := hc8
         replace hc8' := hs_ hc8'
         simp only [putO]
         refine gl_gF rfl rfl hc8 rfl ?_
         refine gl_v rfl (o_pickF hc8 rfl rfl) ?_
         first | exact jk59 _ (KeepS.top (by repeat (first | exact KeepS.refl _ | refine KeepS.push ?_ rfl)) (jval (by first | rfl | (simp only [hc8, Bool.not_true, Bool.not_false, Bool.false_and, Bool.true_and, Bool.true_or, Bool.false_or]; done) | (simp [hc8]; done) | simp_all))) | exact gl_imp (tO) (jk59 _ (KeepS.top (by repeat (first | exact KeepS.refl _ | refine KeepS.push ?_ rfl)) (jval (by first | rfl | (simp only [hc8, Bool.not_true, Bool.not_false, Bool.false_and, Bool.true_and, Bool.true_or, Bool.false_or]; done) | (simp [hc8]; done) | simp_all))))
       refine gl_nil ?_
       refine ge_then ?_
       refine g_cond rfl (fun hc9 => ?_) (fun hc9 => ?_)
       ·
        replace hc9 := hs_ hc9
        have hd : x.toNat = 82 ∧ e.name = [] := by have h9 := hc9; rw [Bool.and_eq_true, decide_eq_true_eq, decide_eq_true_eq] at h9; exact ⟨by omega, h9.2⟩
        refine g_region ?_
        refine gl_v rfl (o_assign rfl) ?_
        refine gl_nil ?_
        exact fun act wo hsl st => ⟨wDash, (okV_dash hd).1, (okV_dash hd).2, by decide, hsl.keep (Keep.cons rfl (Keep.cons rfl (Keep.cons rfl (Keep.cons rfl (Keep.cons rfl (Keep.cons rfl (Keep.nil))))))), st.imp (tO)⟩
       ·
        replace hc9 := hs_ hc9
        have hd : ¬ (x.toNat = 82 ∧ e.name = []) := fun h8 => by have h9 := hc9; rw [decide_eq_true (show ((x.toNat : Int) = 82) by omega), decide_eq_true h8.2] at h9; cases h9
        refine g_seq ?_
        refine g_region ?_
        refine gl_v rfl (o_move rfl) ?_
        refine gl_c rfl (o_call rfl (RName_spec e.name (by omega)) pA) ?_
        rintro _ R ⟨_, ⟨rfl, rfl⟩, rfl⟩
        try simp only [List.cons_append, List.nil_append]
        refine gl_v rfl (o_not rfl) ?_
        refine gl_nil ?_
        refine ge_then ?_
        refine g_cond rfl (fun hc10 => ?_) (fun hc10 => ?_)
        ·
         replace hc10 := hs_ hc10
         have hnm : ¬ isName e.name = true := by simpa using hc10
         refine g_seq ?_
         refine g_region ?_
         refine gl_v rfl (o_assign rfl) ?_
         refine gl_v rfl (o_assign rfl) ?_
         refine gl_nil ?_
         refine ge_then ?_
         refine g_ret ?_
         refine ge_then_ret ?_
         refine ge_block_ret ?_
         refine ge_then_ret ?_
         refine ge_block_ret ?_
         refine ge_then_ret ?_
         refine ge_then_ret ?_
         refine ge_block_ret ?_
         refine ge_then_ret ?_
         rw [show lineV e = none by rw [← hI, drop_at' hx, refH_cons, if_neg (by rw [(okV_name hd hk).1]; exact hnm)]]
         refine ret2 (.inl rfl) rfl rfl rfl  [] ⟨rfl, rfl⟩ (tO)
        ·
         replace hc10 := hs_ hc10
         have hnm : isName e.name = true := by simpa using hc10
         refine g_skip ?_
         exact fun act wo hsl st => ⟨e.name, by rw [(okV_name hd hk).1]; exact hnm, (okV_name hd hk).2, htg, hsl.keep (Keep.cons rfl (Keep.cons rfl (Keep.cons rfl (Keep.cons rfl (Keep.cons rfl (Keep.cons rfl (Keep.nil))))))), st.imp (tO)⟩
      ·
       rintro act wo ⟨w, hwk, hwf, hwl, hsl, st⟩
       refine g_of ?_ hsl st
       clear hsl st act wo
       refine g_seq ?_
       refine g_region ?_
       refine gl_v rfl (o_move rfl) ?_
       refine gl_v rfl (o_adds rfl rfl (by skip; first | omega | (simp only [List.length_append, List.length_cons, List.length_nil]; omega))) ?_
       refine gl_v rfl (o_move rfl) ?_
       refine gl_v rfl (o_adds rfl rfl (by have := hwl; first | omega | (simp only [List.length_append, List.length_cons, List.length_nil]; omega))) ?_
       refine gl_v rfl (o_assign rfl) ?_
       refine gl_nil ?_
       refine ge_then ?_
       refine g_exit ?_
       refine ge_block_pass rfl ?_
       refine ge_then_exit ?_
       refine ge_block_exit ?_
       refine ge_then ?_
       refine g_region ?_
       refine gl_v rfl (o_move rfl) ?_
       refine gl_v rfl (o_addR ((i + 1 : Nat) : Int) (by rw [wr_i64 (by omega)]; omega) rfl rfl) ?_
       refine gl_v rfl (o_assign rfl) ?_
       refine gl_nil ?_
       refine ge_round (i + 1, s ++ [32] ++ w, { left with name := [] }) ⟨by show i + 1 ≤ (formV e.kind).2.length; omega, by have := hwl; show (s ++ [32] ++ w).length ≤ 20 + (i + 1) * 1048600; simp only [List.length_append, List.length_cons, List.length_nil] at *; omega, by show refH e ((formV e.kind).2.drop (i + 1)) (s ++ [32] ++ w) ({ left with name := [] }) = lineV e; rw [← hI, drop_at' hx, refH_cons, if_pos hwk, hwf, clr_name hk, app_spv]⟩ (by show (formV e.kind).2.length - (i + 1) < (formV e.kind).2.length - i; omega) (Keep.cons rfl (Keep.cons rfl (Keep.cons rfl (Keep.cons rfl (Keep.cons rfl (Keep.nil)))))) (tO)
     ·
      replace hc7 := hs_ hc7
      try have hk : ¬ _ := fun h9 => absurd (hb.2 h9) (by rw [hc7]; decide)
      refine g_seq ?_
      refine g_region ?_
      refine gl_v rfl (o_eql rfl rfl) ?_
      refine gl_v rfl (o_assign rfl) ?_
      refine gl_nil ?_
      refine ge_then ?_
      refine g_cond rfl (fun hc11 => ?_) (fun hc11 => ?_)
      ·
       replace hc11 := hs_ hc11
       have h105 : x.toNat = 105 := by omega
       refine g_seq ?_
       refine g_region ?_
       first | refine gl_v rfl (o_fldS rfl) ?_ | refine gl_v rfl (o_fld rfl) ?_
       first | refine gl_u (o_store rfl rfl rfl rfl) ?_ | refine gl_u (o_storeS rfl rfl rfl (by first | assumption | omega | simp)) ?_
       refine gl_nil ?_
       refine ge_then ?_
       refine g_seq ?_
       refine g_region ?_
       refine gl_v rfl (o_move rfl) ?_
       refine gl_v rfl (o_adds rfl rfl (by skip; first | omega | (simp only [List.length_append, List.length_cons, List.length_nil]; omega))) ?_
       first | refine gl_v rfl (o_fldS rfl) ?_ | refine gl_v rfl (o_fld rfl) ?_
       first | refine gl_v rfl (o_load rfl rfl) ?_ | refine gl_v rfl (o_loadS rfl rfl) ?_ | refine gl_v rfl (o_loadC rfl) ?_
       refine gl_v rfl (o_convR ((e.id : Nat) : Int) (wr_i64 (by unfold big50 at hid; omega)) rfl) ?_
       refine gl_c rfl (o_call rfl (Number_spec (e.id : Int) (by unfold big50 at hid; omega)) pA) ?_
       rintro _ R ⟨_, ⟨rfl, rfl⟩, rfl⟩
       try simp only [List.cons_append, List.nil_append]
       refine gl_v rfl (o_adds rfl rfl (by have := itoa_len (n := (e.id : Int)) (by unfold big50 at hid; omega); first | omega | (simp only [List.length_append, List.length_cons, List.length_nil]; omega))) ?_
       refine gl_v rfl (o_assign rfl) ?_
       refine gl_nil ?_
       refine ge_then ?_
       refine g_exit ?_
       refine ge_block_pass rfl ?_
       refine ge_then_exit ?_
       refine ge_block_exit ?_
       refine ge_then ?_
       refine g_region ?_
       refine gl_v rfl (o_move rfl) ?_
       refine gl_v rfl (o_addR ((i + 1 : Nat) : Int) (by rw [wr_i64 (by omega)]; omega) rfl rfl) ?_
       refine gl_v rfl (o_assign rfl) ?_
       refine gl_nil ?_
       refine ge_round (i + 1, s ++ [32] ++ itoaB (e.id : Int), { left with id := 0 }) ⟨by show i + 1 ≤ (formV e.kind).2.length; omega, by have := itoa_len (n := (e.id : Int)) (by unfold big50 at hid; omega); show (s ++ [32] ++ itoaB (e.id : Int)).length ≤ 20 + (i + 1) * 1048600; simp only [List.length_append, List.length_cons, List.length_nil] at *; omega, by show refH e ((formV e.kind).2.drop (i + 1)) (s ++ [32] ++ itoaB (e.id : Int)) ({ left with id := 0 }) = lineV e; rw [← hI, drop_at' hx, refH_cons, if_pos (okV_id h105 hid).1, (okV_id h105 hid).2, clr_id h105, app_spv]⟩ (by show (formV e.kind).2.length - (i + 1) < (formV e.kind).2.length - i; omega) (Keep.cons rfl (Keep.cons rfl (Keep.cons rfl (Keep.cons rfl (Keep.cons rfl (Keep.nil)))))) (tO)
      ·
       replace hc11 := hs_ hc11
       have h105 : ¬ x.toNat = 105 := by omega
       refine g_seq ?_
       refine g_region ?_
       refine gl_v rfl (o_eql rfl rfl) ?_
       refine gl_v rfl (o_assign rfl) ?_
       refine gl_nil ?_
       refine ge_then ?_
       refine g_cond rfl (fun hc12 => ?_) (fun hc12 => ?_)
       ·
        replace hc12 := hs_ hc12
        have h65 : x.toNat = 65 := by omega
        refine g_seq ?_
        refine g_region ?_
        first | refine gl_v rfl (o_fldS rfl) ?_ | refine gl_v rfl (o_fld rfl) ?_
        first | refine gl_v rfl (o_load rfl rfl) ?_ | refine gl_v rfl (o_loadS rfl rfl) ?_ | refine gl_v rfl (o_loadC rfl) ?_
        refine gl_v rfl (o_assign rfl) ?_
        refine gl_nil ?_
        refine ge_then ?_
        refine g_region ?_
        first | refine gl_v rfl (o_fldS rfl) ?_ | refine gl_v rfl (o_fld rfl) ?_
        first | refine gl_u (o_store rfl rfl rfl rfl) ?_ | refine gl_u (o_storeS rfl rfl rfl (by first | assumption | omega | simp)) ?_
        refine gl_nil ?_
        refine ge_block ?_
        exact fun act wo hsl st => ⟨e.actor, { left with actor := 0 }, by rw [drop_at' hx]; exact ref_num hk h105 (by unfold numF; simp only [if_pos h65]) (by rw [clr_num hk h105]; simp only [if_pos h65]), hr.actor, hsl.keep (Keep.cons rfl (Keep.cons rfl (Keep.cons rfl (Keep.cons rfl (Keep.cons rfl (Keep.cons rfl (Keep.nil))))))), st.imp (tO)⟩
       ·
        replace hc12 := hs_ hc12
        have h65 : ¬ x.toNat = 65 := by omega
        refine g_seq ?_
        refine g_region ?_
        refine gl_v rfl (o_eql rfl rfl) ?_
        refine gl_v rfl (o_assign rfl) ?_
        refine gl_nil ?_
        refine ge_then ?_
        refine g_cond rfl (fun hc13 => ?_) (fun hc13 => ?_)
        ·
         replace hc13 := hs_ hc13
         have h70 : x.toNat = 70 := by omega
         refine g_seq ?_
         refine g_region ?_
         first | refine gl_v rfl (o_fldS rfl) ?_ | refine gl_v rfl (o_fld rfl) ?_
         first | refine gl_v rfl (o_load rfl rfl) ?_ | refine gl_v rfl (o_loadS rfl rfl) ?_ | refine gl_v rfl (o_loadC rfl) ?_
         refine gl_v rfl (o_assign rfl) ?_
         refine gl_nil ?_
         refine ge_then ?_
         refine g_region ?_
         first | refine gl_v rfl (o_fldS rfl) ?_ | refine gl_v rfl (o_fld rfl) ?_
         first | refine gl_u (o_store rfl rfl rfl rfl) ?_ | refine gl_u (o_storeS rfl rfl rfl (by first | assumption | omega | simp)) ?_
         refine gl_nil ?_
         refine ge_block ?_
         exact fun act wo hsl st => ⟨e.from', { left with from' := 0 }, by rw [drop_at' hx]; exact ref_num hk h105 (by unfold numF; simp only [if_neg h65, if_pos h70]) (by rw [clr_num hk h105]; simp only [if_neg h65, if_pos h70]), hr.from', hsl.keep (Keep.cons rfl (Keep.cons rfl (Keep.cons rfl (Keep.cons rfl (Keep.cons rfl (Keep.cons rfl (Keep.nil))))))), st.imp (tO)⟩
        ·
         replace hc13 := hs_ hc13
         have h70 : ¬ x.toNat = 70 := by omega
         refine g_seq ?_
         refine g_region ?_
         refine gl_v rfl (o_eql rfl rfl) ?_
         refine gl_v rfl (o_assign rfl) ?_
         refine gl_nil ?_
         refine ge_then ?_
         refine g_cond rfl (fun hc14 => ?_) (fun hc14 => ?_)
         ·
          replace hc14 := hs_ hc14
          have h84 : x.toNat = 84 := by omega
          refine g_seq ?_
          refine g_region ?_
          first | refine gl_v rfl (o_fldS rfl) ?_ | refine gl_v rfl (o_fld rfl) ?_
          first | refine gl_v rfl (o_load rfl rfl) ?_ | refine gl_v rfl (o_loadS rfl rfl) ?_ | refine gl_v rfl (o_loadC rfl) ?_
          refine gl_v rfl (o_assign rfl) ?_
          refine gl_nil ?_
          refine ge_then ?_
          refine g_region ?_
          first | refine gl_v rfl (o_fldS rfl) ?_ | refine gl_v rfl (o_fld rfl) ?_
          first | refine gl_u (o_store rfl rfl rfl rfl) ?_ | refine gl_u (o_storeS rfl rfl rfl (by first | assumption | omega | simp)) ?_
          refine gl_nil ?_
          refine ge_block ?_
          exact fun act wo hsl st => ⟨e.to, { left with «to» := 0 }, by rw [drop_at' hx]; exact ref_num hk h105 (by unfold numF; simp only [if_neg h65, if_neg h70, if_pos h84]) (by rw [clr_num hk h105]; simp only [if_neg h65, if_neg h70, if_pos h84]), hr.to, hsl.keep (Keep.cons rfl (Keep.cons rfl (Keep.cons rfl (Keep.cons rfl (Keep.cons rfl (Keep.cons rfl (Keep.nil))))))), st.imp (tO)⟩
         ·
          replace hc14 := hs_ hc14
          have h84 : ¬ x.toNat = 84 := by omega
          refine g_seq ?_
          refine g_region ?_
          refine gl_v rfl (o_eql rfl rfl) ?_
          refine gl_v rfl (o_assign rfl) ?_
          refine gl_nil ?_
          refine ge_then ?_
          refine g_cond rfl (fun hc15 => ?_) (fun hc15 => ?_)
          ·
           replace hc15 := hs_ hc15
           have h87 : x.toNat = 87 := by omega
           refine g_seq ?_
           refine g_region ?_
           first | refine gl_v rfl (o_fldS rfl) ?_ | refine gl_v rfl (o_fld rfl) ?_
           first | refine gl_v rfl (o_load rfl rfl) ?_ | refine gl_v rfl (o_loadS rfl rfl) ?_ | refine gl_v rfl (o_loadC rfl) ?_
           refine gl_v rfl (o_assign rfl) ?_
           refine gl_nil ?_
           refine ge_then ?_
           refine g_region ?_
           first | refine gl_v rfl (o_fldS rfl) ?_ | refine gl_v rfl (o_fld rfl) ?_
           first | refine gl_u (o_store rfl rfl rfl rfl) ?_ | refine gl_u (o_storeS rfl rfl rfl (by first | assumption | omega | simp)) ?_
           refine gl_nil ?_
           refine ge_block ?_
           exact fun act wo hsl st => ⟨e.why, { left with why := 0 }, by rw [drop_at' hx]; exact ref_num hk h105 (by unfold numF; simp only [if_neg h65, if_neg h70, if_neg h84, if_pos h87]) (by rw [clr_num hk h105]; simp only [if_neg h65, if_neg h70, if_neg h84, if_pos h87]), hr.why, hsl.keep (Keep.cons rfl (Keep.cons rfl (Keep.cons rfl (Keep.cons rfl (Keep.cons rfl (Keep.cons rfl (Keep.nil))))))), st.imp (tO)⟩
          ·
           replace hc15 := hs_ hc15
           have h87 : ¬ x.toNat = 87 := by omega
           refine g_seq ?_
           refine g_region ?_
           refine gl_v rfl (o_eql rfl rfl) ?_
           refine gl_v rfl (o_assign rfl) ?_
           refine gl_nil ?_
           refine ge_then ?_
           refine g_cond rfl (fun hc16 => ?_) (fun hc16 => ?_)
           ·
            replace hc16 := hs_ hc16
            refine g_seq ?_
            refine g_region ?_
            first | refine gl_v rfl (o_fldS rfl) ?_ | refine gl_v rfl (o_fld rfl) ?_
            first | refine gl_v rfl (o_load rfl rfl) ?_ | refine gl_v rfl (o_loadS rfl rfl) ?_ | refine gl_v rfl (o_loadC rfl) ?_
            refine gl_v rfl (o_assign rfl) ?_
            refine gl_nil ?_
            refine ge_then ?_
            refine g_region ?_
            first | refine gl_v rfl (o_fldS rfl) ?_ | refine gl_v rfl (o_fld rfl) ?_
            first | refine gl_u (o_store rfl rfl rfl rfl) ?_ | refine gl_u (o_storeS rfl rfl rfl (by first | assumption | omega | simp)) ?_
            refine gl_nil ?_
            refine ge_block ?_
            exact fun act wo hsl st => ⟨e.n, { left with n := 0 }, by rw [drop_at' hx]; exact ref_num hk h105 (by unfold numF; simp only [if_neg h65, if_neg h70, if_neg h84, if_neg h87]) (by rw [clr_num hk h105]; simp only [if_neg h65, if_neg h70, if_neg h84, if_neg h87]), hr.n, hsl.keep (Keep.cons rfl (Keep.cons rfl (Keep.cons rfl (Keep.cons rfl (Keep.cons rfl (Keep.cons rfl (Keep.nil))))))), st.imp (tO)⟩
           ·
            replace hc16 := hs_ hc16
            exfalso; omega
   ·
    rintro act wo ⟨n, left', hst, hnr, hsl, st⟩
    refine g_of ?_ hsl st
    clear hsl st act wo
    refine g_seq ?_
    refine g_seq ?_
    refine g_region ?_
    refine gl_v rfl (o_move rfl) ?_
    refine gl_v rfl (o_lss rfl rfl) ?_
    refine gl_v rfl (o_move rfl) ?_
    refine gl_g rfl rfl (fun hc17 => ?_) (fun hc17 => ?_) rfl
    ·
     have hc17' := hc17
     replace hc17' := hs_ hc17'
     refine gl_v rfl (o_move rfl) ?_
     refine gl_gT rfl rfl hc17 ?_
     refine gl_v rfl (o_gtr rfl rfl) ?_
     refine gl_v rfl (o_pickF hc17 rfl rfl) ?_
     refine gl_nil ?_
     refine ge_then ?_
     refine g_cond rfl (fun hc18 => ?_) (fun hc18 => ?_)
     ·
      replace hc18 := hs_ hc18
      refine g_seq ?_
      refine g_region ?_
      refine gl_v rfl (o_assign rfl) ?_
      refine gl_v rfl (o_assign rfl) ?_
      refine gl_nil ?_
      refine ge_then ?_
      refine g_ret ?_
      refine ge_then_ret ?_
      refine ge_block_ret ?_
      refine ge_then_ret ?_
      refine ge_then_ret ?_
      refine ge_block_ret ?_
      refine ge_then_ret ?_
      rw [show lineV e = none by rw [← hI, hst, if_neg (by omega)]]
      refine ret2 (.inl rfl) rfl rfl rfl  [] ⟨rfl, rfl⟩ (tO)
     ·
      replace hc18 := hs_ hc18
      refine g_skip ?_
      refine ge_then ?_
      refine g_region ?_
      refine gl_v rfl (o_move rfl) ?_
      refine gl_v rfl (o_adds rfl rfl (by skip; first | omega | (simp only [List.length_append, List.length_cons, List.length_nil]; omega))) ?_
      refine gl_v rfl (o_move rfl) ?_
      refine gl_c rfl (o_call rfl (Number_spec n (by omega)) pA) ?_
      rintro _ R ⟨_, ⟨rfl, rfl⟩, rfl⟩
      try simp only [List.cons_append, List.nil_append]
      refine gl_v rfl (o_adds rfl rfl (by have := itoa_len hnr; first | omega | (simp only [List.length_append, List.length_cons, List.length_nil]; omega))) ?_
      refine gl_v rfl (o_assign rfl) ?_
      refine gl_nil ?_
      refine ge_block ?_
      refine ge_then ?_
      refine g_region ?_
      refine gl_v rfl (o_move rfl) ?_
      refine gl_v rfl (o_addR ((i + 1 : Nat) : Int) (by rw [wr_i64 (by omega)]; omega) rfl rfl) ?_
      refine gl_v rfl (o_assign rfl) ?_
      refine gl_nil ?_
      refine ge_round (i + 1, s ++ [32] ++ itoaB n, left') ⟨by show i + 1 ≤ (formV e.kind).2.length; omega, by have := itoa_len hnr; show (s ++ [32] ++ itoaB n).length ≤ 20 + (i + 1) * 1048600; simp only [List.length_append, List.length_cons, List.length_nil] at *; omega, by show refH e ((formV e.kind).2.drop (i + 1)) (s ++ [32] ++ itoaB n) (left') = lineV e; rw [← hI, hst, if_pos ⟨by omega, by omega⟩, app_spv]⟩ (by show (formV e.kind).2.length - (i + 1) < (formV e.kind).2.length - i; omega) (Keep.cons rfl (Keep.cons rfl (Keep.cons rfl (Keep.cons rfl (Keep.cons rfl (Keep.nil)))))) (tO)
    ·
     have hc17' := hc17
     replace hc17' := hs_ hc17'
     simp only [putO]
     refine gl_gF rfl rfl hc17 rfl ?_
     refine gl_v rfl (o_pickT hc17 rfl rfl) ?_
     refine gl_nil ?_
     refine ge_then ?_
     refine g_cond_true rfl ?_
     refine g_seq ?_
     refine g_region ?_
     refine gl_v rfl (o_assign rfl) ?_
     refine gl_v rfl (o_assign rfl) ?_
     refine gl_nil ?_
     refine ge_then ?_
     refine g_ret ?_
     refine ge_then_ret ?_
     refine ge_block_ret ?_
     refine ge_then_ret ?_
     refine ge_then_ret ?_
     refine ge_block_ret ?_
     refine ge_then_ret ?_
     rw [show lineV e = none by rw [← hI, hst, if_neg (by omega)]]
     refine ret2 (.inl rfl) rfl rfl rfl  [] ⟨rfl, rfl⟩ (tO)
  ·
   replace hc5 := hs_ hc5
   obtain rfl : i = (formV e.kind).2.length := by omega
   rw [List.drop_length, refH_nil] at hI
   refine g_exit ?_
   refine ge_then_exit ?_
   refine ge_then_exit ?_
   refine ge_block_exit ?_
   refine ge_then ?_
   refine g_seq ?_
   refine g_seq ?_
   refine g_region ?_
   first | refine gl_v rfl (o_fldS rfl) ?_ | refine gl_v rfl (o_fld rfl) ?_
   first | refine gl_v rfl (o_load rfl rfl) ?_ | refine gl_v rfl (o_loadS rfl rfl) ?_ | refine gl_v rfl (o_loadC rfl) ?_
   refine gl_nil ?_
   refine ge_then ?_
   refine g_cond rfl (fun hc19 => ?_) (fun hc19 => ?_)
   ·
    replace hc19 := hs_ hc19
    have htm : e.timed = true := hc19
    rw [htm, show (if true = true then s ++ 32 :: wTimed else s) = s ++ 32 :: wTimed from rfl] at hI
    refine g_region ?_
    refine gl_v rfl (o_move rfl) ?_
    refine gl_v rfl (o_adds rfl rfl (by have := hfl; first | omega | (simp only [List.length_append, List.length_cons, List.length_nil]; omega))) ?_
    refine gl_v rfl (o_assign rfl) ?_
    refine gl_nil ?_
    refine ge_then ?_
    refine g_seq ?_
    refine g_seq ?_
    by_cases hl0 : left = evt0
    ·
     refine g_region ?_
     first | refine gl_v rfl (o_loadSA rfl rfl rfl) ?_ | refine gl_v rfl (o_loadA rfl rfl rfl) ?_
     refine gl_v rfl (o_build rfl rfl) ?_
     refine gl_v rfl (o_is (c := false) (by show (!flatEq (evtC left) (evtC evt0)) = false; rw [flatEq_evt, decide_eq_true hl0]; rfl) (o_neqA rfl rfl rfl rfl)) ?_
     refine gl_nil ?_
     refine ge_then ?_
     refine g_cond_false rfl ?_
     refine g_skip ?_
     refine ge_then ?_
     refine g_seq ?_
     refine g_region ?_
     refine gl_v rfl (o_move rfl) ?_
     refine gl_v rfl (o_assign rfl) ?_
     refine gl_v rfl (o_assign rfl) ?_
     refine gl_nil ?_
     refine ge_then ?_
     refine g_ret ?_
     rw [show lineV e = some _ by rw [← hI, if_pos hl0]]
     refine ret2 (.inl rfl) rfl rfl rfl  [] ⟨rfl, rfl⟩ (tO)
    ·
     refine g_region ?_
     first | refine gl_v rfl (o_loadSA rfl rfl rfl) ?_ | refine gl_v rfl (o_loadA rfl rfl rfl) ?_
     refine gl_v rfl (o_build rfl rfl) ?_
     refine gl_v rfl (o_is (c := true) (by show (!flatEq (evtC left) (evtC evt0)) = true; rw [flatEq_evt, decide_eq_false hl0]; rfl) (o_neqA rfl rfl rfl rfl)) ?_
     refine gl_nil ?_
     refine ge_then ?_
     refine g_cond_true rfl ?_
     refine g_seq ?_
     refine g_region ?_
     refine gl_v rfl (o_assign rfl) ?_
     refine gl_v rfl (o_assign rfl) ?_
     refine gl_nil ?_
     refine ge_then ?_
     refine g_ret ?_
     refine ge_then_ret ?_
     rw [show lineV e = none by rw [← hI, if_neg hl0]]
     refine ret2 (.inl rfl) rfl rfl rfl  [] ⟨rfl, rfl⟩ (tO)
   ·
    replace hc19 := hs_ hc19
    have htm : e.timed = false := hc19
    rw [htm, show (if false = true then s ++ 32 :: wTimed else s) = s from rfl] at hI
    refine g_skip ?_
    refine ge_then ?_
    refine g_seq ?_
    refine g_seq ?_
    by_cases hl0 : left = evt0
    ·
     refine g_region ?_
     first | refine gl_v rfl (o_loadSA rfl rfl rfl) ?_ | refine gl_v rfl (o_loadA rfl rfl rfl) ?_
     refine gl_v rfl (o_build rfl rfl) ?_
     refine gl_v rfl (o_is (c := false) (by show (!flatEq (evtC left) (evtC evt0)) = false; rw [flatEq_evt, decide_eq_true hl0]; rfl) (o_neqA rfl rfl rfl rfl)) ?_
     refine gl_nil ?_
     refine ge_then ?_
     refine g_cond_false rfl ?_
     refine g_skip ?_
     refine ge_then ?_
     refine g_seq ?_
     refine g_region ?_
     refine gl_v rfl (o_move rfl) ?_
     refine gl_v rfl (o_assign rfl) ?_
     refine gl_v rfl (o_assign rfl) ?_
     refine gl_nil ?_
     refine ge_then ?_
     refine g_ret ?_
     rw [show lineV e = some _ by rw [← hI, if_pos hl0]]
     refine ret2 (.inl rfl) rfl rfl rfl  [] ⟨rfl, rfl⟩ (tO)
    ·
     refine g_region ?_
     first | refine gl_v rfl (o_loadSA rfl rfl rfl) ?_ | refine gl_v rfl (o_loadA rfl rfl rfl) ?_
     refine gl_v rfl (o_build rfl rfl) ?_
     refine gl_v rfl (o_is (c := true) (by show (!flatEq (evtC left) (evtC evt0)) = true; rw [flatEq_evt, decide_eq_false hl0]; rfl) (o_neqA rfl rfl rfl rfl)) ?_
     refine gl_nil ?_
     refine ge_then ?_
     refine g_cond_true rfl ?_
     refine g_seq ?_
     refine g_region ?_
     refine gl_v rfl (o_assign rfl) ?_
     refine gl_v rfl (o_assign rfl) ?_
     refine gl_nil ?_
     refine ge_then ?_
     refine g_ret ?_
     refine ge_then_ret ?_
     rw [show lineV e = none by rw [← hI, if_neg hl0]]
     refine ret2 (.inl rfl) rfl rfl rfl  [] ⟨rfl, rfl⟩ (tO)

end Go.Proofs.YtcglaiacohkaeaaDoor.L
