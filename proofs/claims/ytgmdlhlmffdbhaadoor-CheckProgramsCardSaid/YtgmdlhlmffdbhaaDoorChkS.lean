/-
  Check's reference: effects and programs. Own work, printed in part by a program of its own.
-/
import Derived.Test.YtgmdlhlmffdbhaaDoorChkR
set_option linter.unusedSimpArgs false
set_option linter.unusedVariables false
set_option linter.unusedSectionVars false
namespace Go.Proofs.YtgmdlhlmffdbhaaDoor.L
open Go.L Go.L.Lx Go.L.Pg
attribute [local irreducible] isName

theorem there_step {p q b c : Bool} (h : q = true) : ((p || (q && b)) || c) = (p || (q && (b || c))) := by subst h; cases p <;> cases b <;> cases c <;> rfl
theorem there_T {p q : Bool} {n x : Nat} (hx : x ≤ n) (h : (q && decide ((x : Int) < (n : Int))) = false) {f : Nat → Bool} : (p || (q && f x)) = (p || (q && f n)) := by
  cases q with
  | false => simp
  | true => rw [Bool.true_and, decide_eq_false_iff_not] at h; rw [show x = n by omega]
theorem there_S {p q b c : Bool} : (p || (q && (b || c))) = ((p || (q && b)) || (q && c)) := by cases p <;> cases q <;> cases b <;> rfl
theorem e8_there (KK : List Knd) (SS : List Sta) (e : Eff) : e8 KK SS e = !(((!decide (e.do' = 2) && !decide (e.do' = 3)) || (decide (e.do' = 2) && (KK.take KK.length).any (fun o => decide (o.name = e.name)))) || (decide (e.do' = 3) && (SS.take SS.length).any (fun o => decide (o.name = e.name)))) := by
  rw [List.take_length, List.take_length]
  unfold e8 hasK hasS
  by_cases h2 : e.do' = 2
  · simp [h2]
  · by_cases h3 : e.do' = 3 <;> simp [h2, h3]
theorem e9_lt {e : Eff} {j n : Nat} (hj : j < n) : e9 e (decide ((j : Int) = (n : Int) - 1)) = ((decide (e.do' = 11) || decide (e.do' = 12)) && decide ((j : Int) < (n : Int) - 1)) := by
  unfold e9; congr 1
  rw [Bool.eq_iff_iff]; simp; omega
set_option maxRecDepth 8000 in
set_option maxHeartbeats 4000000 in
theorem reffect_spec (pa : Option Addr) (pc : Nat) (KK : List Knd) (A : Assn) (hA : ∀ h, A h → PrgOk h pa pc KK) (hb : ∃ h, PrgOk h pa pc KK) (k : Knd) (hk : k ∈ KK) (s : Sta) (hs : s ∈ k.states) (r : Row) (hr : r ∈ s.rows) (j : Nat) (e : Eff) (hej : r.effs[j]? = some e) : FnS Tryd.prog 22 [.agg #[.slice pa KK.length pc], .agg (kndC k).toArray, .slice r.ea r.effs.length r.ec, I64 j] [A] (fun u Bs => u = I64 (effE KK k.states e (decide ((j : Int) = (r.effs.length : Int) - 1))) ∧ Bs = [A]) := by
  refine fn_body Tryd.func22 rfl rfl rfl ?_
  intro W0 R
  simp only [List.zipIdx_cons, List.zipIdx_nil, List.map_cons, List.map_nil, Nat.zero_add, Nat.reduceAdd, List.cons_append, List.nil_append]
  obtain ⟨h0, hb0⟩ := id hb
  have hKn := hb0.len; have hKc := hb0.rd.2
  haveI rK : RdA (.slice pa KK.length pc) A KK.length (KK.flatMap kndC) := ⟨fun h => (hA _ h).rd.1⟩
  have hkO := hb0.kinds k hk
  have hsc := hkO.rds.2; have hcc := hkO.rdc.2
  have hSn := hkO.lens; have hCn := hkO.lenc; have hkn := hkO.name
  haveI rS : RdA (.slice k.sa k.states.length k.sc) A k.states.length (k.states.flatMap staC) := ⟨fun h => ((hA _ h).kinds k hk).rds.1⟩
  haveI rC : RdA (.slice k.ca k.cases.length k.cc) A k.cases.length (k.cases.flatMap casC) := ⟨fun h => ((hA _ h).kinds k hk).rdc.1⟩
  have hsO := hkO.states s hs
  have hrc := hsO.rd.2
  have hRn := hsO.len; have hsn := hsO.name
  haveI rR : RdA (.slice s.ra s.rows.length s.rc) A s.rows.length (s.rows.flatMap rowC) := ⟨fun h => (((hA _ h).kinds k hk).states s hs).rd.1⟩
  have hrO := hsO.rows r hr
  have hEn := hrO.len; have hrn := hrO.tag
  haveI rE : RdA (.slice r.ea r.effs.length r.ec) A r.effs.length (r.effs.flatMap effC) := ⟨fun h => ((((hA _ h).kinds k hk).states s hs).rows r hr).rd.1⟩
  have he := hrO.effs e (List.mem_of_getElem? hej)
  have hj := (List.getElem?_eq_some_iff.1 hej).1
  obtain ⟨he1, he2, he3⟩ := id he
  unfold ok63 at he1 he2 he3
  obtain ⟨hv1, hvr, hvs, hvn, hvv, hvd⟩ := verb_facts e.do'
  replace hv1 : decide ((verb e.do').1 = []) = e1 e := hv1
  have hpl := (verb_pn e.do').1
  unfold ok63 at *
  rw [effE_ref, e9_lt hj]
  refine g_seq ?_
  refine g_region ?_
  refine gl_n rfl (o_boxA rfl) ?_
  rintro _ _ ⟨b4, rfl, rfl⟩
  refine gl_n rfl (o_boxA rfl) ?_
  rintro _ _ ⟨b5, rfl, rfl⟩
  refine gl_v rfl (o_assign rfl) ?_
  refine gl_nil ?_
  refine ge_then ?_
  refine g_seq ?_
  refine g_region ?_
  refine gl_v rfl (o_move rfl) ?_
  refine gl_v rfl (o_move rfl) ?_
  refine gl_v rfl (o_idxS rfl rfl (show j < r.effs.length by omega)) ?_
  refine gl_v rfl (o_loadSA rfl (flat_take effC 7 effC_len hej) rfl) ?_
  refine gl_n rfl (o_alloc) ?_
  rintro _ _ ⟨b9, rfl, rfl⟩
  first | refine gl_u (o_storeSA rfl rfl rfl rfl (by simp; omega) (by simp)) ?_ | refine gl_u (o_storeA rfl rfl rfl rfl rfl) ?_
  refine gl_nil ?_
  refine ge_then ?_
  refine g_seq ?_
  refine g_seq ?_
  refine g_region ?_
  first | refine gl_v rfl (o_loadSA rfl rfl rfl) ?_ | refine gl_v rfl (o_loadA rfl rfl rfl) ?_
  refine gl_c rfl (o_call rfl (REffect_spec e he) (by repeat (first | exact .nil | (apply Part.cons; · (repeat (first | exact .head | apply Sel.tail)))))) ?_
  rintro _ R ⟨_, ⟨rfl, rfl⟩, rfl⟩
  try simp only [List.cons_append, List.nil_append]
  refine gl_v rfl (o_not rfl) ?_
  refine gl_v rfl (o_move rfl) ?_
  refine gl_join (d := 48) 26 (.bool (x1 e)) ?_ (fun jk48 => ?_)
  rotate_left
  ·
    refine gl_g rfl rfl (fun hc1 => ?_) (fun hc1 => ?_) rfl
    ·
      have hc1' := hc1
      first | replace hc1' := of_decide_eq_true hc1' | replace hc1' := lt_f hc1' | replace hc1' := le_f hc1' | replace hc1' := dec_f hc1' | replace hc1' := nlt_t hc1' | replace hc1' := nle_t hc1' | replace hc1' := ndec_t hc1' | replace hc1' := ndec_f hc1' | replace hc1' := nn_t hc1' | replace hc1' := nn_f hc1' | skip
      first | refine gl_v rfl (o_fldS rfl) ?_ | refine gl_v rfl (o_fld rfl) ?_
      refine gl_gT rfl rfl hc1 ?_
      first | refine gl_v rfl (o_load rfl rfl) ?_ | refine gl_v rfl (o_loadS rfl rfl) ?_ | refine gl_v rfl (o_loadC rfl) ?_
      refine gl_gT rfl rfl hc1 ?_
      refine gl_v rfl (o_gtr rfl rfl) ?_
      refine gl_v rfl (o_pickF hc1 rfl rfl) ?_
      refine gl_v rfl (o_move rfl) ?_
      refine gl_g rfl rfl (fun hc2 => ?_) (fun hc2 => ?_) rfl
      ·
        have hc2' := hc2
        first | replace hc2' := of_decide_eq_true hc2' | replace hc2' := lt_f hc2' | replace hc2' := le_f hc2' | replace hc2' := dec_f hc2' | replace hc2' := nlt_t hc2' | replace hc2' := nle_t hc2' | replace hc2' := ndec_t hc2' | replace hc2' := ndec_f hc2' | replace hc2' := nn_t hc2' | replace hc2' := nn_f hc2' | skip
        first | refine gl_v rfl (o_fldS rfl) ?_ | refine gl_v rfl (o_fld rfl) ?_
        refine gl_gT rfl rfl hc2 ?_
        first | refine gl_v rfl (o_load rfl rfl) ?_ | refine gl_v rfl (o_loadS rfl rfl) ?_ | refine gl_v rfl (o_loadC rfl) ?_
        refine gl_gT rfl rfl hc2 ?_
        refine gl_v rfl (o_neqs rfl rfl) ?_
        refine gl_gT rfl rfl hc2 ?_
        refine gl_v rfl (o_move rfl) ?_
        refine gl_g rfl rfl (fun hc3 => ?_) (fun hc3 => ?_) rfl
        ·
          have hc3' := hc3
          first | replace hc3' := of_decide_eq_true hc3' | replace hc3' := lt_f hc3' | replace hc3' := le_f hc3' | replace hc3' := dec_f hc3' | replace hc3' := nlt_t hc3' | replace hc3' := nle_t hc3' | replace hc3' := ndec_t hc3' | replace hc3' := ndec_f hc3' | replace hc3' := nn_t hc3' | replace hc3' := nn_f hc3' | skip
          first | refine gl_v rfl (o_fldS rfl) ?_ | refine gl_v rfl (o_fld rfl) ?_
          refine gl_gT rfl rfl hc3 ?_
          first | refine gl_v rfl (o_load rfl rfl) ?_ | refine gl_v rfl (o_loadS rfl rfl) ?_ | refine gl_v rfl (o_loadC rfl) ?_
          refine gl_gT rfl rfl hc3 ?_
          refine gl_c rfl (o_call rfl (Ref_spec e.ref) (by repeat (first | exact .nil | (apply Part.cons; · (repeat (first | exact .head | apply Sel.tail)))))) ?_
          rintro _ R ⟨_, ⟨rfl, rfl⟩, rfl⟩
          try simp only [List.cons_append, List.nil_append]
          refine gl_gT rfl rfl hc3 ?_
          refine gl_v rfl (o_not rfl) ?_
          refine gl_gT rfl rfl hc2 ?_
          refine gl_v rfl (o_pickT hc3 rfl rfl) ?_
          refine gl_v rfl (o_pickF hc2 rfl rfl) ?_
          refine gl_v rfl (o_move rfl) ?_
          refine gl_g rfl rfl (fun hc4 => ?_) (fun hc4 => ?_) rfl
          ·
            have hc4' := hc4
            first | replace hc4' := of_decide_eq_true hc4' | replace hc4' := lt_f hc4' | replace hc4' := le_f hc4' | replace hc4' := dec_f hc4' | replace hc4' := nlt_t hc4' | replace hc4' := nle_t hc4' | replace hc4' := ndec_t hc4' | replace hc4' := ndec_f hc4' | replace hc4' := nn_t hc4' | replace hc4' := nn_f hc4' | skip
            first | refine gl_v rfl (o_fldS rfl) ?_ | refine gl_v rfl (o_fld rfl) ?_
            refine gl_gT rfl rfl hc4 ?_
            first | refine gl_v rfl (o_load rfl rfl) ?_ | refine gl_v rfl (o_loadS rfl rfl) ?_ | refine gl_v rfl (o_loadC rfl) ?_
            refine gl_gT rfl rfl hc4 ?_
            refine gl_v rfl (o_neqs rfl rfl) ?_
            refine gl_gT rfl rfl hc4 ?_
            refine gl_v rfl (o_move rfl) ?_
            refine gl_g rfl rfl (fun hc5 => ?_) (fun hc5 => ?_) rfl
            ·
              have hc5' := hc5
              first | replace hc5' := of_decide_eq_true hc5' | replace hc5' := lt_f hc5' | replace hc5' := le_f hc5' | replace hc5' := dec_f hc5' | replace hc5' := nlt_t hc5' | replace hc5' := nle_t hc5' | replace hc5' := ndec_t hc5' | replace hc5' := ndec_f hc5' | replace hc5' := nn_t hc5' | replace hc5' := nn_f hc5' | skip
              first | refine gl_v rfl (o_fldS rfl) ?_ | refine gl_v rfl (o_fld rfl) ?_
              refine gl_gT rfl rfl hc5 ?_
              first | refine gl_v rfl (o_load rfl rfl) ?_ | refine gl_v rfl (o_loadS rfl rfl) ?_ | refine gl_v rfl (o_loadC rfl) ?_
              refine gl_gT rfl rfl hc5 ?_
              refine gl_c rfl (o_call rfl (Slot_spec e.slot) (by repeat (first | exact .nil | (apply Part.cons; · (repeat (first | exact .head | apply Sel.tail)))))) ?_
              rintro _ R ⟨_, ⟨rfl, rfl⟩, rfl⟩
              try simp only [List.cons_append, List.nil_append]
              refine gl_gT rfl rfl hc5 ?_
              refine gl_v rfl (o_not rfl) ?_
              refine gl_gT rfl rfl hc4 ?_
              refine gl_v rfl (o_pickT hc5 rfl rfl) ?_
              refine gl_v rfl (o_pickF hc4 rfl rfl) ?_
              first | exact jk48 _ (KeepS.top (by repeat (first | exact KeepS.refl _ | refine KeepS.push ?_ rfl)) (jval (by first | rfl | (simp [hc1, hc2, hc3, hc4, hc5, x1]; done) | simp_all))) | exact gl_imp (To.sat (by repeat (first | exact .nil | exact .done .refl | (apply To.cons; · (repeat (first | exact .head | apply Sel.tail))) | exact .done (by repeat (first | exact .refl | apply Drop.skip))))) (jk48 _ (KeepS.top (by repeat (first | exact KeepS.refl _ | refine KeepS.push ?_ rfl)) (jval (by first | rfl | (simp [hc1, hc2, hc3, hc4, hc5, x1]; done) | simp_all))))
            ·
              have hc5' := hc5
              first | replace hc5' := of_decide_eq_true hc5' | replace hc5' := lt_f hc5' | replace hc5' := le_f hc5' | replace hc5' := dec_f hc5' | replace hc5' := nlt_t hc5' | replace hc5' := nle_t hc5' | replace hc5' := ndec_t hc5' | replace hc5' := ndec_f hc5' | replace hc5' := nn_t hc5' | replace hc5' := nn_f hc5' | skip
              simp only [putO]
              refine gl_gF rfl rfl hc5 rfl ?_
              refine gl_gF rfl rfl hc5 rfl ?_
              refine gl_gF rfl rfl hc5 rfl ?_
              refine gl_gT rfl rfl hc4 ?_
              refine gl_v rfl (o_pickF hc5 rfl rfl) ?_
              refine gl_v rfl (o_pickF hc4 rfl rfl) ?_
              first | exact jk48 _ (KeepS.top (by repeat (first | exact KeepS.refl _ | refine KeepS.push ?_ rfl)) (jval (by first | rfl | (simp [hc1, hc2, hc3, hc4, hc5, x1]; done) | simp_all))) | exact gl_imp (To.sat (by repeat (first | exact .nil | exact .done .refl | (apply To.cons; · (repeat (first | exact .head | apply Sel.tail))) | exact .done (by repeat (first | exact .refl | apply Drop.skip))))) (jk48 _ (KeepS.top (by repeat (first | exact KeepS.refl _ | refine KeepS.push ?_ rfl)) (jval (by first | rfl | (simp [hc1, hc2, hc3, hc4, hc5, x1]; done) | simp_all))))
          ·
            have hc4' := hc4
            first | replace hc4' := of_decide_eq_true hc4' | replace hc4' := lt_f hc4' | replace hc4' := le_f hc4' | replace hc4' := dec_f hc4' | replace hc4' := nlt_t hc4' | replace hc4' := nle_t hc4' | replace hc4' := ndec_t hc4' | replace hc4' := ndec_f hc4' | replace hc4' := nn_t hc4' | replace hc4' := nn_f hc4' | skip
            simp only [putO]
            refine gl_gF rfl rfl hc4 rfl ?_
            refine gl_gF rfl rfl hc4 rfl ?_
            refine gl_gF rfl rfl hc4 rfl ?_
            refine gl_gU rfl rfl rfl ?_
            refine gl_gU rfl rfl rfl ?_
            refine gl_gU rfl rfl rfl ?_
            refine gl_gU rfl rfl rfl ?_
            refine gl_gF rfl rfl hc4 rfl ?_
            refine gl_v rfl (o_pickT hc4 rfl rfl) ?_
            first | exact jk48 _ (KeepS.top (by repeat (first | exact KeepS.refl _ | refine KeepS.push ?_ rfl)) (jval (by first | rfl | (simp [hc1, hc2, hc3, hc4, x1]; done) | simp_all))) | exact gl_imp (To.sat (by repeat (first | exact .nil | exact .done .refl | (apply To.cons; · (repeat (first | exact .head | apply Sel.tail))) | exact .done (by repeat (first | exact .refl | apply Drop.skip))))) (jk48 _ (KeepS.top (by repeat (first | exact KeepS.refl _ | refine KeepS.push ?_ rfl)) (jval (by first | rfl | (simp [hc1, hc2, hc3, hc4, x1]; done) | simp_all))))
        ·
          have hc3' := hc3
          first | replace hc3' := of_decide_eq_true hc3' | replace hc3' := lt_f hc3' | replace hc3' := le_f hc3' | replace hc3' := dec_f hc3' | replace hc3' := nlt_t hc3' | replace hc3' := nle_t hc3' | replace hc3' := ndec_t hc3' | replace hc3' := ndec_f hc3' | replace hc3' := nn_t hc3' | replace hc3' := nn_f hc3' | skip
          simp only [putO]
          refine gl_gF rfl rfl hc3 rfl ?_
          refine gl_gF rfl rfl hc3 rfl ?_
          refine gl_gF rfl rfl hc3 rfl ?_
          refine gl_gT rfl rfl hc2 ?_
          refine gl_v rfl (o_pickF hc3 rfl rfl) ?_
          refine gl_v rfl (o_pickF hc2 rfl rfl) ?_
          refine gl_v rfl (o_move rfl) ?_
          refine gl_gT rfl rfl rfl ?_
          first | refine gl_v rfl (o_fldS rfl) ?_ | refine gl_v rfl (o_fld rfl) ?_
          refine gl_gT rfl rfl rfl ?_
          first | refine gl_v rfl (o_load rfl rfl) ?_ | refine gl_v rfl (o_loadS rfl rfl) ?_ | refine gl_v rfl (o_loadC rfl) ?_
          refine gl_gT rfl rfl rfl ?_
          refine gl_v rfl (o_neqs rfl rfl) ?_
          refine gl_gT rfl rfl rfl ?_
          refine gl_v rfl (o_move rfl) ?_
          refine gl_g rfl rfl (fun hc6 => ?_) (fun hc6 => ?_) rfl
          ·
            have hc6' := hc6
            first | replace hc6' := of_decide_eq_true hc6' | replace hc6' := lt_f hc6' | replace hc6' := le_f hc6' | replace hc6' := dec_f hc6' | replace hc6' := nlt_t hc6' | replace hc6' := nle_t hc6' | replace hc6' := ndec_t hc6' | replace hc6' := ndec_f hc6' | replace hc6' := nn_t hc6' | replace hc6' := nn_f hc6' | skip
            first | refine gl_v rfl (o_fldS rfl) ?_ | refine gl_v rfl (o_fld rfl) ?_
            refine gl_gT rfl rfl hc6 ?_
            first | refine gl_v rfl (o_load rfl rfl) ?_ | refine gl_v rfl (o_loadS rfl rfl) ?_ | refine gl_v rfl (o_loadC rfl) ?_
            refine gl_gT rfl rfl hc6 ?_
            refine gl_c rfl (o_call rfl (Slot_spec e.slot) (by repeat (first | exact .nil | (apply Part.cons; · (repeat (first | exact .head | apply Sel.tail)))))) ?_
            rintro _ R ⟨_, ⟨rfl, rfl⟩, rfl⟩
            try simp only [List.cons_append, List.nil_append]
            refine gl_gT rfl rfl hc6 ?_
            refine gl_v rfl (o_not rfl) ?_
            refine gl_gT rfl rfl rfl ?_
            refine gl_v rfl (o_pickT hc6 rfl rfl) ?_
            refine gl_v rfl (o_pickF rfl rfl rfl) ?_
            first | exact jk48 _ (KeepS.top (by repeat (first | exact KeepS.refl _ | refine KeepS.push ?_ rfl)) (jval (by first | rfl | (simp [hc1, hc2, hc3, hc6, x1]; done) | simp_all))) | exact gl_imp (To.sat (by repeat (first | exact .nil | exact .done .refl | (apply To.cons; · (repeat (first | exact .head | apply Sel.tail))) | exact .done (by repeat (first | exact .refl | apply Drop.skip))))) (jk48 _ (KeepS.top (by repeat (first | exact KeepS.refl _ | refine KeepS.push ?_ rfl)) (jval (by first | rfl | (simp [hc1, hc2, hc3, hc6, x1]; done) | simp_all))))
          ·
            have hc6' := hc6
            first | replace hc6' := of_decide_eq_true hc6' | replace hc6' := lt_f hc6' | replace hc6' := le_f hc6' | replace hc6' := dec_f hc6' | replace hc6' := nlt_t hc6' | replace hc6' := nle_t hc6' | replace hc6' := ndec_t hc6' | replace hc6' := ndec_f hc6' | replace hc6' := nn_t hc6' | replace hc6' := nn_f hc6' | skip
            simp only [putO]
            refine gl_gF rfl rfl hc6 rfl ?_
            refine gl_gF rfl rfl hc6 rfl ?_
            refine gl_gF rfl rfl hc6 rfl ?_
            refine gl_gT rfl rfl rfl ?_
            refine gl_v rfl (o_pickF hc6 rfl rfl) ?_
            refine gl_v rfl (o_pickF rfl rfl rfl) ?_
            first | exact jk48 _ (KeepS.top (by repeat (first | exact KeepS.refl _ | refine KeepS.push ?_ rfl)) (jval (by first | rfl | (simp [hc1, hc2, hc3, hc6, x1]; done) | simp_all))) | exact gl_imp (To.sat (by repeat (first | exact .nil | exact .done .refl | (apply To.cons; · (repeat (first | exact .head | apply Sel.tail))) | exact .done (by repeat (first | exact .refl | apply Drop.skip))))) (jk48 _ (KeepS.top (by repeat (first | exact KeepS.refl _ | refine KeepS.push ?_ rfl)) (jval (by first | rfl | (simp [hc1, hc2, hc3, hc6, x1]; done) | simp_all))))
      ·
        have hc2' := hc2
        first | replace hc2' := of_decide_eq_true hc2' | replace hc2' := lt_f hc2' | replace hc2' := le_f hc2' | replace hc2' := dec_f hc2' | replace hc2' := nlt_t hc2' | replace hc2' := nle_t hc2' | replace hc2' := ndec_t hc2' | replace hc2' := ndec_f hc2' | replace hc2' := nn_t hc2' | replace hc2' := nn_f hc2' | skip
        simp only [putO]
        refine gl_gF rfl rfl hc2 rfl ?_
        refine gl_gF rfl rfl hc2 rfl ?_
        refine gl_gF rfl rfl hc2 rfl ?_
        refine gl_gU rfl rfl rfl ?_
        refine gl_gU rfl rfl rfl ?_
        refine gl_gU rfl rfl rfl ?_
        refine gl_gU rfl rfl rfl ?_
        refine gl_gF rfl rfl hc2 rfl ?_
        refine gl_v rfl (o_pickT hc2 rfl rfl) ?_
        refine gl_v rfl (o_move rfl) ?_
        refine gl_gF rfl rfl rfl rfl ?_
        refine gl_gF rfl rfl rfl rfl ?_
        refine gl_gF rfl rfl rfl rfl ?_
        refine gl_gF rfl rfl rfl rfl ?_
        refine gl_gU rfl rfl rfl ?_
        refine gl_gU rfl rfl rfl ?_
        refine gl_gU rfl rfl rfl ?_
        refine gl_gU rfl rfl rfl ?_
        refine gl_gF rfl rfl rfl rfl ?_
        refine gl_v rfl (o_pickT rfl rfl rfl) ?_
        first | exact jk48 _ (KeepS.top (by repeat (first | exact KeepS.refl _ | refine KeepS.push ?_ rfl)) (jval (by first | rfl | (simp [hc1, hc2, x1]; done) | simp_all))) | exact gl_imp (To.sat (by repeat (first | exact .nil | exact .done .refl | (apply To.cons; · (repeat (first | exact .head | apply Sel.tail))) | exact .done (by repeat (first | exact .refl | apply Drop.skip))))) (jk48 _ (KeepS.top (by repeat (first | exact KeepS.refl _ | refine KeepS.push ?_ rfl)) (jval (by first | rfl | (simp [hc1, hc2, x1]; done) | simp_all))))
    ·
      have hc1' := hc1
      first | replace hc1' := of_decide_eq_true hc1' | replace hc1' := lt_f hc1' | replace hc1' := le_f hc1' | replace hc1' := dec_f hc1' | replace hc1' := nlt_t hc1' | replace hc1' := nle_t hc1' | replace hc1' := ndec_t hc1' | replace hc1' := ndec_f hc1' | replace hc1' := nn_t hc1' | replace hc1' := nn_f hc1' | skip
      simp only [putO]
      refine gl_gF rfl rfl hc1 rfl ?_
      refine gl_gF rfl rfl hc1 rfl ?_
      refine gl_v rfl (o_pickT hc1 rfl rfl) ?_
      refine gl_v rfl (o_move rfl) ?_
      refine gl_gF rfl rfl rfl rfl ?_
      refine gl_gF rfl rfl rfl rfl ?_
      refine gl_gF rfl rfl rfl rfl ?_
      refine gl_gF rfl rfl rfl rfl ?_
      refine gl_gU rfl rfl rfl ?_
      refine gl_gU rfl rfl rfl ?_
      refine gl_gU rfl rfl rfl ?_
      refine gl_gU rfl rfl rfl ?_
      refine gl_gF rfl rfl rfl rfl ?_
      refine gl_v rfl (o_pickT rfl rfl rfl) ?_
      refine gl_v rfl (o_move rfl) ?_
      refine gl_gF rfl rfl rfl rfl ?_
      refine gl_gF rfl rfl rfl rfl ?_
      refine gl_gF rfl rfl rfl rfl ?_
      refine gl_gF rfl rfl rfl rfl ?_
      refine gl_gU rfl rfl rfl ?_
      refine gl_gU rfl rfl rfl ?_
      refine gl_gU rfl rfl rfl ?_
      refine gl_gU rfl rfl rfl ?_
      refine gl_gF rfl rfl rfl rfl ?_
      refine gl_v rfl (o_pickT rfl rfl rfl) ?_
      first | exact jk48 _ (KeepS.top (by repeat (first | exact KeepS.refl _ | refine KeepS.push ?_ rfl)) (jval (by first | rfl | (simp [hc1, x1]; done) | simp_all))) | exact gl_imp (To.sat (by repeat (first | exact .nil | exact .done .refl | (apply To.cons; · (repeat (first | exact .head | apply Sel.tail))) | exact .done (by repeat (first | exact .refl | apply Drop.skip))))) (jk48 _ (KeepS.top (by repeat (first | exact KeepS.refl _ | refine KeepS.push ?_ rfl)) (jval (by first | rfl | (simp [hc1, x1]; done) | simp_all))))
  refine gl_nil ?_
  refine ge_then ?_
  refine g_cond rfl (fun hc7 => ?_) (fun hc7 => ?_)
  ·
    first | replace hc7 := of_decide_eq_true hc7 | replace hc7 := lt_f hc7 | replace hc7 := le_f hc7 | replace hc7 := dec_f hc7 | replace hc7 := nlt_t hc7 | replace hc7 := nle_t hc7 | replace hc7 := ndec_t hc7 | replace hc7 := ndec_f hc7 | replace hc7 := nn_t hc7 | replace hc7 := nn_f hc7 | skip
    refine g_seq ?_
    refine g_region ?_
    refine gl_v rfl (o_assign rfl) ?_
    refine gl_nil ?_
    refine ge_then ?_
    refine g_ret ?_
    refine ge_then_ret ?_
    refine ret1 (.inl rfl) rfl rfl _ (⟨iv_eq (fr1 (by assumption)), rfl⟩) (To.sat (by repeat (first | exact .nil | exact .done .refl | (apply To.cons; · (repeat (first | exact .head | apply Sel.tail))) | exact .done (by repeat (first | exact .refl | apply Drop.skip)))))
  ·
    first | replace hc7 := of_decide_eq_true hc7 | replace hc7 := lt_f hc7 | replace hc7 := le_f hc7 | replace hc7 := dec_f hc7 | replace hc7 := nlt_t hc7 | replace hc7 := nle_t hc7 | replace hc7 := ndec_t hc7 | replace hc7 := ndec_f hc7 | replace hc7 := nn_t hc7 | replace hc7 := nn_f hc7 | skip
    refine g_skip ?_
    refine ge_then ?_
    refine g_seq ?_
    refine g_region ?_
    first | refine gl_v rfl (o_fldS rfl) ?_ | refine gl_v rfl (o_fld rfl) ?_
    first | refine gl_v rfl (o_load rfl rfl) ?_ | refine gl_v rfl (o_loadS rfl rfl) ?_ | refine gl_v rfl (o_loadC rfl) ?_
    refine gl_c rfl (o_call rfl (Verb_spec e.do') (by repeat (first | exact .nil | (apply Part.cons; · (repeat (first | exact .head | apply Sel.tail)))))) ?_
    rintro _ R ⟨_, ⟨rfl, rfl⟩, rfl⟩
    try simp only [List.cons_append, List.nil_append]
    refine gl_v rfl (o_move rfl) ?_
    refine gl_v rfl (o_extract rfl rfl) ?_
    refine gl_v rfl (o_extract rfl rfl) ?_
    refine gl_v rfl (o_assign rfl) ?_
    refine gl_v rfl (o_assign rfl) ?_
    refine gl_nil ?_
    refine ge_then ?_
    refine g_seq ?_
    refine g_seq ?_
    refine g_region ?_
    refine gl_v rfl (o_move rfl) ?_
    refine gl_c rfl (o_call rfl (Has_spec (verb e.do').2 100 (by omega)) (by repeat (first | exact .nil | (apply Part.cons; · (repeat (first | exact .head | apply Sel.tail)))))) ?_
    rintro _ R ⟨_, ⟨rfl, rfl⟩, rfl⟩
    try simp only [List.cons_append, List.nil_append]
    rw [hvd]
    refine gl_v rfl (o_move rfl) ?_
    refine gl_join (d := 66) 9 (.bool (x2 e)) ?_ (fun jk66 => ?_)
    rotate_left
    ·
      refine gl_g rfl rfl (fun hc8 => ?_) (fun hc8 => ?_) rfl
      ·
        have hc8' := hc8
        first | replace hc8' := of_decide_eq_true hc8' | replace hc8' := lt_f hc8' | replace hc8' := le_f hc8' | replace hc8' := dec_f hc8' | replace hc8' := nlt_t hc8' | replace hc8' := nle_t hc8' | replace hc8' := ndec_t hc8' | replace hc8' := ndec_f hc8' | replace hc8' := nn_t hc8' | replace hc8' := nn_f hc8' | skip
        first | refine gl_v rfl (o_fldS rfl) ?_ | refine gl_v rfl (o_fld rfl) ?_
        refine gl_gT rfl rfl hc8 ?_
        first | refine gl_v rfl (o_load rfl rfl) ?_ | refine gl_v rfl (o_loadS rfl rfl) ?_ | refine gl_v rfl (o_loadC rfl) ?_
        refine gl_gT rfl rfl hc8 ?_
        refine gl_v rfl (o_lss rfl rfl) ?_
        refine gl_gT rfl rfl hc8 ?_
        refine gl_v rfl (o_move rfl) ?_
        refine gl_g rfl rfl (fun hc9 => ?_) (fun hc9 => ?_) rfl
        ·
          have hc9' := hc9
          first | replace hc9' := of_decide_eq_true hc9' | replace hc9' := lt_f hc9' | replace hc9' := le_f hc9' | replace hc9' := dec_f hc9' | replace hc9' := nlt_t hc9' | replace hc9' := nle_t hc9' | replace hc9' := ndec_t hc9' | replace hc9' := ndec_f hc9' | replace hc9' := nn_t hc9' | replace hc9' := nn_f hc9' | skip
          first | refine gl_v rfl (o_fldS rfl) ?_ | refine gl_v rfl (o_fld rfl) ?_
          refine gl_gT rfl rfl hc9 ?_
          first | refine gl_v rfl (o_load rfl rfl) ?_ | refine gl_v rfl (o_loadS rfl rfl) ?_ | refine gl_v rfl (o_loadC rfl) ?_
          refine gl_gT rfl rfl hc9 ?_
          refine gl_v rfl (o_gtr rfl rfl) ?_
          refine gl_gT rfl rfl hc8 ?_
          refine gl_v rfl (o_pickF hc9 rfl rfl) ?_
          refine gl_v rfl (o_pickT hc8 rfl rfl) ?_
          first | exact jk66 _ (KeepS.top (by repeat (first | exact KeepS.refl _ | refine KeepS.push ?_ rfl)) (jval (by first | rfl | (simp [hc8, hc9, x2]; done) | simp_all))) | exact gl_imp (To.sat (by repeat (first | exact .nil | exact .done .refl | (apply To.cons; · (repeat (first | exact .head | apply Sel.tail))) | exact .done (by repeat (first | exact .refl | apply Drop.skip))))) (jk66 _ (KeepS.top (by repeat (first | exact KeepS.refl _ | refine KeepS.push ?_ rfl)) (jval (by first | rfl | (simp [hc8, hc9, x2]; done) | simp_all))))
        ·
          have hc9' := hc9
          first | replace hc9' := of_decide_eq_true hc9' | replace hc9' := lt_f hc9' | replace hc9' := le_f hc9' | replace hc9' := dec_f hc9' | replace hc9' := nlt_t hc9' | replace hc9' := nle_t hc9' | replace hc9' := ndec_t hc9' | replace hc9' := ndec_f hc9' | replace hc9' := nn_t hc9' | replace hc9' := nn_f hc9' | skip
          simp only [putO]
          refine gl_gF rfl rfl hc9 rfl ?_
          refine gl_gF rfl rfl hc9 rfl ?_
          refine gl_gT rfl rfl hc8 ?_
          refine gl_v rfl (o_pickT hc9 rfl rfl) ?_
          refine gl_v rfl (o_pickT hc8 rfl rfl) ?_
          first | exact jk66 _ (KeepS.top (by repeat (first | exact KeepS.refl _ | refine KeepS.push ?_ rfl)) (jval (by first | rfl | (simp [hc8, hc9, x2]; done) | simp_all))) | exact gl_imp (To.sat (by repeat (first | exact .nil | exact .done .refl | (apply To.cons; · (repeat (first | exact .head | apply Sel.tail))) | exact .done (by repeat (first | exact .refl | apply Drop.skip))))) (jk66 _ (KeepS.top (by repeat (first | exact KeepS.refl _ | refine KeepS.push ?_ rfl)) (jval (by first | rfl | (simp [hc8, hc9, x2]; done) | simp_all))))
      ·
        have hc8' := hc8
        first | replace hc8' := of_decide_eq_true hc8' | replace hc8' := lt_f hc8' | replace hc8' := le_f hc8' | replace hc8' := dec_f hc8' | replace hc8' := nlt_t hc8' | replace hc8' := nle_t hc8' | replace hc8' := ndec_t hc8' | replace hc8' := ndec_f hc8' | replace hc8' := nn_t hc8' | replace hc8' := nn_f hc8' | skip
        simp only [putO]
        refine gl_gF rfl rfl hc8 rfl ?_
        refine gl_gF rfl rfl hc8 rfl ?_
        refine gl_gF rfl rfl hc8 rfl ?_
        refine gl_gU rfl rfl rfl ?_
        refine gl_gU rfl rfl rfl ?_
        refine gl_gU rfl rfl rfl ?_
        refine gl_gF rfl rfl hc8 rfl ?_
        refine gl_v rfl (o_pickF hc8 rfl rfl) ?_
        first | exact jk66 _ (KeepS.top (by repeat (first | exact KeepS.refl _ | refine KeepS.push ?_ rfl)) (jval (by first | rfl | (simp [hc8, x2]; done) | simp_all))) | exact gl_imp (To.sat (by repeat (first | exact .nil | exact .done .refl | (apply To.cons; · (repeat (first | exact .head | apply Sel.tail))) | exact .done (by repeat (first | exact .refl | apply Drop.skip))))) (jk66 _ (KeepS.top (by repeat (first | exact KeepS.refl _ | refine KeepS.push ?_ rfl)) (jval (by first | rfl | (simp [hc8, x2]; done) | simp_all))))
    refine gl_nil ?_
    refine ge_then ?_
    refine g_cond rfl (fun hc10 => ?_) (fun hc10 => ?_)
    ·
      first | replace hc10 := of_decide_eq_true hc10 | replace hc10 := lt_f hc10 | replace hc10 := le_f hc10 | replace hc10 := dec_f hc10 | replace hc10 := nlt_t hc10 | replace hc10 := nle_t hc10 | replace hc10 := ndec_t hc10 | replace hc10 := ndec_f hc10 | replace hc10 := nn_t hc10 | replace hc10 := nn_f hc10 | skip
      refine g_seq ?_
      refine g_region ?_
      refine gl_v rfl (o_assign rfl) ?_
      refine gl_nil ?_
      refine ge_then ?_
      refine g_ret ?_
      refine ge_then_ret ?_
      refine ret1 (.inl rfl) rfl rfl _ (⟨iv_eq (fr0 (by assumption) (fr1 (by assumption))), rfl⟩) (To.sat (by repeat (first | exact .nil | exact .done .refl | (apply To.cons; · (repeat (first | exact .head | apply Sel.tail))) | exact .done (by repeat (first | exact .refl | apply Drop.skip)))))
    ·
      first | replace hc10 := of_decide_eq_true hc10 | replace hc10 := lt_f hc10 | replace hc10 := le_f hc10 | replace hc10 := dec_f hc10 | replace hc10 := nlt_t hc10 | replace hc10 := nle_t hc10 | replace hc10 := ndec_t hc10 | replace hc10 := ndec_f hc10 | replace hc10 := nn_t hc10 | replace hc10 := nn_f hc10 | skip
      refine g_skip ?_
      refine ge_then ?_
      refine g_seq ?_
      refine g_region ?_
      first | refine gl_v rfl (o_fldS rfl) ?_ | refine gl_v rfl (o_fld rfl) ?_
      first | refine gl_v rfl (o_load rfl rfl) ?_ | refine gl_v rfl (o_loadS rfl rfl) ?_ | refine gl_v rfl (o_loadC rfl) ?_
      refine gl_v rfl (o_neq rfl rfl) ?_
      refine gl_v rfl (o_move rfl) ?_
      refine gl_join (d := 74) 4 (.bool ((!decide (e.do' = 2) && !decide (e.do' = 3)))) ?_ (fun jk74 => ?_)
      rotate_left
      ·
        refine gl_g rfl rfl (fun hc11 => ?_) (fun hc11 => ?_) rfl
        ·
          have hc11' := hc11
          first | replace hc11' := of_decide_eq_true hc11' | replace hc11' := lt_f hc11' | replace hc11' := le_f hc11' | replace hc11' := dec_f hc11' | replace hc11' := nlt_t hc11' | replace hc11' := nle_t hc11' | replace hc11' := ndec_t hc11' | replace hc11' := ndec_f hc11' | replace hc11' := nn_t hc11' | replace hc11' := nn_f hc11' | skip
          first | refine gl_v rfl (o_fldS rfl) ?_ | refine gl_v rfl (o_fld rfl) ?_
          refine gl_gT rfl rfl hc11 ?_
          first | refine gl_v rfl (o_load rfl rfl) ?_ | refine gl_v rfl (o_loadS rfl rfl) ?_ | refine gl_v rfl (o_loadC rfl) ?_
          refine gl_gT rfl rfl hc11 ?_
          refine gl_v rfl (o_neq rfl rfl) ?_
          refine gl_v rfl (o_pickT hc11 rfl rfl) ?_
          first | exact jk74 _ (KeepS.top (by repeat (first | exact KeepS.refl _ | refine KeepS.push ?_ rfl)) (jval (by first | rfl | (simp [hc11, ]; done) | simp_all))) | exact gl_imp (To.sat (by repeat (first | exact .nil | exact .done .refl | (apply To.cons; · (repeat (first | exact .head | apply Sel.tail))) | exact .done (by repeat (first | exact .refl | apply Drop.skip))))) (jk74 _ (KeepS.top (by repeat (first | exact KeepS.refl _ | refine KeepS.push ?_ rfl)) (jval (by first | rfl | (simp [hc11, ]; done) | simp_all))))
        ·
          have hc11' := hc11
          first | replace hc11' := of_decide_eq_true hc11' | replace hc11' := lt_f hc11' | replace hc11' := le_f hc11' | replace hc11' := dec_f hc11' | replace hc11' := nlt_t hc11' | replace hc11' := nle_t hc11' | replace hc11' := ndec_t hc11' | replace hc11' := ndec_f hc11' | replace hc11' := nn_t hc11' | replace hc11' := nn_f hc11' | skip
          simp only [putO]
          refine gl_gF rfl rfl hc11 rfl ?_
          refine gl_gF rfl rfl hc11 rfl ?_
          refine gl_v rfl (o_pickF hc11 rfl rfl) ?_
          first | exact jk74 _ (KeepS.top (by repeat (first | exact KeepS.refl _ | refine KeepS.push ?_ rfl)) (jval (by first | rfl | (simp [hc11, ]; done) | simp_all))) | exact gl_imp (To.sat (by repeat (first | exact .nil | exact .done .refl | (apply To.cons; · (repeat (first | exact .head | apply Sel.tail))) | exact .done (by repeat (first | exact .refl | apply Drop.skip))))) (jk74 _ (KeepS.top (by repeat (first | exact KeepS.refl _ | refine KeepS.push ?_ rfl)) (jval (by first | rfl | (simp [hc11, ]; done) | simp_all))))
      refine gl_v rfl (o_assign rfl) ?_
      refine gl_nil ?_
      refine ge_then ?_
      refine g_seq ?_
      refine g_seq ?_
      refine g_region ?_
      refine gl_v rfl (o_assign rfl) ?_
      refine gl_nil ?_
      rw [show (!decide (e.do' = 2) && !decide (e.do' = 3)) = ((!decide (e.do' = 2) && !decide (e.do' = 3)) || (decide (e.do' = 2) && (KK.take 0).any (fun o => decide (o.name = e.name)))) from by simp]
      refine ge_then ?_
      refine g_block ?_
      refine g_loop (ι := Nat) (fun x => x ≤ KK.length) (fun x => [(13, I64 x), (12, .bool ((!decide (e.do' = 2) && !decide (e.do' = 3)) || (decide (e.do' = 2) && (KK.take x).any (fun o => decide (o.name = e.name))))), (9, ptr b9 0), (5, ptr b5 0), (4, ptr b4 0), (3, I64 j), (2, .slice r.ea r.effs.length r.ec)]) (fun _ => cel b9 52 (effC e) :: cel b5 41 (kndC k) :: cel b4 24 [.slice pa KK.length pc] :: A :: R) (fun x => KK.length - x) 0 (Nat.zero_le _) (Keep.cons rfl (Keep.cons rfl (Keep.cons rfl (Keep.cons rfl (Keep.cons rfl (Keep.cons rfl (Keep.cons rfl (Keep.nil)))))))) (To.sat (by repeat (first | exact .nil | exact .done .refl | (apply To.cons; · (repeat (first | exact .head | apply Sel.tail))) | exact .done (by repeat (first | exact .refl | apply Drop.skip))))) ?_
      rintro x hx
      replace hx : x ≤ KK.length := hx
      refine g_seq ?_
      refine g_seq ?_
      refine g_region ?_
      first | refine gl_v rfl (o_fldS rfl) ?_ | refine gl_v rfl (o_fld rfl) ?_
      first | refine gl_v rfl (o_load rfl rfl) ?_ | refine gl_v rfl (o_loadS rfl rfl) ?_ | refine gl_v rfl (o_loadC rfl) ?_
      refine gl_v rfl (o_eql rfl rfl) ?_
      refine gl_v rfl (o_move rfl) ?_
      refine gl_join (d := 84) 6 (.bool (decide (e.do' = 2) && decide ((x : Int) < (KK.length : Int)))) ?_ (fun jk84 => ?_)
      rotate_left
      ·
        refine gl_g rfl rfl (fun hc12 => ?_) (fun hc12 => ?_) rfl
        ·
          have hc12' := hc12
          first | replace hc12' := of_decide_eq_true hc12' | replace hc12' := lt_f hc12' | replace hc12' := le_f hc12' | replace hc12' := dec_f hc12' | replace hc12' := nlt_t hc12' | replace hc12' := nle_t hc12' | replace hc12' := ndec_t hc12' | replace hc12' := ndec_f hc12' | replace hc12' := nn_t hc12' | replace hc12' := nn_f hc12' | skip
          refine gl_v rfl (o_move rfl) ?_
          refine gl_gT rfl rfl hc12 ?_
          first | refine gl_v rfl (o_fldS rfl) ?_ | refine gl_v rfl (o_fld rfl) ?_
          refine gl_gT rfl rfl hc12 ?_
          first | refine gl_v rfl (o_load rfl rfl) ?_ | refine gl_v rfl (o_loadS rfl rfl) ?_ | refine gl_v rfl (o_loadC rfl) ?_
          refine gl_gT rfl rfl hc12 ?_
          first | refine gl_v rfl (o_len rfl) ?_ | refine gl_v rfl (o_lenL rfl) ?_
          refine gl_gT rfl rfl hc12 ?_
          refine gl_v rfl (o_lss rfl rfl) ?_
          refine gl_v rfl (o_pickT hc12 rfl rfl) ?_
          first | exact jk84 _ (KeepS.top (by repeat (first | exact KeepS.refl _ | refine KeepS.push ?_ rfl)) (jval (by first | rfl | (simp [hc12, ]; done) | simp_all))) | exact gl_imp (To.sat (by repeat (first | exact .nil | exact .done .refl | (apply To.cons; · (repeat (first | exact .head | apply Sel.tail))) | exact .done (by repeat (first | exact .refl | apply Drop.skip))))) (jk84 _ (KeepS.top (by repeat (first | exact KeepS.refl _ | refine KeepS.push ?_ rfl)) (jval (by first | rfl | (simp [hc12, ]; done) | simp_all))))
        ·
          have hc12' := hc12
          first | replace hc12' := of_decide_eq_true hc12' | replace hc12' := lt_f hc12' | replace hc12' := le_f hc12' | replace hc12' := dec_f hc12' | replace hc12' := nlt_t hc12' | replace hc12' := nle_t hc12' | replace hc12' := ndec_t hc12' | replace hc12' := ndec_f hc12' | replace hc12' := nn_t hc12' | replace hc12' := nn_f hc12' | skip
          simp only [putO]
          refine gl_gF rfl rfl hc12 rfl ?_
          refine gl_gF rfl rfl hc12 rfl ?_
          refine gl_gF rfl rfl hc12 rfl ?_
          refine gl_gF rfl rfl hc12 rfl ?_
          refine gl_v rfl (o_pickF hc12 rfl rfl) ?_
          first | exact jk84 _ (KeepS.top (by repeat (first | exact KeepS.refl _ | refine KeepS.push ?_ rfl)) (jval (by first | rfl | (simp [hc12, ]; done) | simp_all))) | exact gl_imp (To.sat (by repeat (first | exact .nil | exact .done .refl | (apply To.cons; · (repeat (first | exact .head | apply Sel.tail))) | exact .done (by repeat (first | exact .refl | apply Drop.skip))))) (jk84 _ (KeepS.top (by repeat (first | exact KeepS.refl _ | refine KeepS.push ?_ rfl)) (jval (by first | rfl | (simp [hc12, ]; done) | simp_all))))
      refine gl_nil ?_
      refine ge_then ?_
      refine g_cond rfl (fun hc13 => ?_) (fun hc13 => ?_)
      ·
        first | replace hc13 := of_decide_eq_true hc13 | replace hc13 := lt_f hc13 | replace hc13 := le_f hc13 | replace hc13 := dec_f hc13 | replace hc13 := nlt_t hc13 | replace hc13 := nle_t hc13 | replace hc13 := ndec_t hc13 | replace hc13 := ndec_f hc13 | replace hc13 := nn_t hc13 | replace hc13 := nn_f hc13 | skip
        obtain ⟨hd2, hxl⟩ := (Bool.and_eq_true _ _).mp (by assumption : (decide (e.do' = 2) && decide ((x : Int) < (KK.length : Int))) = true)
        replace hxl := of_decide_eq_true hxl
        obtain ⟨t, ht⟩ : ∃ t, KK[x]? = some t := ⟨_, List.getElem?_eq_getElem (show x < KK.length by omega)⟩
        refine g_skip ?_
        refine ge_then ?_
        refine g_seq ?_
        refine g_block ?_
        refine g_treeM [] [] (.loc 0 (.loc 1 (.loc 2 (.loc 3 (.loc 4 (.loc 5 (.loc 6 (.loc 7 (.loc 8 (.loc 9 (.loc 10 (.loc 11 (.loc 12 .nil))))))))))))) [cel b4 24 [.slice pa KK.length pc], cel b9 52 (effC e)] mixed (by kernel_rfl) ?_
        refine gt_v rfl .none rfl (o_move rfl) ?_
        refine gt_v rfl .none rfl (o_move rfl) ?_
        refine gt_join (d := 98) (.loc 12 .nil) (.bool (((!decide (e.do' = 2) && !decide (e.do' = 3)) || (decide (e.do' = 2) && (KK.take x).any (fun o => decide (o.name = e.name)))) || decide (t.name = e.name))) ?_ (fun jk98 => ?_)
        rotate_left
        ·
          refine gt_split (j := 1) rfl rfl (fun hc14 => ?_) (fun hc14 => ?_)
          ·
            have hc14' := hc14
            first | replace hc14' := of_decide_eq_true hc14' | replace hc14' := lt_f hc14' | replace hc14' := le_f hc14' | replace hc14' := dec_f hc14' | replace hc14' := nlt_t hc14' | replace hc14' := nle_t hc14' | replace hc14' := ndec_t hc14' | replace hc14' := ndec_f hc14' | replace hc14' := nn_t hc14' | replace hc14' := nn_f hc14' | skip
            refine gt_skipL rfl (.no rfl rfl hc14) rfl ?_
            refine gt_skipL rfl (.no rfl rfl hc14) rfl ?_
            refine gt_skipL rfl (.no rfl rfl hc14) rfl ?_
            refine gt_skipL rfl (.no rfl rfl hc14) rfl ?_
            refine gt_skipL rfl (.no rfl rfl hc14) rfl ?_
            refine gt_skipL rfl (.no rfl rfl hc14) rfl ?_
            refine gt_skipL rfl (.no rfl rfl hc14) rfl ?_
            refine gt_skipL rfl (.no rfl rfl hc14) rfl ?_
            refine gt_skipL rfl (.no rfl rfl hc14) rfl ?_
            refine gt_v rfl .none rfl (o_pickT hc14 rfl rfl) ?_
            first | exact jk98 _ (KeepS.top (by repeat (first | exact KeepS.refl _ | refine KeepS.push ?_ rfl)) (jval (by first | rfl | (simp [hc14, ]; done) | simp_all))) | exact gt_imp (To.sat (by repeat (first | exact .nil | exact .done .refl | (apply To.cons; · (repeat (first | exact .head | apply Sel.tail))) | exact .done (by repeat (first | exact .refl | apply Drop.skip))))) (jk98 _ (KeepS.top (by repeat (first | exact KeepS.refl _ | refine KeepS.push ?_ rfl)) (jval (by first | rfl | (simp [hc14, ]; done) | simp_all))))
          ·
            have hc14' := hc14
            first | replace hc14' := of_decide_eq_true hc14' | replace hc14' := lt_f hc14' | replace hc14' := le_f hc14' | replace hc14' := dec_f hc14' | replace hc14' := nlt_t hc14' | replace hc14' := nle_t hc14' | replace hc14' := ndec_t hc14' | replace hc14' := ndec_f hc14' | replace hc14' := nn_t hc14' | replace hc14' := nn_f hc14' | skip
            first | refine gt_v rfl (.yes rfl rfl hc14) rfl (o_fldS rfl) ?_ | refine gt_v rfl (.yes rfl rfl hc14) rfl (o_fld rfl) ?_
            first | refine gt_v rfl (.yes rfl rfl hc14) rfl (o_load rfl rfl) ?_ | refine gt_v rfl (.yes rfl rfl hc14) rfl (o_loadS rfl rfl) ?_ | refine gt_v rfl (.yes rfl rfl hc14) rfl (o_loadC rfl) ?_
            refine gt_v rfl (.yes rfl rfl hc14) rfl (o_move rfl) ?_
            refine gt_v rfl (.yes rfl rfl hc14) rfl (o_idxS rfl rfl (show x < KK.length by omega)) ?_
            first | refine gt_v rfl (.yes rfl rfl hc14) rfl (o_fldS rfl) ?_ | refine gt_v rfl (.yes rfl rfl hc14) rfl (o_fld rfl) ?_
            refine gt_v rfl (.yes rfl rfl hc14) rfl (o_loadS rfl (flat_get kndC 5 kndC_len ht (show (kndC _)[0]? = some _ from rfl))) ?_
            first | refine gt_v rfl (.yes rfl rfl hc14) rfl (o_fldS rfl) ?_ | refine gt_v rfl (.yes rfl rfl hc14) rfl (o_fld rfl) ?_
            first | refine gt_v rfl (.yes rfl rfl hc14) rfl (o_load rfl rfl) ?_ | refine gt_v rfl (.yes rfl rfl hc14) rfl (o_loadS rfl rfl) ?_ | refine gt_v rfl (.yes rfl rfl hc14) rfl (o_loadC rfl) ?_
            refine gt_v rfl (.yes rfl rfl hc14) rfl (o_eqls rfl rfl) ?_
            refine gt_v rfl .none rfl (o_pickF hc14 rfl rfl) ?_
            first | exact jk98 _ (KeepS.top (by repeat (first | exact KeepS.refl _ | refine KeepS.push ?_ rfl)) (jval (by first | rfl | (simp [hc14, ]; done) | simp_all))) | exact gt_imp (To.sat (by repeat (first | exact .nil | exact .done .refl | (apply To.cons; · (repeat (first | exact .head | apply Sel.tail))) | exact .done (by repeat (first | exact .refl | apply Drop.skip))))) (jk98 _ (KeepS.top (by repeat (first | exact KeepS.refl _ | refine KeepS.push ?_ rfl)) (jval (by first | rfl | (simp [hc14, ]; done) | simp_all))))
        refine gt_keep (Keep.cons (t := 98) rfl (Keep.cons (t := 78) rfl (Keep.cons (t := 77) rfl (Keep.cons (t := 76) rfl (Keep.cons (t := 75) rfl (Keep.cons (t := 13) rfl (Keep.cons (t := 12) rfl (Keep.cons (t := 9) rfl (Keep.cons (t := 5) rfl (Keep.cons (t := 4) rfl (Keep.cons (t := 3) rfl (Keep.cons (t := 2) rfl (Keep.nil))))))))))))) ?_
        refine gt_v rfl .none rfl (o_assign rfl) ?_
        refine gt_nil ?_
        refine ge_block ?_
        refine ge_then ?_
        refine g_region ?_
        refine gl_v rfl (o_move rfl) ?_
        refine gl_v rfl (o_addR (((x + 1 : Nat) : Int)) (by rw [wr_i64 (by omega)]; omega) rfl rfl) ?_
        refine gl_v rfl (o_assign rfl) ?_
        refine gl_nil ?_
        rw [there_step hd2, ← any_succ (q := fun o => decide (o.name = e.name)) ht]
        refine ge_round (x + 1) (show x + 1 ≤ KK.length by omega) (show KK.length - (x + 1) < KK.length - x by omega) (Keep.cons rfl (Keep.cons rfl (Keep.cons rfl (Keep.cons rfl (Keep.cons rfl (Keep.cons rfl (Keep.cons rfl (Keep.nil)))))))) (To.sat (by repeat (first | exact .nil | exact .done .refl | (apply To.cons; · (repeat (first | exact .head | apply Sel.tail))) | exact .done (by repeat (first | exact .refl | apply Drop.skip)))))
      ·
        first | replace hc13 := of_decide_eq_true hc13 | replace hc13 := lt_f hc13 | replace hc13 := le_f hc13 | replace hc13 := dec_f hc13 | replace hc13 := nlt_t hc13 | replace hc13 := nle_t hc13 | replace hc13 := ndec_t hc13 | replace hc13 := ndec_f hc13 | replace hc13 := nn_t hc13 | replace hc13 := nn_f hc13 | skip
        rw [there_T hx (by assumption) (f := fun x => (KK.take x).any (fun o => decide (o.name = e.name)))]
        refine g_exit ?_
        refine ge_then_exit ?_
        refine ge_then_exit ?_
        refine ge_block_exit ?_
        refine ge_then ?_
        refine g_seq ?_
        refine g_seq ?_
        refine g_region ?_
        refine gl_v rfl (o_assign rfl) ?_
        refine gl_nil ?_
        rw [show ((!decide (e.do' = 2) && !decide (e.do' = 3)) || (decide (e.do' = 2) && (KK.take KK.length).any (fun o => decide (o.name = e.name)))) = (((!decide (e.do' = 2) && !decide (e.do' = 3)) || (decide (e.do' = 2) && (KK.take KK.length).any (fun o => decide (o.name = e.name)))) || (decide (e.do' = 3) && (k.states.take 0).any (fun o => decide (o.name = e.name)))) from by simp]
        refine ge_then ?_
        refine g_block ?_
        refine g_loop (ι := Nat) (fun y => y ≤ k.states.length) (fun y => [(14, I64 y), (12, .bool (((!decide (e.do' = 2) && !decide (e.do' = 3)) || (decide (e.do' = 2) && (KK.take KK.length).any (fun o => decide (o.name = e.name)))) || (decide (e.do' = 3) && (k.states.take y).any (fun o => decide (o.name = e.name))))), (9, ptr b9 0), (5, ptr b5 0), (3, I64 j), (2, .slice r.ea r.effs.length r.ec)]) (fun _ => cel b9 52 (effC e) :: cel b5 41 (kndC k) :: A :: R) (fun y => k.states.length - y) 0 (Nat.zero_le _) (Keep.cons rfl (Keep.cons rfl (Keep.cons rfl (Keep.cons rfl (Keep.cons rfl (Keep.cons rfl (Keep.nil))))))) (To.sat (by repeat (first | exact .nil | exact .done .refl | (apply To.cons; · (repeat (first | exact .head | apply Sel.tail))) | exact .done (by repeat (first | exact .refl | apply Drop.skip))))) ?_
        rintro y hy
        replace hy : y ≤ k.states.length := hy
        refine g_seq ?_
        refine g_seq ?_
        refine g_region ?_
        first | refine gl_v rfl (o_fldS rfl) ?_ | refine gl_v rfl (o_fld rfl) ?_
        first | refine gl_v rfl (o_load rfl rfl) ?_ | refine gl_v rfl (o_loadS rfl rfl) ?_ | refine gl_v rfl (o_loadC rfl) ?_
        refine gl_v rfl (o_eql rfl rfl) ?_
        refine gl_v rfl (o_move rfl) ?_
        refine gl_join (d := 108) 6 (.bool (decide (e.do' = 3) && decide ((y : Int) < (k.states.length : Int)))) ?_ (fun jk108 => ?_)
        rotate_left
        ·
          refine gl_g rfl rfl (fun hc15 => ?_) (fun hc15 => ?_) rfl
          ·
            have hc15' := hc15
            first | replace hc15' := of_decide_eq_true hc15' | replace hc15' := lt_f hc15' | replace hc15' := le_f hc15' | replace hc15' := dec_f hc15' | replace hc15' := nlt_t hc15' | replace hc15' := nle_t hc15' | replace hc15' := ndec_t hc15' | replace hc15' := ndec_f hc15' | replace hc15' := nn_t hc15' | replace hc15' := nn_f hc15' | skip
            refine gl_v rfl (o_move rfl) ?_
            refine gl_gT rfl rfl hc15 ?_
            first | refine gl_v rfl (o_fldS rfl) ?_ | refine gl_v rfl (o_fld rfl) ?_
            refine gl_gT rfl rfl hc15 ?_
            first | refine gl_v rfl (o_load rfl rfl) ?_ | refine gl_v rfl (o_loadS rfl rfl) ?_ | refine gl_v rfl (o_loadC rfl) ?_
            refine gl_gT rfl rfl hc15 ?_
            first | refine gl_v rfl (o_len rfl) ?_ | refine gl_v rfl (o_lenL rfl) ?_
            refine gl_gT rfl rfl hc15 ?_
            refine gl_v rfl (o_lss rfl rfl) ?_
            refine gl_v rfl (o_pickT hc15 rfl rfl) ?_
            first | exact jk108 _ (KeepS.top (by repeat (first | exact KeepS.refl _ | refine KeepS.push ?_ rfl)) (jval (by first | rfl | (simp [hc15, ]; done) | simp_all))) | exact gl_imp (To.sat (by repeat (first | exact .nil | exact .done .refl | (apply To.cons; · (repeat (first | exact .head | apply Sel.tail))) | exact .done (by repeat (first | exact .refl | apply Drop.skip))))) (jk108 _ (KeepS.top (by repeat (first | exact KeepS.refl _ | refine KeepS.push ?_ rfl)) (jval (by first | rfl | (simp [hc15, ]; done) | simp_all))))
          ·
            have hc15' := hc15
            first | replace hc15' := of_decide_eq_true hc15' | replace hc15' := lt_f hc15' | replace hc15' := le_f hc15' | replace hc15' := dec_f hc15' | replace hc15' := nlt_t hc15' | replace hc15' := nle_t hc15' | replace hc15' := ndec_t hc15' | replace hc15' := ndec_f hc15' | replace hc15' := nn_t hc15' | replace hc15' := nn_f hc15' | skip
            simp only [putO]
            refine gl_gF rfl rfl hc15 rfl ?_
            refine gl_gF rfl rfl hc15 rfl ?_
            refine gl_gF rfl rfl hc15 rfl ?_
            refine gl_gF rfl rfl hc15 rfl ?_
            refine gl_v rfl (o_pickF hc15 rfl rfl) ?_
            first | exact jk108 _ (KeepS.top (by repeat (first | exact KeepS.refl _ | refine KeepS.push ?_ rfl)) (jval (by first | rfl | (simp [hc15, ]; done) | simp_all))) | exact gl_imp (To.sat (by repeat (first | exact .nil | exact .done .refl | (apply To.cons; · (repeat (first | exact .head | apply Sel.tail))) | exact .done (by repeat (first | exact .refl | apply Drop.skip))))) (jk108 _ (KeepS.top (by repeat (first | exact KeepS.refl _ | refine KeepS.push ?_ rfl)) (jval (by first | rfl | (simp [hc15, ]; done) | simp_all))))
        refine gl_nil ?_
        refine ge_then ?_
        refine g_cond rfl (fun hc16 => ?_) (fun hc16 => ?_)
        ·
          first | replace hc16 := of_decide_eq_true hc16 | replace hc16 := lt_f hc16 | replace hc16 := le_f hc16 | replace hc16 := dec_f hc16 | replace hc16 := nlt_t hc16 | replace hc16 := nle_t hc16 | replace hc16 := ndec_t hc16 | replace hc16 := ndec_f hc16 | replace hc16 := nn_t hc16 | replace hc16 := nn_f hc16 | skip
          obtain ⟨hd3, hxl⟩ := (Bool.and_eq_true _ _).mp (by assumption : (decide (e.do' = 3) && decide ((y : Int) < (k.states.length : Int))) = true)
          replace hxl := of_decide_eq_true hxl
          obtain ⟨t, ht⟩ : ∃ t, k.states[y]? = some t := ⟨_, List.getElem?_eq_getElem (show y < k.states.length by omega)⟩
          refine g_skip ?_
          refine ge_then ?_
          refine g_seq ?_
          refine g_block ?_
          refine g_treeM [] [] (.loc 0 (.loc 1 (.loc 2 (.loc 3 (.loc 4 (.loc 5 (.loc 6 (.loc 7 (.loc 8 (.loc 9 (.loc 10 (.loc 11 (.loc 12 .nil))))))))))))) [cel b5 41 (kndC k), cel b9 52 (effC e)] mixed (by kernel_rfl) ?_
          refine gt_v rfl .none rfl (o_move rfl) ?_
          refine gt_v rfl .none rfl (o_move rfl) ?_
          refine gt_join (d := 122) (.loc 12 .nil) (.bool ((((!decide (e.do' = 2) && !decide (e.do' = 3)) || (decide (e.do' = 2) && (KK.take KK.length).any (fun o => decide (o.name = e.name)))) || (decide (e.do' = 3) && (k.states.take y).any (fun o => decide (o.name = e.name)))) || decide (t.name = e.name))) ?_ (fun jk122 => ?_)
          rotate_left
          ·
            refine gt_split (j := 1) rfl rfl (fun hc17 => ?_) (fun hc17 => ?_)
            ·
              have hc17' := hc17
              first | replace hc17' := of_decide_eq_true hc17' | replace hc17' := lt_f hc17' | replace hc17' := le_f hc17' | replace hc17' := dec_f hc17' | replace hc17' := nlt_t hc17' | replace hc17' := nle_t hc17' | replace hc17' := ndec_t hc17' | replace hc17' := ndec_f hc17' | replace hc17' := nn_t hc17' | replace hc17' := nn_f hc17' | skip
              refine gt_skipL rfl (.no rfl rfl hc17) rfl ?_
              refine gt_skipL rfl (.no rfl rfl hc17) rfl ?_
              refine gt_skipL rfl (.no rfl rfl hc17) rfl ?_
              refine gt_skipL rfl (.no rfl rfl hc17) rfl ?_
              refine gt_skipL rfl (.no rfl rfl hc17) rfl ?_
              refine gt_skipL rfl (.no rfl rfl hc17) rfl ?_
              refine gt_skipL rfl (.no rfl rfl hc17) rfl ?_
              refine gt_skipL rfl (.no rfl rfl hc17) rfl ?_
              refine gt_skipL rfl (.no rfl rfl hc17) rfl ?_
              refine gt_v rfl .none rfl (o_pickT hc17 rfl rfl) ?_
              first | exact jk122 _ (KeepS.top (by repeat (first | exact KeepS.refl _ | refine KeepS.push ?_ rfl)) (jval (by first | rfl | (simp [hc17, ]; done) | simp_all))) | exact gt_imp (To.sat (by repeat (first | exact .nil | exact .done .refl | (apply To.cons; · (repeat (first | exact .head | apply Sel.tail))) | exact .done (by repeat (first | exact .refl | apply Drop.skip))))) (jk122 _ (KeepS.top (by repeat (first | exact KeepS.refl _ | refine KeepS.push ?_ rfl)) (jval (by first | rfl | (simp [hc17, ]; done) | simp_all))))
            ·
              have hc17' := hc17
              first | replace hc17' := of_decide_eq_true hc17' | replace hc17' := lt_f hc17' | replace hc17' := le_f hc17' | replace hc17' := dec_f hc17' | replace hc17' := nlt_t hc17' | replace hc17' := nle_t hc17' | replace hc17' := ndec_t hc17' | replace hc17' := ndec_f hc17' | replace hc17' := nn_t hc17' | replace hc17' := nn_f hc17' | skip
              first | refine gt_v rfl (.yes rfl rfl hc17) rfl (o_fldS rfl) ?_ | refine gt_v rfl (.yes rfl rfl hc17) rfl (o_fld rfl) ?_
              first | refine gt_v rfl (.yes rfl rfl hc17) rfl (o_load rfl rfl) ?_ | refine gt_v rfl (.yes rfl rfl hc17) rfl (o_loadS rfl rfl) ?_ | refine gt_v rfl (.yes rfl rfl hc17) rfl (o_loadC rfl) ?_
              refine gt_v rfl (.yes rfl rfl hc17) rfl (o_move rfl) ?_
              refine gt_v rfl (.yes rfl rfl hc17) rfl (o_idxS rfl rfl (show y < k.states.length by omega)) ?_
              first | refine gt_v rfl (.yes rfl rfl hc17) rfl (o_fldS rfl) ?_ | refine gt_v rfl (.yes rfl rfl hc17) rfl (o_fld rfl) ?_
              refine gt_v rfl (.yes rfl rfl hc17) rfl (o_loadS rfl (flat_get staC 2 staC_len ht (show (staC _)[0]? = some _ from rfl))) ?_
              first | refine gt_v rfl (.yes rfl rfl hc17) rfl (o_fldS rfl) ?_ | refine gt_v rfl (.yes rfl rfl hc17) rfl (o_fld rfl) ?_
              first | refine gt_v rfl (.yes rfl rfl hc17) rfl (o_load rfl rfl) ?_ | refine gt_v rfl (.yes rfl rfl hc17) rfl (o_loadS rfl rfl) ?_ | refine gt_v rfl (.yes rfl rfl hc17) rfl (o_loadC rfl) ?_
              refine gt_v rfl (.yes rfl rfl hc17) rfl (o_eqls rfl rfl) ?_
              refine gt_v rfl .none rfl (o_pickF hc17 rfl rfl) ?_
              first | exact jk122 _ (KeepS.top (by repeat (first | exact KeepS.refl _ | refine KeepS.push ?_ rfl)) (jval (by first | rfl | (simp [hc17, ]; done) | simp_all))) | exact gt_imp (To.sat (by repeat (first | exact .nil | exact .done .refl | (apply To.cons; · (repeat (first | exact .head | apply Sel.tail))) | exact .done (by repeat (first | exact .refl | apply Drop.skip))))) (jk122 _ (KeepS.top (by repeat (first | exact KeepS.refl _ | refine KeepS.push ?_ rfl)) (jval (by first | rfl | (simp [hc17, ]; done) | simp_all))))
          refine gt_keep (Keep.cons (t := 122) rfl (Keep.cons (t := 102) rfl (Keep.cons (t := 101) rfl (Keep.cons (t := 100) rfl (Keep.cons (t := 99) rfl (Keep.cons (t := 14) rfl (Keep.cons (t := 12) rfl (Keep.cons (t := 9) rfl (Keep.cons (t := 5) rfl (Keep.cons (t := 3) rfl (Keep.cons (t := 2) rfl (Keep.nil)))))))))))) ?_
          refine gt_v rfl .none rfl (o_assign rfl) ?_
          refine gt_nil ?_
          refine ge_block ?_
          refine ge_then ?_
          refine g_region ?_
          refine gl_v rfl (o_move rfl) ?_
          refine gl_v rfl (o_addR (((y + 1 : Nat) : Int)) (by rw [wr_i64 (by omega)]; omega) rfl rfl) ?_
          refine gl_v rfl (o_assign rfl) ?_
          refine gl_nil ?_
          rw [there_step hd3, ← any_succ (q := fun o => decide (o.name = e.name)) ht]
          refine ge_round (y + 1) (show y + 1 ≤ k.states.length by omega) (show k.states.length - (y + 1) < k.states.length - y by omega) (Keep.cons rfl (Keep.cons rfl (Keep.cons rfl (Keep.cons rfl (Keep.cons rfl (Keep.cons rfl (Keep.nil))))))) (To.sat (by repeat (first | exact .nil | exact .done .refl | (apply To.cons; · (repeat (first | exact .head | apply Sel.tail))) | exact .done (by repeat (first | exact .refl | apply Drop.skip)))))
        ·
          first | replace hc16 := of_decide_eq_true hc16 | replace hc16 := lt_f hc16 | replace hc16 := le_f hc16 | replace hc16 := dec_f hc16 | replace hc16 := nlt_t hc16 | replace hc16 := nle_t hc16 | replace hc16 := ndec_t hc16 | replace hc16 := ndec_f hc16 | replace hc16 := nn_t hc16 | replace hc16 := nn_f hc16 | skip
          rw [there_T hy (by assumption) (f := fun x => (k.states.take x).any (fun o => decide (o.name = e.name)))]
          refine g_exit ?_
          refine ge_then_exit ?_
          refine ge_then_exit ?_
          refine ge_block_exit ?_
          refine ge_then ?_
          refine g_seq ?_
          refine g_seq ?_
          refine g_region ?_
          refine gl_v rfl (o_move rfl) ?_
          refine gl_v rfl (o_not rfl) ?_
          refine gl_nil ?_
          refine ge_then ?_
          refine g_cond rfl (fun hc18 => ?_) (fun hc18 => ?_)
          ·
            first | replace hc18 := of_decide_eq_true hc18 | replace hc18 := lt_f hc18 | replace hc18 := le_f hc18 | replace hc18 := dec_f hc18 | replace hc18 := nlt_t hc18 | replace hc18 := nle_t hc18 | replace hc18 := ndec_t hc18 | replace hc18 := ndec_f hc18 | replace hc18 := nn_t hc18 | replace hc18 := nn_f hc18 | skip
            refine g_seq ?_
            refine g_region ?_
            refine gl_v rfl (o_assign rfl) ?_
            refine gl_nil ?_
            refine ge_then ?_
            refine g_ret ?_
            refine ge_then_ret ?_
            refine ret1 (.inl rfl) rfl rfl _ (⟨iv_eq (fr0 (by assumption) (fr0 (by assumption) (fr1 (by rw [e8_there]; first | assumption | (rw [Bool.not_eq_true']; assumption))))), rfl⟩) (To.sat (by repeat (first | exact .nil | exact .done .refl | (apply To.cons; · (repeat (first | exact .head | apply Sel.tail))) | exact .done (by repeat (first | exact .refl | apply Drop.skip)))))
          ·
            first | replace hc18 := of_decide_eq_true hc18 | replace hc18 := lt_f hc18 | replace hc18 := le_f hc18 | replace hc18 := dec_f hc18 | replace hc18 := nlt_t hc18 | replace hc18 := nle_t hc18 | replace hc18 := ndec_t hc18 | replace hc18 := ndec_f hc18 | replace hc18 := nn_t hc18 | replace hc18 := nn_f hc18 | skip
            refine g_skip ?_
            refine ge_then ?_
            refine g_seq ?_
            refine g_seq ?_
            refine g_region ?_
            first | refine gl_v rfl (o_fldS rfl) ?_ | refine gl_v rfl (o_fld rfl) ?_
            first | refine gl_v rfl (o_load rfl rfl) ?_ | refine gl_v rfl (o_loadS rfl rfl) ?_ | refine gl_v rfl (o_loadC rfl) ?_
            refine gl_v rfl (o_eql rfl rfl) ?_
            refine gl_v rfl (o_move rfl) ?_
            refine gl_join (d := 139) 11 (.bool ((decide (e.do' = 11) || decide (e.do' = 12)) && decide ((j : Int) < (r.effs.length : Int) - 1))) ?_ (fun jk139 => ?_)
            rotate_left
            ·
              refine gl_g rfl rfl (fun hc19 => ?_) (fun hc19 => ?_) rfl
              ·
                have hc19' := hc19
                first | replace hc19' := of_decide_eq_true hc19' | replace hc19' := lt_f hc19' | replace hc19' := le_f hc19' | replace hc19' := dec_f hc19' | replace hc19' := nlt_t hc19' | replace hc19' := nle_t hc19' | replace hc19' := ndec_t hc19' | replace hc19' := ndec_f hc19' | replace hc19' := nn_t hc19' | replace hc19' := nn_f hc19' | skip
                first | refine gl_v rfl (o_fldS rfl) ?_ | refine gl_v rfl (o_fld rfl) ?_
                refine gl_gT rfl rfl hc19 ?_
                first | refine gl_v rfl (o_load rfl rfl) ?_ | refine gl_v rfl (o_loadS rfl rfl) ?_ | refine gl_v rfl (o_loadC rfl) ?_
                refine gl_gT rfl rfl hc19 ?_
                refine gl_v rfl (o_eql rfl rfl) ?_
                refine gl_v rfl (o_pickF hc19 rfl rfl) ?_
                refine gl_v rfl (o_move rfl) ?_
                refine gl_g rfl rfl (fun hc20 => ?_) (fun hc20 => ?_) rfl
                ·
                  have hc20' := hc20
                  first | replace hc20' := of_decide_eq_true hc20' | replace hc20' := lt_f hc20' | replace hc20' := le_f hc20' | replace hc20' := dec_f hc20' | replace hc20' := nlt_t hc20' | replace hc20' := nle_t hc20' | replace hc20' := ndec_t hc20' | replace hc20' := ndec_f hc20' | replace hc20' := nn_t hc20' | replace hc20' := nn_f hc20' | skip
                  refine gl_v rfl (o_move rfl) ?_
                  refine gl_gT rfl rfl hc20 ?_
                  refine gl_v rfl (o_move rfl) ?_
                  refine gl_gT rfl rfl hc20 ?_
                  first | refine gl_v rfl (o_len rfl) ?_ | refine gl_v rfl (o_lenL rfl) ?_
                  refine gl_gT rfl rfl hc20 ?_
                  refine gl_v rfl (o_subR (((r.effs.length : Int) - 1)) (by rw [wr_i64 (by omega)]) rfl rfl) ?_
                  refine gl_gT rfl rfl hc20 ?_
                  refine gl_v rfl (o_lss rfl rfl) ?_
                  refine gl_v rfl (o_pickT hc20 rfl rfl) ?_
                  first | exact jk139 _ (KeepS.top (by repeat (first | exact KeepS.refl _ | refine KeepS.push ?_ rfl)) (jval (by first | rfl | (simp [hc19, hc20, ]; done) | simp_all))) | exact gl_imp (To.sat (by repeat (first | exact .nil | exact .done .refl | (apply To.cons; · (repeat (first | exact .head | apply Sel.tail))) | exact .done (by repeat (first | exact .refl | apply Drop.skip))))) (jk139 _ (KeepS.top (by repeat (first | exact KeepS.refl _ | refine KeepS.push ?_ rfl)) (jval (by first | rfl | (simp [hc19, hc20, ]; done) | simp_all))))
                ·
                  have hc20' := hc20
                  first | replace hc20' := of_decide_eq_true hc20' | replace hc20' := lt_f hc20' | replace hc20' := le_f hc20' | replace hc20' := dec_f hc20' | replace hc20' := nlt_t hc20' | replace hc20' := nle_t hc20' | replace hc20' := ndec_t hc20' | replace hc20' := ndec_f hc20' | replace hc20' := nn_t hc20' | replace hc20' := nn_f hc20' | skip
                  simp only [putO]
                  refine gl_gF rfl rfl hc20 rfl ?_
                  refine gl_gF rfl rfl hc20 rfl ?_
                  refine gl_gF rfl rfl hc20 rfl ?_
                  refine gl_gF rfl rfl hc20 rfl ?_
                  refine gl_v rfl (o_pickF hc20 rfl rfl) ?_
                  first | exact jk139 _ (KeepS.top (by repeat (first | exact KeepS.refl _ | refine KeepS.push ?_ rfl)) (jval (by first | rfl | (simp [hc19, hc20, ]; done) | simp_all))) | exact gl_imp (To.sat (by repeat (first | exact .nil | exact .done .refl | (apply To.cons; · (repeat (first | exact .head | apply Sel.tail))) | exact .done (by repeat (first | exact .refl | apply Drop.skip))))) (jk139 _ (KeepS.top (by repeat (first | exact KeepS.refl _ | refine KeepS.push ?_ rfl)) (jval (by first | rfl | (simp [hc19, hc20, ]; done) | simp_all))))
              ·
                have hc19' := hc19
                first | replace hc19' := of_decide_eq_true hc19' | replace hc19' := lt_f hc19' | replace hc19' := le_f hc19' | replace hc19' := dec_f hc19' | replace hc19' := nlt_t hc19' | replace hc19' := nle_t hc19' | replace hc19' := ndec_t hc19' | replace hc19' := ndec_f hc19' | replace hc19' := nn_t hc19' | replace hc19' := nn_f hc19' | skip
                simp only [putO]
                refine gl_gF rfl rfl hc19 rfl ?_
                refine gl_gF rfl rfl hc19 rfl ?_
                refine gl_v rfl (o_pickT hc19 rfl rfl) ?_
                refine gl_v rfl (o_move rfl) ?_
                refine gl_gT rfl rfl rfl ?_
                refine gl_v rfl (o_move rfl) ?_
                refine gl_gT rfl rfl rfl ?_
                refine gl_v rfl (o_move rfl) ?_
                refine gl_gT rfl rfl rfl ?_
                first | refine gl_v rfl (o_len rfl) ?_ | refine gl_v rfl (o_lenL rfl) ?_
                refine gl_gT rfl rfl rfl ?_
                refine gl_v rfl (o_subR (((r.effs.length : Int) - 1)) (by rw [wr_i64 (by omega)]) rfl rfl) ?_
                refine gl_gT rfl rfl rfl ?_
                refine gl_v rfl (o_lss rfl rfl) ?_
                refine gl_v rfl (o_pickT rfl rfl rfl) ?_
                first | exact jk139 _ (KeepS.top (by repeat (first | exact KeepS.refl _ | refine KeepS.push ?_ rfl)) (jval (by first | rfl | (simp [hc19, ]; done) | simp_all))) | exact gl_imp (To.sat (by repeat (first | exact .nil | exact .done .refl | (apply To.cons; · (repeat (first | exact .head | apply Sel.tail))) | exact .done (by repeat (first | exact .refl | apply Drop.skip))))) (jk139 _ (KeepS.top (by repeat (first | exact KeepS.refl _ | refine KeepS.push ?_ rfl)) (jval (by first | rfl | (simp [hc19, ]; done) | simp_all))))
            refine gl_nil ?_
            refine ge_then ?_
            refine g_cond rfl (fun hc21 => ?_) (fun hc21 => ?_)
            ·
              first | replace hc21 := of_decide_eq_true hc21 | replace hc21 := lt_f hc21 | replace hc21 := le_f hc21 | replace hc21 := dec_f hc21 | replace hc21 := nlt_t hc21 | replace hc21 := nle_t hc21 | replace hc21 := ndec_t hc21 | replace hc21 := ndec_f hc21 | replace hc21 := nn_t hc21 | replace hc21 := nn_f hc21 | skip
              refine g_seq ?_
              refine g_region ?_
              refine gl_v rfl (o_assign rfl) ?_
              refine gl_nil ?_
              refine ge_then ?_
              refine g_ret ?_
              refine ge_then_ret ?_
              refine ret1 (.inl rfl) rfl rfl _ (⟨iv_eq (fr0 (by assumption) (fr0 (by assumption) (fr0 (by rw [e8_there]; first | assumption | (rw [Bool.not_eq_false']; assumption)) (fr1 (by assumption))))), rfl⟩) (To.sat (by repeat (first | exact .nil | exact .done .refl | (apply To.cons; · (repeat (first | exact .head | apply Sel.tail))) | exact .done (by repeat (first | exact .refl | apply Drop.skip)))))
            ·
              first | replace hc21 := of_decide_eq_true hc21 | replace hc21 := lt_f hc21 | replace hc21 := le_f hc21 | replace hc21 := dec_f hc21 | replace hc21 := nlt_t hc21 | replace hc21 := nle_t hc21 | replace hc21 := ndec_t hc21 | replace hc21 := ndec_f hc21 | replace hc21 := nn_t hc21 | replace hc21 := nn_f hc21 | skip
              refine g_skip ?_
              refine ge_then ?_
              refine g_seq ?_
              refine g_region ?_
              refine gl_v rfl (o_assign rfl) ?_
              refine gl_nil ?_
              refine ge_then ?_
              refine g_ret ?_
              refine ret1 (.inl rfl) rfl rfl _ (⟨iv_eq (fr0 (by assumption) (fr0 (by assumption) (fr0 (by rw [e8_there]; first | assumption | (rw [Bool.not_eq_false']; assumption)) (fr0 (by assumption) rfl)))), rfl⟩) (To.sat (by repeat (first | exact .nil | exact .done .refl | (apply To.cons; · (repeat (first | exact .head | apply Sel.tail))) | exact .done (by repeat (first | exact .refl | apply Drop.skip)))))

set_option maxRecDepth 8000 in
set_option maxHeartbeats 1000000 in
theorem Ints_spec (xs ys : List Int) (a b : Option Addr) (c d : Nat) (A B : Assn) (hx : xs.length ≤ 9223372036854775807) (hy : ys.length ≤ 9223372036854775807) [RdA (.slice a xs.length c) A xs.length (xs.map I64)] [RdA (.slice b ys.length d) B ys.length (ys.map I64)] : FnS Tryd.prog 11 [.slice a xs.length c, .slice b ys.length d] [A, B] (fun u Bs => u = .bool (decide (xs = ys)) ∧ Bs = [A, B]) := by
  refine fn_body Tryd.func11 rfl rfl rfl ?_
  intro W0 R
  simp only [List.zipIdx_cons, List.zipIdx_nil, List.map_cons, List.map_nil, Nat.zero_add, Nat.reduceAdd, List.cons_append, List.nil_append]
  refine g_seq ?_
  refine g_region ?_
  refine gl_v rfl (o_assign rfl) ?_
  refine gl_nil ?_
  refine ge_then ?_
  refine g_seq ?_
  refine g_seq ?_
  refine g_region ?_
  refine gl_v rfl (o_move rfl) ?_
  first | refine gl_v rfl (o_len rfl) ?_ | refine gl_v rfl (o_lenL rfl) ?_
  refine gl_v rfl (o_move rfl) ?_
  first | refine gl_v rfl (o_len rfl) ?_ | refine gl_v rfl (o_lenL rfl) ?_
  refine gl_v rfl (o_neq rfl rfl) ?_
  refine gl_nil ?_
  refine ge_then ?_
  refine g_cond rfl (fun hc1 => ?_) (fun hc1 => ?_)
  ·
    first | replace hc1 := of_decide_eq_true hc1 | replace hc1 := lt_f hc1 | replace hc1 := le_f hc1 | replace hc1 := dec_f hc1 | replace hc1 := nlt_t hc1 | replace hc1 := nle_t hc1 | replace hc1 := ndec_t hc1 | replace hc1 := ndec_f hc1 | replace hc1 := nn_t hc1 | replace hc1 := nn_f hc1 | skip
    refine g_seq ?_
    refine g_region ?_
    refine gl_v rfl (o_assign rfl) ?_
    refine gl_nil ?_
    refine ge_then ?_
    refine g_ret ?_
    refine ge_then_ret ?_
    refine ret1 (.inl rfl) rfl rfl _ (⟨bool_v (decide_eq_false (fun h => by have := congrArg List.length h; omega)).symm, rfl⟩) (To.sat (by repeat (first | exact .nil | exact .done .refl | (apply To.cons; · (repeat (first | exact .head | apply Sel.tail))) | exact .done (by repeat (first | exact .refl | apply Drop.skip)))))
  ·
    first | replace hc1 := of_decide_eq_true hc1 | replace hc1 := lt_f hc1 | replace hc1 := le_f hc1 | replace hc1 := dec_f hc1 | replace hc1 := nlt_t hc1 | replace hc1 := nle_t hc1 | replace hc1 := ndec_t hc1 | replace hc1 := ndec_f hc1 | replace hc1 := nn_t hc1 | replace hc1 := nn_f hc1 | skip
    have hl : xs.length = ys.length := by omega
    refine g_skip ?_
    refine ge_then ?_
    refine g_seq ?_
    refine g_seq ?_
    refine g_region ?_
    refine gl_v rfl (o_assign rfl) ?_
    refine gl_nil ?_
    refine ge_then ?_
    refine g_block ?_
    refine g_loop (ι := Nat) (fun i => i ≤ xs.length ∧ xs.take i = ys.take i) (fun i => [(5, I64 i), (1, .slice b ys.length d), (0, .slice a xs.length c)]) (fun _ => A :: B :: R) (fun i => xs.length - i) 0 (⟨Nat.zero_le _, rfl⟩) (Keep.cons rfl (Keep.cons rfl (Keep.cons rfl (Keep.nil)))) (To.sat (by repeat (first | exact .nil | exact .done .refl | (apply To.cons; · (repeat (first | exact .head | apply Sel.tail))) | exact .done (by repeat (first | exact .refl | apply Drop.skip))))) ?_
    rintro i ⟨hi, hz⟩
    replace hi : i ≤ xs.length := hi
    replace hz : xs.take i = ys.take i := hz
    refine g_seq ?_
    refine g_seq ?_
    refine g_region ?_
    refine gl_v rfl (o_move rfl) ?_
    refine gl_v rfl (o_move rfl) ?_
    first | refine gl_v rfl (o_len rfl) ?_ | refine gl_v rfl (o_lenL rfl) ?_
    refine gl_v rfl (o_lss rfl rfl) ?_
    refine gl_nil ?_
    refine ge_then ?_
    refine g_cond rfl (fun hc2 => ?_) (fun hc2 => ?_)
    ·
      first | replace hc2 := of_decide_eq_true hc2 | replace hc2 := lt_f hc2 | replace hc2 := le_f hc2 | replace hc2 := dec_f hc2 | replace hc2 := nlt_t hc2 | replace hc2 := nle_t hc2 | replace hc2 := ndec_t hc2 | replace hc2 := ndec_f hc2 | replace hc2 := nn_t hc2 | replace hc2 := nn_f hc2 | skip
      obtain ⟨p, hp⟩ : ∃ p, xs[i]? = some p := ⟨_, List.getElem?_eq_getElem (show i < xs.length by omega)⟩
      obtain ⟨q, hq⟩ : ∃ q, ys[i]? = some q := ⟨_, List.getElem?_eq_getElem (show i < ys.length by omega)⟩
      refine g_skip ?_
      refine ge_then ?_
      refine g_seq ?_
      refine g_block ?_
      refine g_seq ?_
      refine g_draw [] [] [(0, .loc), (1, .loc), (2, .loc), (3, .loc), (4, .loc), (5, .loc), (6, .loc), (7, .loc), (8, .loc)] [] mixed (by kernel_rfl) ?_
      refine go_v rfl .none rfl (o_move rfl) ?_
      refine go_v rfl .none rfl (o_move rfl) ?_
      refine go_v rfl .none rfl (o_idxS rfl rfl (show i < xs.length by omega)) ?_
      refine go_v rfl .none rfl (o_loadS rfl (show (xs.map I64)[i * 1]? = some (I64 p) by rw [Nat.mul_one, List.getElem?_map, hp]; rfl)) ?_
      refine go_v rfl .none rfl (o_move rfl) ?_
      refine go_v rfl .none rfl (o_move rfl) ?_
      refine go_v rfl .none rfl (o_idxS rfl rfl (show i < ys.length by omega)) ?_
      refine go_v rfl .none rfl (o_loadS rfl (show (ys.map I64)[i * 1]? = some (I64 q) by rw [Nat.mul_one, List.getElem?_map, hq]; rfl)) ?_
      refine go_v rfl .none rfl (o_neq rfl rfl) ?_
      refine go_nil ?_
      refine ge_then ?_
      refine g_cond rfl (fun hc3 => ?_) (fun hc3 => ?_)
      ·
        first | replace hc3 := of_decide_eq_true hc3 | replace hc3 := lt_f hc3 | replace hc3 := le_f hc3 | replace hc3 := dec_f hc3 | replace hc3 := nlt_t hc3 | replace hc3 := nle_t hc3 | replace hc3 := ndec_t hc3 | replace hc3 := ndec_f hc3 | replace hc3 := nn_t hc3 | replace hc3 := nn_f hc3 | skip
        refine g_seq ?_
        refine g_region ?_
        refine gl_v rfl (o_assign rfl) ?_
        refine gl_nil ?_
        refine ge_then ?_
        refine g_ret ?_
        refine ge_block_ret ?_
        refine ge_then_ret ?_
        refine ge_then_ret ?_
        refine ge_block_ret ?_
        refine ge_then_ret ?_
        refine ret1 (.inl rfl) rfl rfl _ (⟨bool_v (decide_eq_false (fun h => by rw [h, hq] at hp; injection hp; omega)).symm, rfl⟩) (To.sat (by repeat (first | exact .nil | exact .done .refl | (apply To.cons; · (repeat (first | exact .head | apply Sel.tail))) | exact .done (by repeat (first | exact .refl | apply Drop.skip)))))
      ·
        first | replace hc3 := of_decide_eq_true hc3 | replace hc3 := lt_f hc3 | replace hc3 := le_f hc3 | replace hc3 := dec_f hc3 | replace hc3 := nlt_t hc3 | replace hc3 := nle_t hc3 | replace hc3 := ndec_t hc3 | replace hc3 := ndec_f hc3 | replace hc3 := nn_t hc3 | replace hc3 := nn_f hc3 | skip
        refine g_skip ?_
        refine ge_block ?_
        refine ge_then ?_
        refine g_region ?_
        refine gl_v rfl (o_move rfl) ?_
        refine gl_v rfl (o_addR (((i + 1 : Nat) : Int)) (by rw [wr_i64 (by omega)]; omega) rfl rfl) ?_
        refine gl_v rfl (o_assign rfl) ?_
        refine gl_nil ?_
        have hpq : p = q := by omega
        refine ge_round (i + 1) ⟨show i + 1 ≤ xs.length by omega, by rw [List.take_add_one, List.take_add_one, hz, hp, hq, hpq]⟩ (show xs.length - (i + 1) < xs.length - i by omega) (Keep.cons rfl (Keep.cons rfl (Keep.cons rfl (Keep.nil)))) (To.sat (by repeat (first | exact .nil | exact .done .refl | (apply To.cons; · (repeat (first | exact .head | apply Sel.tail))) | exact .done (by repeat (first | exact .refl | apply Drop.skip)))))
    ·
      first | replace hc2 := of_decide_eq_true hc2 | replace hc2 := lt_f hc2 | replace hc2 := le_f hc2 | replace hc2 := dec_f hc2 | replace hc2 := nlt_t hc2 | replace hc2 := nle_t hc2 | replace hc2 := ndec_t hc2 | replace hc2 := ndec_f hc2 | replace hc2 := nn_t hc2 | replace hc2 := nn_f hc2 | skip
      have he : xs = ys := by
        rw [show i = xs.length by omega, List.take_length] at hz; rw [hz, hl, List.take_length]
      refine g_exit ?_
      refine ge_then_exit ?_
      refine ge_then_exit ?_
      refine ge_block_exit ?_
      refine ge_then ?_
      refine g_seq ?_
      refine g_region ?_
      refine gl_v rfl (o_assign rfl) ?_
      refine gl_nil ?_
      refine ge_then ?_
      refine g_ret ?_
      refine ret1 (.inl rfl) rfl rfl _ (⟨bool_v (decide_eq_true he).symm, rfl⟩) (To.sat (by repeat (first | exact .nil | exact .done .refl | (apply To.cons; · (repeat (first | exact .head | apply Sel.tail))) | exact .done (by repeat (first | exact .refl | apply Drop.skip)))))

set_option maxRecDepth 8000 in
set_option maxHeartbeats 1000000 in
theorem fault_spec (c : Int) (ws : List Int) (b : Nat) (hw : ws.length ≤ 10) : FnS Tryd.prog 18 [I64 c, .slice (some ⟨b, 0, none⟩) ws.length ws.length] [cel b 3 (ws.map I64)] (fun u Bs => ∃ a cp, u = .agg #[I64 c, .slice a ws.length cp] ∧ Bs = [intsA a cp ws]) := by
  refine fn_body Tryd.func18 rfl rfl rfl ?_
  intro W0 R
  simp only [List.zipIdx_cons, List.zipIdx_nil, List.map_cons, List.map_nil, Nat.zero_add, Nat.reduceAdd, List.cons_append, List.nil_append]
  refine g_seq ?_
  refine g_region ?_
  refine gl_n rfl (o_alloc) ?_
  rintro _ _ ⟨b4, rfl, rfl⟩
  refine gl_nil ?_
  refine ge_then ?_
  refine g_seq ?_
  refine g_region ?_
  refine gl_v rfl (o_assign rfl) ?_
  refine gl_nil ?_
  refine ge_then ?_
  refine g_seq ?_
  refine g_imp (own_nil0 (e := 3) (sz := 1)) ?_
  refine g_region ?_
  refine gl_v rfl (o_move rfl) ?_
  refine gl_v rfl (o_move rfl) ?_
  refine gl_n rfl (o_appendS rfl rfl (by repeat (first | exact .head | apply Sel.tail)) rfl (by simp) (by simp [List.all_map]; try (intro x _; rfl)) (by omega) (by unfold maxLen; omega)) ?_
  rintro _ _ ⟨a8, c8, rfl, rfl⟩
  rw [Nat.zero_add]
  simp only [List.nil_append]
  refine gl_v rfl (o_assign rfl) ?_
  refine gl_nil ?_
  refine ge_then ?_
  refine g_seq ?_
  refine g_region ?_
  refine gl_v rfl (o_move rfl) ?_
  refine gl_v rfl (o_move rfl) ?_
  refine gl_v rfl (o_build rfl rfl) ?_
  first | refine gl_u (o_storeSA rfl rfl rfl rfl (by simp; omega) (by simp)) ?_ | refine gl_u (o_storeA rfl rfl rfl rfl rfl) ?_
  refine gl_nil ?_
  refine ge_then ?_
  refine g_ret ?_
  refine ret1c (.inl rfl) rfl rfl rfl rfl _ (⟨a8, c8, rfl, rfl⟩) (To.sat (by repeat (first | exact .nil | exact .done .refl | (apply To.cons; · (repeat (first | exact .head | apply Sel.tail))) | exact .done (by repeat (first | exact .refl | apply Drop.skip)))))

set_option maxRecDepth 8000 in
set_option maxHeartbeats 1000000 in
theorem fault_nil (c : Int) : FnS Tryd.prog 18 [I64 c, .slice none 0 0] [] (fun u Bs => ∃ a cp, u = .agg #[I64 c, .slice a 0 cp] ∧ Bs = [intsA a cp []]) := by
  refine fn_body Tryd.func18 rfl rfl rfl ?_
  intro W0 R
  simp only [List.zipIdx_cons, List.zipIdx_nil, List.map_cons, List.map_nil, Nat.zero_add, Nat.reduceAdd, List.cons_append, List.nil_append]
  refine g_seq ?_
  refine g_region ?_
  refine gl_n rfl (o_alloc) ?_
  rintro _ _ ⟨b4, rfl, rfl⟩
  refine gl_nil ?_
  refine ge_then ?_
  refine g_seq ?_
  refine g_region ?_
  refine gl_v rfl (o_assign rfl) ?_
  refine gl_nil ?_
  refine ge_then ?_
  refine g_seq ?_
  refine g_imp (own_nil0 (e := 3) (sz := 1)) ?_
  refine g_region ?_
  refine gl_v rfl (o_move rfl) ?_
  refine gl_v rfl (o_move rfl) ?_
  refine gl_n rfl (o_appendS (m := 0) (news := []) rfl rfl (by repeat (first | exact .head | apply Sel.tail)) rfl (by simp) rfl (by omega) (by unfold maxLen; omega)) ?_
  rintro _ _ ⟨a8, c8, rfl, rfl⟩
  refine gl_v rfl (o_assign rfl) ?_
  refine gl_nil ?_
  refine ge_then ?_
  refine g_seq ?_
  refine g_region ?_
  refine gl_v rfl (o_move rfl) ?_
  refine gl_v rfl (o_move rfl) ?_
  refine gl_v rfl (o_build rfl rfl) ?_
  first | refine gl_u (o_storeSA rfl rfl rfl rfl (by simp; omega) (by simp)) ?_ | refine gl_u (o_storeA rfl rfl rfl rfl rfl) ?_
  refine gl_nil ?_
  refine ge_then ?_
  refine g_ret ?_
  refine ret1c (.inl rfl) rfl rfl rfl rfl _ (⟨a8, c8, rfl, rfl⟩) (To.sat (by repeat (first | exact .nil | exact .done .refl | (apply To.cons; · (repeat (first | exact .head | apply Sel.tail))) | exact .done (by repeat (first | exact .refl | apply Drop.skip)))))

theorem fst_hit {R : Nat → Flt} {i n : Nat} {c : Int} {ws : List Int} (h : i < n) (hR : R i = some (c, ws)) : fst R i (n - i) = some (c, ((i + 1 : Nat) : Int) :: ws) := by rw [fst_at h, hR]; rfl
theorem fst_go {R : Nat → Flt} {i n : Nat} (h : i < n) (hR : R i = none) : fst R i (n - i) = fst R (i + 1) (n - (i + 1)) := by rw [fst_at h, hR]; rfl
theorem fst_end {R : Nat → Flt} {n : Nat} : fst R n (n - n) = none := by rw [Nat.sub_self]; rfl
theorem within_T {own : Int} {n : Nat} {R : Nat → Flt} (h : own ≠ 0) : withinP own n R = some (own, []) := by unfold withinP; rw [if_neg h]
theorem within_F {own : Int} {n : Nat} {R : Nat → Flt} (h : own = 0) : withinP own n R = fst R 0 (n - 0) := by unfold withinP; rw [if_pos h]; rfl
def RefP (A : Assn) : Flt → Value → List Assn → Prop
  | none, u, Bs => u = .agg #[I64 0, .slice none 0 0] ∧ Bs = [A]
  | some (c, ws), u, Bs => ∃ a cp, u = .agg #[I64 c, .slice a ws.length cp] ∧ Bs = [intsA a cp ws, A]
theorem refP_some {A : Assn} {r : Flt} {c : Int} {ws : List Int} (e : r = some (c, ws)) {a : Option Addr} {cp : Nat} : RefP A r (.agg #[I64 c, .slice a ws.length cp]) [intsA a cp ws, A] := by subst e; exact ⟨_, _, rfl, rfl⟩
theorem refP_none {A : Assn} {r : Flt} (e : r = none) : RefP A r (.agg #[I64 0, .slice none 0 0]) [A] := by subst e; exact ⟨rfl, rfl⟩
theorem prgE_T {KK : List Knd} (h : (decide ((KK.length : Int) < 1) || decide (8 < (KK.length : Int))) = true) : prgF KK = some (40, []) := by unfold prgF prgE; rw [h]; rfl
theorem prgE_F {KK : List Knd} (h : (decide ((KK.length : Int) < 1) || decide (8 < (KK.length : Int))) = false) : prgF KK = fst (kndF KK) 0 (KK.length - 0) := by unfold prgF prgE; rw [h]; rfl

set_option maxRecDepth 8000 in
set_option maxHeartbeats 4000000 in
theorem rprog_spec (pa : Option Addr) (pc : Nat) (KK : List Knd) (A : Assn) (hA : ∀ h, A h → PrgOk h pa pc KK) (hb : ∃ h, PrgOk h pa pc KK) : FnS Tryd.prog 9 [.agg #[.slice pa KK.length pc]] [A] (RefP A (prgF KK)) := by
  refine fn_body Tryd.func9 rfl rfl rfl ?_
  intro W0 R
  simp only [List.zipIdx_cons, List.zipIdx_nil, List.map_cons, List.map_nil, Nat.zero_add, Nat.reduceAdd, List.cons_append, List.nil_append]
  obtain ⟨h0, hb0⟩ := id hb
  have hKn := hb0.len; have hKc := hb0.rd.2
  haveI rK : RdA (.slice pa KK.length pc) A KK.length (KK.flatMap kndC) := ⟨fun h => (hA _ h).rd.1⟩
  unfold ok63 at *
  
  refine g_seq ?_
  refine g_region ?_
  refine gl_n rfl (o_boxA rfl) ?_
  rintro _ _ ⟨b1, rfl, rfl⟩
  refine gl_n rfl (o_alloc) ?_
  rintro _ _ ⟨b2, rfl, rfl⟩
  refine gl_nil ?_
  refine ge_then ?_
  refine g_seq ?_
  refine g_seq ?_
  refine g_region ?_
  first | refine gl_v rfl (o_fldS rfl) ?_ | refine gl_v rfl (o_fld rfl) ?_
  first | refine gl_v rfl (o_load rfl rfl) ?_ | refine gl_v rfl (o_loadS rfl rfl) ?_ | refine gl_v rfl (o_loadC rfl) ?_
  first | refine gl_v rfl (o_len rfl) ?_ | refine gl_v rfl (o_lenL rfl) ?_
  refine gl_v rfl (o_lss rfl rfl) ?_
  refine gl_v rfl (o_move rfl) ?_
  refine gl_join (d := 21) 5 (.bool (decide ((KK.length : Int) < 1) || decide (8 < (KK.length : Int)))) ?_ (fun jk21 => ?_)
  rotate_left
  ·
    refine gl_g rfl rfl (fun hc1 => ?_) (fun hc1 => ?_) rfl
    ·
      have hc1' := hc1
      first | replace hc1' := of_decide_eq_true hc1' | replace hc1' := lt_f hc1' | replace hc1' := le_f hc1' | replace hc1' := dec_f hc1' | replace hc1' := nlt_t hc1' | replace hc1' := nle_t hc1' | replace hc1' := ndec_t hc1' | replace hc1' := ndec_f hc1' | replace hc1' := nn_t hc1' | replace hc1' := nn_f hc1' | skip
      first | refine gl_v rfl (o_fldS rfl) ?_ | refine gl_v rfl (o_fld rfl) ?_
      refine gl_gT rfl rfl hc1 ?_
      first | refine gl_v rfl (o_load rfl rfl) ?_ | refine gl_v rfl (o_loadS rfl rfl) ?_ | refine gl_v rfl (o_loadC rfl) ?_
      refine gl_gT rfl rfl hc1 ?_
      first | refine gl_v rfl (o_len rfl) ?_ | refine gl_v rfl (o_lenL rfl) ?_
      refine gl_gT rfl rfl hc1 ?_
      refine gl_v rfl (o_gtr rfl rfl) ?_
      refine gl_v rfl (o_pickF hc1 rfl rfl) ?_
      first | exact jk21 _ (KeepS.top (by repeat (first | exact KeepS.refl _ | refine KeepS.push ?_ rfl)) (jval (by first | rfl | (simp [hc1, ]; done) | simp_all))) | exact gl_imp (To.sat (by repeat (first | exact .nil | exact .done .refl | (apply To.cons; · (repeat (first | exact .head | apply Sel.tail))) | exact .done (by repeat (first | exact .refl | apply Drop.skip))))) (jk21 _ (KeepS.top (by repeat (first | exact KeepS.refl _ | refine KeepS.push ?_ rfl)) (jval (by first | rfl | (simp [hc1, ]; done) | simp_all))))
    ·
      have hc1' := hc1
      first | replace hc1' := of_decide_eq_true hc1' | replace hc1' := lt_f hc1' | replace hc1' := le_f hc1' | replace hc1' := dec_f hc1' | replace hc1' := nlt_t hc1' | replace hc1' := nle_t hc1' | replace hc1' := ndec_t hc1' | replace hc1' := ndec_f hc1' | replace hc1' := nn_t hc1' | replace hc1' := nn_f hc1' | skip
      simp only [putO]
      refine gl_gF rfl rfl hc1 rfl ?_
      refine gl_gF rfl rfl hc1 rfl ?_
      refine gl_gF rfl rfl hc1 rfl ?_
      refine gl_v rfl (o_pickT hc1 rfl rfl) ?_
      first | exact jk21 _ (KeepS.top (by repeat (first | exact KeepS.refl _ | refine KeepS.push ?_ rfl)) (jval (by first | rfl | (simp [hc1, ]; done) | simp_all))) | exact gl_imp (To.sat (by repeat (first | exact .nil | exact .done .refl | (apply To.cons; · (repeat (first | exact .head | apply Sel.tail))) | exact .done (by repeat (first | exact .refl | apply Drop.skip))))) (jk21 _ (KeepS.top (by repeat (first | exact KeepS.refl _ | refine KeepS.push ?_ rfl)) (jval (by first | rfl | (simp [hc1, ]; done) | simp_all))))
  refine gl_nil ?_
  refine ge_then ?_
  refine g_cond rfl (fun hc2 => ?_) (fun hc2 => ?_)
  ·
    first | replace hc2 := of_decide_eq_true hc2 | replace hc2 := lt_f hc2 | replace hc2 := le_f hc2 | replace hc2 := dec_f hc2 | replace hc2 := nlt_t hc2 | replace hc2 := nle_t hc2 | replace hc2 := ndec_t hc2 | replace hc2 := ndec_f hc2 | replace hc2 := nn_t hc2 | replace hc2 := nn_f hc2 | skip
    refine g_seq ?_
    refine g_region ?_
    refine gl_c rfl (o_call rfl (fault_nil 40) (by repeat (first | exact .nil | (apply Part.cons; · (repeat (first | exact .head | apply Sel.tail)))))) ?_
    rintro _ R ⟨_, ⟨a, cp, rfl, rfl⟩, rfl⟩
    try simp only [List.cons_append, List.nil_append]
    first | refine gl_u (o_storeSA rfl rfl rfl rfl (by simp; omega) (by simp)) ?_ | refine gl_u (o_storeA rfl rfl rfl rfl rfl) ?_
    refine gl_nil ?_
    refine ge_then ?_
    refine g_ret ?_
    refine ge_then_ret ?_
    refine ret1c (.inl rfl) rfl rfl rfl rfl _ (refP_some (prgE_T (by assumption))) (To.sat (by repeat (first | exact .nil | exact .done .refl | (apply To.cons; · (repeat (first | exact .head | apply Sel.tail))) | exact .done (by repeat (first | exact .refl | apply Drop.skip)))))
  ·
    first | replace hc2 := of_decide_eq_true hc2 | replace hc2 := lt_f hc2 | replace hc2 := le_f hc2 | replace hc2 := dec_f hc2 | replace hc2 := nlt_t hc2 | replace hc2 := nle_t hc2 | replace hc2 := ndec_t hc2 | replace hc2 := ndec_f hc2 | replace hc2 := nn_t hc2 | replace hc2 := nn_f hc2 | skip
    refine g_skip ?_
    refine ge_then ?_
    refine g_seq ?_
    refine g_seq ?_
    refine g_region ?_
    refine gl_v rfl (o_assign rfl) ?_
    refine gl_nil ?_
    refine ge_then ?_
    refine g_block ?_
    refine g_loop (ι := Nat) (fun x => x ≤ KK.length ∧ prgF KK = fst (kndF KK) x (KK.length - x)) (fun x => [(3, I64 x), (2, ptr b2 0), (1, ptr b1 0)]) (fun _ => cel b1 24 [.slice pa KK.length pc] :: cel b2 31 [I64 0, .slice none 0 0] :: A :: R) (fun x => KK.length - x) 0 (⟨Nat.zero_le _, prgE_F (by assumption)⟩) (Keep.cons rfl (Keep.cons rfl (Keep.cons rfl (Keep.nil)))) (To.sat (by repeat (first | exact .nil | exact .done .refl | (apply To.cons; · (repeat (first | exact .head | apply Sel.tail))) | exact .done (by repeat (first | exact .refl | apply Drop.skip))))) ?_
    rintro x ⟨hx, ex⟩
    replace hx : x ≤ KK.length := hx
    replace ex : prgF KK = fst (kndF KK) x (KK.length - x) := ex
    refine g_seq ?_
    refine g_seq ?_
    refine g_region ?_
    refine gl_v rfl (o_move rfl) ?_
    first | refine gl_v rfl (o_fldS rfl) ?_ | refine gl_v rfl (o_fld rfl) ?_
    first | refine gl_v rfl (o_load rfl rfl) ?_ | refine gl_v rfl (o_loadS rfl rfl) ?_ | refine gl_v rfl (o_loadC rfl) ?_
    first | refine gl_v rfl (o_len rfl) ?_ | refine gl_v rfl (o_lenL rfl) ?_
    refine gl_v rfl (o_lss rfl rfl) ?_
    refine gl_nil ?_
    refine ge_then ?_
    refine g_cond rfl (fun hc3 => ?_) (fun hc3 => ?_)
    ·
      first | replace hc3 := of_decide_eq_true hc3 | replace hc3 := lt_f hc3 | replace hc3 := le_f hc3 | replace hc3 := dec_f hc3 | replace hc3 := nlt_t hc3 | replace hc3 := nle_t hc3 | replace hc3 := ndec_t hc3 | replace hc3 := ndec_f hc3 | replace hc3 := nn_t hc3 | replace hc3 := nn_f hc3 | skip
      obtain ⟨k, hkx⟩ : ∃ k, KK[x]? = some k := ⟨_, List.getElem?_eq_getElem (show x < KK.length by omega)⟩
      have hk := List.mem_of_getElem? hkx
      have hkO := hb0.kinds k hk
      have hsc := hkO.rds.2; have hcc := hkO.rdc.2
      have hSn := hkO.lens; have hCn := hkO.lenc; have hkn := hkO.name
      haveI rS : RdA (.slice k.sa k.states.length k.sc) A k.states.length (k.states.flatMap staC) := ⟨fun h => ((hA _ h).kinds k hk).rds.1⟩
      haveI rC : RdA (.slice k.ca k.cases.length k.cc) A k.cases.length (k.cases.flatMap casC) := ⟨fun h => ((hA _ h).kinds k hk).rdc.1⟩
      try unfold ok63 at *
      refine g_skip ?_
      refine ge_then ?_
      refine g_seq ?_
      refine g_block ?_
      refine g_seq ?_
      refine g_seq ?_
      refine g_region ?_
      first | refine gl_v rfl (o_loadSA rfl rfl rfl) ?_ | refine gl_v rfl (o_loadA rfl rfl rfl) ?_
      refine gl_v rfl (o_move rfl) ?_
      refine gl_c rfl (o_call rfl (rkind_spec pa pc KK A hA hb x k hkx) (by repeat (first | exact .nil | (apply Part.cons; · (repeat (first | exact .head | apply Sel.tail)))))) ?_
      rintro _ R ⟨_, ⟨rfl, rfl⟩, rfl⟩
      try simp only [List.cons_append, List.nil_append]
      refine gl_v rfl (o_assign rfl) ?_
      refine gl_nil ?_
      refine ge_then ?_
      refine g_seq ?_
      refine g_region ?_
      refine gl_v rfl (o_move rfl) ?_
      refine gl_v rfl (o_neq rfl rfl) ?_
      refine gl_nil ?_
      refine ge_then ?_
      refine g_cond rfl (fun hc4 => ?_) (fun hc4 => ?_)
      ·
        first | replace hc4 := of_decide_eq_true hc4 | replace hc4 := lt_f hc4 | replace hc4 := le_f hc4 | replace hc4 := dec_f hc4 | replace hc4 := nlt_t hc4 | replace hc4 := nle_t hc4 | replace hc4 := ndec_t hc4 | replace hc4 := ndec_f hc4 | replace hc4 := nn_t hc4 | replace hc4 := nn_f hc4 | skip
        have hkf : kndF KK x = some (kndE KK x k, []) := (kndF_at hkx).trans (within_T (by omega))
        refine g_seq ?_
        refine g_region ?_
        refine gl_v rfl (o_move rfl) ?_
        refine gl_v rfl (o_move rfl) ?_
        refine gl_v rfl (o_addR (((x + 1 : Nat) : Int)) (by rw [wr_i64 (by omega)]; omega) rfl rfl) ?_
        refine gl_n rfl (o_buildS (cs := [((x + 1 : Nat) : Int)].map I64) rfl rfl rfl rfl) ?_
        rintro _ _ ⟨b38, rfl, rfl⟩
        refine gl_c rfl (o_call rfl (fault_spec (kndE KK x k) [((x + 1 : Nat) : Int)] b38 (by simp)) (by repeat (first | exact .nil | (apply Part.cons; · (repeat (first | exact .head | apply Sel.tail)))))) ?_
        rintro _ R ⟨_, ⟨a, cp, rfl, rfl⟩, rfl⟩
        try simp only [List.cons_append, List.nil_append]
        first | refine gl_u (o_storeSA rfl rfl rfl rfl (by simp; omega) (by simp)) ?_ | refine gl_u (o_storeA rfl rfl rfl rfl rfl) ?_
        refine gl_nil ?_
        refine ge_then ?_
        refine g_ret ?_
        refine ge_then_ret ?_
        refine ge_block_ret ?_
        refine ge_then_ret ?_
        refine ge_then_ret ?_
        refine ge_block_ret ?_
        refine ge_then_ret ?_
        refine ret1c (.inl rfl) rfl rfl rfl rfl _ (refP_some (ex.trans (fst_hit (by omega) hkf))) (To.sat (by repeat (first | exact .nil | exact .done .refl | (apply To.cons; · (repeat (first | exact .head | apply Sel.tail))) | exact .done (by repeat (first | exact .refl | apply Drop.skip)))))
      ·
        first | replace hc4 := of_decide_eq_true hc4 | replace hc4 := lt_f hc4 | replace hc4 := le_f hc4 | replace hc4 := dec_f hc4 | replace hc4 := nlt_t hc4 | replace hc4 := nle_t hc4 | replace hc4 := ndec_t hc4 | replace hc4 := ndec_f hc4 | replace hc4 := nn_t hc4 | replace hc4 := nn_f hc4 | skip
        have hyK := (kndF_at hkx).trans (within_F (by omega))
        refine g_skip ?_
        refine ge_then ?_
        refine g_seq ?_
        refine g_region ?_
        refine gl_v rfl (o_assign rfl) ?_
        refine gl_nil ?_
        refine ge_then ?_
        refine g_block ?_
        refine g_loop (ι := Nat) (fun y => y ≤ k.states.length ∧ kndF KK x = fst (staF KK k.states) y (k.states.length - y)) (fun y => [(5, I64 y), (3, I64 x), (2, ptr b2 0), (1, ptr b1 0)]) (fun _ => cel b1 24 [.slice pa KK.length pc] :: cel b2 31 [I64 0, .slice none 0 0] :: A :: R) (fun y => k.states.length - y) 0 (⟨Nat.zero_le _, hyK⟩) (Keep.cons rfl (Keep.cons rfl (Keep.cons rfl (Keep.cons rfl (Keep.nil))))) (To.sat (by repeat (first | exact .nil | exact .done .refl | (apply To.cons; · (repeat (first | exact .head | apply Sel.tail))) | exact .done (by repeat (first | exact .refl | apply Drop.skip))))) ?_
        rintro y ⟨hy, ey⟩
        replace hy : y ≤ k.states.length := hy
        replace ey : kndF KK x = fst (staF KK k.states) y (k.states.length - y) := ey
        refine g_seq ?_
        refine g_seq ?_
        refine g_region ?_
        refine gl_v rfl (o_move rfl) ?_
        first | refine gl_v rfl (o_fldS rfl) ?_ | refine gl_v rfl (o_fld rfl) ?_
        first | refine gl_v rfl (o_load rfl rfl) ?_ | refine gl_v rfl (o_loadS rfl rfl) ?_ | refine gl_v rfl (o_loadC rfl) ?_
        refine gl_v rfl (o_move rfl) ?_
        refine gl_v rfl (o_idxS rfl rfl (show x < KK.length by omega)) ?_
        first | refine gl_v rfl (o_fldS rfl) ?_ | refine gl_v rfl (o_fld rfl) ?_
        refine gl_v rfl (o_loadS rfl (flat_get kndC 5 kndC_len hkx (show (kndC _)[4]? = some _ from rfl))) ?_
        first | refine gl_v rfl (o_len rfl) ?_ | refine gl_v rfl (o_lenL rfl) ?_
        refine gl_v rfl (o_lss rfl rfl) ?_
        refine gl_nil ?_
        refine ge_then ?_
        refine g_cond rfl (fun hc5 => ?_) (fun hc5 => ?_)
        ·
          first | replace hc5 := of_decide_eq_true hc5 | replace hc5 := lt_f hc5 | replace hc5 := le_f hc5 | replace hc5 := dec_f hc5 | replace hc5 := nlt_t hc5 | replace hc5 := nle_t hc5 | replace hc5 := ndec_t hc5 | replace hc5 := ndec_f hc5 | replace hc5 := nn_t hc5 | replace hc5 := nn_f hc5 | skip
          obtain ⟨s, hsy⟩ : ∃ s, k.states[y]? = some s := ⟨_, List.getElem?_eq_getElem (show y < k.states.length by omega)⟩
          have hs := List.mem_of_getElem? hsy
          have hsO := hkO.states s hs
          have hrc := hsO.rd.2
          have hRn := hsO.len; have hsn := hsO.name
          haveI rR : RdA (.slice s.ra s.rows.length s.rc) A s.rows.length (s.rows.flatMap rowC) := ⟨fun h => (((hA _ h).kinds k hk).states s hs).rd.1⟩
          try unfold ok63 at *
          refine g_skip ?_
          refine ge_then ?_
          refine g_seq ?_
          refine g_block ?_
          refine g_seq ?_
          refine g_seq ?_
          refine g_region ?_
          first | refine gl_v rfl (o_fldS rfl) ?_ | refine gl_v rfl (o_fld rfl) ?_
          first | refine gl_v rfl (o_load rfl rfl) ?_ | refine gl_v rfl (o_loadS rfl rfl) ?_ | refine gl_v rfl (o_loadC rfl) ?_
          refine gl_v rfl (o_move rfl) ?_
          refine gl_v rfl (o_idxS rfl rfl (show x < KK.length by omega)) ?_
          refine gl_v rfl (o_loadSA rfl (flat_take kndC 5 kndC_len hkx) rfl) ?_
          refine gl_v rfl (o_move rfl) ?_
          refine gl_c rfl (o_call rfl (rstate_spec pa pc KK A hA hb k hk y s hsy) (by repeat (first | exact .nil | (apply Part.cons; · (repeat (first | exact .head | apply Sel.tail)))))) ?_
          rintro _ R ⟨_, ⟨rfl, rfl⟩, rfl⟩
          try simp only [List.cons_append, List.nil_append]
          refine gl_v rfl (o_assign rfl) ?_
          refine gl_nil ?_
          refine ge_then ?_
          refine g_seq ?_
          refine g_region ?_
          refine gl_v rfl (o_move rfl) ?_
          refine gl_v rfl (o_neq rfl rfl) ?_
          refine gl_nil ?_
          refine ge_then ?_
          refine g_cond rfl (fun hc6 => ?_) (fun hc6 => ?_)
          ·
            first | replace hc6 := of_decide_eq_true hc6 | replace hc6 := lt_f hc6 | replace hc6 := le_f hc6 | replace hc6 := dec_f hc6 | replace hc6 := nlt_t hc6 | replace hc6 := nle_t hc6 | replace hc6 := ndec_t hc6 | replace hc6 := ndec_f hc6 | replace hc6 := nn_t hc6 | replace hc6 := nn_f hc6 | skip
            have hsf : staF KK k.states y = some (staE k.states y s, []) := (staF_at hsy).trans (within_T (by omega))
            refine g_seq ?_
            refine g_region ?_
            refine gl_v rfl (o_move rfl) ?_
            refine gl_v rfl (o_move rfl) ?_
            refine gl_v rfl (o_addR (((x + 1 : Nat) : Int)) (by rw [wr_i64 (by omega)]; omega) rfl rfl) ?_
            refine gl_v rfl (o_move rfl) ?_
            refine gl_v rfl (o_addR (((y + 1 : Nat) : Int)) (by rw [wr_i64 (by omega)]; omega) rfl rfl) ?_
            refine gl_n rfl (o_buildS (cs := [((x + 1 : Nat) : Int), ((y + 1 : Nat) : Int)].map I64) rfl rfl rfl rfl) ?_
            rintro _ _ ⟨b65, rfl, rfl⟩
            refine gl_c rfl (o_call rfl (fault_spec (staE k.states y s) [((x + 1 : Nat) : Int), ((y + 1 : Nat) : Int)] b65 (by simp)) (by repeat (first | exact .nil | (apply Part.cons; · (repeat (first | exact .head | apply Sel.tail)))))) ?_
            rintro _ R ⟨_, ⟨a, cp, rfl, rfl⟩, rfl⟩
            try simp only [List.cons_append, List.nil_append]
            first | refine gl_u (o_storeSA rfl rfl rfl rfl (by simp; omega) (by simp)) ?_ | refine gl_u (o_storeA rfl rfl rfl rfl rfl) ?_
            refine gl_nil ?_
            refine ge_then ?_
            refine g_ret ?_
            refine ge_then_ret ?_
            refine ge_block_ret ?_
            refine ge_then_ret ?_
            refine ge_then_ret ?_
            refine ge_block_ret ?_
            refine ge_block_ret ?_
            refine ge_then_ret ?_
            refine ge_then_ret ?_
            refine ge_block_ret ?_
            refine ge_then_ret ?_
            refine ret1c (.inl rfl) rfl rfl rfl rfl _ (refP_some (ex.trans (fst_hit (by omega) (ey.trans (fst_hit (by omega) hsf))))) (To.sat (by repeat (first | exact .nil | exact .done .refl | (apply To.cons; · (repeat (first | exact .head | apply Sel.tail))) | exact .done (by repeat (first | exact .refl | apply Drop.skip)))))
          ·
            first | replace hc6 := of_decide_eq_true hc6 | replace hc6 := lt_f hc6 | replace hc6 := le_f hc6 | replace hc6 := dec_f hc6 | replace hc6 := nlt_t hc6 | replace hc6 := nle_t hc6 | replace hc6 := ndec_t hc6 | replace hc6 := ndec_f hc6 | replace hc6 := nn_t hc6 | replace hc6 := nn_f hc6 | skip
            have hzS := (staF_at (KK := KK) hsy).trans (within_F (by omega))
            refine g_skip ?_
            refine ge_then ?_
            refine g_seq ?_
            refine g_region ?_
            first | refine gl_v rfl (o_fldS rfl) ?_ | refine gl_v rfl (o_fld rfl) ?_
            first | refine gl_v rfl (o_load rfl rfl) ?_ | refine gl_v rfl (o_loadS rfl rfl) ?_ | refine gl_v rfl (o_loadC rfl) ?_
            refine gl_v rfl (o_move rfl) ?_
            refine gl_v rfl (o_idxS rfl rfl (show x < KK.length by omega)) ?_
            first | refine gl_v rfl (o_fldS rfl) ?_ | refine gl_v rfl (o_fld rfl) ?_
            refine gl_v rfl (o_loadS rfl (flat_get kndC 5 kndC_len hkx (show (kndC _)[4]? = some _ from rfl))) ?_
            refine gl_v rfl (o_move rfl) ?_
            refine gl_v rfl (o_idxS rfl rfl (show y < k.states.length by omega)) ?_
            first | refine gl_v rfl (o_fldS rfl) ?_ | refine gl_v rfl (o_fld rfl) ?_
            refine gl_v rfl (o_loadS rfl (flat_get staC 2 staC_len hsy (show (staC _)[1]? = some _ from rfl))) ?_
            refine gl_v rfl (o_assign rfl) ?_
            refine gl_nil ?_
            refine ge_then ?_
            refine g_seq ?_
            refine g_region ?_
            refine gl_v rfl (o_assign rfl) ?_
            refine gl_nil ?_
            refine ge_then ?_
            refine g_block ?_
            refine g_loop (ι := Nat) (fun z => z ≤ s.rows.length ∧ staF KK k.states y = fst (rowF KK k.states s.rows) z (s.rows.length - z)) (fun z => [(8, I64 z), (7, .slice s.ra s.rows.length s.rc), (5, I64 y), (3, I64 x), (2, ptr b2 0), (1, ptr b1 0)]) (fun _ => cel b1 24 [.slice pa KK.length pc] :: cel b2 31 [I64 0, .slice none 0 0] :: A :: R) (fun z => s.rows.length - z) 0 (⟨Nat.zero_le _, hzS⟩) (Keep.cons rfl (Keep.cons rfl (Keep.cons rfl (Keep.cons rfl (Keep.cons rfl (Keep.cons rfl (Keep.nil))))))) (To.sat (by repeat (first | exact .nil | exact .done .refl | (apply To.cons; · (repeat (first | exact .head | apply Sel.tail))) | exact .done (by repeat (first | exact .refl | apply Drop.skip))))) ?_
            rintro z ⟨hz, ez⟩
            replace hz : z ≤ s.rows.length := hz
            replace ez : staF KK k.states y = fst (rowF KK k.states s.rows) z (s.rows.length - z) := ez
            refine g_seq ?_
            refine g_seq ?_
            refine g_region ?_
            refine gl_v rfl (o_move rfl) ?_
            refine gl_v rfl (o_move rfl) ?_
            first | refine gl_v rfl (o_len rfl) ?_ | refine gl_v rfl (o_lenL rfl) ?_
            refine gl_v rfl (o_lss rfl rfl) ?_
            refine gl_nil ?_
            refine ge_then ?_
            refine g_cond rfl (fun hc7 => ?_) (fun hc7 => ?_)
            ·
              first | replace hc7 := of_decide_eq_true hc7 | replace hc7 := lt_f hc7 | replace hc7 := le_f hc7 | replace hc7 := dec_f hc7 | replace hc7 := nlt_t hc7 | replace hc7 := nle_t hc7 | replace hc7 := ndec_t hc7 | replace hc7 := ndec_f hc7 | replace hc7 := nn_t hc7 | replace hc7 := nn_f hc7 | skip
              obtain ⟨r, hrz⟩ : ∃ r, s.rows[z]? = some r := ⟨_, List.getElem?_eq_getElem (show z < s.rows.length by omega)⟩
              have hr := List.mem_of_getElem? hrz
              have hrO := hsO.rows r hr
              have hEn := hrO.len; have hrn := hrO.tag
              haveI rE : RdA (.slice r.ea r.effs.length r.ec) A r.effs.length (r.effs.flatMap effC) := ⟨fun h => ((((hA _ h).kinds k hk).states s hs).rows r hr).rd.1⟩
              try unfold ok63 at *
              refine g_skip ?_
              refine ge_then ?_
              refine g_seq ?_
              refine g_block ?_
              refine g_seq ?_
              refine g_seq ?_
              refine g_region ?_
              refine gl_v rfl (o_move rfl) ?_
              refine gl_v rfl (o_move rfl) ?_
              refine gl_c rfl (o_call rfl (rrow_spec pa pc KK A hA hb k hk s hs z r hrz) (by repeat (first | exact .nil | (apply Part.cons; · (repeat (first | exact .head | apply Sel.tail)))))) ?_
              rintro _ R ⟨_, ⟨rfl, rfl⟩, rfl⟩
              try simp only [List.cons_append, List.nil_append]
              refine gl_v rfl (o_assign rfl) ?_
              refine gl_nil ?_
              refine ge_then ?_
              refine g_seq ?_
              refine g_region ?_
              refine gl_v rfl (o_move rfl) ?_
              refine gl_v rfl (o_neq rfl rfl) ?_
              refine gl_nil ?_
              refine ge_then ?_
              refine g_cond rfl (fun hc8 => ?_) (fun hc8 => ?_)
              ·
                first | replace hc8 := of_decide_eq_true hc8 | replace hc8 := lt_f hc8 | replace hc8 := le_f hc8 | replace hc8 := dec_f hc8 | replace hc8 := nlt_t hc8 | replace hc8 := nle_t hc8 | replace hc8 := ndec_t hc8 | replace hc8 := ndec_f hc8 | replace hc8 := nn_t hc8 | replace hc8 := nn_f hc8 | skip
                have hrf : rowF KK k.states s.rows z = some (rowE s.rows z r, []) := (rowF_at hrz).trans (within_T (by omega))
                refine g_seq ?_
                refine g_region ?_
                refine gl_v rfl (o_move rfl) ?_
                refine gl_v rfl (o_move rfl) ?_
                refine gl_v rfl (o_addR (((x + 1 : Nat) : Int)) (by rw [wr_i64 (by omega)]; omega) rfl rfl) ?_
                refine gl_v rfl (o_move rfl) ?_
                refine gl_v rfl (o_addR (((y + 1 : Nat) : Int)) (by rw [wr_i64 (by omega)]; omega) rfl rfl) ?_
                refine gl_v rfl (o_move rfl) ?_
                refine gl_v rfl (o_addR (((z + 1 : Nat) : Int)) (by rw [wr_i64 (by omega)]; omega) rfl rfl) ?_
                refine gl_n rfl (o_buildS (cs := [((x + 1 : Nat) : Int), ((y + 1 : Nat) : Int), ((z + 1 : Nat) : Int)].map I64) rfl rfl rfl rfl) ?_
                rintro _ _ ⟨b95, rfl, rfl⟩
                refine gl_c rfl (o_call rfl (fault_spec (rowE s.rows z r) [((x + 1 : Nat) : Int), ((y + 1 : Nat) : Int), ((z + 1 : Nat) : Int)] b95 (by simp)) (by repeat (first | exact .nil | (apply Part.cons; · (repeat (first | exact .head | apply Sel.tail)))))) ?_
                rintro _ R ⟨_, ⟨a, cp, rfl, rfl⟩, rfl⟩
                try simp only [List.cons_append, List.nil_append]
                first | refine gl_u (o_storeSA rfl rfl rfl rfl (by simp; omega) (by simp)) ?_ | refine gl_u (o_storeA rfl rfl rfl rfl rfl) ?_
                refine gl_nil ?_
                refine ge_then ?_
                refine g_ret ?_
                refine ge_then_ret ?_
                refine ge_block_ret ?_
                refine ge_then_ret ?_
                refine ge_then_ret ?_
                refine ge_block_ret ?_
                refine ge_block_ret ?_
                refine ge_then_ret ?_
                refine ge_then_ret ?_
                refine ge_block_ret ?_
                refine ge_block_ret ?_
                refine ge_then_ret ?_
                refine ge_then_ret ?_
                refine ge_block_ret ?_
                refine ge_then_ret ?_
                refine ret1c (.inl rfl) rfl rfl rfl rfl _ (refP_some (ex.trans (fst_hit (by omega) (ey.trans (fst_hit (by omega) (ez.trans (fst_hit (by omega) hrf))))))) (To.sat (by repeat (first | exact .nil | exact .done .refl | (apply To.cons; · (repeat (first | exact .head | apply Sel.tail))) | exact .done (by repeat (first | exact .refl | apply Drop.skip)))))
              ·
                first | replace hc8 := of_decide_eq_true hc8 | replace hc8 := lt_f hc8 | replace hc8 := le_f hc8 | replace hc8 := dec_f hc8 | replace hc8 := nlt_t hc8 | replace hc8 := nle_t hc8 | replace hc8 := ndec_t hc8 | replace hc8 := ndec_f hc8 | replace hc8 := nn_t hc8 | replace hc8 := nn_f hc8 | skip
                have hvR := (rowF_at (KK := KK) (SS := k.states) hrz).trans (within_F (by omega))
                refine g_skip ?_
                refine ge_then ?_
                refine g_seq ?_
                refine g_region ?_
                refine gl_v rfl (o_assign rfl) ?_
                refine gl_nil ?_
                refine ge_then ?_
                refine g_block ?_
                refine g_loop (ι := Nat) (fun v => v ≤ r.effs.length ∧ rowF KK k.states s.rows z = fst (effF KK k.states r.effs) v (r.effs.length - v)) (fun v => [(10, I64 v), (8, I64 z), (7, .slice s.ra s.rows.length s.rc), (5, I64 y), (3, I64 x), (2, ptr b2 0), (1, ptr b1 0)]) (fun _ => cel b1 24 [.slice pa KK.length pc] :: cel b2 31 [I64 0, .slice none 0 0] :: A :: R) (fun v => r.effs.length - v) 0 (⟨Nat.zero_le _, hvR⟩) (Keep.cons rfl (Keep.cons rfl (Keep.cons rfl (Keep.cons rfl (Keep.cons rfl (Keep.cons rfl (Keep.cons rfl (Keep.nil)))))))) (To.sat (by repeat (first | exact .nil | exact .done .refl | (apply To.cons; · (repeat (first | exact .head | apply Sel.tail))) | exact .done (by repeat (first | exact .refl | apply Drop.skip))))) ?_
                rintro v ⟨hv, ev⟩
                replace hv : v ≤ r.effs.length := hv
                replace ev : rowF KK k.states s.rows z = fst (effF KK k.states r.effs) v (r.effs.length - v) := ev
                refine g_seq ?_
                refine g_seq ?_
                refine g_region ?_
                refine gl_v rfl (o_move rfl) ?_
                refine gl_v rfl (o_move rfl) ?_
                refine gl_v rfl (o_move rfl) ?_
                refine gl_v rfl (o_idxS rfl rfl (show z < s.rows.length by omega)) ?_
                first | refine gl_v rfl (o_fldS rfl) ?_ | refine gl_v rfl (o_fld rfl) ?_
                refine gl_v rfl (o_loadS rfl (flat_get rowC 4 rowC_len hrz (show (rowC _)[3]? = some _ from rfl))) ?_
                first | refine gl_v rfl (o_len rfl) ?_ | refine gl_v rfl (o_lenL rfl) ?_
                refine gl_v rfl (o_lss rfl rfl) ?_
                refine gl_nil ?_
                refine ge_then ?_
                refine g_cond rfl (fun hc9 => ?_) (fun hc9 => ?_)
                ·
                  first | replace hc9 := of_decide_eq_true hc9 | replace hc9 := lt_f hc9 | replace hc9 := le_f hc9 | replace hc9 := dec_f hc9 | replace hc9 := nlt_t hc9 | replace hc9 := nle_t hc9 | replace hc9 := ndec_t hc9 | replace hc9 := ndec_f hc9 | replace hc9 := nn_t hc9 | replace hc9 := nn_f hc9 | skip
                  obtain ⟨e, hev⟩ : ∃ e, r.effs[v]? = some e := ⟨_, List.getElem?_eq_getElem (show v < r.effs.length by omega)⟩
                  refine g_skip ?_
                  refine ge_then ?_
                  refine g_seq ?_
                  refine g_block ?_
                  refine g_seq ?_
                  refine g_treeM [12] [] (.loc 0 (.loc 1 (.loc 2 (.loc 3 (.loc 4 (.loc 5 (.loc 6 (.loc 7 (.loc 8 (.loc 9 (.loc 10 (.loc 11 (.eff 12 (.loc 13 .nil) .nil))))))))))))) [cel b1 24 [.slice pa KK.length pc]] mixed (by kernel_rfl) ?_
                  first | refine gt_v rfl .none rfl (o_loadSA rfl rfl rfl) ?_ | refine gt_v rfl .none rfl (o_loadA rfl rfl rfl) ?_
                  first | refine gt_v rfl .none rfl (o_fldS rfl) ?_ | refine gt_v rfl .none rfl (o_fld rfl) ?_
                  first | refine gt_v rfl .none rfl (o_load rfl rfl) ?_ | refine gt_v rfl .none rfl (o_loadS rfl rfl) ?_ | refine gt_v rfl .none rfl (o_loadC rfl) ?_
                  refine gt_v rfl .none rfl (o_move rfl) ?_
                  refine gt_v rfl .none rfl (o_idxS rfl rfl (show x < KK.length by omega)) ?_
                  refine gt_v rfl .none rfl (o_loadSA rfl (flat_take kndC 5 kndC_len hkx) rfl) ?_
                  refine gt_v rfl .none rfl (o_move rfl) ?_
                  refine gt_v rfl .none rfl (o_move rfl) ?_
                  refine gt_v rfl .none rfl (o_idxS rfl rfl (show z < s.rows.length by omega)) ?_
                  first | refine gt_v rfl .none rfl (o_fldS rfl) ?_ | refine gt_v rfl .none rfl (o_fld rfl) ?_
                  refine gt_v rfl .none rfl (o_loadS rfl (flat_get rowC 4 rowC_len hrz (show (rowC _)[3]? = some _ from rfl))) ?_
                  refine gt_v rfl .none rfl (o_move rfl) ?_
                  refine gt_c rfl .none rfl (o_call rfl (reffect_spec pa pc KK A hA hb k hk s hs r hr v e hev) (by repeat (first | exact .nil | (apply Part.cons; · (repeat (first | exact .head | apply Sel.tail)))))) ?_
                  rintro _ R ⟨_, ⟨rfl, rfl⟩, rfl⟩
                  try simp only [List.cons_append, List.nil_append]
                  refine ⟨(fun hG => absurd hG (by decide)), ?_⟩
                  refine gt_v rfl .none rfl (o_assign rfl) ?_
                  refine gt_nil ?_
                  refine ge_then ?_
                  refine g_seq ?_
                  refine g_region ?_
                  refine gl_v rfl (o_move rfl) ?_
                  refine gl_v rfl (o_neq rfl rfl) ?_
                  refine gl_nil ?_
                  refine ge_then ?_
                  refine g_cond rfl (fun hc10 => ?_) (fun hc10 => ?_)
                  ·
                    first | replace hc10 := of_decide_eq_true hc10 | replace hc10 := lt_f hc10 | replace hc10 := le_f hc10 | replace hc10 := dec_f hc10 | replace hc10 := nlt_t hc10 | replace hc10 := nle_t hc10 | replace hc10 := ndec_t hc10 | replace hc10 := ndec_f hc10 | replace hc10 := nn_t hc10 | replace hc10 := nn_f hc10 | skip
                    have hef : effF KK k.states r.effs v = some (effE KK k.states e (decide ((v : Int) = (r.effs.length : Int) - 1)), []) := by rw [effF_at hev, if_neg (by omega)]
                    refine g_seq ?_
                    refine g_region ?_
                    refine gl_v rfl (o_move rfl) ?_
                    refine gl_v rfl (o_move rfl) ?_
                    refine gl_v rfl (o_addR (((x + 1 : Nat) : Int)) (by rw [wr_i64 (by omega)]; omega) rfl rfl) ?_
                    refine gl_v rfl (o_move rfl) ?_
                    refine gl_v rfl (o_addR (((y + 1 : Nat) : Int)) (by rw [wr_i64 (by omega)]; omega) rfl rfl) ?_
                    refine gl_v rfl (o_move rfl) ?_
                    refine gl_v rfl (o_addR (((z + 1 : Nat) : Int)) (by rw [wr_i64 (by omega)]; omega) rfl rfl) ?_
                    refine gl_v rfl (o_move rfl) ?_
                    refine gl_v rfl (o_addR (((v + 1 : Nat) : Int)) (by rw [wr_i64 (by omega)]; omega) rfl rfl) ?_
                    refine gl_n rfl (o_buildS (cs := [((x + 1 : Nat) : Int), ((y + 1 : Nat) : Int), ((z + 1 : Nat) : Int), ((v + 1 : Nat) : Int)].map I64) rfl rfl rfl rfl) ?_
                    rintro _ _ ⟨b131, rfl, rfl⟩
                    refine gl_c rfl (o_call rfl (fault_spec (effE KK k.states e (decide ((v : Int) = (r.effs.length : Int) - 1))) [((x + 1 : Nat) : Int), ((y + 1 : Nat) : Int), ((z + 1 : Nat) : Int), ((v + 1 : Nat) : Int)] b131 (by simp)) (by repeat (first | exact .nil | (apply Part.cons; · (repeat (first | exact .head | apply Sel.tail)))))) ?_
                    rintro _ R ⟨_, ⟨a, cp, rfl, rfl⟩, rfl⟩
                    try simp only [List.cons_append, List.nil_append]
                    first | refine gl_u (o_storeSA rfl rfl rfl rfl (by simp; omega) (by simp)) ?_ | refine gl_u (o_storeA rfl rfl rfl rfl rfl) ?_
                    refine gl_nil ?_
                    refine ge_then ?_
                    refine g_ret ?_
                    refine ge_block_ret ?_
                    refine ge_then_ret ?_
                    refine ge_then_ret ?_
                    refine ge_block_ret ?_
                    refine ge_block_ret ?_
                    refine ge_then_ret ?_
                    refine ge_then_ret ?_
                    refine ge_block_ret ?_
                    refine ge_block_ret ?_
                    refine ge_then_ret ?_
                    refine ge_then_ret ?_
                    refine ge_block_ret ?_
                    refine ge_block_ret ?_
                    refine ge_then_ret ?_
                    refine ge_then_ret ?_
                    refine ge_block_ret ?_
                    refine ge_then_ret ?_
                    refine ret1c (.inl rfl) rfl rfl rfl rfl _ (refP_some (ex.trans (fst_hit (by omega) (ey.trans (fst_hit (by omega) (ez.trans (fst_hit (by omega) (ev.trans (fst_hit (by omega) hef))))))))) (To.sat (by repeat (first | exact .nil | exact .done .refl | (apply To.cons; · (repeat (first | exact .head | apply Sel.tail))) | exact .done (by repeat (first | exact .refl | apply Drop.skip)))))
                  ·
                    first | replace hc10 := of_decide_eq_true hc10 | replace hc10 := lt_f hc10 | replace hc10 := le_f hc10 | replace hc10 := dec_f hc10 | replace hc10 := nlt_t hc10 | replace hc10 := nle_t hc10 | replace hc10 := ndec_t hc10 | replace hc10 := ndec_f hc10 | replace hc10 := nn_t hc10 | replace hc10 := nn_f hc10 | skip
                    have hnv : effF KK k.states r.effs v = none := by rw [effF_at hev, if_pos (by omega)]
                    refine g_skip ?_
                    refine ge_block ?_
                    refine ge_then ?_
                    refine g_region ?_
                    refine gl_v rfl (o_move rfl) ?_
                    refine gl_v rfl (o_addR (((v + 1 : Nat) : Int)) (by rw [wr_i64 (by omega)]; omega) rfl rfl) ?_
                    refine gl_v rfl (o_assign rfl) ?_
                    refine gl_nil ?_
                    refine ge_round (v + 1) ⟨show v + 1 ≤ r.effs.length by omega, ev.trans (fst_go (by omega) hnv)⟩ (show r.effs.length - (v + 1) < r.effs.length - v by omega) (Keep.cons rfl (Keep.cons rfl (Keep.cons rfl (Keep.cons rfl (Keep.cons rfl (Keep.cons rfl (Keep.cons rfl (Keep.nil)))))))) (To.sat (by repeat (first | exact .nil | exact .done .refl | (apply To.cons; · (repeat (first | exact .head | apply Sel.tail))) | exact .done (by repeat (first | exact .refl | apply Drop.skip)))))
                ·
                  first | replace hc9 := of_decide_eq_true hc9 | replace hc9 := lt_f hc9 | replace hc9 := le_f hc9 | replace hc9 := dec_f hc9 | replace hc9 := nlt_t hc9 | replace hc9 := nle_t hc9 | replace hc9 := ndec_t hc9 | replace hc9 := ndec_f hc9 | replace hc9 := nn_t hc9 | replace hc9 := nn_f hc9 | skip
                  obtain rfl : v = r.effs.length := by omega
                  have hnz := ev.trans fst_end
                  refine g_exit ?_
                  refine ge_then_exit ?_
                  refine ge_then_exit ?_
                  refine ge_block_exit ?_
                  refine ge_block ?_
                  refine ge_then ?_
                  refine g_region ?_
                  refine gl_v rfl (o_move rfl) ?_
                  refine gl_v rfl (o_addR (((z + 1 : Nat) : Int)) (by rw [wr_i64 (by omega)]; omega) rfl rfl) ?_
                  refine gl_v rfl (o_assign rfl) ?_
                  refine gl_nil ?_
                  refine ge_round (z + 1) ⟨show z + 1 ≤ s.rows.length by omega, ez.trans (fst_go (by omega) hnz)⟩ (show s.rows.length - (z + 1) < s.rows.length - z by omega) (Keep.cons rfl (Keep.cons rfl (Keep.cons rfl (Keep.cons rfl (Keep.cons rfl (Keep.cons rfl (Keep.nil))))))) (To.sat (by repeat (first | exact .nil | exact .done .refl | (apply To.cons; · (repeat (first | exact .head | apply Sel.tail))) | exact .done (by repeat (first | exact .refl | apply Drop.skip)))))
            ·
              first | replace hc7 := of_decide_eq_true hc7 | replace hc7 := lt_f hc7 | replace hc7 := le_f hc7 | replace hc7 := dec_f hc7 | replace hc7 := nlt_t hc7 | replace hc7 := nle_t hc7 | replace hc7 := ndec_t hc7 | replace hc7 := ndec_f hc7 | replace hc7 := nn_t hc7 | replace hc7 := nn_f hc7 | skip
              obtain rfl : z = s.rows.length := by omega
              have hny := ez.trans fst_end
              refine g_exit ?_
              refine ge_then_exit ?_
              refine ge_then_exit ?_
              refine ge_block_exit ?_
              refine ge_block ?_
              refine ge_then ?_
              refine g_region ?_
              refine gl_v rfl (o_move rfl) ?_
              refine gl_v rfl (o_addR (((y + 1 : Nat) : Int)) (by rw [wr_i64 (by omega)]; omega) rfl rfl) ?_
              refine gl_v rfl (o_assign rfl) ?_
              refine gl_nil ?_
              refine ge_round (y + 1) ⟨show y + 1 ≤ k.states.length by omega, ey.trans (fst_go (by omega) hny)⟩ (show k.states.length - (y + 1) < k.states.length - y by omega) (Keep.cons rfl (Keep.cons rfl (Keep.cons rfl (Keep.cons rfl (Keep.nil))))) (To.sat (by repeat (first | exact .nil | exact .done .refl | (apply To.cons; · (repeat (first | exact .head | apply Sel.tail))) | exact .done (by repeat (first | exact .refl | apply Drop.skip)))))
        ·
          first | replace hc5 := of_decide_eq_true hc5 | replace hc5 := lt_f hc5 | replace hc5 := le_f hc5 | replace hc5 := dec_f hc5 | replace hc5 := nlt_t hc5 | replace hc5 := nle_t hc5 | replace hc5 := ndec_t hc5 | replace hc5 := ndec_f hc5 | replace hc5 := nn_t hc5 | replace hc5 := nn_f hc5 | skip
          obtain rfl : y = k.states.length := by omega
          have hnx := ey.trans fst_end
          refine g_exit ?_
          refine ge_then_exit ?_
          refine ge_then_exit ?_
          refine ge_block_exit ?_
          refine ge_block ?_
          refine ge_then ?_
          refine g_region ?_
          refine gl_v rfl (o_move rfl) ?_
          refine gl_v rfl (o_addR (((x + 1 : Nat) : Int)) (by rw [wr_i64 (by omega)]; omega) rfl rfl) ?_
          refine gl_v rfl (o_assign rfl) ?_
          refine gl_nil ?_
          refine ge_round (x + 1) ⟨show x + 1 ≤ KK.length by omega, ex.trans (fst_go (by omega) hnx)⟩ (show KK.length - (x + 1) < KK.length - x by omega) (Keep.cons rfl (Keep.cons rfl (Keep.cons rfl (Keep.nil)))) (To.sat (by repeat (first | exact .nil | exact .done .refl | (apply To.cons; · (repeat (first | exact .head | apply Sel.tail))) | exact .done (by repeat (first | exact .refl | apply Drop.skip)))))
    ·
      first | replace hc3 := of_decide_eq_true hc3 | replace hc3 := lt_f hc3 | replace hc3 := le_f hc3 | replace hc3 := dec_f hc3 | replace hc3 := nlt_t hc3 | replace hc3 := nle_t hc3 | replace hc3 := ndec_t hc3 | replace hc3 := ndec_f hc3 | replace hc3 := nn_t hc3 | replace hc3 := nn_f hc3 | skip
      obtain rfl : x = KK.length := by omega
      have hnP := ex.trans fst_end
      refine g_exit ?_
      refine ge_then_exit ?_
      refine ge_then_exit ?_
      refine ge_block_exit ?_
      refine ge_then ?_
      refine g_seq ?_
      refine g_region ?_
      refine gl_v rfl (o_build rfl rfl) ?_
      first | refine gl_u (o_storeSA rfl rfl rfl rfl (by simp; omega) (by simp)) ?_ | refine gl_u (o_storeA rfl rfl rfl rfl rfl) ?_
      refine gl_nil ?_
      refine ge_then ?_
      refine g_ret ?_
      refine ret1c (.inl rfl) rfl rfl rfl rfl _ (refP_none hnP) (To.sat (by repeat (first | exact .nil | exact .done .refl | (apply To.cons; · (repeat (first | exact .head | apply Sel.tail))) | exact .done (by repeat (first | exact .refl | apply Drop.skip)))))

end Go.Proofs.YtgmdlhlmffdbhaaDoor.L
