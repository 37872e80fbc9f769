/-
  The ring's calls: making one, beginning operations, stepping. Own work, printed in part by a program of its own.
-/
import Derived.Test.YtmohikdmdmplaaaGreatRingF
set_option linter.unusedSimpArgs false
set_option linter.unusedVariables false
set_option linter.unusedSectionVars false
namespace Go.Proofs.YtmohikdmdmplaaaGreat.L
open Go.L Go.L.Ring
def pcOk (pc : Nat) : Bool := [0, 1, 2, 3, 4, 5, 6, 7, 8, 9].contains pc
theorem next_fn {o : RO} (h : OI o) (hok : pcOk o.pc = true) : TFunc Tryz.prog (nextF o.pc) := by
  obtain ⟨k, hk⟩ : ∃ k, k = o.pc := ⟨_, rfl⟩
  have hp := h.pc
  rw [← hk] at hp hok ⊢
  match k, hp with
  | 0, _ | 1, _ | 2, _ | 3, _ | 4, _ | 5, _ | 6, _ | 7, _ | 8, _ | 9, _ => simp only [nextF]; infer_instance
  | 10, _ => exact absurd hok (by decide)
  | 11, _ => exact absurd hok (by decide)
  | 12, _ => exact absurd hok (by decide)
  | 13, _ => exact absurd hok (by decide)
  | 14, _ => exact absurd hok (by decide)
  | 15, _ => exact absurd hok (by decide)
  | k + 16, h => omega
theorem next_spec (p r m b n : Nat) (L : List Int) (t : Int) (o : RO) (I : RI b n L) (h1 : OI o) (hok : pcOk o.pc = true) : FnS Tryz.prog (nextF o.pc) [ptr p 0] [memA m L t, ringA r m b n, opA p r o]
      (fun u Bs => u = .tuple #[] ∧ Bs = [memA m (stepL b n L o) (tup t), ringA r m b n, opA p r (stepO b n L o)]) := by
  obtain ⟨k, hk⟩ : ∃ k, k = o.pc := ⟨_, rfl⟩
  have hp := h1.pc
  rw [← hk] at hp hok ⊢
  unfold stepL stepO
  rw [← hk]
  match k, hp with
  | 0, _ => exact putTail_spec p r m b n L t o I h1
  | 1, _ => exact putTurn_spec p r m b n L t o I h1
  | 2, _ => exact putSwap_spec p r m b n L t o I h1
  | 3, _ => exact putValue_spec p r m b n L t o I h1
  | 4, _ => exact putDone_spec p r m b n L t o I h1
  | 5, _ => exact takeHead_spec p r m b n L t o I h1
  | 6, _ => exact takeTurn_spec p r m b n L t o I h1
  | 7, _ => exact takeValue_spec p r m b n L t o I h1
  | 8, _ => exact takeFree_spec p r m b n L t o I h1
  | 9, _ => exact takeDone_spec p r m b n L t o I h1
  | 10, _ => exact absurd hok (by decide)
  | 11, _ => exact absurd hok (by decide)
  | 12, _ => exact absurd hok (by decide)
  | 13, _ => exact absurd hok (by decide)
  | 14, _ => exact absurd hok (by decide)
  | 15, _ => exact absurd hok (by decide)
  | k + 16, h => omega

set_option maxRecDepth 8000 in
theorem Step_spec (p r m b n : Nat) (L : List Int) (t : Int) (o : RO) (I : RI b n L) (h1 : OI o) (hok : pcOk o.pc = true) : FnS Tryz.prog 156 [ptr p 0] [memA m L t, ringA r m b n, opA p r o]
      (fun u Bs => u = .bool (goO b n L o).over ∧ Bs = [memA m (goL b n L o) (if o.over then t else tup t), ringA r m b n, opA p r (goO b n L o)]) := by
 refine fn_body Tryz.func156 rfl rfl rfl ?_
 intro W0 R
 simp only [List.zipIdx_cons, List.zipIdx_nil, List.map_cons, List.map_nil, Nat.zero_add, Nat.reduceAdd, List.cons_append, List.nil_append]
 haveI := next_fn h1 hok
 refine g_seq ?_
 refine g_region ?_
 refine gl_v rfl (o_assign rfl) ?_
 refine gl_nil ?_
 refine ge_then ?_
 refine g_seq ?_
 refine g_seq ?_
 refine g_region ?_
 refine gl_v rfl (o_move rfl) ?_
 refine gl_c rfl (o_call rfl (Over_spec _ _ _) (by repeat (first | exact .nil | (apply Part.cons; · (repeat (first | exact .head | apply Sel.tail)))))) ?_
 rintro _ R ⟨_, ⟨rfl, rfl⟩, rfl⟩
 try simp only [List.cons_append, List.nil_append]
 refine gl_v rfl (o_not rfl) ?_
 refine gl_nil ?_
 refine ge_then ?_
 refine g_cond rfl (fun hc1 => ?_) (fun hc1 => ?_)
 ·
  first | replace hc1 := of_decide_eq_true hc1 | replace hc1 := lt_f hc1 | replace hc1 := le_f hc1 | replace hc1 := dec_f hc1 | replace hc1 := nlt_t hc1 | replace hc1 := nle_t hc1 | replace hc1 := ndec_t hc1 | replace hc1 := ndec_f hc1 | replace hc1 := nn_t hc1 | replace hc1 := nn_f hc1 | skip
  have hov : o.over = false := hc1
  refine g_region ?_
  refine gl_v rfl (o_move rfl) ?_
  refine gl_v rfl (o_nil rfl) ?_
  first | refine gl_v rfl (o_fldS rfl) ?_ | refine gl_v rfl (o_fld rfl) ?_
  first | refine gl_v rfl (o_load rfl rfl) ?_ | refine gl_v rfl (o_loadS rfl rfl) ?_ | refine gl_v rfl (o_loadC rfl) ?_
  refine gl_c rfl (o_callV rfl rfl (next_spec p r m b n L t o I h1 hok) (by repeat (first | exact .nil | (apply Part.cons; · (repeat (first | exact .head | apply Sel.tail)))))) ?_
  rintro _ R ⟨_, ⟨rfl, rfl⟩, rfl⟩
  try simp only [List.cons_append, List.nil_append]
  refine gl_nil ?_
  refine ge_then ?_
  refine g_seq ?_
  refine g_region ?_
  refine gl_v rfl (o_move rfl) ?_
  refine gl_c rfl (o_call rfl (Over_spec _ _ _) (by repeat (first | exact .nil | (apply Part.cons; · (repeat (first | exact .head | apply Sel.tail)))))) ?_
  rintro _ R ⟨_, ⟨rfl, rfl⟩, rfl⟩
  try simp only [List.cons_append, List.nil_append]
  refine gl_v rfl (o_assign rfl) ?_
  refine gl_nil ?_
  refine ge_then ?_
  refine g_ret ?_
  refine ret1 (.inl rfl) rfl rfl [memA m (goL b n L o) (if o.over then t else tup t), ringA r m b n, opA p r (goO b n L o)] (⟨by simp [goO, hov], rfl⟩) (by simp only [goO, goL, hov, if_true, Bool.false_eq_true, if_false]; exact (To.sat (by repeat (first | exact .nil | exact .done .refl | (apply To.cons; · (repeat (first | exact .head | apply Sel.tail))) | exact .done (by repeat (first | exact .refl | apply Drop.skip))))))
 ·
  first | replace hc1 := of_decide_eq_true hc1 | replace hc1 := lt_f hc1 | replace hc1 := le_f hc1 | replace hc1 := dec_f hc1 | replace hc1 := nlt_t hc1 | replace hc1 := nle_t hc1 | replace hc1 := ndec_t hc1 | replace hc1 := ndec_f hc1 | replace hc1 := nn_t hc1 | replace hc1 := nn_f hc1 | skip
  have hov : o.over = true := hc1
  refine g_skip ?_
  refine ge_then ?_
  refine g_seq ?_
  refine g_region ?_
  refine gl_v rfl (o_move rfl) ?_
  refine gl_c rfl (o_call rfl (Over_spec _ _ _) (by repeat (first | exact .nil | (apply Part.cons; · (repeat (first | exact .head | apply Sel.tail)))))) ?_
  rintro _ R ⟨_, ⟨rfl, rfl⟩, rfl⟩
  try simp only [List.cons_append, List.nil_append]
  refine gl_v rfl (o_assign rfl) ?_
  refine gl_nil ?_
  refine ge_then ?_
  refine g_ret ?_
  refine ret1 (.inl rfl) rfl rfl [memA m (goL b n L o) (if o.over then t else tup t), ringA r m b n, opA p r (goO b n L o)] (⟨by simp [goO, hov], rfl⟩) (by simp only [goO, goL, hov, if_true, Bool.false_eq_true, if_false]; exact (To.sat (by repeat (first | exact .nil | exact .done .refl | (apply To.cons; · (repeat (first | exact .head | apply Sel.tail))) | exact .done (by repeat (first | exact .refl | apply Drop.skip))))))

set_option maxRecDepth 8000 in
theorem Put_spec (r : Nat) (v : Int) : FnS Tryz.prog 62 [ptr r 0, U64 v] [] (fun u Bs => ∃ p, u = ptr p 0 ∧ Bs = [opA p r ⟨0, 0, v, 0, 0⟩]) := by
 refine fn_body Tryz.func62 rfl rfl rfl ?_
 intro W0 R
 simp only [List.zipIdx_cons, List.zipIdx_nil, List.map_cons, List.map_nil, Nat.zero_add, Nat.reduceAdd, List.cons_append, List.nil_append]
 refine g_seq ?_
 refine g_region ?_
 refine gl_v rfl (o_assign rfl) ?_
 refine gl_nil ?_
 refine ge_then ?_
 refine g_seq ?_
 refine g_region ?_
 refine gl_v rfl (o_move rfl) ?_
 refine gl_v rfl (o_move rfl) ?_
 refine gl_v rfl (o_build rfl rfl) ?_
 refine gl_n rfl (o_boxA rfl) ?_
 rintro _ _ ⟨b9, rfl, rfl⟩
 refine gl_v rfl (o_assign rfl) ?_
 refine gl_nil ?_
 refine ge_then ?_
 refine g_seq ?_
 refine g_region ?_
 refine gl_v rfl (o_move rfl) ?_
 refine gl_v rfl (o_move rfl) ?_
 refine gl_v rfl (o_func rfl rfl) ?_
 refine gl_v rfl (o_nil rfl) ?_
 first | refine gl_v rfl (o_fldS rfl) ?_ | refine gl_v rfl (o_fld rfl) ?_
 first | refine gl_u (o_store rfl rfl rfl rfl) ?_ | refine gl_u (o_storeS rfl rfl rfl (by first | assumption | omega | simp)) ?_
 refine gl_nil ?_
 refine ge_then ?_
 refine g_seq ?_
 refine g_region ?_
 refine gl_v rfl (o_move rfl) ?_
 refine gl_v rfl (o_assign rfl) ?_
 refine gl_nil ?_
 refine ge_then ?_
 refine g_ret ?_
 refine ret1 (.inl rfl) rfl rfl _ (⟨_, rfl, rfl⟩) (To.sat (by repeat (first | exact .nil | exact .done .refl | (apply To.cons; · (repeat (first | exact .head | apply Sel.tail))) | exact .done (by repeat (first | exact .refl | apply Drop.skip)))))

set_option maxRecDepth 8000 in
theorem begin_spec (r f k : Nat) [TFunc Tryz.prog f] (hf : ∀ p, FnS Tryz.prog f [ptr p 0] [] (fun u Bs => u = nextV k p ∧ Bs = [])) : FnS Tryz.prog 88 [ptr r 0, .func (.func f) #[] #[]] []
      (fun u Bs => ∃ p, u = ptr p 0 ∧ Bs = [opA p r ⟨k, 0, 0, 0, 0⟩]) := by
 refine fn_body Tryz.func88 rfl rfl rfl ?_
 intro W0 R
 simp only [List.zipIdx_cons, List.zipIdx_nil, List.map_cons, List.map_nil, Nat.zero_add, Nat.reduceAdd, List.cons_append, List.nil_append]
 refine g_seq ?_
 refine g_region ?_
 refine gl_v rfl (o_assign rfl) ?_
 refine gl_nil ?_
 refine ge_then ?_
 refine g_seq ?_
 refine g_region ?_
 refine gl_v rfl (o_move rfl) ?_
 refine gl_v rfl (o_build rfl rfl) ?_
 refine gl_n rfl (o_boxA rfl) ?_
 rintro _ _ ⟨b8, rfl, rfl⟩
 refine gl_v rfl (o_assign rfl) ?_
 refine gl_nil ?_
 refine ge_then ?_
 refine g_seq ?_
 refine g_region ?_
 refine gl_v rfl (o_move rfl) ?_
 refine gl_v rfl (o_move rfl) ?_
 refine gl_v rfl (o_move rfl) ?_
 refine gl_c rfl (o_callV rfl rfl (hf _) (by repeat (first | exact .nil | (apply Part.cons; · (repeat (first | exact .head | apply Sel.tail)))))) ?_
 rintro _ R ⟨_, ⟨rfl, rfl⟩, rfl⟩
 try simp only [List.cons_append, List.nil_append]
 refine gl_v rfl (o_nil rfl) ?_
 first | refine gl_v rfl (o_fldS rfl) ?_ | refine gl_v rfl (o_fld rfl) ?_
 first | refine gl_u (o_store rfl rfl rfl rfl) ?_ | refine gl_u (o_storeS rfl rfl rfl (by first | assumption | omega | simp)) ?_
 refine gl_nil ?_
 refine ge_then ?_
 refine g_seq ?_
 refine g_region ?_
 refine gl_v rfl (o_move rfl) ?_
 refine gl_v rfl (o_assign rfl) ?_
 refine gl_nil ?_
 refine ge_then ?_
 refine g_ret ?_
 refine ret1 (.inl rfl) rfl rfl _ (⟨_, rfl, rfl⟩) (To.sat (by repeat (first | exact .nil | exact .done .refl | (apply To.cons; · (repeat (first | exact .head | apply Sel.tail))) | exact .done (by repeat (first | exact .refl | apply Drop.skip)))))

set_option maxRecDepth 8000 in
theorem Take1_spec (p : Nat) : FnS Tryz.prog 89 [ptr p 0] [] (fun u Bs => u = nextV 5 p ∧ Bs = []) := by
 refine fn_body Tryz.func89 rfl rfl rfl ?_
 intro W0 R
 simp only [List.zipIdx_cons, List.zipIdx_nil, List.map_cons, List.map_nil, Nat.zero_add, Nat.reduceAdd, List.cons_append, List.nil_append]
 refine g_seq ?_
 refine g_region ?_
 refine gl_v rfl (o_assign rfl) ?_
 refine gl_nil ?_
 refine ge_then ?_
 refine g_seq ?_
 refine g_region ?_
 refine gl_v rfl (o_move rfl) ?_
 refine gl_v rfl (o_func rfl rfl) ?_
 refine gl_v rfl (o_assign rfl) ?_
 refine gl_nil ?_
 refine ge_then ?_
 refine g_ret ?_
 refine ret1 (.inl rfl) rfl rfl _ (⟨rfl, rfl⟩) (To.sat (by repeat (first | exact .nil | exact .done .refl | (apply To.cons; · (repeat (first | exact .head | apply Sel.tail))) | exact .done (by repeat (first | exact .refl | apply Drop.skip)))))

set_option maxRecDepth 8000 in
theorem Take_spec (r : Nat) : FnS Tryz.prog 66 [ptr r 0] [] (fun u Bs => ∃ p, u = ptr p 0 ∧ Bs = [opA p r ⟨5, 0, 0, 0, 0⟩]) := by
 refine fn_body Tryz.func66 rfl rfl rfl ?_
 intro W0 R
 simp only [List.zipIdx_cons, List.zipIdx_nil, List.map_cons, List.map_nil, Nat.zero_add, Nat.reduceAdd, List.cons_append, List.nil_append]
 refine g_seq ?_
 refine g_region ?_
 refine gl_v rfl (o_assign rfl) ?_
 refine gl_nil ?_
 refine ge_then ?_
 refine g_seq ?_
 refine g_region ?_
 refine gl_v rfl (o_move rfl) ?_
 refine gl_c rfl (o_call rfl (begin_spec r 89 5 Take1_spec) (by repeat (first | exact .nil | (apply Part.cons; · (repeat (first | exact .head | apply Sel.tail)))))) ?_
 rintro _ R ⟨_, ⟨p, rfl, rfl⟩, rfl⟩
 try simp only [List.cons_append, List.nil_append]
 refine gl_v rfl (o_assign rfl) ?_
 refine gl_nil ?_
 refine ge_then ?_
 refine g_ret ?_
 refine ret1 (.inl rfl) rfl rfl _ (⟨_, rfl, rfl⟩) (To.sat (by repeat (first | exact .nil | exact .done .refl | (apply To.cons; · (repeat (first | exact .head | apply Sel.tail))) | exact .done (by repeat (first | exact .refl | apply Drop.skip)))))

set_option maxRecDepth 8000 in
theorem Size_spec (s : Int) : FnS Tryz.prog 46 [I64 s] [] (fun u Bs => u = I64 (sizeR s) ∧ Bs = []) := by
 refine fn_body Tryz.func46 rfl rfl rfl ?_
 intro W0 R
 simp only [List.zipIdx_cons, List.zipIdx_nil, List.map_cons, List.map_nil, Nat.zero_add, Nat.reduceAdd, List.cons_append, List.nil_append]
 refine g_seq ?_
 refine g_region ?_
 refine gl_v rfl (o_assign rfl) ?_
 refine gl_nil ?_
 refine ge_then ?_
 refine g_seq ?_
 refine g_seq ?_
 refine g_region ?_
 refine gl_v rfl (o_move rfl) ?_
 refine gl_v rfl (o_lss rfl rfl) ?_
 refine gl_v rfl (o_move rfl) ?_
 refine gl_g rfl rfl (fun hc1 => ?_) (fun hc1 => ?_) rfl
 ·
  have hc1' := hc1
  first | replace hc1' := of_decide_eq_true hc1' | replace hc1' := lt_f hc1' | replace hc1' := le_f hc1' | replace hc1' := dec_f hc1' | replace hc1' := nlt_t hc1' | replace hc1' := nle_t hc1' | replace hc1' := ndec_t hc1' | replace hc1' := ndec_f hc1' | replace hc1' := nn_t hc1' | replace hc1' := nn_f hc1' | skip
  refine gl_v rfl (o_move rfl) ?_
  refine gl_gT rfl rfl hc1 ?_
  refine gl_v rfl (o_gtr rfl rfl) ?_
  refine gl_v rfl (o_pickF hc1 rfl rfl) ?_
  refine gl_nil ?_
  refine ge_then ?_
  refine g_cond rfl (fun hc2 => ?_) (fun hc2 => ?_)
  ·
   first | replace hc2 := of_decide_eq_true hc2 | replace hc2 := lt_f hc2 | replace hc2 := le_f hc2 | replace hc2 := dec_f hc2 | replace hc2 := nlt_t hc2 | replace hc2 := nle_t hc2 | replace hc2 := ndec_t hc2 | replace hc2 := ndec_f hc2 | replace hc2 := nn_t hc2 | replace hc2 := nn_f hc2 | skip
   refine g_seq ?_
   refine g_region ?_
   refine gl_v rfl (o_assign rfl) ?_
   refine gl_nil ?_
   refine ge_then ?_
   refine g_ret ?_
   refine ge_then_ret ?_
   refine ret1 (.inl rfl) rfl rfl _ (⟨by unfold sizeR; congr 1; split <;> simp at * <;> omega, rfl⟩) (To.sat (by repeat (first | exact .nil | exact .done .refl | (apply To.cons; · (repeat (first | exact .head | apply Sel.tail))) | exact .done (by repeat (first | exact .refl | apply Drop.skip)))))
  ·
   first | replace hc2 := of_decide_eq_true hc2 | replace hc2 := lt_f hc2 | replace hc2 := le_f hc2 | replace hc2 := dec_f hc2 | replace hc2 := nlt_t hc2 | replace hc2 := nle_t hc2 | replace hc2 := ndec_t hc2 | replace hc2 := ndec_f hc2 | replace hc2 := nn_t hc2 | replace hc2 := nn_f hc2 | skip
   refine g_skip ?_
   refine ge_then ?_
   refine g_seq ?_
   refine g_region ?_
   refine gl_v rfl (o_move rfl) ?_
   refine gl_v rfl (o_mulR _ (by first | exact wr_i64 (by omega) | rfl) rfl rfl) ?_
   refine gl_v rfl (o_addR _ (by first | exact wr_i64 (by omega) | rfl) rfl rfl) ?_
   refine gl_v rfl (o_assign rfl) ?_
   refine gl_nil ?_
   refine ge_then ?_
   refine g_ret ?_
   refine ret1 (.inl rfl) rfl rfl _ (⟨by unfold sizeR; congr 1; split <;> simp at * <;> omega, rfl⟩) (To.sat (by repeat (first | exact .nil | exact .done .refl | (apply To.cons; · (repeat (first | exact .head | apply Sel.tail))) | exact .done (by repeat (first | exact .refl | apply Drop.skip)))))
 ·
  have hc1' := hc1
  first | replace hc1' := of_decide_eq_true hc1' | replace hc1' := lt_f hc1' | replace hc1' := le_f hc1' | replace hc1' := dec_f hc1' | replace hc1' := nlt_t hc1' | replace hc1' := nle_t hc1' | replace hc1' := ndec_t hc1' | replace hc1' := ndec_f hc1' | replace hc1' := nn_t hc1' | replace hc1' := nn_f hc1' | skip
  simp only [putO]
  refine gl_gF rfl rfl hc1 rfl ?_
  refine gl_v rfl (o_pickT hc1 rfl rfl) ?_
  refine gl_nil ?_
  refine ge_then ?_
  refine g_cond_true rfl ?_
  refine g_seq ?_
  refine g_region ?_
  refine gl_v rfl (o_assign rfl) ?_
  refine gl_nil ?_
  refine ge_then ?_
  refine g_ret ?_
  refine ge_then_ret ?_
  refine ret1 (.inl rfl) rfl rfl _ (⟨by unfold sizeR; congr 1; split <;> simp at * <;> omega, rfl⟩) (To.sat (by repeat (first | exact .nil | exact .done .refl | (apply To.cons; · (repeat (first | exact .head | apply Sel.tail))) | exact .done (by repeat (first | exact .refl | apply Drop.skip)))))

end Go.Proofs.YtmohikdmdmplaaaGreat.L
