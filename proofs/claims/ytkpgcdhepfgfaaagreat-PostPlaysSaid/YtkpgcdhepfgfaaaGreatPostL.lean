/-
  PostPlays: operations begun and looked at; the document's step. Own work, printed in part by a program of its own.
-/
import Derived.Test.YtkpgcdhepfgfaaaGreatPostR
set_option linter.unusedSimpArgs false
set_option linter.unusedVariables false
set_option linter.unusedSectionVars false
namespace Go.Proofs.YtkpgcdhepfgfaaaGreat.L
open Go.L Go.L.Ring Go.L.Post
theorem map_sameP {α β : Type} {f : α → β} {l : List α} {p : Nat} {y : α} (h : l[p]? = some y) : (l.map f).set p (f y) = l.map f := by
  obtain ⟨hp, e⟩ := List.getElem?_eq_some_iff.1 h
  apply List.ext_getElem (by simp)
  intro i h1 h2
  rw [List.getElem_set]
  split
  · rename_i e2; subst e2; simp [e]
  · rfl
theorem splice_flat {α : Type} (f : α → List Value) (sz : Nat) (hf : ∀ x, (f x).length = sz) (x : α) : ∀ (l : List α) (i : Nat), i < l.length → splice (l.flatMap f) (i * sz) (f x) = (l.set i x).flatMap f := by
  intro l i hi
  have h1 := flat_length f sz hf l
  rw [splice_take _ _ _ (by rw [hf, h1]; have : (i + 1) * sz ≤ l.length * sz := Nat.mul_le_mul_right _ hi; rw [Nat.add_mul] at this; omega)]
  have h2 : (l.flatMap f).take (i * sz) = (l.take i).flatMap f := by
    conv => lhs; rw [← List.take_append_drop i l, List.flatMap_append]
    rw [List.take_append_of_le_length (by rw [flat_length f sz hf, List.length_take]; exact Nat.le_of_eq (by rw [Nat.min_eq_left (by omega)])), List.take_of_length_le (by rw [flat_length f sz hf, List.length_take, Nat.min_eq_left (by omega)]; exact Nat.le_refl _)]
  have h3 : (l.flatMap f).drop (i * sz + (f x).length) = (l.drop (i + 1)).flatMap f := by
    rw [hf, show i * sz + sz = (i + 1) * sz by rw [Nat.add_mul]; omega]; exact flat_drop f sz hf l (i + 1)
  rw [h2, h3, List.set_eq_take_append_cons_drop, if_pos hi, List.flatMap_append, List.flatMap_cons, List.append_assoc]
theorem fns_conv {P : Program} {f : FuncId} {args : List Value} {As : List Assn} {post post' : Value → List Assn → Prop} (h : FnS P f args As post) (g : ∀ v Bs, post v Bs → ∃ Bs', post' v Bs' ∧ ∀ R h, Sat (Bs ++ R) h → Sat (Bs' ++ R) h) : FnS P f args As post' :=
  fun W0 R w s => (h W0 R w s).mono fun _ _ ⟨v, Bs, e, p, s⟩ => let ⟨Bs', p', f⟩ := g v Bs p; ⟨v, Bs', e, p', s.imp (f R)⟩

def beginPh (kind v : Int) : Ph := if kind = 1 then .put false (ini 0 v) else if kind = 2 then .put true (ini 0 v) else if kind = 3 then .ask v else if kind = 4 then .set 2 else if kind = 5 then .of false (ini 5 0) else if kind = 6 then .of true (ini 5 0) else if kind = 7 then .sto (decide (v = 1)) else if kind = 8 then .set 1 else if kind = 9 then .of false (ini 14 0) else if kind = 10 then .of false (ini 10 0) else if kind = 11 then .set 4 else .gone
theorem RelP.start (B : PB) (kind v : Int) (hk : 1 ≤ kind ∧ kind ≤ 12) : RelP B kind v ⟨beginPh kind v, 0, 0⟩ [] := by
  have hc : kind = 1 ∨ kind = 2 ∨ kind = 3 ∨ kind = 4 ∨ kind = 5 ∨ kind = 6 ∨ kind = 7 ∨ kind = 8 ∨ kind = 9 ∨ kind = 10 ∨ kind = 11 ∨ kind = 12 := by omega
  rcases hc with rfl | rfl | rfl | rfl | rfl | rfl | rfl | rfl | rfl | rfl | rfl | rfl
  · exact .inl ⟨rfl, rfl, .inl ⟨_, rfl, RelR.start _ _ (by decide) v, rfl, (show (0 : Int) ≠ 1 by decide)⟩⟩
  · exact .inr (.inl ⟨rfl, rfl, .inl ⟨_, rfl, RelR.start _ _ (by decide) v, rfl, (show (0 : Int) ≠ 1 by decide)⟩⟩)
  · exact .inr (.inr (.inl ⟨rfl, .inl ⟨rfl, rfl, .inl ⟨rfl, rfl⟩⟩⟩))
  · exact .inr (.inr (.inr (.inl ⟨.inl rfl, rfl, rfl, .inl ⟨rfl, rfl⟩⟩)))
  · exact .inr (.inr (.inr (.inr (.inr (.inr ⟨.inl rfl, _, rfl, RelR.start _ _ (by decide) 0, rfl, rfl⟩)))))
  · exact .inr (.inr (.inr (.inr (.inr (.inr ⟨.inr (.inl rfl), _, rfl, RelR.start _ _ (by decide) 0, rfl, rfl⟩)))))
  · exact .inr (.inr (.inr (.inr (.inr (.inl ⟨rfl, rfl, .inl ⟨rfl, rfl, rfl⟩⟩)))))
  · exact .inr (.inr (.inr (.inl ⟨.inr (.inl rfl), rfl, rfl, .inl ⟨rfl, rfl⟩⟩)))
  · exact .inr (.inr (.inr (.inr (.inr (.inr ⟨.inr (.inr (.inl rfl)), _, rfl, RelR.start _ _ (by decide) 0, rfl, rfl⟩)))))
  · exact .inr (.inr (.inr (.inr (.inr (.inr ⟨.inr (.inr (.inr rfl)), _, rfl, RelR.start _ _ (by decide) 0, rfl, rfl⟩)))))
  · exact .inr (.inr (.inr (.inl ⟨.inr (.inr rfl), rfl, rfl, .inl ⟨rfl, rfl⟩⟩)))
  · exact .inr (.inr (.inr (.inr (.inl ⟨rfl, rfl, rfl, .inl ⟨rfl, rfl⟩⟩))))
theorem rd_own {a : Option Addr} {c : Nat} {l : List Int} (h : l.length ≤ c) : Rd (own (.slice a l.length c) 39 1 l.length (l.map U64)) a c l := ⟨fun _ s => SlO.rd s, h⟩

set_option maxRecDepth 8000 in
set_option maxHeartbeats 1000000 in
theorem plike_spec (X : BX) (B : PB) (p : Nat) (po : PO) (w : Wt) (hp : POI po) (h : LikeP po w) : FnS Tryz.prog 16 [ptr p 0, .agg w.cells.toArray] [postA X B p po] (fun u Bs => u = .bool true ∧ Bs = [postA X B p po]) := by
 refine fn_body Tryz.func16 rfl rfl rfl ?_
 intro W0 R
 simp only [List.zipIdx_cons, List.zipIdx_nil, List.map_cons, List.map_nil, Nat.zero_add, Nat.reduceAdd, List.cons_append, List.nil_append]
 obtain ⟨h1, h3⟩ := h
 refine g_seq ?_
 refine g_region ?_
 refine gl_n rfl (o_boxA rfl) ?_
 rintro _ _ ⟨b3, rfl, rfl⟩
 refine gl_v rfl (o_assign rfl) ?_
 refine gl_nil ?_
 refine ge_then ?_
 refine g_seq ?_
 refine g_seq ?_
 refine g_region ?_
 first | refine gl_v rfl (o_fldS rfl) ?_ | refine gl_v rfl (o_fld rfl) ?_
 refine gl_v rfl (o_load (v := .bool w.over) rfl rfl) ?_
 refine gl_v rfl (o_not (b := w.over) rfl) ?_
 refine gl_nil ?_
 refine ge_then ?_
 refine g_cond rfl (fun hc1 => ?_) (fun hc1 => ?_)
 ·
  first | replace hc1 := of_decide_eq_true hc1 | replace hc1 := lt_f hc1 | replace hc1 := le_f hc1 | replace hc1 := dec_f hc1 | replace hc1 := nlt_t hc1 | replace hc1 := nle_t hc1 | replace hc1 := ndec_t hc1 | replace hc1 := ndec_f hc1 | replace hc1 := nn_t hc1 | replace hc1 := nn_f hc1 | skip
  have ho : po.over = false := by rw [← h1]; exact hc1
  have hz : po.out = 0 := by simpa [PO.over] using ho
  refine g_seq ?_
  refine g_region ?_
  refine gl_v rfl (o_move rfl) ?_
  refine gl_v rfl (o_nil rfl) ?_
  first | refine gl_v rfl (o_fldS rfl) ?_ | refine gl_v rfl (o_fld rfl) ?_
  refine gl_c rfl (o_call rfl (Over_post X B p po) (by repeat (first | exact .nil | (apply Part.cons; · (repeat (first | exact .head | apply Sel.tail)))))) ?_
  rintro _ R ⟨_, ⟨rfl, rfl⟩, rfl⟩
  try simp only [List.cons_append, List.nil_append]
  refine gl_v rfl (o_is (c := true) (by rw [ho]; rfl) (o_not rfl)) ?_
  refine gl_v rfl (o_move rfl) ?_
  refine gl_gT rfl rfl rfl ?_
  refine gl_v rfl (o_move rfl) ?_
  refine gl_gT rfl rfl rfl ?_
  refine gl_v rfl (o_nil rfl) ?_
  refine gl_gT rfl rfl rfl ?_
  first | refine gl_v rfl (o_fldS rfl) ?_ | refine gl_v rfl (o_fld rfl) ?_
  refine gl_gT rfl rfl rfl ?_
  refine gl_c rfl (o_call rfl (pOut_spec X B p po) (by repeat (first | exact .nil | (apply Part.cons; · (repeat (first | exact .head | apply Sel.tail)))))) ?_
  rintro _ R ⟨_, ⟨rfl, rfl⟩, rfl⟩
  try simp only [List.cons_append, List.nil_append]
  refine gl_gT rfl rfl rfl ?_
  refine gl_v rfl (o_is (c := true) (by simp [hz]) (o_eql rfl rfl)) ?_
  refine gl_v rfl (o_pickT rfl rfl rfl) ?_
  refine gl_v rfl (o_move rfl) ?_
  refine gl_gT rfl rfl rfl ?_
  refine gl_v rfl (o_move rfl) ?_
  refine gl_gT rfl rfl rfl ?_
  refine gl_v rfl (o_nil rfl) ?_
  refine gl_gT rfl rfl rfl ?_
  first | refine gl_v rfl (o_fldS rfl) ?_ | refine gl_v rfl (o_fld rfl) ?_
  refine gl_gT rfl rfl rfl ?_
  refine gl_c rfl (o_call rfl (pVal_spec X B p po hp) (by repeat (first | exact .nil | (apply Part.cons; · (repeat (first | exact .head | apply Sel.tail)))))) ?_
  rintro _ R ⟨_, ⟨rfl, rfl⟩, rfl⟩
  try simp only [List.cons_append, List.nil_append]
  refine gl_gT rfl rfl rfl ?_
  refine gl_v rfl (o_is (c := true) (by simp [(hp hz).2]) (o_eql rfl rfl)) ?_
  refine gl_v rfl (o_pickT rfl rfl rfl) ?_
  refine gl_v rfl (o_assign rfl) ?_
  refine gl_nil ?_
  refine ge_then ?_
  refine g_ret ?_
  refine ge_then_ret ?_
  refine ret1 (.inl rfl) rfl rfl _ (⟨rfl, rfl⟩) (To.sat (by repeat (first | exact .nil | exact .done .refl | (apply To.cons; · (repeat (first | exact .head | apply Sel.tail))) | exact .done (by repeat (first | exact .refl | apply Drop.skip)))))
 ·
  first | replace hc1 := of_decide_eq_true hc1 | replace hc1 := lt_f hc1 | replace hc1 := le_f hc1 | replace hc1 := dec_f hc1 | replace hc1 := nlt_t hc1 | replace hc1 := nle_t hc1 | replace hc1 := ndec_t hc1 | replace hc1 := ndec_f hc1 | replace hc1 := nn_t hc1 | replace hc1 := nn_f hc1 | skip
  have ho : po.over = true := by rw [← h1]; exact hc1
  refine g_skip ?_
  refine ge_then ?_
  refine g_seq ?_
  refine g_draw [3, 8, 17] [8, 17] [(0, .loc), (1, .loc), (2, .loc), (3, .eff), (4, .loc), (5, .loc), (6, .loc), (7, .loc), (9, .stab), (10, .stab), (8, .eff), (11, .loc), (12, .loc), (13, .loc), (14, .loc), (15, .loc), (16, .loc), (18, .stab), (19, .stab), (17, .eff), (20, .loc), (21, .loc), (22, .loc)] [cel b3 56 w.cells] mixed (by kernel_rfl) ?_
  refine go_v rfl .none rfl (o_move rfl) ?_
  refine go_v rfl .none rfl (o_nil rfl) ?_
  first | refine go_v rfl .none rfl (o_fldS rfl) ?_ | refine go_v rfl .none rfl (o_fld rfl) ?_
  refine go_c rfl .none rfl (o_call rfl (Over_post X B p po) (by repeat (first | exact .nil | (apply Part.cons; · (repeat (first | exact .head | apply Sel.tail)))))) ?_
  rintro _ R ⟨_, ⟨rfl, rfl⟩, rfl⟩
  try simp only [List.cons_append, List.nil_append]
  rw [ho]
  refine ⟨(fun hG => absurd hG (by decide)), ?_⟩
  refine go_v rfl .none rfl (o_move rfl) ?_
  refine go_v rfl (.yes rfl rfl rfl) rfl (o_move rfl) ?_
  refine go_v rfl (.yes rfl rfl rfl) rfl (o_nil rfl) ?_
  first | refine go_v rfl (.yes rfl rfl rfl) rfl (o_fldS rfl) ?_ | refine go_v rfl (.yes rfl rfl rfl) rfl (o_fld rfl) ?_
  first | refine go_vs rfl (.yes rfl rfl rfl) rfl (o_fldS rfl) (To.sat (by repeat (first | exact .nil | exact .done .refl | (apply To.cons; · (repeat (first | exact .head | apply Sel.tail))) | exact .done (by repeat (first | exact .refl | apply Drop.skip))))) ?_ | refine go_vs rfl (.yes rfl rfl rfl) rfl (o_fld rfl) (To.sat (by repeat (first | exact .nil | exact .done .refl | (apply To.cons; · (repeat (first | exact .head | apply Sel.tail))) | exact .done (by repeat (first | exact .refl | apply Drop.skip))))) ?_
  refine go_vs rfl (.yes rfl rfl rfl) rfl (o_load (v := I64 w.out) rfl rfl) (To.sat (by repeat (first | exact .nil | exact .done .refl | (apply To.cons; · (repeat (first | exact .head | apply Sel.tail))) | exact .done (by repeat (first | exact .refl | apply Drop.skip))))) ?_
  refine go_c rfl (.yes rfl rfl rfl) rfl (o_call rfl (pOut_spec X B p po) (by repeat (first | exact .nil | (apply Part.cons; · (repeat (first | exact .head | apply Sel.tail)))))) ?_
  rintro _ R ⟨_, ⟨rfl, rfl⟩, rfl⟩
  try simp only [List.cons_append, List.nil_append]
  refine ⟨(fun _ => (To.sat (by repeat (first | exact .nil | exact .done .refl | (apply To.cons; · (repeat (first | exact .head | apply Sel.tail))) | exact .done (by repeat (first | exact .refl | apply Drop.skip)))))), ?_⟩
  refine go_v rfl (.yes rfl rfl rfl) rfl (o_is (c := true) (by simp [(h3 ho).1]) (o_eql rfl rfl)) ?_
  refine go_v rfl .none rfl (o_pickT rfl rfl rfl) ?_
  refine go_v rfl .none rfl (o_move rfl) ?_
  refine go_v rfl (.yes rfl rfl rfl) rfl (o_move rfl) ?_
  refine go_v rfl (.yes rfl rfl rfl) rfl (o_nil rfl) ?_
  first | refine go_v rfl (.yes rfl rfl rfl) rfl (o_fldS rfl) ?_ | refine go_v rfl (.yes rfl rfl rfl) rfl (o_fld rfl) ?_
  first | refine go_vs rfl (.yes rfl rfl rfl) rfl (o_fldS rfl) (To.sat (by repeat (first | exact .nil | exact .done .refl | (apply To.cons; · (repeat (first | exact .head | apply Sel.tail))) | exact .done (by repeat (first | exact .refl | apply Drop.skip))))) ?_ | refine go_vs rfl (.yes rfl rfl rfl) rfl (o_fld rfl) (To.sat (by repeat (first | exact .nil | exact .done .refl | (apply To.cons; · (repeat (first | exact .head | apply Sel.tail))) | exact .done (by repeat (first | exact .refl | apply Drop.skip))))) ?_
  refine go_vs rfl (.yes rfl rfl rfl) rfl (o_load (v := U64 w.value) rfl rfl) (To.sat (by repeat (first | exact .nil | exact .done .refl | (apply To.cons; · (repeat (first | exact .head | apply Sel.tail))) | exact .done (by repeat (first | exact .refl | apply Drop.skip))))) ?_
  refine go_c rfl (.yes rfl rfl rfl) rfl (o_call rfl (pVal_spec X B p po hp) (by repeat (first | exact .nil | (apply Part.cons; · (repeat (first | exact .head | apply Sel.tail)))))) ?_
  rintro _ R ⟨_, ⟨rfl, rfl⟩, rfl⟩
  try simp only [List.cons_append, List.nil_append]
  refine ⟨(fun _ => (To.sat (by repeat (first | exact .nil | exact .done .refl | (apply To.cons; · (repeat (first | exact .head | apply Sel.tail))) | exact .done (by repeat (first | exact .refl | apply Drop.skip)))))), ?_⟩
  refine go_v rfl (.yes rfl rfl rfl) rfl (o_is (c := true) (by simp [(h3 ho).2]) (o_eql rfl rfl)) ?_
  refine go_v rfl .none rfl (o_pickT rfl rfl rfl) ?_
  refine go_v rfl .none rfl (o_assign rfl) ?_
  refine go_nil ?_
  refine ge_then ?_
  refine g_ret ?_
  refine ret1 (.inl rfl) rfl rfl _ (⟨rfl, rfl⟩) (To.sat (by repeat (first | exact .nil | exact .done .refl | (apply To.cons; · (repeat (first | exact .head | apply Sel.tail))) | exact .done (by repeat (first | exact .refl | apply Drop.skip)))))

theorem bSettle_spec (X : BX) (B : PB) (held : Bool) : FnS Tryz.prog 24 [ptr X.bx 0, .bool held] [bxA X B] (fun u Bs => ∃ p, u = ptr p 0 ∧ Bs = [phA X B p (.sto held), bxA X B]) := by
  cases held
  · exact Settle_f X B
  · exact Settle_t X B

set_option maxRecDepth 8000 in
set_option maxHeartbeats 1000000 in
theorem pbegun_spec (X : BX) (B : PB) (hB : B.b ≤ 65536) (L : List Int) (t : Int) (kind v : Int) (hk : 1 ≤ kind ∧ kind ≤ 12) : FnS Tryz.prog 12 [ptr X.bx 0, I64 kind, U64 v] [envA X B L t] (fun u Bs => ∃ p, u = ptr p 0 ∧ Bs = [postA X B p ⟨beginPh kind v, 0, 0⟩, envA X B L t]) := by
 refine fn_body Tryz.func12 rfl rfl rfl ?_
 intro W0 R
 simp only [List.zipIdx_cons, List.zipIdx_nil, List.map_cons, List.map_nil, Nat.zero_add, Nat.reduceAdd, List.cons_append, List.nil_append]
 refine g_seq ?_
 refine g_region ?_
 refine gl_v rfl (o_assign rfl) ?_
 refine gl_nil ?_
 refine ge_then ?_
 refine g_seq ?_
 refine g_seq ?_
 refine g_region ?_
 refine gl_v rfl (o_move rfl) ?_
 refine gl_nil ?_
 refine ge_then ?_
 refine g_block ?_
 refine g_seq ?_
 refine g_region ?_
 refine gl_v rfl (o_eql rfl rfl) ?_
 refine gl_v rfl (o_assign rfl) ?_
 refine gl_nil ?_
 refine ge_then ?_
 refine g_cond rfl (fun hc1 => ?_) (fun hc1 => ?_)
 ·
  first | replace hc1 := of_decide_eq_true hc1 | replace hc1 := lt_f hc1 | replace hc1 := le_f hc1 | replace hc1 := dec_f hc1 | replace hc1 := nlt_t hc1 | replace hc1 := nle_t hc1 | replace hc1 := ndec_t hc1 | replace hc1 := ndec_f hc1 | replace hc1 := nn_t hc1 | replace hc1 := nn_f hc1 | skip
  refine g_seq ?_
  refine g_region ?_
  refine gl_v rfl (o_move rfl) ?_
  refine gl_v rfl (o_move rfl) ?_
  refine gl_c rfl (o_call rfl (fns_env (bTell_spec X B v)) (by repeat (first | exact .nil | (apply Part.cons; · (repeat (first | exact .head | apply Sel.tail)))))) ?_
  rintro _ R ⟨_, ⟨p, rfl, rfl⟩, rfl⟩
  try simp only [List.cons_append, List.nil_append]
  refine gl_v rfl (o_assign rfl) ?_
  refine gl_nil ?_
  refine ge_then ?_
  refine g_ret ?_
  refine ge_block_ret ?_
  refine ge_then_ret ?_
  obtain rfl : kind = 1 := by omega
  exact ret1 (.inl rfl) rfl rfl  _ ⟨_, rfl, rfl⟩ (To.sat (by repeat (first | exact .nil | exact .done .refl | (apply To.cons; · (repeat (first | exact .head | apply Sel.tail))) | exact .done (by repeat (first | exact .refl | apply Drop.skip)))))
 ·
  first | replace hc1 := of_decide_eq_true hc1 | replace hc1 := lt_f hc1 | replace hc1 := le_f hc1 | replace hc1 := dec_f hc1 | replace hc1 := nlt_t hc1 | replace hc1 := nle_t hc1 | replace hc1 := ndec_t hc1 | replace hc1 := ndec_f hc1 | replace hc1 := nn_t hc1 | replace hc1 := nn_f hc1 | skip
  refine g_seq ?_
  refine g_region ?_
  refine gl_v rfl (o_eql rfl rfl) ?_
  refine gl_v rfl (o_assign rfl) ?_
  refine gl_nil ?_
  refine ge_then ?_
  refine g_cond rfl (fun hc2 => ?_) (fun hc2 => ?_)
  ·
   first | replace hc2 := of_decide_eq_true hc2 | replace hc2 := lt_f hc2 | replace hc2 := le_f hc2 | replace hc2 := dec_f hc2 | replace hc2 := nlt_t hc2 | replace hc2 := nle_t hc2 | replace hc2 := ndec_t hc2 | replace hc2 := ndec_f hc2 | replace hc2 := nn_t hc2 | replace hc2 := nn_f hc2 | skip
   refine g_seq ?_
   refine g_region ?_
   refine gl_v rfl (o_move rfl) ?_
   refine gl_v rfl (o_move rfl) ?_
   refine gl_c rfl (o_call rfl (fns_env (bPush_spec X B v)) (by repeat (first | exact .nil | (apply Part.cons; · (repeat (first | exact .head | apply Sel.tail)))))) ?_
   rintro _ R ⟨_, ⟨p, rfl, rfl⟩, rfl⟩
   try simp only [List.cons_append, List.nil_append]
   refine gl_v rfl (o_assign rfl) ?_
   refine gl_nil ?_
   refine ge_then ?_
   refine g_ret ?_
   refine ge_block_ret ?_
   refine ge_then_ret ?_
   obtain rfl : kind = 2 := by omega
   exact ret1 (.inl rfl) rfl rfl  _ ⟨_, rfl, rfl⟩ (To.sat (by repeat (first | exact .nil | exact .done .refl | (apply To.cons; · (repeat (first | exact .head | apply Sel.tail))) | exact .done (by repeat (first | exact .refl | apply Drop.skip)))))
  ·
   first | replace hc2 := of_decide_eq_true hc2 | replace hc2 := lt_f hc2 | replace hc2 := le_f hc2 | replace hc2 := dec_f hc2 | replace hc2 := nlt_t hc2 | replace hc2 := nle_t hc2 | replace hc2 := ndec_t hc2 | replace hc2 := ndec_f hc2 | replace hc2 := nn_t hc2 | replace hc2 := nn_f hc2 | skip
   refine g_seq ?_
   refine g_region ?_
   refine gl_v rfl (o_eql rfl rfl) ?_
   refine gl_v rfl (o_assign rfl) ?_
   refine gl_nil ?_
   refine ge_then ?_
   refine g_cond rfl (fun hc3 => ?_) (fun hc3 => ?_)
   ·
    first | replace hc3 := of_decide_eq_true hc3 | replace hc3 := lt_f hc3 | replace hc3 := le_f hc3 | replace hc3 := dec_f hc3 | replace hc3 := nlt_t hc3 | replace hc3 := nle_t hc3 | replace hc3 := ndec_t hc3 | replace hc3 := ndec_f hc3 | replace hc3 := nn_t hc3 | replace hc3 := nn_f hc3 | skip
    refine g_seq ?_
    refine g_region ?_
    refine gl_v rfl (o_move rfl) ?_
    refine gl_v rfl (o_move rfl) ?_
    refine gl_c rfl (o_call rfl (fns_env (bAsk_spec X B hB v)) (by repeat (first | exact .nil | (apply Part.cons; · (repeat (first | exact .head | apply Sel.tail)))))) ?_
    rintro _ R ⟨_, ⟨p, rfl, rfl⟩, rfl⟩
    try simp only [List.cons_append, List.nil_append]
    refine gl_v rfl (o_assign rfl) ?_
    refine gl_nil ?_
    refine ge_then ?_
    refine g_ret ?_
    refine ge_block_ret ?_
    refine ge_then_ret ?_
    obtain rfl : kind = 3 := by omega
    exact ret1 (.inl rfl) rfl rfl  _ ⟨_, rfl, rfl⟩ (To.sat (by repeat (first | exact .nil | exact .done .refl | (apply To.cons; · (repeat (first | exact .head | apply Sel.tail))) | exact .done (by repeat (first | exact .refl | apply Drop.skip)))))
   ·
    first | replace hc3 := of_decide_eq_true hc3 | replace hc3 := lt_f hc3 | replace hc3 := le_f hc3 | replace hc3 := dec_f hc3 | replace hc3 := nlt_t hc3 | replace hc3 := nle_t hc3 | replace hc3 := ndec_t hc3 | replace hc3 := ndec_f hc3 | replace hc3 := nn_t hc3 | replace hc3 := nn_f hc3 | skip
    refine g_seq ?_
    refine g_region ?_
    refine gl_v rfl (o_eql rfl rfl) ?_
    refine gl_v rfl (o_assign rfl) ?_
    refine gl_nil ?_
    refine ge_then ?_
    refine g_cond rfl (fun hc4 => ?_) (fun hc4 => ?_)
    ·
     first | replace hc4 := of_decide_eq_true hc4 | replace hc4 := lt_f hc4 | replace hc4 := le_f hc4 | replace hc4 := dec_f hc4 | replace hc4 := nlt_t hc4 | replace hc4 := nle_t hc4 | replace hc4 := ndec_t hc4 | replace hc4 := ndec_f hc4 | replace hc4 := nn_t hc4 | replace hc4 := nn_f hc4 | skip
     refine g_seq ?_
     refine g_region ?_
     refine gl_v rfl (o_move rfl) ?_
     refine gl_c rfl (o_call rfl (fns_env (bBegin_spec X B)) (by repeat (first | exact .nil | (apply Part.cons; · (repeat (first | exact .head | apply Sel.tail)))))) ?_
     rintro _ R ⟨_, ⟨p, rfl, rfl⟩, rfl⟩
     try simp only [List.cons_append, List.nil_append]
     refine gl_v rfl (o_assign rfl) ?_
     refine gl_nil ?_
     refine ge_then ?_
     refine g_ret ?_
     refine ge_block_ret ?_
     refine ge_then_ret ?_
     obtain rfl : kind = 4 := by omega
     exact ret1 (.inl rfl) rfl rfl  _ ⟨_, rfl, rfl⟩ (To.sat (by repeat (first | exact .nil | exact .done .refl | (apply To.cons; · (repeat (first | exact .head | apply Sel.tail))) | exact .done (by repeat (first | exact .refl | apply Drop.skip)))))
    ·
     first | replace hc4 := of_decide_eq_true hc4 | replace hc4 := lt_f hc4 | replace hc4 := le_f hc4 | replace hc4 := dec_f hc4 | replace hc4 := nlt_t hc4 | replace hc4 := nle_t hc4 | replace hc4 := ndec_t hc4 | replace hc4 := ndec_f hc4 | replace hc4 := nn_t hc4 | replace hc4 := nn_f hc4 | skip
     refine g_seq ?_
     refine g_region ?_
     refine gl_v rfl (o_eql rfl rfl) ?_
     refine gl_v rfl (o_assign rfl) ?_
     refine gl_nil ?_
     refine ge_then ?_
     refine g_cond rfl (fun hc5 => ?_) (fun hc5 => ?_)
     ·
      first | replace hc5 := of_decide_eq_true hc5 | replace hc5 := lt_f hc5 | replace hc5 := le_f hc5 | replace hc5 := dec_f hc5 | replace hc5 := nlt_t hc5 | replace hc5 := nle_t hc5 | replace hc5 := ndec_t hc5 | replace hc5 := ndec_f hc5 | replace hc5 := nn_t hc5 | replace hc5 := nn_f hc5 | skip
      refine g_seq ?_
      refine g_region ?_
      refine gl_v rfl (o_move rfl) ?_
      refine gl_c rfl (o_call rfl (fns_env (bFetch_spec X B)) (by repeat (first | exact .nil | (apply Part.cons; · (repeat (first | exact .head | apply Sel.tail)))))) ?_
      rintro _ R ⟨_, ⟨p, rfl, rfl⟩, rfl⟩
      try simp only [List.cons_append, List.nil_append]
      refine gl_v rfl (o_assign rfl) ?_
      refine gl_nil ?_
      refine ge_then ?_
      refine g_ret ?_
      refine ge_block_ret ?_
      refine ge_then_ret ?_
      obtain rfl : kind = 5 := by omega
      exact ret1 (.inl rfl) rfl rfl  _ ⟨_, rfl, rfl⟩ (To.sat (by repeat (first | exact .nil | exact .done .refl | (apply To.cons; · (repeat (first | exact .head | apply Sel.tail))) | exact .done (by repeat (first | exact .refl | apply Drop.skip)))))
     ·
      first | replace hc5 := of_decide_eq_true hc5 | replace hc5 := lt_f hc5 | replace hc5 := le_f hc5 | replace hc5 := dec_f hc5 | replace hc5 := nlt_t hc5 | replace hc5 := nle_t hc5 | replace hc5 := ndec_t hc5 | replace hc5 := ndec_f hc5 | replace hc5 := nn_t hc5 | replace hc5 := nn_f hc5 | skip
      refine g_seq ?_
      refine g_region ?_
      refine gl_v rfl (o_eql rfl rfl) ?_
      refine gl_v rfl (o_assign rfl) ?_
      refine gl_nil ?_
      refine ge_then ?_
      refine g_cond rfl (fun hc6 => ?_) (fun hc6 => ?_)
      ·
       first | replace hc6 := of_decide_eq_true hc6 | replace hc6 := lt_f hc6 | replace hc6 := le_f hc6 | replace hc6 := dec_f hc6 | replace hc6 := nlt_t hc6 | replace hc6 := nle_t hc6 | replace hc6 := ndec_t hc6 | replace hc6 := ndec_f hc6 | replace hc6 := nn_t hc6 | replace hc6 := nn_f hc6 | skip
       refine g_seq ?_
       refine g_region ?_
       refine gl_v rfl (o_move rfl) ?_
       refine gl_c rfl (o_call rfl (fns_env (bNote_spec X B)) (by repeat (first | exact .nil | (apply Part.cons; · (repeat (first | exact .head | apply Sel.tail)))))) ?_
       rintro _ R ⟨_, ⟨p, rfl, rfl⟩, rfl⟩
       try simp only [List.cons_append, List.nil_append]
       refine gl_v rfl (o_assign rfl) ?_
       refine gl_nil ?_
       refine ge_then ?_
       refine g_ret ?_
       refine ge_block_ret ?_
       refine ge_then_ret ?_
       obtain rfl : kind = 6 := by omega
       exact ret1 (.inl rfl) rfl rfl  _ ⟨_, rfl, rfl⟩ (To.sat (by repeat (first | exact .nil | exact .done .refl | (apply To.cons; · (repeat (first | exact .head | apply Sel.tail))) | exact .done (by repeat (first | exact .refl | apply Drop.skip)))))
      ·
       first | replace hc6 := of_decide_eq_true hc6 | replace hc6 := lt_f hc6 | replace hc6 := le_f hc6 | replace hc6 := dec_f hc6 | replace hc6 := nlt_t hc6 | replace hc6 := nle_t hc6 | replace hc6 := ndec_t hc6 | replace hc6 := ndec_f hc6 | replace hc6 := nn_t hc6 | replace hc6 := nn_f hc6 | skip
       refine g_seq ?_
       refine g_region ?_
       refine gl_v rfl (o_eql rfl rfl) ?_
       refine gl_v rfl (o_assign rfl) ?_
       refine gl_nil ?_
       refine ge_then ?_
       refine g_cond rfl (fun hc7 => ?_) (fun hc7 => ?_)
       ·
        first | replace hc7 := of_decide_eq_true hc7 | replace hc7 := lt_f hc7 | replace hc7 := le_f hc7 | replace hc7 := dec_f hc7 | replace hc7 := nlt_t hc7 | replace hc7 := nle_t hc7 | replace hc7 := ndec_t hc7 | replace hc7 := ndec_f hc7 | replace hc7 := nn_t hc7 | replace hc7 := nn_f hc7 | skip
        refine g_seq ?_
        refine g_region ?_
        refine gl_v rfl (o_move rfl) ?_
        refine gl_v rfl (o_move rfl) ?_
        refine gl_v rfl (o_eql rfl rfl) ?_
        refine gl_c rfl (o_call rfl (fns_env (bSettle_spec X B (decide (v = 1)))) (by repeat (first | exact .nil | (apply Part.cons; · (repeat (first | exact .head | apply Sel.tail)))))) ?_
        rintro _ R ⟨_, ⟨p, rfl, rfl⟩, rfl⟩
        try simp only [List.cons_append, List.nil_append]
        refine gl_v rfl (o_assign rfl) ?_
        refine gl_nil ?_
        refine ge_then ?_
        refine g_ret ?_
        refine ge_block_ret ?_
        refine ge_then_ret ?_
        obtain rfl : kind = 7 := by omega
        exact ret1 (.inl rfl) rfl rfl  _ ⟨_, rfl, rfl⟩ (To.sat (by repeat (first | exact .nil | exact .done .refl | (apply To.cons; · (repeat (first | exact .head | apply Sel.tail))) | exact .done (by repeat (first | exact .refl | apply Drop.skip)))))
       ·
        first | replace hc7 := of_decide_eq_true hc7 | replace hc7 := lt_f hc7 | replace hc7 := le_f hc7 | replace hc7 := dec_f hc7 | replace hc7 := nlt_t hc7 | replace hc7 := nle_t hc7 | replace hc7 := ndec_t hc7 | replace hc7 := ndec_f hc7 | replace hc7 := nn_t hc7 | replace hc7 := nn_f hc7 | skip
        refine g_seq ?_
        refine g_region ?_
        refine gl_v rfl (o_eql rfl rfl) ?_
        refine gl_v rfl (o_assign rfl) ?_
        refine gl_nil ?_
        refine ge_then ?_
        refine g_cond rfl (fun hc8 => ?_) (fun hc8 => ?_)
        ·
         first | replace hc8 := of_decide_eq_true hc8 | replace hc8 := lt_f hc8 | replace hc8 := le_f hc8 | replace hc8 := dec_f hc8 | replace hc8 := nlt_t hc8 | replace hc8 := nle_t hc8 | replace hc8 := ndec_t hc8 | replace hc8 := ndec_f hc8 | replace hc8 := nn_t hc8 | replace hc8 := nn_f hc8 | skip
         refine g_seq ?_
         refine g_region ?_
         refine gl_v rfl (o_move rfl) ?_
         refine gl_c rfl (o_call rfl (fns_env (bAgain_spec X B)) (by repeat (first | exact .nil | (apply Part.cons; · (repeat (first | exact .head | apply Sel.tail)))))) ?_
         rintro _ R ⟨_, ⟨p, rfl, rfl⟩, rfl⟩
         try simp only [List.cons_append, List.nil_append]
         refine gl_v rfl (o_assign rfl) ?_
         refine gl_nil ?_
         refine ge_then ?_
         refine g_ret ?_
         refine ge_block_ret ?_
         refine ge_then_ret ?_
         obtain rfl : kind = 8 := by omega
         exact ret1 (.inl rfl) rfl rfl  _ ⟨_, rfl, rfl⟩ (To.sat (by repeat (first | exact .nil | exact .done .refl | (apply To.cons; · (repeat (first | exact .head | apply Sel.tail))) | exact .done (by repeat (first | exact .refl | apply Drop.skip)))))
        ·
         first | replace hc8 := of_decide_eq_true hc8 | replace hc8 := lt_f hc8 | replace hc8 := le_f hc8 | replace hc8 := dec_f hc8 | replace hc8 := nlt_t hc8 | replace hc8 := nle_t hc8 | replace hc8 := ndec_t hc8 | replace hc8 := ndec_f hc8 | replace hc8 := nn_t hc8 | replace hc8 := nn_f hc8 | skip
         refine g_seq ?_
         refine g_region ?_
         refine gl_v rfl (o_eql rfl rfl) ?_
         refine gl_v rfl (o_assign rfl) ?_
         refine gl_nil ?_
         refine ge_then ?_
         refine g_cond rfl (fun hc9 => ?_) (fun hc9 => ?_)
         ·
          first | replace hc9 := of_decide_eq_true hc9 | replace hc9 := lt_f hc9 | replace hc9 := le_f hc9 | replace hc9 := dec_f hc9 | replace hc9 := nlt_t hc9 | replace hc9 := nle_t hc9 | replace hc9 := ndec_t hc9 | replace hc9 := ndec_f hc9 | replace hc9 := nn_t hc9 | replace hc9 := nn_f hc9 | skip
          refine g_seq ?_
          refine g_region ?_
          refine gl_v rfl (o_move rfl) ?_
          refine gl_c rfl (o_call rfl (fns_env (bClose_spec X B)) (by repeat (first | exact .nil | (apply Part.cons; · (repeat (first | exact .head | apply Sel.tail)))))) ?_
          rintro _ R ⟨_, ⟨p, rfl, rfl⟩, rfl⟩
          try simp only [List.cons_append, List.nil_append]
          refine gl_v rfl (o_assign rfl) ?_
          refine gl_nil ?_
          refine ge_then ?_
          refine g_ret ?_
          refine ge_block_ret ?_
          refine ge_then_ret ?_
          obtain rfl : kind = 9 := by omega
          exact ret1 (.inl rfl) rfl rfl  _ ⟨_, rfl, rfl⟩ (To.sat (by repeat (first | exact .nil | exact .done .refl | (apply To.cons; · (repeat (first | exact .head | apply Sel.tail))) | exact .done (by repeat (first | exact .refl | apply Drop.skip)))))
         ·
          first | replace hc9 := of_decide_eq_true hc9 | replace hc9 := lt_f hc9 | replace hc9 := le_f hc9 | replace hc9 := dec_f hc9 | replace hc9 := nlt_t hc9 | replace hc9 := nle_t hc9 | replace hc9 := ndec_t hc9 | replace hc9 := ndec_f hc9 | replace hc9 := nn_t hc9 | replace hc9 := nn_f hc9 | skip
          refine g_seq ?_
          refine g_region ?_
          refine gl_v rfl (o_eql rfl rfl) ?_
          refine gl_v rfl (o_assign rfl) ?_
          refine gl_nil ?_
          refine ge_then ?_
          refine g_cond rfl (fun hc10 => ?_) (fun hc10 => ?_)
          ·
           first | replace hc10 := of_decide_eq_true hc10 | replace hc10 := lt_f hc10 | replace hc10 := le_f hc10 | replace hc10 := dec_f hc10 | replace hc10 := nlt_t hc10 | replace hc10 := nle_t hc10 | replace hc10 := ndec_t hc10 | replace hc10 := ndec_f hc10 | replace hc10 := nn_t hc10 | replace hc10 := nn_f hc10 | skip
           refine g_seq ?_
           refine g_region ?_
           refine gl_v rfl (o_move rfl) ?_
           refine gl_c rfl (o_call rfl (fns_env (bDrain_spec X B)) (by repeat (first | exact .nil | (apply Part.cons; · (repeat (first | exact .head | apply Sel.tail)))))) ?_
           rintro _ R ⟨_, ⟨p, rfl, rfl⟩, rfl⟩
           try simp only [List.cons_append, List.nil_append]
           refine gl_v rfl (o_assign rfl) ?_
           refine gl_nil ?_
           refine ge_then ?_
           refine g_ret ?_
           refine ge_block_ret ?_
           refine ge_then_ret ?_
           obtain rfl : kind = 10 := by omega
           exact ret1 (.inl rfl) rfl rfl  _ ⟨_, rfl, rfl⟩ (To.sat (by repeat (first | exact .nil | exact .done .refl | (apply To.cons; · (repeat (first | exact .head | apply Sel.tail))) | exact .done (by repeat (first | exact .refl | apply Drop.skip)))))
          ·
           first | replace hc10 := of_decide_eq_true hc10 | replace hc10 := lt_f hc10 | replace hc10 := le_f hc10 | replace hc10 := dec_f hc10 | replace hc10 := nlt_t hc10 | replace hc10 := nle_t hc10 | replace hc10 := ndec_t hc10 | replace hc10 := ndec_f hc10 | replace hc10 := nn_t hc10 | replace hc10 := nn_f hc10 | skip
           refine g_seq ?_
           refine g_region ?_
           refine gl_v rfl (o_eql rfl rfl) ?_
           refine gl_v rfl (o_assign rfl) ?_
           refine gl_nil ?_
           refine ge_then ?_
           refine g_cond rfl (fun hc11 => ?_) (fun hc11 => ?_)
           ·
            first | replace hc11 := of_decide_eq_true hc11 | replace hc11 := lt_f hc11 | replace hc11 := le_f hc11 | replace hc11 := dec_f hc11 | replace hc11 := nlt_t hc11 | replace hc11 := nle_t hc11 | replace hc11 := ndec_t hc11 | replace hc11 := ndec_f hc11 | replace hc11 := nn_t hc11 | replace hc11 := nn_f hc11 | skip
            refine g_seq ?_
            refine g_region ?_
            refine gl_v rfl (o_move rfl) ?_
            refine gl_c rfl (o_call rfl (fns_env (bShut_spec X B)) (by repeat (first | exact .nil | (apply Part.cons; · (repeat (first | exact .head | apply Sel.tail)))))) ?_
            rintro _ R ⟨_, ⟨p, rfl, rfl⟩, rfl⟩
            try simp only [List.cons_append, List.nil_append]
            refine gl_v rfl (o_assign rfl) ?_
            refine gl_nil ?_
            refine ge_then ?_
            refine g_ret ?_
            refine ge_block_ret ?_
            refine ge_then_ret ?_
            obtain rfl : kind = 11 := by omega
            exact ret1 (.inl rfl) rfl rfl  _ ⟨_, rfl, rfl⟩ (To.sat (by repeat (first | exact .nil | exact .done .refl | (apply To.cons; · (repeat (first | exact .head | apply Sel.tail))) | exact .done (by repeat (first | exact .refl | apply Drop.skip)))))
           ·
            first | replace hc11 := of_decide_eq_true hc11 | replace hc11 := lt_f hc11 | replace hc11 := le_f hc11 | replace hc11 := dec_f hc11 | replace hc11 := nlt_t hc11 | replace hc11 := nle_t hc11 | replace hc11 := ndec_t hc11 | replace hc11 := ndec_f hc11 | replace hc11 := nn_t hc11 | replace hc11 := nn_f hc11 | skip
            refine g_skip ?_
            refine ge_block ?_
            refine ge_then ?_
            refine g_seq ?_
            refine g_region ?_
            refine gl_v rfl (o_move rfl) ?_
            refine gl_c rfl (o_call rfl (fns_env (bGone_spec X B)) (by repeat (first | exact .nil | (apply Part.cons; · (repeat (first | exact .head | apply Sel.tail)))))) ?_
            rintro _ R ⟨_, ⟨p, rfl, rfl⟩, rfl⟩
            try simp only [List.cons_append, List.nil_append]
            refine gl_v rfl (o_assign rfl) ?_
            refine gl_nil ?_
            refine ge_then ?_
            refine g_ret ?_
            obtain rfl : kind = 12 := by omega
            exact ret1 (.inl rfl) rfl rfl  _ ⟨_, rfl, rfl⟩ (To.sat (by repeat (first | exact .nil | exact .done .refl | (apply To.cons; · (repeat (first | exact .head | apply Sel.tail))) | exact .done (by repeat (first | exact .refl | apply Drop.skip)))))

theorem pfns_conv {P : Program} {f : FuncId} {args : List Value} {As : List Assn} {post post' : Value → List Assn → Prop} (h : FnS P f args As post) (g : ∀ v Bs, post v Bs → ∃ Bs', post' v Bs' ∧ ∀ R h, Sat (Bs ++ R) h → Sat (Bs' ++ R) h) : FnS P f args As post' :=
  fun W0 R w s => (h W0 R w s).mono fun _ _ ⟨v, Bs, e, p, s⟩ => let ⟨Bs', p', f⟩ := g v Bs p; ⟨v, Bs', e, p', s.imp (f R)⟩
theorem rstepP_spec (p : Nat) (B : PB) (hB : 1 ≤ B.nm ∧ B.nm ≤ 64 ∧ 1 ≤ B.nn ∧ B.nn ≤ 64 ∧ B.b ≤ 60000) (kind v : Int) (hk : 1 ≤ kind ∧ kind ≤ 12) (hv : 0 ≤ v ∧ v ≤ 18446744073709551615) (a : Option Addr) (c : Nat) (l : List Int) (hl : LI l) (hm : l.length ≤ 80000) (hc : l.length ≤ c) (L : List Int) (t : Int) (hI : PI B L) (hLI : LI L) (po : PO) (hp : POI po) (R : RelP B kind v po l) : FnS Tryz.prog 15 [ptr p 0, boxV B, opV' kind v (.slice a l.length c)] [rmemA p L t, own (.slice a l.length c) 39 1 l.length (l.map U64)] (fun u Bs => ∃ a' c' l' t', u = opV' kind v (.slice a' l'.length c') ∧ RelP B kind v (goPO B L po) l' ∧ LI l' ∧ l'.length ≤ l.length + 1 ∧ Bs = [rmemA p (goPL B L po) t', own (.slice a' l'.length c') 39 1 l'.length (l'.map U64)]) := by
  have hlk := R.like
  have hr := rd_own (a := a) (c := c) hc
  cases ho : po.over with
  | true =>
    have g1 : goPL B L po = L := by unfold goPL; rw [ho]; rfl
    have g2 : goPO B L po = po := by unfold goPO; rw [ho]; rfl
    rw [g1, g2]
    exact (rstepP_over p (topB B) 0 B hB kind v hk hv a c l hl hm _ hr L t (hlk.1.trans ho)).mono fun u Bs h => ⟨a, c, l, t, h.1, R, hl, Nat.le_succ _, h.2⟩
  | false =>
    have h0 : po.out = 0 := by simpa [PO.over] using ho
    have S := R.step ho (L := L)
    have hw := wokP hB.1 hB.2.2.1 hv hl hp h0 R
    refine pfns_conv (rstepP_go p (topB B) 0 B hB kind v hk hv a c l hl hm _ hr L t (hlk.1.trans ho) hw (by have := hI.len; unfold topB; omega)) fun u Bs h => ?_
    obtain ⟨a', c', h1, h2⟩ := h
    refine ⟨_, ⟨a', c', l ++ [accX (nextP B kind v l) L], tup t, by rw [List.length_append]; exact h1, S.2, fun x hx => ?_, by simp, rfl⟩, fun R h s => ?_⟩
    · rcases List.mem_append.1 hx with hx | hx
      · exact hl x hx
      · rw [List.mem_singleton.1 hx]; exact accX_in hLI
    · subst h2
      rw [S.1, List.length_append]
      exact Sat.tail (fun h s => Sat.tail (fun h s => Sat.drop s) s) s

set_option maxRecDepth 8000 in
set_option maxHeartbeats 1000000 in
theorem bsize_spec (B : PB) (hB : 1 ≤ B.nm ∧ B.nm ≤ 64 ∧ 1 ≤ B.nn ∧ B.nn ≤ 64 ∧ B.b ≤ 60000) : FnS Tryz.prog 5 [boxV B] [] (fun u Bs => u = I64 ((6 + 2 * B.nm + 2 * B.nn : Nat) : Int) ∧ Bs = []) := by
 refine fn_body Tryz.func5 rfl rfl rfl ?_
 intro W0 R
 simp only [List.zipIdx_cons, List.zipIdx_nil, List.map_cons, List.map_nil, Nat.zero_add, Nat.reduceAdd, List.cons_append, List.nil_append]
 refine g_seq ?_
 refine g_region ?_
 refine gl_n rfl (o_boxA rfl) ?_
 rintro _ _ ⟨b1, rfl, rfl⟩
 refine gl_v rfl (o_assign rfl) ?_
 refine gl_nil ?_
 refine ge_then ?_
 refine g_seq ?_
 refine g_region ?_
 first | refine gl_v rfl (o_fldS rfl) ?_ | refine gl_v rfl (o_fld rfl) ?_
 first | refine gl_v rfl (o_load rfl rfl) ?_ | refine gl_v rfl (o_loadS rfl rfl) ?_ | refine gl_v rfl (o_loadC rfl) ?_
 refine gl_v rfl (o_mulR ((2 * B.nm : Nat) : Int) (by rw [wr_i64 (by omega)]; omega) rfl rfl) ?_
 refine gl_v rfl (o_addR ((6 + 2 * B.nm : Nat) : Int) (by rw [wr_i64 (by omega)]; omega) rfl rfl) ?_
 first | refine gl_v rfl (o_fldS rfl) ?_ | refine gl_v rfl (o_fld rfl) ?_
 first | refine gl_v rfl (o_load rfl rfl) ?_ | refine gl_v rfl (o_loadS rfl rfl) ?_ | refine gl_v rfl (o_loadC rfl) ?_
 refine gl_v rfl (o_mulR ((2 * B.nn : Nat) : Int) (by rw [wr_i64 (by omega)]; omega) rfl rfl) ?_
 refine gl_v rfl (o_addR ((6 + 2 * B.nm + 2 * B.nn : Nat) : Int) (by rw [wr_i64 (by omega)]; omega) rfl rfl) ?_
 refine gl_v rfl (o_assign rfl) ?_
 refine gl_nil ?_
 refine ge_then ?_
 refine g_ret ?_
 refine ret1 (.inl rfl) rfl rfl _ (⟨rfl, rfl⟩) (To.sat (by repeat (first | exact .nil | exact .done .refl | (apply To.cons; · (repeat (first | exact .head | apply Sel.tail))) | exact .done (by repeat (first | exact .refl | apply Drop.skip)))))

set_option maxRecDepth 8000 in
set_option maxHeartbeats 1000000 in
theorem play_spec (p N : Nat) (B : PB) (hB : 1 ≤ B.nm ∧ B.nm ≤ 64 ∧ 1 ≤ B.nn ∧ B.nn ≤ 64 ∧ B.b ≤ 60000) (t : Int) (hN : B.b + 6 + 2 * B.nm + 2 * B.nn ≤ N) : FnS Tryz.prog 10 [ptr p 0, boxV B] [rmemA p (List.replicate N 0) t] (fun u Bs => u = .tuple #[] ∧ Bs = [rmemA p (List.replicate N 0) t]) := by
 refine fn_body Tryz.func10 rfl rfl rfl ?_
 intro W0 R
 simp only [List.zipIdx_cons, List.zipIdx_nil, List.map_cons, List.map_nil, Nat.zero_add, Nat.reduceAdd, List.cons_append, List.nil_append]
 refine g_open (by repeat (first | exact .head | apply Sel.tail)) ?_
 rintro ⟨a, c⟩ -
 simp only [List.cons_append, List.nil_append]
 refine g_seq ?_
 refine g_region ?_
 refine gl_n rfl (o_boxA rfl) ?_
 rintro _ _ ⟨b3, rfl, rfl⟩
 refine gl_nil ?_
 refine ge_then ?_
 refine g_seq ?_
 refine g_draw [7] [] [(0, .loc), (1, .loc), (2, .loc), (3, .loc), (4, .loc), (5, .loc), (6, .loc), (7, .eff)] [cel b3 25 [I64 B.b, I64 B.nm, I64 B.nn], cel p 61 [.slice a (List.replicate N (0 : Int)).length c, I64 t]] mixed (by kernel_rfl) ?_
 refine go_v rfl .none rfl (o_move rfl) ?_
 refine go_v rfl .none rfl (o_nil rfl) ?_
 first | refine go_v rfl .none rfl (o_fldS rfl) ?_ | refine go_v rfl .none rfl (o_fld rfl) ?_
 first | refine go_v rfl .none rfl (o_load rfl rfl) ?_ | refine go_v rfl .none rfl (o_loadS rfl rfl) ?_ | refine go_v rfl .none rfl (o_loadC rfl) ?_
 first | refine go_v rfl .none rfl (o_fldS rfl) ?_ | refine go_v rfl .none rfl (o_fld rfl) ?_
 first | refine go_v rfl .none rfl (o_load rfl rfl) ?_ | refine go_v rfl .none rfl (o_loadS rfl rfl) ?_ | refine go_v rfl .none rfl (o_loadC rfl) ?_
 refine go_v rfl .none rfl (o_idxS (j := B.b) rfl rfl (by simp; omega)) ?_
 refine go_u rfl .none (o_storeS rfl rfl rfl (by simp; omega)) (fun hG => absurd hG (by decide)) ?_
 rw [rep_setU]
 refine go_nil ?_
 refine ge_then ?_
 refine g_seq ?_
 refine g_draw [8] [] [(0, .loc), (1, .loc), (2, .loc), (3, .loc), (4, .loc), (5, .loc), (6, .loc), (7, .loc), (8, .eff)] [cel b3 25 [I64 B.b, I64 B.nm, I64 B.nn], cel p 61 [.slice a (List.replicate N (0 : Int)).length c, I64 t]] mixed (by kernel_rfl) ?_
 refine go_v rfl .none rfl (o_move rfl) ?_
 refine go_v rfl .none rfl (o_nil rfl) ?_
 first | refine go_v rfl .none rfl (o_fldS rfl) ?_ | refine go_v rfl .none rfl (o_fld rfl) ?_
 first | refine go_v rfl .none rfl (o_load rfl rfl) ?_ | refine go_v rfl .none rfl (o_loadS rfl rfl) ?_ | refine go_v rfl .none rfl (o_loadC rfl) ?_
 first | refine go_v rfl .none rfl (o_fldS rfl) ?_ | refine go_v rfl .none rfl (o_fld rfl) ?_
 first | refine go_v rfl .none rfl (o_load rfl rfl) ?_ | refine go_v rfl .none rfl (o_loadS rfl rfl) ?_ | refine go_v rfl .none rfl (o_loadC rfl) ?_
 refine go_v rfl .none rfl (o_addR ((B.b + 1 : Nat) : Int) (by rw [wr_i64 (by omega)]; omega) rfl rfl) ?_
 refine go_v rfl .none rfl (o_idxS (j := B.b + 1) rfl rfl (by simp; omega)) ?_
 refine go_u rfl .none (o_storeS rfl rfl rfl (by simp; omega)) (fun hG => absurd hG (by decide)) ?_
 rw [rep_setU]
 refine go_nil ?_
 refine ge_then ?_
 refine g_seq ?_
 refine g_imp (rmem_close (R := cel b3 25 [I64 B.b, I64 B.nm, I64 B.nn] :: R) (p := p) a c (L := List.replicate N 0) (t := t) rfl rfl (To.sat (by repeat (first | exact .nil | exact .done .refl | (apply To.cons; · (repeat (first | exact .head | apply Sel.tail))) | exact .done (by repeat (first | exact .refl | apply Drop.skip)))))) ?_
 refine g_region ?_
 refine gl_v rfl (o_move rfl) ?_
 first | refine gl_v rfl (o_loadSA rfl rfl rfl) ?_ | refine gl_v rfl (o_loadA rfl rfl rfl) ?_
 refine gl_c rfl (o_call rfl (mailR_spec B hB) (by repeat (first | exact .nil | (apply Part.cons; · (repeat (first | exact .head | apply Sel.tail)))))) ?_
 rintro _ R ⟨_, ⟨rfl, rfl⟩, rfl⟩
 try simp only [List.cons_append, List.nil_append]
 refine gl_c rfl (o_call rfl (rlay_spec p (B.rb false) (B.rn false) N (by simp [PB.rn]; omega) (by simp [PB.rn]; omega) (by simp [PB.rb]; omega) t (by simp [PB.rb, PB.rn]; omega)) (by repeat (first | exact .nil | (apply Part.cons; · (repeat (first | exact .head | apply Sel.tail)))))) ?_
 rintro _ R ⟨_, ⟨rfl, rfl⟩, rfl⟩
 try simp only [List.cons_append, List.nil_append]
 refine gl_nil ?_
 refine ge_then ?_
 refine g_region ?_
 refine gl_v rfl (o_move rfl) ?_
 first | refine gl_v rfl (o_loadSA rfl rfl rfl) ?_ | refine gl_v rfl (o_loadA rfl rfl rfl) ?_
 refine gl_c rfl (o_call rfl (noteR_spec B hB) (by repeat (first | exact .nil | (apply Part.cons; · (repeat (first | exact .head | apply Sel.tail)))))) ?_
 rintro _ R ⟨_, ⟨rfl, rfl⟩, rfl⟩
 try simp only [List.cons_append, List.nil_append]
 refine gl_c rfl (o_call rfl (rlay_spec p (B.rb true) (B.rn true) N (by simp [PB.rn]; omega) (by simp [PB.rn]; omega) (by simp [PB.rb]; omega) t (by simp [PB.rb, PB.rn]; omega)) (by repeat (first | exact .nil | (apply Part.cons; · (repeat (first | exact .head | apply Sel.tail)))))) ?_
 rintro _ R ⟨_, ⟨rfl, rfl⟩, rfl⟩
 try simp only [List.cons_append, List.nil_append]
 refine gl_nil ?_
 refine ret0 (.inr rfl) rfl _ (⟨rfl, rfl⟩) (To.sat (by repeat (first | exact .nil | exact .done .refl | (apply To.cons; · (repeat (first | exact .head | apply Sel.tail))) | exact .done (by repeat (first | exact .refl | apply Drop.skip)))))

theorem own_leS {a : Option Addr} {c n : Nat} {e : TypeId} {xs : List Value} {As R : List Assn} {h : Hp} (s : Sel (own (.slice a n c) e 1 n xs) As R) (st : Sat As h) : n ≤ c := by
  obtain ⟨_, _, _, _, hs, _⟩ := s.to st
  obtain ⟨_, ⟨h1, h2⟩ | ⟨b, cap, sp, h1, _, h3, _⟩⟩ := hs
  · omega
  · simp only [Value.slice.injEq] at h1; omega

end Go.Proofs.YtkpgcdhepfgfaaaGreat.L
