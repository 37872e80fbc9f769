/-
  The clock's examples. Own work, printed in part by a program of its own.
-/
import Derived.Test.YtmohikdmdmplaaaGreatClkJ
set_option linter.unusedSimpArgs false
set_option linter.unusedVariables false
set_option linter.unusedSectionVars false
namespace Go.Proofs.YtmohikdmdmplaaaGreat.L
open Go.L Go.L.Ring Go.L.Post Go.L.Clk Go.L.Whl
theorem _root_.Go.L.Clk.WS.now_ {k : Nat} {w : Wh} (h : WS k w) : w.now < 3000000000000000000 := by have := h.now; omega
def aB : CB := ⟨0, 2⟩

def a1 : Nat × List Int × Wh × CO := doC aB 1000 (List.replicate 7 0) (⟨0, 0, []⟩ : Wh) (askC 5 1)
def a2 : Nat × List Int × Wh × CO := doC aB 1000 a1.2.1 a1.2.2.1 (askC 6 2)
def a3 : Nat × List Int × Wh × CO := doC aB 1000 a2.2.1 a2.2.2.1 (askC 7 1)
def a4 : Nat × List Int × Wh × CO := doC aB 1000 a3.2.1 a3.2.2.1 (beatC aB a3.2.2.1)
def a5 : Nat × List Int × Wh × CO := doC aB 1000 a4.2.1 a4.2.2.1 (nowC)
def a6 : Nat × List Int × Wh × CO := doC aB 1000 a5.2.1 a5.2.2.1 (cutC 6)
def a7 : Nat × List Int × Wh × CO := doC aB 1000 a6.2.1 a6.2.2.1 (beatC aB a6.2.2.1)
def a8 : Nat × List Int × Wh × CO := doC aB 1000 a7.2.1 a7.2.2.1 (askC 5 0)
theorem ai0 : CI aB (List.replicate 7 0) ∧ LI (List.replicate 7 0) ∧ WS 9000 (⟨0, 0, []⟩ : Wh) ∧ True := ⟨⟨by decide, by decide, by decide, by decide⟩, (by unfold LI; decide), ⟨WOk.nil, by decide, by decide⟩, trivial⟩
theorem ai1 : CI aB a1.2.1 ∧ LI a1.2.1 ∧ WS 8000 a1.2.2.1 ∧ COI a1.2.2.2 := doC_in 1000 ai0.1 ai0.2.1 ai0.2.2.1 (askC_ok (by decide))
theorem ae1 : doC aB 1000 (List.replicate 7 0) (⟨0, 0, []⟩ : Wh) (askC 5 1) = (a1.1, a1.2.1, a1.2.2.1, a1.2.2.2) := rfl
theorem ai2 : CI aB a2.2.1 ∧ LI a2.2.1 ∧ WS 7000 a2.2.2.1 ∧ COI a2.2.2.2 := doC_in 1000 ai1.1 ai1.2.1 ai1.2.2.1 (askC_ok (by decide))
theorem ae2 : doC aB 1000 a1.2.1 a1.2.2.1 (askC 6 2) = (a2.1, a2.2.1, a2.2.2.1, a2.2.2.2) := rfl
theorem ai3 : CI aB a3.2.1 ∧ LI a3.2.1 ∧ WS 6000 a3.2.2.1 ∧ COI a3.2.2.2 := doC_in 1000 ai2.1 ai2.2.1 ai2.2.2.1 (askC_ok (by decide))
theorem ae3 : doC aB 1000 a2.2.1 a2.2.2.1 (askC 7 1) = (a3.1, a3.2.1, a3.2.2.1, a3.2.2.2) := rfl
theorem ai4 : CI aB a4.2.1 ∧ LI a4.2.1 ∧ WS 5000 a4.2.2.1 ∧ COI a4.2.2.2 := doC_in 1000 ai3.1 ai3.2.1 ai3.2.2.1 (beatC_ok (by decide) ai3.2.2.1.now_)
theorem ae4 : doC aB 1000 a3.2.1 a3.2.2.1 (beatC aB a3.2.2.1) = (a4.1, a4.2.1, a4.2.2.1, a4.2.2.2) := rfl
theorem ai5 : CI aB a5.2.1 ∧ LI a5.2.1 ∧ WS 4000 a5.2.2.1 ∧ COI a5.2.2.2 := doC_in 1000 ai4.1 ai4.2.1 ai4.2.2.1 (nowC_ok)
theorem ae5 : doC aB 1000 a4.2.1 a4.2.2.1 (nowC) = (a5.1, a5.2.1, a5.2.2.1, a5.2.2.2) := rfl
theorem ai6 : CI aB a6.2.1 ∧ LI a6.2.1 ∧ WS 3000 a6.2.2.1 ∧ COI a6.2.2.2 := doC_in 1000 ai5.1 ai5.2.1 ai5.2.2.1 (cutC_ok (by decide))
theorem ae6 : doC aB 1000 a5.2.1 a5.2.2.1 (cutC 6) = (a6.1, a6.2.1, a6.2.2.1, a6.2.2.2) := rfl
theorem ai7 : CI aB a7.2.1 ∧ LI a7.2.1 ∧ WS 2000 a7.2.2.1 ∧ COI a7.2.2.2 := doC_in 1000 ai6.1 ai6.2.1 ai6.2.2.1 (beatC_ok (by decide) ai6.2.2.1.now_)
theorem ae7 : doC aB 1000 a6.2.1 a6.2.2.1 (beatC aB a6.2.2.1) = (a7.1, a7.2.1, a7.2.2.1, a7.2.2.2) := rfl
theorem ai8 : CI aB a8.2.1 ∧ LI a8.2.1 ∧ WS 1000 a8.2.2.1 ∧ COI a8.2.2.2 := doC_in 1000 ai7.1 ai7.2.1 ai7.2.2.1 (askC_ok (by decide))
theorem ae8 : doC aB 1000 a7.2.1 a7.2.2.1 (askC 5 0) = (a8.1, a8.2.1, a8.2.2.1, a8.2.2.2) := rfl
theorem av1 : a1.2.2.2.out = 1 := by kernel_rfl
theorem av2 : a3.2.2.2.out = 2 := by kernel_rfl
theorem av3 : a4.1 = 11 := by kernel_rfl
theorem av4 : toldL a4.2.2.2 a4.2.2.2.due = [5] := by kernel_rfl
theorem av5 : a5.2.2.2.val = 1 := by kernel_rfl
theorem av6 : a7.1 = 8 := by kernel_rfl
theorem av7 : toldL a7.2.2.2 a7.2.2.2.due = [] := by kernel_rfl
theorem av8 : toldL a7.2.2.2 a7.2.2.2.cut = [6] := by kernel_rfl
theorem av9 : a8.2.2.2.out = 4 := by kernel_rfl
theorem av10 : a8.1 = 0 := by kernel_rfl
theorem aw4 : a4.2.2.2.due.length = 1 := by kernel_rfl
theorem aw7 : a7.2.2.2.due.length = 0 := by kernel_rfl
theorem aw8 : a7.2.2.2.cut.length = 1 := by kernel_rfl
attribute [local irreducible] opK envK a1 a2 a3 a4 a5 a6 a7 a8
set_option maxRecDepth 8000 in
set_option maxHeartbeats 4000000 in
theorem kalive_spec : FnS Tryz.prog 8 [] [] (fun u Bs => u = .bool true ∧ Bs = []) := by
 refine fn_body Tryz.func8 rfl rfl rfl ?_
 intro W0 R
 simp only [List.zipIdx_cons, List.zipIdx_nil, List.map_cons, List.map_nil, Nat.zero_add, Nat.reduceAdd, List.cons_append, List.nil_append]
 refine g_seq ?_
 refine g_region ?_
 refine gl_v rfl (o_assign rfl) ?_
 refine gl_nil ?_
 refine ge_then ?_
 refine g_seq ?_
 refine g_region ?_
 refine gl_c rfl (o_call rfl (New_spec 7) (by repeat (first | exact .nil | (apply Part.cons; · (repeat (first | exact .head | apply Sel.tail)))))) ?_
 rintro _ R ⟨_, ⟨m, rfl, rfl⟩, rfl⟩
 try simp only [List.cons_append, List.nil_append]
 change GL _ _ _ _ _ _ (memA m (List.replicate 7 0) 0 :: _) _
 refine gl_c rfl (o_call rfl (kMake_spec m 0 2 (List.replicate 7 0) 0 ai0.1) (by repeat (first | exact .nil | (apply Part.cons; · (repeat (first | exact .head | apply Sel.tail)))))) ?_
 rintro _ R ⟨_, ⟨X, rfl, rfl, rfl⟩, rfl⟩
 try simp only [List.cons_append, List.nil_append]
 rw [show zap (List.replicate 7 0) 0 (3 + 2 * 2) = List.replicate 7 0 by kernel_rfl, show (⟨0, 2⟩ : CB) = aB from rfl]
 refine gl_v rfl (o_move rfl) ?_
 refine gl_v rfl (o_extract rfl rfl) ?_
 refine gl_v rfl (o_extract rfl rfl) ?_
 refine gl_v rfl (o_assign rfl) ?_
 refine gl_v rfl (o_assign rfl) ?_
 refine gl_nil ?_
 refine ge_then ?_
 refine g_seq ?_
 refine g_seq ?_
 refine g_region ?_
 refine gl_v rfl (o_move rfl) ?_
 refine gl_v rfl (o_is (c := false) (by rfl) (o_neq rfl rfl)) ?_
 refine gl_v rfl (o_move rfl) ?_
 refine gl_gT rfl rfl rfl ?_
 refine gl_v rfl (o_move rfl) ?_
 refine gl_gT rfl rfl rfl ?_
 refine gl_v rfl (o_eqlPn rfl rfl) ?_
 refine gl_v rfl (o_pickF rfl rfl rfl) ?_
 refine gl_nil ?_
 refine ge_then ?_
 refine g_cond_false rfl ?_
 refine g_skip ?_
 refine ge_then ?_
 refine g_seq ?_
 refine g_region ?_
 refine gl_v rfl (o_move rfl) ?_
 refine gl_c rfl (o_call rfl (fns_env (Ask_spec X aB 5 1 (by decide))) (by repeat (first | exact .nil | (apply Part.cons; · (repeat (first | exact .head | apply Sel.tail)))))) ?_
 rintro _ R ⟨_, ⟨p1, rfl, rfl⟩, rfl⟩
 try simp only [List.cons_append, List.nil_append]
 refine gl_c rfl (o_call rfl (kdone_spec X aB p1 (List.replicate 7 0) _ (⟨0, 0, []⟩ : Wh) (askC 5 1) ai0.1 ai0.2.1 (ai0.2.2.1.le (by decide)) (askC_ok (by decide)) a1.1 a1.2.1 a1.2.2.1 a1.2.2.2 ae1) (by repeat (first | exact .nil | (apply Part.cons; · (repeat (first | exact .head | apply Sel.tail)))))) ?_
 rintro _ R ⟨_, ⟨t1, rfl, rfl⟩, rfl⟩
 try simp only [List.cons_append, List.nil_append]
 refine gl_v rfl (o_move rfl) ?_
 refine gl_v rfl (o_extract rfl rfl) ?_
 refine gl_v rfl (o_extract rfl rfl) ?_
 refine gl_v rfl (o_assign rfl) ?_
 refine gl_v rfl (o_assign rfl) ?_
 refine gl_nil ?_
 refine ge_then ?_
 refine g_seq ?_
 refine g_region ?_
 refine gl_v rfl (o_move rfl) ?_
 refine gl_c rfl (o_call rfl (fns_env (Ask_spec X aB 6 2 (by decide))) (by repeat (first | exact .nil | (apply Part.cons; · (repeat (first | exact .head | apply Sel.tail)))))) ?_
 rintro _ R ⟨_, ⟨p2, rfl, rfl⟩, rfl⟩
 try simp only [List.cons_append, List.nil_append]
 refine gl_c rfl (o_call rfl (kdone_spec X aB p2 a1.2.1 _ a1.2.2.1 (askC 6 2) ai1.1 ai1.2.1 (ai1.2.2.1.le (by decide)) (askC_ok (by decide)) a2.1 a2.2.1 a2.2.2.1 a2.2.2.2 ae2) (by repeat (first | exact .nil | (apply Part.cons; · (repeat (first | exact .head | apply Sel.tail)))))) ?_
 rintro _ R ⟨_, ⟨t2, rfl, rfl⟩, rfl⟩
 try simp only [List.cons_append, List.nil_append]
 refine gl_nil ?_
 refine ge_then ?_
 refine g_seq ?_
 refine g_region ?_
 refine gl_v rfl (o_move rfl) ?_
 refine gl_c rfl (o_call rfl (fns_env (Ask_spec X aB 7 1 (by decide))) (by repeat (first | exact .nil | (apply Part.cons; · (repeat (first | exact .head | apply Sel.tail)))))) ?_
 rintro _ R ⟨_, ⟨p3, rfl, rfl⟩, rfl⟩
 try simp only [List.cons_append, List.nil_append]
 refine gl_c rfl (o_call rfl (kdone_spec X aB p3 a2.2.1 _ a2.2.2.1 (askC 7 1) ai2.1 ai2.2.1 (ai2.2.2.1.le (by decide)) (askC_ok (by decide)) a3.1 a3.2.1 a3.2.2.1 a3.2.2.2 ae3) (by repeat (first | exact .nil | (apply Part.cons; · (repeat (first | exact .head | apply Sel.tail)))))) ?_
 rintro _ R ⟨_, ⟨t3, rfl, rfl⟩, rfl⟩
 try simp only [List.cons_append, List.nil_append]
 refine gl_v rfl (o_move rfl) ?_
 refine gl_v rfl (o_extract rfl rfl) ?_
 refine gl_v rfl (o_extract rfl rfl) ?_
 refine gl_v rfl (o_assign rfl) ?_
 refine gl_v rfl (o_assign rfl) ?_
 refine gl_nil ?_
 refine ge_then ?_
 refine g_seq ?_
 refine g_region ?_
 refine gl_v rfl (o_move rfl) ?_
 refine gl_c rfl (o_call rfl (fns_envW (Beat_spec X aB (by decide) a3.2.2.1 ai3.2.2.1.now_)) (by repeat (first | exact .nil | (apply Part.cons; · (repeat (first | exact .head | apply Sel.tail)))))) ?_
 rintro _ R ⟨_, ⟨p4, rfl, rfl⟩, rfl⟩
 try simp only [List.cons_append, List.nil_append]
 refine gl_v rfl (o_assign rfl) ?_
 refine gl_nil ?_
 refine ge_then ?_
 refine g_seq ?_
 refine g_region ?_
 refine gl_v rfl (o_move rfl) ?_
 refine gl_c rfl (o_call rfl (kdone_spec X aB p4 a3.2.1 _ a3.2.2.1 (beatC aB a3.2.2.1) ai3.1 ai3.2.1 (ai3.2.2.1.le (by decide)) (beatC_ok (by decide) ai3.2.2.1.now_) a4.1 a4.2.1 a4.2.2.1 a4.2.2.2 ae4) (by repeat (first | exact .nil | (apply Part.cons; · (repeat (first | exact .head | apply Sel.tail)))))) ?_
 rintro _ R ⟨_, ⟨t4, rfl, rfl⟩, rfl⟩
 try simp only [List.cons_append, List.nil_append]
 refine gl_v rfl (o_move rfl) ?_
 refine gl_v rfl (o_extract rfl rfl) ?_
 refine gl_v rfl (o_extract rfl rfl) ?_
 refine gl_v rfl (o_assign rfl) ?_
 refine gl_v rfl (o_assign rfl) ?_
 refine gl_nil ?_
 refine ge_then ?_
 refine g_seq ?_
 refine g_region ?_
 refine gl_v rfl (o_move rfl) ?_
 refine gl_c rfl (o_call rfl (fns_env (KNow_spec X aB)) (by repeat (first | exact .nil | (apply Part.cons; · (repeat (first | exact .head | apply Sel.tail)))))) ?_
 rintro _ R ⟨_, ⟨p5, rfl, rfl⟩, rfl⟩
 try simp only [List.cons_append, List.nil_append]
 refine gl_v rfl (o_assign rfl) ?_
 refine gl_nil ?_
 refine ge_then ?_
 refine g_seq ?_
 refine g_region ?_
 refine gl_v rfl (o_move rfl) ?_
 refine gl_c rfl (o_call rfl (kdone_spec X aB p5 a4.2.1 _ a4.2.2.1 (nowC) ai4.1 ai4.2.1 (ai4.2.2.1.le (by decide)) (nowC_ok) a5.1 a5.2.1 a5.2.2.1 a5.2.2.2 ae5) (by repeat (first | exact .nil | (apply Part.cons; · (repeat (first | exact .head | apply Sel.tail)))))) ?_
 rintro _ R ⟨_, ⟨t5, rfl, rfl⟩, rfl⟩
 try simp only [List.cons_append, List.nil_append]
 refine gl_nil ?_
 refine ge_then ?_
 refine g_seq ?_
 refine g_region ?_
 refine gl_v rfl (o_move rfl) ?_
 refine gl_c rfl (o_call rfl (fns_env (Cancel_spec X aB 6 (by decide))) (by repeat (first | exact .nil | (apply Part.cons; · (repeat (first | exact .head | apply Sel.tail)))))) ?_
 rintro _ R ⟨_, ⟨p6, rfl, rfl⟩, rfl⟩
 try simp only [List.cons_append, List.nil_append]
 refine gl_c rfl (o_call rfl (kdone_spec X aB p6 a5.2.1 _ a5.2.2.1 (cutC 6) ai5.1 ai5.2.1 (ai5.2.2.1.le (by decide)) (cutC_ok (by decide)) a6.1 a6.2.1 a6.2.2.1 a6.2.2.2 ae6) (by repeat (first | exact .nil | (apply Part.cons; · (repeat (first | exact .head | apply Sel.tail)))))) ?_
 rintro _ R ⟨_, ⟨t6, rfl, rfl⟩, rfl⟩
 try simp only [List.cons_append, List.nil_append]
 refine gl_nil ?_
 refine ge_then ?_
 refine g_seq ?_
 refine g_region ?_
 refine gl_v rfl (o_move rfl) ?_
 refine gl_c rfl (o_call rfl (fns_envW (Beat_spec X aB (by decide) a6.2.2.1 ai6.2.2.1.now_)) (by repeat (first | exact .nil | (apply Part.cons; · (repeat (first | exact .head | apply Sel.tail)))))) ?_
 rintro _ R ⟨_, ⟨p7, rfl, rfl⟩, rfl⟩
 try simp only [List.cons_append, List.nil_append]
 refine gl_v rfl (o_assign rfl) ?_
 refine gl_nil ?_
 refine ge_then ?_
 refine g_seq ?_
 refine g_region ?_
 refine gl_v rfl (o_move rfl) ?_
 refine gl_c rfl (o_call rfl (kdone_spec X aB p7 a6.2.1 _ a6.2.2.1 (beatC aB a6.2.2.1) ai6.1 ai6.2.1 (ai6.2.2.1.le (by decide)) (beatC_ok (by decide) ai6.2.2.1.now_) a7.1 a7.2.1 a7.2.2.1 a7.2.2.2 ae7) (by repeat (first | exact .nil | (apply Part.cons; · (repeat (first | exact .head | apply Sel.tail)))))) ?_
 rintro _ R ⟨_, ⟨t7, rfl, rfl⟩, rfl⟩
 try simp only [List.cons_append, List.nil_append]
 refine gl_v rfl (o_move rfl) ?_
 refine gl_v rfl (o_extract rfl rfl) ?_
 refine gl_v rfl (o_extract rfl rfl) ?_
 refine gl_v rfl (o_assign rfl) ?_
 refine gl_v rfl (o_assign rfl) ?_
 refine gl_nil ?_
 refine ge_then ?_
 refine g_seq ?_
 refine g_region ?_
 refine gl_v rfl (o_move rfl) ?_
 refine gl_c rfl (o_call rfl (fns_env (Ask_spec X aB 5 0 (by decide))) (by repeat (first | exact .nil | (apply Part.cons; · (repeat (first | exact .head | apply Sel.tail)))))) ?_
 rintro _ R ⟨_, ⟨p8, rfl, rfl⟩, rfl⟩
 try simp only [List.cons_append, List.nil_append]
 refine gl_c rfl (o_call rfl (kdone_spec X aB p8 a7.2.1 _ a7.2.2.1 (askC 5 0) ai7.1 ai7.2.1 (ai7.2.2.1.le (by decide)) (askC_ok (by decide)) a8.1 a8.2.1 a8.2.2.1 a8.2.2.2 ae8) (by repeat (first | exact .nil | (apply Part.cons; · (repeat (first | exact .head | apply Sel.tail)))))) ?_
 rintro _ R ⟨_, ⟨t8, rfl, rfl⟩, rfl⟩
 try simp only [List.cons_append, List.nil_append]
 refine gl_v rfl (o_move rfl) ?_
 refine gl_v rfl (o_extract rfl rfl) ?_
 refine gl_v rfl (o_extract rfl rfl) ?_
 refine gl_v rfl (o_assign rfl) ?_
 refine gl_v rfl (o_assign rfl) ?_
 refine gl_nil ?_
 refine ge_then ?_
 refine g_seq ?_
 refine g_region ?_
 refine gl_v rfl (o_move rfl) ?_
 refine gl_v rfl (o_is (c := true) (by rw [av1]; decide) (o_eql rfl rfl)) ?_
 refine gl_v rfl (o_move rfl) ?_
 refine gl_gT rfl rfl rfl ?_
 refine gl_v rfl (o_move rfl) ?_
 refine gl_gT rfl rfl rfl ?_
 refine gl_v rfl (o_is (c := true) (by rw [av2]; decide) (o_eql rfl rfl)) ?_
 refine gl_v rfl (o_pickT rfl rfl rfl) ?_
 refine gl_v rfl (o_move rfl) ?_
 refine gl_gT rfl rfl rfl ?_
 refine gl_v rfl (o_move rfl) ?_
 refine gl_gT rfl rfl rfl ?_
 refine gl_v rfl (o_is (c := true) (by rw [av3]; decide) (o_eql rfl rfl)) ?_
 refine gl_v rfl (o_pickT rfl rfl rfl) ?_
 refine gl_v rfl (o_move rfl) ?_
 refine gl_gT rfl rfl rfl ?_
 refine gl_v rfl (o_move rfl) ?_
 refine gl_gT rfl rfl rfl ?_
 refine gl_c rfl (o_call rfl (KDue_spec X aB p4 a4.2.2.2 (fun h => (ai4.2.2.2.run h).2.1) (by rw [aw4]; decide)) (by repeat (first | exact .nil | (apply Part.cons; · (repeat (first | exact .head | apply Sel.tail)))))) ?_
 rintro _ R ⟨_, ⟨d1, e1, rfl, rfl⟩, rfl⟩
 try simp only [List.cons_append, List.nil_append]
 rw [av4]
 refine gl_gT rfl rfl rfl ?_
 first | refine gl_n rfl (o_buildS1 rfl rfl rfl) ?_ | refine gl_n rfl (o_buildS1A rfl rfl rfl rfl) ?_ | refine gl_n rfl (o_buildS rfl rfl rfl rfl) ?_
 rintro _ _ ⟨b82, rfl, rfl⟩
 refine gl_imp (own_lit (e := 22) (sz := 1) (k := 1) rfl (by decide)) ?_
 refine gl_gT rfl rfl rfl ?_
 refine gl_c rfl (o_call rfl (rSame_spec (tl d1 e1 [5]) (.slice (some ⟨b82, 0, none⟩) 1 1) [5] [5] (by decide) (by decide) (tlA d1 e1 [5]) (own (.slice (some ⟨b82, 0, none⟩) 1 1) 22 1 1 [U64 5])) (by repeat (first | exact .nil | (apply Part.cons; · (repeat (first | exact .head | apply Sel.tail)))))) ?_
 rintro _ R ⟨_, ⟨rfl, rfl⟩, rfl⟩
 try simp only [List.cons_append, List.nil_append]
 refine gl_v rfl (o_pickT rfl rfl rfl) ?_
 refine gl_v rfl (o_move rfl) ?_
 refine gl_gT rfl rfl rfl ?_
 refine gl_v rfl (o_move rfl) ?_
 refine gl_gT rfl rfl rfl ?_
 refine gl_v rfl (o_nil rfl) ?_
 refine gl_gT rfl rfl rfl ?_
 first | refine gl_v rfl (o_fldS rfl) ?_ | refine gl_v rfl (o_fld rfl) ?_
 refine gl_gT rfl rfl rfl ?_
 refine gl_c rfl (o_call rfl (Val_op X aB p5 a5.2.2.2 (fun h => (ai5.2.2.2.run h).2.1)) (by repeat (first | exact .nil | (apply Part.cons; · (repeat (first | exact .head | apply Sel.tail)))))) ?_
 rintro _ R ⟨_, ⟨rfl, rfl⟩, rfl⟩
 try simp only [List.cons_append, List.nil_append]
 refine gl_gT rfl rfl rfl ?_
 refine gl_v rfl (o_is (c := true) (by rw [av5]; decide) (o_eql rfl rfl)) ?_
 refine gl_v rfl (o_pickT rfl rfl rfl) ?_
 refine gl_v rfl (o_move rfl) ?_
 refine gl_gT rfl rfl rfl ?_
 refine gl_v rfl (o_move rfl) ?_
 refine gl_gT rfl rfl rfl ?_
 refine gl_v rfl (o_is (c := true) (by rw [av6]; decide) (o_eql rfl rfl)) ?_
 refine gl_v rfl (o_pickT rfl rfl rfl) ?_
 refine gl_v rfl (o_move rfl) ?_
 refine gl_gT rfl rfl rfl ?_
 refine gl_v rfl (o_move rfl) ?_
 refine gl_gT rfl rfl rfl ?_
 refine gl_c rfl (o_call rfl (KDue_spec X aB p7 a7.2.2.2 (fun h => (ai7.2.2.2.run h).2.1) (by rw [aw7]; decide)) (by repeat (first | exact .nil | (apply Part.cons; · (repeat (first | exact .head | apply Sel.tail)))))) ?_
 rintro _ R ⟨_, ⟨d2, e2, rfl, rfl⟩, rfl⟩
 try simp only [List.cons_append, List.nil_append]
 rw [av7]
 refine gl_gT rfl rfl rfl ?_
 refine gl_v rfl (o_lenL rfl) ?_
 refine gl_gT rfl rfl rfl ?_
 refine gl_v rfl (o_is (c := true) (by rfl) (o_eql rfl rfl)) ?_
 refine gl_v rfl (o_pickT rfl rfl rfl) ?_
 refine gl_v rfl (o_move rfl) ?_
 refine gl_gT rfl rfl rfl ?_
 refine gl_v rfl (o_move rfl) ?_
 refine gl_gT rfl rfl rfl ?_
 refine gl_c rfl (o_call rfl (KCut_spec X aB p7 a7.2.2.2 (fun h => (ai7.2.2.2.run h).2.1) (by rw [aw8]; decide)) (by repeat (first | exact .nil | (apply Part.cons; · (repeat (first | exact .head | apply Sel.tail)))))) ?_
 rintro _ R ⟨_, ⟨d3, e3, rfl, rfl⟩, rfl⟩
 try simp only [List.cons_append, List.nil_append]
 rw [av8]
 refine gl_gT rfl rfl rfl ?_
 first | refine gl_n rfl (o_buildS1 rfl rfl rfl) ?_ | refine gl_n rfl (o_buildS1A rfl rfl rfl rfl) ?_ | refine gl_n rfl (o_buildS rfl rfl rfl rfl) ?_
 rintro _ _ ⟨b105, rfl, rfl⟩
 refine gl_imp (own_lit (e := 22) (sz := 1) (k := 1) rfl (by decide)) ?_
 refine gl_gT rfl rfl rfl ?_
 refine gl_c rfl (o_call rfl (rSame_spec (tl d3 e3 [6]) (.slice (some ⟨b105, 0, none⟩) 1 1) [6] [6] (by decide) (by decide) (tlA d3 e3 [6]) (own (.slice (some ⟨b105, 0, none⟩) 1 1) 22 1 1 [U64 6])) (by repeat (first | exact .nil | (apply Part.cons; · (repeat (first | exact .head | apply Sel.tail)))))) ?_
 rintro _ R ⟨_, ⟨rfl, rfl⟩, rfl⟩
 try simp only [List.cons_append, List.nil_append]
 refine gl_v rfl (o_pickT rfl rfl rfl) ?_
 refine gl_v rfl (o_move rfl) ?_
 refine gl_gT rfl rfl rfl ?_
 refine gl_v rfl (o_move rfl) ?_
 refine gl_gT rfl rfl rfl ?_
 refine gl_v rfl (o_is (c := true) (by rw [av9]; decide) (o_eql rfl rfl)) ?_
 refine gl_v rfl (o_pickT rfl rfl rfl) ?_
 refine gl_v rfl (o_move rfl) ?_
 refine gl_gT rfl rfl rfl ?_
 refine gl_v rfl (o_move rfl) ?_
 refine gl_gT rfl rfl rfl ?_
 refine gl_v rfl (o_is (c := true) (by rw [av10]; decide) (o_eql rfl rfl)) ?_
 refine gl_v rfl (o_pickT rfl rfl rfl) ?_
 refine gl_v rfl (o_assign rfl) ?_
 refine gl_nil ?_
 refine ge_then ?_
 refine g_ret ?_
 refine ret1 (.inl rfl) rfl rfl [] (⟨by simp, rfl⟩) (To.sat (by repeat (first | exact .nil | exact .done .refl | (apply To.cons; · (repeat (first | exact .head | apply Sel.tail))) | exact .done (by repeat (first | exact .refl | apply Drop.skip)))))

end Go.Proofs.YtmohikdmdmplaaaGreat.L
