/-
  Check: the law CheckPlaces. Own work, printed in part by a program of its own.
-/
import Derived.Test.YtgmdlhlmffdbhaaDoorChkL
set_option linter.unusedSimpArgs false
set_option linter.unusedVariables false
set_option linter.unusedSectionVars false
namespace Go.Proofs.YtgmdlhlmffdbhaaDoor.L
open Go.L Go.L.Lx Go.L.Pg
attribute [local irreducible] isName

set_option maxRecDepth 8000 in
set_option maxHeartbeats 1000000 in
theorem CheckPlaces_n {W : World} (hG : Gok W) (pa : Option Addr) (pc : Nat) (KK : List Knd) (hA : ∀ h, base W h → PrgOk h pa pc KK) (hR : prgF KK = none) : FnS Tryd.prog 6 [.agg #[.slice pa KK.length pc]] [base W] (fun u Bs => u = .bool true ∧ Bs = [base W]) := by
  refine fn_body Tryd.func6 rfl rfl rfl ?_
  intro W0 R
  simp only [List.zipIdx_cons, List.zipIdx_nil, List.map_cons, List.map_nil, Nat.zero_add, Nat.reduceAdd, List.cons_append, List.nil_append]
  refine g_seq ?_
  refine g_region ?_
  refine gl_n rfl (o_boxA rfl) ?_
  rintro _ _ ⟨b1, rfl, rfl⟩
  refine gl_v rfl (o_assign rfl) ?_
  refine gl_nil ?_
  refine ge_then ?_
  refine g_seq ?_
  refine g_seq ?_
  refine g_region ?_
  refine gl_c rfl (o_call rfl (alive_spec hG) (by repeat (first | exact .nil | (apply Part.cons; · (repeat (first | exact .head | apply Sel.tail)))))) ?_
  rintro _ R ⟨_, ⟨rfl, rfl⟩, rfl⟩
  try simp only [List.cons_append, List.nil_append]
  refine gl_v rfl (o_is (c := false) (by rfl) (o_not rfl)) ?_
  refine gl_nil ?_
  refine ge_then ?_
  refine g_cond_false rfl ?_
  refine g_skip ?_
  refine ge_then ?_
  refine g_seq ?_
  refine g_region ?_
  first | refine gl_v rfl (o_loadSA rfl rfl rfl) ?_ | refine gl_v rfl (o_loadA rfl rfl rfl) ?_
  refine gl_c rfl (o_call rfl (ep_none (prog' pa pc KK (base W) hA) hR) (by repeat (first | exact .nil | (apply Part.cons; · (repeat (first | exact .head | apply Sel.tail)))))) ?_
  rintro _ R ⟨_, ⟨rfl, rfl⟩, rfl⟩
  try simp only [List.cons_append, List.nil_append]
  refine gl_c rfl (o_call rfl (Where_nil) (by repeat (first | exact .nil | (apply Part.cons; · (repeat (first | exact .head | apply Sel.tail)))))) ?_
  rintro _ R ⟨_, ⟨rfl, rfl⟩, rfl⟩
  try simp only [List.cons_append, List.nil_append]
  refine gl_v rfl (o_assign rfl) ?_
  refine gl_nil ?_
  refine ge_then ?_
  refine g_seq ?_
  refine g_seq ?_
  refine g_draw [] [] [(0, .loc), (1, .loc), (2, .loc), (3, .loc), (4, .loc), (5, .loc), (6, .loc), (7, .loc), (8, .loc), (9, .loc), (10, .loc), (11, .loc), (12, .loc), (13, .loc), (14, .loc), (15, .loc), (16, .loc), (17, .loc), (18, .loc), (19, .loc), (20, .loc), (21, .loc), (22, .loc)] [] mixed (by kernel_rfl) ?_
  refine go_v rfl .none rfl (o_move rfl) ?_
  refine go_v rfl .none rfl (o_lenL rfl) ?_
  refine go_v rfl .none rfl (o_is (c := false) (by first | rfl | exact decide_eq_false (by omega) | (simp only [List.length]; exact decide_eq_false (by omega))) (o_gtr rfl rfl)) ?_
  refine go_v rfl .none rfl (o_move rfl) ?_
  refine go_v rfl (.yes rfl rfl rfl) rfl (o_move rfl) ?_
  refine go_v rfl (.yes rfl rfl rfl) rfl (o_lenL rfl) ?_
  refine go_v rfl (.yes rfl rfl rfl) rfl (o_is (c := false) (by first | rfl | exact decide_eq_false (by omega) | (simp only [List.length]; exact decide_eq_false (by omega))) (o_gtr rfl rfl)) ?_
  refine go_v rfl (.yes rfl rfl rfl) rfl (o_move rfl) ?_
  refine go_skip rfl (.no rfl rfl rfl) rfl ?_
  refine go_skip rfl (.no rfl rfl rfl) rfl ?_
  refine go_skip rfl (.no rfl rfl rfl) rfl ?_
  refine go_skip rfl (.no rfl rfl rfl) rfl ?_
  refine go_skip rfl (.no rfl rfl rfl) rfl ?_
  refine go_skip rfl (.un rfl rfl) rfl ?_
  refine go_skip rfl (.un rfl rfl) rfl ?_
  refine go_skip rfl (.un rfl rfl) rfl ?_
  refine go_skip rfl (.un rfl rfl) rfl ?_
  refine go_skip rfl (.un rfl rfl) rfl ?_
  refine go_skip rfl (.un rfl rfl) rfl ?_
  refine go_skip rfl (.un rfl rfl) rfl ?_
  refine go_skip rfl (.no rfl rfl rfl) rfl ?_
  refine go_v rfl (.yes rfl rfl rfl) rfl (o_pickF rfl rfl rfl) ?_
  refine go_v rfl .none rfl (o_pickF rfl rfl rfl) ?_
  refine go_nil ?_
  refine ge_then ?_
  refine g_cond_false rfl ?_
  refine g_skip ?_
  refine ge_then ?_
  refine g_seq ?_
  refine g_seq ?_
  refine g_region ?_
  refine gl_v rfl (o_move rfl) ?_
  refine gl_v rfl (o_lenL rfl) ?_
  refine gl_v rfl (o_is (c := true) (by first | rfl | exact decide_eq_true (by omega) | (simp only [List.length]; exact decide_eq_true (by omega))) (o_lss rfl rfl)) ?_
  refine gl_nil ?_
  refine ge_then ?_
  refine g_cond_true rfl ?_
  refine g_seq ?_
  refine g_region ?_
  refine gl_v rfl (o_assign rfl) ?_
  refine gl_nil ?_
  refine ge_then ?_
  refine g_ret ?_
  refine ge_then_ret ?_
  refine ret1 (.inl rfl) rfl rfl [base W] (⟨rfl, rfl⟩) (To.sat (by repeat (first | exact .nil | exact .done .refl | (apply To.cons; · (repeat (first | exact .head | apply Sel.tail))) | exact .done (by repeat (first | exact .refl | apply Drop.skip)))))

set_option maxRecDepth 8000 in
set_option maxHeartbeats 1000000 in
theorem CheckPlaces_0 {W : World} (hG : Gok W) (pa : Option Addr) (pc : Nat) (KK : List Knd) (hA : ∀ h, base W h → PrgOk h pa pc KK) (c : Int) (hR : prgF KK = some (c, [])) : FnS Tryd.prog 6 [.agg #[.slice pa KK.length pc]] [base W] (fun u Bs => u = .bool true ∧ Bs = [base W]) := by
  refine fn_body Tryd.func6 rfl rfl rfl ?_
  intro W0 R
  simp only [List.zipIdx_cons, List.zipIdx_nil, List.map_cons, List.map_nil, Nat.zero_add, Nat.reduceAdd, List.cons_append, List.nil_append]
  obtain ⟨hb, hwb⟩ : ∃ h, base W h := ⟨hpOf W, fun _ _ => rfl⟩
  have hb0 := hA _ hwb
  have hKn := hb0.len; have hKc := hb0.rd.2
  haveI rK : RdA (.slice pa KK.length pc) (base W) KK.length (KK.flatMap kndC) := ⟨fun h => (hA _ h).rd.1⟩
  unfold ok63 at *
  
  refine g_seq ?_
  refine g_region ?_
  refine gl_n rfl (o_boxA rfl) ?_
  rintro _ _ ⟨b1, rfl, rfl⟩
  refine gl_v rfl (o_assign rfl) ?_
  refine gl_nil ?_
  refine ge_then ?_
  refine g_seq ?_
  refine g_seq ?_
  refine g_region ?_
  refine gl_c rfl (o_call rfl (alive_spec hG) (by repeat (first | exact .nil | (apply Part.cons; · (repeat (first | exact .head | apply Sel.tail)))))) ?_
  rintro _ R ⟨_, ⟨rfl, rfl⟩, rfl⟩
  try simp only [List.cons_append, List.nil_append]
  refine gl_v rfl (o_is (c := false) (by rfl) (o_not rfl)) ?_
  refine gl_nil ?_
  refine ge_then ?_
  refine g_cond_false rfl ?_
  refine g_skip ?_
  refine ge_then ?_
  refine g_seq ?_
  refine g_region ?_
  first | refine gl_v rfl (o_loadSA rfl rfl rfl) ?_ | refine gl_v rfl (o_loadA rfl rfl rfl) ?_
  refine gl_c rfl (o_call rfl (ep_some (prog' pa pc KK (base W) hA) hR) (by repeat (first | exact .nil | (apply Part.cons; · (repeat (first | exact .head | apply Sel.tail)))))) ?_
  rintro _ R ⟨_, ⟨b, a, cp, rfl, rfl⟩, rfl⟩
  try simp only [List.cons_append, List.nil_append]
  refine gl_c rfl (o_call rfl (Where_bad hG b c a cp [] (by simp)) (by repeat (first | exact .nil | (apply Part.cons; · (repeat (first | exact .head | apply Sel.tail)))))) ?_
  rintro _ R ⟨_, ⟨a3, cp3, rfl, rfl⟩, rfl⟩
  try simp only [List.cons_append, List.nil_append]
  refine gl_v rfl (o_assign rfl) ?_
  refine gl_nil ?_
  refine ge_then ?_
  refine g_seq ?_
  refine g_seq ?_
  refine g_draw [] [] [(0, .loc), (1, .loc), (2, .loc), (3, .loc), (4, .loc), (5, .loc), (6, .loc), (7, .loc), (8, .loc), (9, .loc), (10, .loc), (11, .loc), (12, .loc), (13, .loc), (14, .loc), (15, .loc), (16, .loc), (17, .loc), (18, .loc), (19, .loc), (20, .loc), (21, .loc), (22, .loc)] [] mixed (by kernel_rfl) ?_
  refine go_v rfl .none rfl (o_move rfl) ?_
  refine go_v rfl .none rfl (o_lenL rfl) ?_
  refine go_v rfl .none rfl (o_is (c := false) (by first | rfl | exact decide_eq_false (by omega) | (simp only [List.length]; exact decide_eq_false (by omega))) (o_gtr rfl rfl)) ?_
  refine go_v rfl .none rfl (o_move rfl) ?_
  refine go_v rfl (.yes rfl rfl rfl) rfl (o_move rfl) ?_
  refine go_v rfl (.yes rfl rfl rfl) rfl (o_lenL rfl) ?_
  refine go_v rfl (.yes rfl rfl rfl) rfl (o_is (c := false) (by first | rfl | exact decide_eq_false (by omega) | (simp only [List.length]; exact decide_eq_false (by omega))) (o_gtr rfl rfl)) ?_
  refine go_v rfl (.yes rfl rfl rfl) rfl (o_move rfl) ?_
  refine go_skip rfl (.no rfl rfl rfl) rfl ?_
  refine go_skip rfl (.no rfl rfl rfl) rfl ?_
  refine go_skip rfl (.no rfl rfl rfl) rfl ?_
  refine go_skip rfl (.no rfl rfl rfl) rfl ?_
  refine go_skip rfl (.no rfl rfl rfl) rfl ?_
  refine go_skip rfl (.un rfl rfl) rfl ?_
  refine go_skip rfl (.un rfl rfl) rfl ?_
  refine go_skip rfl (.un rfl rfl) rfl ?_
  refine go_skip rfl (.un rfl rfl) rfl ?_
  refine go_skip rfl (.un rfl rfl) rfl ?_
  refine go_skip rfl (.un rfl rfl) rfl ?_
  refine go_skip rfl (.un rfl rfl) rfl ?_
  refine go_skip rfl (.no rfl rfl rfl) rfl ?_
  refine go_v rfl (.yes rfl rfl rfl) rfl (o_pickF rfl rfl rfl) ?_
  refine go_v rfl .none rfl (o_pickF rfl rfl rfl) ?_
  refine go_nil ?_
  refine ge_then ?_
  refine g_cond_false rfl ?_
  refine g_skip ?_
  refine ge_then ?_
  refine g_seq ?_
  refine g_seq ?_
  refine g_region ?_
  refine gl_v rfl (o_move rfl) ?_
  refine gl_v rfl (o_lenL rfl) ?_
  refine gl_v rfl (o_is (c := true) (by first | rfl | exact decide_eq_true (by omega) | (simp only [List.length]; exact decide_eq_true (by omega))) (o_lss rfl rfl)) ?_
  refine gl_nil ?_
  refine ge_then ?_
  refine g_cond_true rfl ?_
  refine g_seq ?_
  refine g_region ?_
  refine gl_v rfl (o_assign rfl) ?_
  refine gl_nil ?_
  refine ge_then ?_
  refine g_ret ?_
  refine ge_then_ret ?_
  refine ret1 (.inl rfl) rfl rfl [base W] (⟨rfl, rfl⟩) (To.sat (by repeat (first | exact .nil | exact .done .refl | (apply To.cons; · (repeat (first | exact .head | apply Sel.tail))) | exact .done (by repeat (first | exact .refl | apply Drop.skip)))))

set_option maxRecDepth 8000 in
set_option maxHeartbeats 1000000 in
theorem CheckPlaces_1 {W : World} (hG : Gok W) (pa : Option Addr) (pc : Nat) (KK : List Knd) (hA : ∀ h, base W h → PrgOk h pa pc KK) (c : Int) (i : Nat) (k : Knd) (hk : KK[i]? = some k) (hR : prgF KK = some (c, [((i + 1 : Nat) : Int)])) : FnS Tryd.prog 6 [.agg #[.slice pa KK.length pc]] [base W] (fun u Bs => u = .bool true ∧ Bs = [base W]) := by
  refine fn_body Tryd.func6 rfl rfl rfl ?_
  intro W0 R
  simp only [List.zipIdx_cons, List.zipIdx_nil, List.map_cons, List.map_nil, Nat.zero_add, Nat.reduceAdd, List.cons_append, List.nil_append]
  obtain ⟨hb, hwb⟩ : ∃ h, base W h := ⟨hpOf W, fun _ _ => rfl⟩
  have hb0 := hA _ hwb
  have hKn := hb0.len; have hKc := hb0.rd.2
  haveI rK : RdA (.slice pa KK.length pc) (base W) KK.length (KK.flatMap kndC) := ⟨fun h => (hA _ h).rd.1⟩
  have hiL := (List.getElem?_eq_some_iff.1 hk).1
  have hkm := List.mem_of_getElem? hk
  have hkO := hb0.kinds k hkm
  have hSn := hkO.lens
  haveI rS : RdA (.slice k.sa k.states.length k.sc) (base W) k.states.length (k.states.flatMap staC) := ⟨fun h => ((hA _ h).kinds k hkm).rds.1⟩
  unfold ok63 at *
  
  refine g_seq ?_
  refine g_region ?_
  refine gl_n rfl (o_boxA rfl) ?_
  rintro _ _ ⟨b1, rfl, rfl⟩
  refine gl_v rfl (o_assign rfl) ?_
  refine gl_nil ?_
  refine ge_then ?_
  refine g_seq ?_
  refine g_seq ?_
  refine g_region ?_
  refine gl_c rfl (o_call rfl (alive_spec hG) (by repeat (first | exact .nil | (apply Part.cons; · (repeat (first | exact .head | apply Sel.tail)))))) ?_
  rintro _ R ⟨_, ⟨rfl, rfl⟩, rfl⟩
  try simp only [List.cons_append, List.nil_append]
  refine gl_v rfl (o_is (c := false) (by rfl) (o_not rfl)) ?_
  refine gl_nil ?_
  refine ge_then ?_
  refine g_cond_false rfl ?_
  refine g_skip ?_
  refine ge_then ?_
  refine g_seq ?_
  refine g_region ?_
  first | refine gl_v rfl (o_loadSA rfl rfl rfl) ?_ | refine gl_v rfl (o_loadA rfl rfl rfl) ?_
  refine gl_c rfl (o_call rfl (ep_some (prog' pa pc KK (base W) hA) hR) (by repeat (first | exact .nil | (apply Part.cons; · (repeat (first | exact .head | apply Sel.tail)))))) ?_
  rintro _ R ⟨_, ⟨b, a, cp, rfl, rfl⟩, rfl⟩
  try simp only [List.cons_append, List.nil_append]
  refine gl_c rfl (o_call rfl (Where_bad hG b c a cp [((i + 1 : Nat) : Int)] (by simp)) (by repeat (first | exact .nil | (apply Part.cons; · (repeat (first | exact .head | apply Sel.tail)))))) ?_
  rintro _ R ⟨_, ⟨a3, cp3, rfl, rfl⟩, rfl⟩
  try simp only [List.cons_append, List.nil_append]
  refine gl_v rfl (o_assign rfl) ?_
  refine gl_nil ?_
  refine ge_then ?_
  refine g_seq ?_
  refine g_seq ?_
  refine g_draw [] [] [(0, .loc), (1, .loc), (2, .loc), (3, .loc), (4, .loc), (5, .loc), (6, .loc), (7, .loc), (8, .loc), (9, .loc), (10, .loc), (11, .loc), (12, .loc), (13, .loc), (14, .loc), (15, .loc), (16, .loc), (17, .loc), (18, .loc), (19, .loc), (20, .loc), (21, .loc), (22, .loc)] [] mixed (by kernel_rfl) ?_
  refine go_v rfl .none rfl (o_move rfl) ?_
  refine go_v rfl .none rfl (o_lenL rfl) ?_
  refine go_v rfl .none rfl (o_is (c := false) (by first | rfl | exact decide_eq_false (by omega) | (simp only [List.length]; exact decide_eq_false (by omega))) (o_gtr rfl rfl)) ?_
  refine go_v rfl .none rfl (o_move rfl) ?_
  refine go_v rfl (.yes rfl rfl rfl) rfl (o_move rfl) ?_
  refine go_v rfl (.yes rfl rfl rfl) rfl (o_lenL rfl) ?_
  refine go_v rfl (.yes rfl rfl rfl) rfl (o_is (c := true) (by first | rfl | exact decide_eq_true (by omega) | (simp only [List.length]; exact decide_eq_true (by omega))) (o_gtr rfl rfl)) ?_
  refine go_v rfl (.yes rfl rfl rfl) rfl (o_move rfl) ?_
  refine go_v rfl (.yes rfl rfl rfl) rfl (o_move rfl) ?_
  refine go_v rfl (.yes rfl rfl rfl) rfl (o_idxS rfl rfl (by simp)) ?_
  refine go_v rfl (.yes rfl rfl rfl) rfl (o_loadS rfl rfl) ?_
  refine go_v rfl (.yes rfl rfl rfl) rfl (o_is (c := false) (by first | rfl | exact decide_eq_false (by omega) | (simp only [List.length]; exact decide_eq_false (by omega))) (o_lss rfl rfl)) ?_
  refine go_v rfl (.yes rfl rfl rfl) rfl (o_move rfl) ?_
  refine go_v rfl (.yes rfl rfl rfl) rfl (o_move rfl) ?_
  refine go_v rfl (.yes rfl rfl rfl) rfl (o_idxS rfl rfl (by simp)) ?_
  refine go_v rfl (.yes rfl rfl rfl) rfl (o_loadS rfl rfl) ?_
  first | refine go_v rfl (.yes rfl rfl rfl) rfl (o_fldS rfl) ?_ | refine go_v rfl (.yes rfl rfl rfl) rfl (o_fld rfl) ?_
  first | refine go_v rfl (.yes rfl rfl rfl) rfl (o_load rfl rfl) ?_ | refine go_v rfl (.yes rfl rfl rfl) rfl (o_loadS rfl rfl) ?_ | refine go_v rfl (.yes rfl rfl rfl) rfl (o_loadC rfl) ?_
  refine go_v rfl (.yes rfl rfl rfl) rfl (o_lenL rfl) ?_
  refine go_v rfl (.yes rfl rfl rfl) rfl (o_is (c := false) (by first | rfl | exact decide_eq_false (by omega) | (simp only [List.length]; exact decide_eq_false (by omega))) (o_gtr rfl rfl)) ?_
  refine go_v rfl (.yes rfl rfl rfl) rfl (o_pickF rfl rfl rfl) ?_
  refine go_v rfl (.yes rfl rfl rfl) rfl (o_pickT rfl rfl rfl) ?_
  refine go_v rfl .none rfl (o_pickF rfl rfl rfl) ?_
  refine go_nil ?_
  refine ge_then ?_
  refine g_cond_false rfl ?_
  refine g_skip ?_
  refine ge_then ?_
  refine g_seq ?_
  refine g_seq ?_
  refine g_region ?_
  refine gl_v rfl (o_move rfl) ?_
  refine gl_v rfl (o_lenL rfl) ?_
  refine gl_v rfl (o_is (c := true) (by first | rfl | exact decide_eq_true (by omega) | (simp only [List.length]; exact decide_eq_true (by omega))) (o_lss rfl rfl)) ?_
  refine gl_nil ?_
  refine ge_then ?_
  refine g_cond_true rfl ?_
  refine g_seq ?_
  refine g_region ?_
  refine gl_v rfl (o_assign rfl) ?_
  refine gl_nil ?_
  refine ge_then ?_
  refine g_ret ?_
  refine ge_then_ret ?_
  refine ret1 (.inl rfl) rfl rfl [base W] (⟨rfl, rfl⟩) (To.sat (by repeat (first | exact .nil | exact .done .refl | (apply To.cons; · (repeat (first | exact .head | apply Sel.tail))) | exact .done (by repeat (first | exact .refl | apply Drop.skip)))))

set_option maxRecDepth 8000 in
set_option maxHeartbeats 1000000 in
theorem CheckPlaces_2 {W : World} (hG : Gok W) (pa : Option Addr) (pc : Nat) (KK : List Knd) (hA : ∀ h, base W h → PrgOk h pa pc KK) (c : Int) (i : Nat) (k : Knd) (hk : KK[i]? = some k) (j : Nat) (s : Sta) (hs : k.states[j]? = some s) (hR : prgF KK = some (c, [((i + 1 : Nat) : Int), ((j + 1 : Nat) : Int)])) : FnS Tryd.prog 6 [.agg #[.slice pa KK.length pc]] [base W] (fun u Bs => u = .bool true ∧ Bs = [base W]) := by
  refine fn_body Tryd.func6 rfl rfl rfl ?_
  intro W0 R
  simp only [List.zipIdx_cons, List.zipIdx_nil, List.map_cons, List.map_nil, Nat.zero_add, Nat.reduceAdd, List.cons_append, List.nil_append]
  obtain ⟨hb, hwb⟩ : ∃ h, base W h := ⟨hpOf W, fun _ _ => rfl⟩
  have hb0 := hA _ hwb
  have hKn := hb0.len; have hKc := hb0.rd.2
  haveI rK : RdA (.slice pa KK.length pc) (base W) KK.length (KK.flatMap kndC) := ⟨fun h => (hA _ h).rd.1⟩
  have hiL := (List.getElem?_eq_some_iff.1 hk).1
  have hkm := List.mem_of_getElem? hk
  have hkO := hb0.kinds k hkm
  have hSn := hkO.lens
  haveI rS : RdA (.slice k.sa k.states.length k.sc) (base W) k.states.length (k.states.flatMap staC) := ⟨fun h => ((hA _ h).kinds k hkm).rds.1⟩
  have hjL := (List.getElem?_eq_some_iff.1 hs).1
  have hsm := List.mem_of_getElem? hs
  have hsO := hkO.states s hsm
  have hRn := hsO.len
  haveI rR : RdA (.slice s.ra s.rows.length s.rc) (base W) s.rows.length (s.rows.flatMap rowC) := ⟨fun h => (((hA _ h).kinds k hkm).states s hsm).rd.1⟩
  unfold ok63 at *
  
  refine g_seq ?_
  refine g_region ?_
  refine gl_n rfl (o_boxA rfl) ?_
  rintro _ _ ⟨b1, rfl, rfl⟩
  refine gl_v rfl (o_assign rfl) ?_
  refine gl_nil ?_
  refine ge_then ?_
  refine g_seq ?_
  refine g_seq ?_
  refine g_region ?_
  refine gl_c rfl (o_call rfl (alive_spec hG) (by repeat (first | exact .nil | (apply Part.cons; · (repeat (first | exact .head | apply Sel.tail)))))) ?_
  rintro _ R ⟨_, ⟨rfl, rfl⟩, rfl⟩
  try simp only [List.cons_append, List.nil_append]
  refine gl_v rfl (o_is (c := false) (by rfl) (o_not rfl)) ?_
  refine gl_nil ?_
  refine ge_then ?_
  refine g_cond_false rfl ?_
  refine g_skip ?_
  refine ge_then ?_
  refine g_seq ?_
  refine g_region ?_
  first | refine gl_v rfl (o_loadSA rfl rfl rfl) ?_ | refine gl_v rfl (o_loadA rfl rfl rfl) ?_
  refine gl_c rfl (o_call rfl (ep_some (prog' pa pc KK (base W) hA) hR) (by repeat (first | exact .nil | (apply Part.cons; · (repeat (first | exact .head | apply Sel.tail)))))) ?_
  rintro _ R ⟨_, ⟨b, a, cp, rfl, rfl⟩, rfl⟩
  try simp only [List.cons_append, List.nil_append]
  refine gl_c rfl (o_call rfl (Where_bad hG b c a cp [((i + 1 : Nat) : Int), ((j + 1 : Nat) : Int)] (by simp)) (by repeat (first | exact .nil | (apply Part.cons; · (repeat (first | exact .head | apply Sel.tail)))))) ?_
  rintro _ R ⟨_, ⟨a3, cp3, rfl, rfl⟩, rfl⟩
  try simp only [List.cons_append, List.nil_append]
  refine gl_v rfl (o_assign rfl) ?_
  refine gl_nil ?_
  refine ge_then ?_
  refine g_seq ?_
  refine g_seq ?_
  refine g_draw [] [] [(0, .loc), (1, .loc), (2, .loc), (3, .loc), (4, .loc), (5, .loc), (6, .loc), (7, .loc), (8, .loc), (9, .loc), (10, .loc), (11, .loc), (12, .loc), (13, .loc), (14, .loc), (15, .loc), (16, .loc), (17, .loc), (18, .loc), (19, .loc), (20, .loc), (21, .loc), (22, .loc)] [] mixed (by kernel_rfl) ?_
  refine go_v rfl .none rfl (o_move rfl) ?_
  refine go_v rfl .none rfl (o_lenL rfl) ?_
  refine go_v rfl .none rfl (o_is (c := false) (by first | rfl | exact decide_eq_false (by omega) | (simp only [List.length]; exact decide_eq_false (by omega))) (o_gtr rfl rfl)) ?_
  refine go_v rfl .none rfl (o_move rfl) ?_
  refine go_v rfl (.yes rfl rfl rfl) rfl (o_move rfl) ?_
  refine go_v rfl (.yes rfl rfl rfl) rfl (o_lenL rfl) ?_
  refine go_v rfl (.yes rfl rfl rfl) rfl (o_is (c := true) (by first | rfl | exact decide_eq_true (by omega) | (simp only [List.length]; exact decide_eq_true (by omega))) (o_gtr rfl rfl)) ?_
  refine go_v rfl (.yes rfl rfl rfl) rfl (o_move rfl) ?_
  refine go_v rfl (.yes rfl rfl rfl) rfl (o_move rfl) ?_
  refine go_v rfl (.yes rfl rfl rfl) rfl (o_idxS rfl rfl (by simp)) ?_
  refine go_v rfl (.yes rfl rfl rfl) rfl (o_loadS rfl rfl) ?_
  refine go_v rfl (.yes rfl rfl rfl) rfl (o_is (c := false) (by first | rfl | exact decide_eq_false (by omega) | (simp only [List.length]; exact decide_eq_false (by omega))) (o_lss rfl rfl)) ?_
  refine go_v rfl (.yes rfl rfl rfl) rfl (o_move rfl) ?_
  refine go_v rfl (.yes rfl rfl rfl) rfl (o_move rfl) ?_
  refine go_v rfl (.yes rfl rfl rfl) rfl (o_idxS rfl rfl (by simp)) ?_
  refine go_v rfl (.yes rfl rfl rfl) rfl (o_loadS rfl rfl) ?_
  first | refine go_v rfl (.yes rfl rfl rfl) rfl (o_fldS rfl) ?_ | refine go_v rfl (.yes rfl rfl rfl) rfl (o_fld rfl) ?_
  first | refine go_v rfl (.yes rfl rfl rfl) rfl (o_load rfl rfl) ?_ | refine go_v rfl (.yes rfl rfl rfl) rfl (o_loadS rfl rfl) ?_ | refine go_v rfl (.yes rfl rfl rfl) rfl (o_loadC rfl) ?_
  refine go_v rfl (.yes rfl rfl rfl) rfl (o_lenL rfl) ?_
  refine go_v rfl (.yes rfl rfl rfl) rfl (o_is (c := false) (by first | rfl | exact decide_eq_false (by omega) | (simp only [List.length]; exact decide_eq_false (by omega))) (o_gtr rfl rfl)) ?_
  refine go_v rfl (.yes rfl rfl rfl) rfl (o_pickF rfl rfl rfl) ?_
  refine go_v rfl (.yes rfl rfl rfl) rfl (o_pickT rfl rfl rfl) ?_
  refine go_v rfl .none rfl (o_pickF rfl rfl rfl) ?_
  refine go_nil ?_
  refine ge_then ?_
  refine g_cond_false rfl ?_
  refine g_skip ?_
  refine ge_then ?_
  refine g_seq ?_
  refine g_seq ?_
  refine g_region ?_
  refine gl_v rfl (o_move rfl) ?_
  refine gl_v rfl (o_lenL rfl) ?_
  refine gl_v rfl (o_is (c := false) (by first | rfl | exact decide_eq_false (by omega) | (simp only [List.length]; exact decide_eq_false (by omega))) (o_lss rfl rfl)) ?_
  refine gl_nil ?_
  refine ge_then ?_
  refine g_cond_false rfl ?_
  refine g_skip ?_
  refine ge_then ?_
  refine g_seq ?_
  refine g_draw [8, 9] [8] [(0, .stab), (1, .stab), (2, .stab), (3, .stab), (4, .stab), (5, .stab), (6, .stab), (7, .stab), (8, .eff), (9, .eff)] [cel b1 24 [.slice pa KK.length pc], intsA a3 cp3 [((i + 1 : Nat) : Int), ((j + 1 : Nat) : Int)], base W] mixed (by kernel_rfl) ?_
  first | refine go_vs rfl .none rfl (o_fldS rfl) (To.sat (by repeat (first | exact .nil | exact .done .refl | (apply To.cons; · (repeat (first | exact .head | apply Sel.tail))) | exact .done (by repeat (first | exact .refl | apply Drop.skip))))) ?_ | refine go_vs rfl .none rfl (o_fld rfl) (To.sat (by repeat (first | exact .nil | exact .done .refl | (apply To.cons; · (repeat (first | exact .head | apply Sel.tail))) | exact .done (by repeat (first | exact .refl | apply Drop.skip))))) ?_
  first | refine go_vs rfl .none rfl (o_load rfl rfl) (To.sat (by repeat (first | exact .nil | exact .done .refl | (apply To.cons; · (repeat (first | exact .head | apply Sel.tail))) | exact .done (by repeat (first | exact .refl | apply Drop.skip))))) ?_ | refine go_vs rfl .none rfl (o_loadS rfl rfl) (To.sat (by repeat (first | exact .nil | exact .done .refl | (apply To.cons; · (repeat (first | exact .head | apply Sel.tail))) | exact .done (by repeat (first | exact .refl | apply Drop.skip))))) ?_ | refine go_vs rfl .none rfl (o_loadC rfl) (To.sat (by repeat (first | exact .nil | exact .done .refl | (apply To.cons; · (repeat (first | exact .head | apply Sel.tail))) | exact .done (by repeat (first | exact .refl | apply Drop.skip))))) ?_
  refine go_vs rfl .none rfl (o_move rfl) (To.sat (by repeat (first | exact .nil | exact .done .refl | (apply To.cons; · (repeat (first | exact .head | apply Sel.tail))) | exact .done (by repeat (first | exact .refl | apply Drop.skip))))) ?_
  refine go_vs rfl .none rfl (o_idxS rfl rfl (by simp)) (To.sat (by repeat (first | exact .nil | exact .done .refl | (apply To.cons; · (repeat (first | exact .head | apply Sel.tail))) | exact .done (by repeat (first | exact .refl | apply Drop.skip))))) ?_
  refine go_vs rfl .none rfl (o_loadS rfl rfl) (To.sat (by repeat (first | exact .nil | exact .done .refl | (apply To.cons; · (repeat (first | exact .head | apply Sel.tail))) | exact .done (by repeat (first | exact .refl | apply Drop.skip))))) ?_
  refine go_vs rfl .none rfl (o_subR ((i : Nat) : Int) (by rw [wr_i64 (by omega)]; omega) rfl rfl) (To.sat (by repeat (first | exact .nil | exact .done .refl | (apply To.cons; · (repeat (first | exact .head | apply Sel.tail))) | exact .done (by repeat (first | exact .refl | apply Drop.skip))))) ?_
  refine go_vs rfl .none rfl (o_idxS rfl rfl hiL) (To.sat (by repeat (first | exact .nil | exact .done .refl | (apply To.cons; · (repeat (first | exact .head | apply Sel.tail))) | exact .done (by repeat (first | exact .refl | apply Drop.skip))))) ?_
  refine go_vs rfl .none rfl (o_loadSA rfl (flat_take kndC 5 kndC_len hk) rfl) (To.sat (by repeat (first | exact .nil | exact .done .refl | (apply To.cons; · (repeat (first | exact .head | apply Sel.tail))) | exact .done (by repeat (first | exact .refl | apply Drop.skip))))) ?_
  refine go_n rfl .none rfl (o_alloc) ?_
  rintro _ _ ⟨b4, rfl, rfl⟩
  refine ⟨(fun _ => (To.sat (by repeat (first | exact .nil | exact .done .refl | (apply To.cons; · (repeat (first | exact .head | apply Sel.tail))) | exact .done (by repeat (first | exact .refl | apply Drop.skip)))))), ?_⟩
  first | refine go_u rfl .none (o_storeSA rfl rfl rfl rfl (by simp; omega) (by simp)) (fun hG => absurd hG (by decide)) ?_ | refine go_u rfl .none (o_storeA rfl rfl rfl rfl rfl) (fun hG => absurd hG (by decide)) ?_
  refine go_nil ?_
  refine ge_then ?_
  refine g_seq ?_
  refine g_seq ?_
  refine g_draw [] [] [(0, .loc), (1, .loc), (2, .loc), (3, .loc), (4, .loc), (5, .loc), (6, .loc), (7, .loc), (8, .loc), (9, .loc), (10, .loc), (11, .loc), (12, .loc)] [] mixed (by kernel_rfl) ?_
  refine go_v rfl .none rfl (o_move rfl) ?_
  refine go_v rfl .none rfl (o_idxS rfl rfl (by simp)) ?_
  refine go_v rfl .none rfl (o_loadS rfl rfl) ?_
  refine go_v rfl .none rfl (o_is (c := false) (by first | rfl | exact decide_eq_false (by omega) | (simp only [List.length]; exact decide_eq_false (by omega))) (o_lss rfl rfl)) ?_
  refine go_v rfl .none rfl (o_move rfl) ?_
  refine go_v rfl (.yes rfl rfl rfl) rfl (o_move rfl) ?_
  refine go_v rfl (.yes rfl rfl rfl) rfl (o_idxS rfl rfl (by simp)) ?_
  refine go_v rfl (.yes rfl rfl rfl) rfl (o_loadS rfl rfl) ?_
  first | refine go_v rfl (.yes rfl rfl rfl) rfl (o_fldS rfl) ?_ | refine go_v rfl (.yes rfl rfl rfl) rfl (o_fld rfl) ?_
  first | refine go_v rfl (.yes rfl rfl rfl) rfl (o_load rfl rfl) ?_ | refine go_v rfl (.yes rfl rfl rfl) rfl (o_loadS rfl rfl) ?_ | refine go_v rfl (.yes rfl rfl rfl) rfl (o_loadC rfl) ?_
  refine go_v rfl (.yes rfl rfl rfl) rfl (o_lenL rfl) ?_
  refine go_v rfl (.yes rfl rfl rfl) rfl (o_is (c := false) (by first | rfl | exact decide_eq_false (by omega) | (simp only [List.length]; exact decide_eq_false (by omega))) (o_gtr rfl rfl)) ?_
  refine go_v rfl .none rfl (o_pickF rfl rfl rfl) ?_
  refine go_nil ?_
  refine ge_then ?_
  refine g_cond_false rfl ?_
  refine g_skip ?_
  refine ge_then ?_
  refine g_seq ?_
  refine g_seq ?_
  refine g_region ?_
  refine gl_v rfl (o_move rfl) ?_
  refine gl_v rfl (o_lenL rfl) ?_
  refine gl_v rfl (o_is (c := true) (by first | rfl | exact decide_eq_true (by omega) | (simp only [List.length]; exact decide_eq_true (by omega))) (o_lss rfl rfl)) ?_
  refine gl_nil ?_
  refine ge_then ?_
  refine g_cond_true rfl ?_
  refine g_seq ?_
  refine g_region ?_
  refine gl_v rfl (o_assign rfl) ?_
  refine gl_nil ?_
  refine ge_then ?_
  refine g_ret ?_
  refine ge_then_ret ?_
  refine ret1 (.inl rfl) rfl rfl [base W] (⟨rfl, rfl⟩) (To.sat (by repeat (first | exact .nil | exact .done .refl | (apply To.cons; · (repeat (first | exact .head | apply Sel.tail))) | exact .done (by repeat (first | exact .refl | apply Drop.skip)))))

set_option maxRecDepth 8000 in
set_option maxHeartbeats 1000000 in
theorem CheckPlaces_3 {W : World} (hG : Gok W) (pa : Option Addr) (pc : Nat) (KK : List Knd) (hA : ∀ h, base W h → PrgOk h pa pc KK) (c : Int) (i : Nat) (k : Knd) (hk : KK[i]? = some k) (j : Nat) (s : Sta) (hs : k.states[j]? = some s) (m : Nat) (r : Row) (hr : s.rows[m]? = some r) (hR : prgF KK = some (c, [((i + 1 : Nat) : Int), ((j + 1 : Nat) : Int), ((m + 1 : Nat) : Int)])) : FnS Tryd.prog 6 [.agg #[.slice pa KK.length pc]] [base W] (fun u Bs => u = .bool true ∧ Bs = [base W]) := by
  refine fn_body Tryd.func6 rfl rfl rfl ?_
  intro W0 R
  simp only [List.zipIdx_cons, List.zipIdx_nil, List.map_cons, List.map_nil, Nat.zero_add, Nat.reduceAdd, List.cons_append, List.nil_append]
  obtain ⟨hb, hwb⟩ : ∃ h, base W h := ⟨hpOf W, fun _ _ => rfl⟩
  have hb0 := hA _ hwb
  have hKn := hb0.len; have hKc := hb0.rd.2
  haveI rK : RdA (.slice pa KK.length pc) (base W) KK.length (KK.flatMap kndC) := ⟨fun h => (hA _ h).rd.1⟩
  have hiL := (List.getElem?_eq_some_iff.1 hk).1
  have hkm := List.mem_of_getElem? hk
  have hkO := hb0.kinds k hkm
  have hSn := hkO.lens
  haveI rS : RdA (.slice k.sa k.states.length k.sc) (base W) k.states.length (k.states.flatMap staC) := ⟨fun h => ((hA _ h).kinds k hkm).rds.1⟩
  have hjL := (List.getElem?_eq_some_iff.1 hs).1
  have hsm := List.mem_of_getElem? hs
  have hsO := hkO.states s hsm
  have hRn := hsO.len
  haveI rR : RdA (.slice s.ra s.rows.length s.rc) (base W) s.rows.length (s.rows.flatMap rowC) := ⟨fun h => (((hA _ h).kinds k hkm).states s hsm).rd.1⟩
  have hmL := (List.getElem?_eq_some_iff.1 hr).1
  have hrm := List.mem_of_getElem? hr
  have hrO := hsO.rows r hrm
  have hEn := hrO.len
  unfold ok63 at *
  
  refine g_seq ?_
  refine g_region ?_
  refine gl_n rfl (o_boxA rfl) ?_
  rintro _ _ ⟨b1, rfl, rfl⟩
  refine gl_v rfl (o_assign rfl) ?_
  refine gl_nil ?_
  refine ge_then ?_
  refine g_seq ?_
  refine g_seq ?_
  refine g_region ?_
  refine gl_c rfl (o_call rfl (alive_spec hG) (by repeat (first | exact .nil | (apply Part.cons; · (repeat (first | exact .head | apply Sel.tail)))))) ?_
  rintro _ R ⟨_, ⟨rfl, rfl⟩, rfl⟩
  try simp only [List.cons_append, List.nil_append]
  refine gl_v rfl (o_is (c := false) (by rfl) (o_not rfl)) ?_
  refine gl_nil ?_
  refine ge_then ?_
  refine g_cond_false rfl ?_
  refine g_skip ?_
  refine ge_then ?_
  refine g_seq ?_
  refine g_region ?_
  first | refine gl_v rfl (o_loadSA rfl rfl rfl) ?_ | refine gl_v rfl (o_loadA rfl rfl rfl) ?_
  refine gl_c rfl (o_call rfl (ep_some (prog' pa pc KK (base W) hA) hR) (by repeat (first | exact .nil | (apply Part.cons; · (repeat (first | exact .head | apply Sel.tail)))))) ?_
  rintro _ R ⟨_, ⟨b, a, cp, rfl, rfl⟩, rfl⟩
  try simp only [List.cons_append, List.nil_append]
  refine gl_c rfl (o_call rfl (Where_bad hG b c a cp [((i + 1 : Nat) : Int), ((j + 1 : Nat) : Int), ((m + 1 : Nat) : Int)] (by simp)) (by repeat (first | exact .nil | (apply Part.cons; · (repeat (first | exact .head | apply Sel.tail)))))) ?_
  rintro _ R ⟨_, ⟨a3, cp3, rfl, rfl⟩, rfl⟩
  try simp only [List.cons_append, List.nil_append]
  refine gl_v rfl (o_assign rfl) ?_
  refine gl_nil ?_
  refine ge_then ?_
  refine g_seq ?_
  refine g_seq ?_
  refine g_draw [] [] [(0, .loc), (1, .loc), (2, .loc), (3, .loc), (4, .loc), (5, .loc), (6, .loc), (7, .loc), (8, .loc), (9, .loc), (10, .loc), (11, .loc), (12, .loc), (13, .loc), (14, .loc), (15, .loc), (16, .loc), (17, .loc), (18, .loc), (19, .loc), (20, .loc), (21, .loc), (22, .loc)] [] mixed (by kernel_rfl) ?_
  refine go_v rfl .none rfl (o_move rfl) ?_
  refine go_v rfl .none rfl (o_lenL rfl) ?_
  refine go_v rfl .none rfl (o_is (c := false) (by first | rfl | exact decide_eq_false (by omega) | (simp only [List.length]; exact decide_eq_false (by omega))) (o_gtr rfl rfl)) ?_
  refine go_v rfl .none rfl (o_move rfl) ?_
  refine go_v rfl (.yes rfl rfl rfl) rfl (o_move rfl) ?_
  refine go_v rfl (.yes rfl rfl rfl) rfl (o_lenL rfl) ?_
  refine go_v rfl (.yes rfl rfl rfl) rfl (o_is (c := true) (by first | rfl | exact decide_eq_true (by omega) | (simp only [List.length]; exact decide_eq_true (by omega))) (o_gtr rfl rfl)) ?_
  refine go_v rfl (.yes rfl rfl rfl) rfl (o_move rfl) ?_
  refine go_v rfl (.yes rfl rfl rfl) rfl (o_move rfl) ?_
  refine go_v rfl (.yes rfl rfl rfl) rfl (o_idxS rfl rfl (by simp)) ?_
  refine go_v rfl (.yes rfl rfl rfl) rfl (o_loadS rfl rfl) ?_
  refine go_v rfl (.yes rfl rfl rfl) rfl (o_is (c := false) (by first | rfl | exact decide_eq_false (by omega) | (simp only [List.length]; exact decide_eq_false (by omega))) (o_lss rfl rfl)) ?_
  refine go_v rfl (.yes rfl rfl rfl) rfl (o_move rfl) ?_
  refine go_v rfl (.yes rfl rfl rfl) rfl (o_move rfl) ?_
  refine go_v rfl (.yes rfl rfl rfl) rfl (o_idxS rfl rfl (by simp)) ?_
  refine go_v rfl (.yes rfl rfl rfl) rfl (o_loadS rfl rfl) ?_
  first | refine go_v rfl (.yes rfl rfl rfl) rfl (o_fldS rfl) ?_ | refine go_v rfl (.yes rfl rfl rfl) rfl (o_fld rfl) ?_
  first | refine go_v rfl (.yes rfl rfl rfl) rfl (o_load rfl rfl) ?_ | refine go_v rfl (.yes rfl rfl rfl) rfl (o_loadS rfl rfl) ?_ | refine go_v rfl (.yes rfl rfl rfl) rfl (o_loadC rfl) ?_
  refine go_v rfl (.yes rfl rfl rfl) rfl (o_lenL rfl) ?_
  refine go_v rfl (.yes rfl rfl rfl) rfl (o_is (c := false) (by first | rfl | exact decide_eq_false (by omega) | (simp only [List.length]; exact decide_eq_false (by omega))) (o_gtr rfl rfl)) ?_
  refine go_v rfl (.yes rfl rfl rfl) rfl (o_pickF rfl rfl rfl) ?_
  refine go_v rfl (.yes rfl rfl rfl) rfl (o_pickT rfl rfl rfl) ?_
  refine go_v rfl .none rfl (o_pickF rfl rfl rfl) ?_
  refine go_nil ?_
  refine ge_then ?_
  refine g_cond_false rfl ?_
  refine g_skip ?_
  refine ge_then ?_
  refine g_seq ?_
  refine g_seq ?_
  refine g_region ?_
  refine gl_v rfl (o_move rfl) ?_
  refine gl_v rfl (o_lenL rfl) ?_
  refine gl_v rfl (o_is (c := false) (by first | rfl | exact decide_eq_false (by omega) | (simp only [List.length]; exact decide_eq_false (by omega))) (o_lss rfl rfl)) ?_
  refine gl_nil ?_
  refine ge_then ?_
  refine g_cond_false rfl ?_
  refine g_skip ?_
  refine ge_then ?_
  refine g_seq ?_
  refine g_draw [8, 9] [8] [(0, .stab), (1, .stab), (2, .stab), (3, .stab), (4, .stab), (5, .stab), (6, .stab), (7, .stab), (8, .eff), (9, .eff)] [cel b1 24 [.slice pa KK.length pc], intsA a3 cp3 [((i + 1 : Nat) : Int), ((j + 1 : Nat) : Int), ((m + 1 : Nat) : Int)], base W] mixed (by kernel_rfl) ?_
  first | refine go_vs rfl .none rfl (o_fldS rfl) (To.sat (by repeat (first | exact .nil | exact .done .refl | (apply To.cons; · (repeat (first | exact .head | apply Sel.tail))) | exact .done (by repeat (first | exact .refl | apply Drop.skip))))) ?_ | refine go_vs rfl .none rfl (o_fld rfl) (To.sat (by repeat (first | exact .nil | exact .done .refl | (apply To.cons; · (repeat (first | exact .head | apply Sel.tail))) | exact .done (by repeat (first | exact .refl | apply Drop.skip))))) ?_
  first | refine go_vs rfl .none rfl (o_load rfl rfl) (To.sat (by repeat (first | exact .nil | exact .done .refl | (apply To.cons; · (repeat (first | exact .head | apply Sel.tail))) | exact .done (by repeat (first | exact .refl | apply Drop.skip))))) ?_ | refine go_vs rfl .none rfl (o_loadS rfl rfl) (To.sat (by repeat (first | exact .nil | exact .done .refl | (apply To.cons; · (repeat (first | exact .head | apply Sel.tail))) | exact .done (by repeat (first | exact .refl | apply Drop.skip))))) ?_ | refine go_vs rfl .none rfl (o_loadC rfl) (To.sat (by repeat (first | exact .nil | exact .done .refl | (apply To.cons; · (repeat (first | exact .head | apply Sel.tail))) | exact .done (by repeat (first | exact .refl | apply Drop.skip))))) ?_
  refine go_vs rfl .none rfl (o_move rfl) (To.sat (by repeat (first | exact .nil | exact .done .refl | (apply To.cons; · (repeat (first | exact .head | apply Sel.tail))) | exact .done (by repeat (first | exact .refl | apply Drop.skip))))) ?_
  refine go_vs rfl .none rfl (o_idxS rfl rfl (by simp)) (To.sat (by repeat (first | exact .nil | exact .done .refl | (apply To.cons; · (repeat (first | exact .head | apply Sel.tail))) | exact .done (by repeat (first | exact .refl | apply Drop.skip))))) ?_
  refine go_vs rfl .none rfl (o_loadS rfl rfl) (To.sat (by repeat (first | exact .nil | exact .done .refl | (apply To.cons; · (repeat (first | exact .head | apply Sel.tail))) | exact .done (by repeat (first | exact .refl | apply Drop.skip))))) ?_
  refine go_vs rfl .none rfl (o_subR ((i : Nat) : Int) (by rw [wr_i64 (by omega)]; omega) rfl rfl) (To.sat (by repeat (first | exact .nil | exact .done .refl | (apply To.cons; · (repeat (first | exact .head | apply Sel.tail))) | exact .done (by repeat (first | exact .refl | apply Drop.skip))))) ?_
  refine go_vs rfl .none rfl (o_idxS rfl rfl hiL) (To.sat (by repeat (first | exact .nil | exact .done .refl | (apply To.cons; · (repeat (first | exact .head | apply Sel.tail))) | exact .done (by repeat (first | exact .refl | apply Drop.skip))))) ?_
  refine go_vs rfl .none rfl (o_loadSA rfl (flat_take kndC 5 kndC_len hk) rfl) (To.sat (by repeat (first | exact .nil | exact .done .refl | (apply To.cons; · (repeat (first | exact .head | apply Sel.tail))) | exact .done (by repeat (first | exact .refl | apply Drop.skip))))) ?_
  refine go_n rfl .none rfl (o_alloc) ?_
  rintro _ _ ⟨b4, rfl, rfl⟩
  refine ⟨(fun _ => (To.sat (by repeat (first | exact .nil | exact .done .refl | (apply To.cons; · (repeat (first | exact .head | apply Sel.tail))) | exact .done (by repeat (first | exact .refl | apply Drop.skip)))))), ?_⟩
  first | refine go_u rfl .none (o_storeSA rfl rfl rfl rfl (by simp; omega) (by simp)) (fun hG => absurd hG (by decide)) ?_ | refine go_u rfl .none (o_storeA rfl rfl rfl rfl rfl) (fun hG => absurd hG (by decide)) ?_
  refine go_nil ?_
  refine ge_then ?_
  refine g_seq ?_
  refine g_seq ?_
  refine g_draw [] [] [(0, .loc), (1, .loc), (2, .loc), (3, .loc), (4, .loc), (5, .loc), (6, .loc), (7, .loc), (8, .loc), (9, .loc), (10, .loc), (11, .loc), (12, .loc)] [] mixed (by kernel_rfl) ?_
  refine go_v rfl .none rfl (o_move rfl) ?_
  refine go_v rfl .none rfl (o_idxS rfl rfl (by simp)) ?_
  refine go_v rfl .none rfl (o_loadS rfl rfl) ?_
  refine go_v rfl .none rfl (o_is (c := false) (by first | rfl | exact decide_eq_false (by omega) | (simp only [List.length]; exact decide_eq_false (by omega))) (o_lss rfl rfl)) ?_
  refine go_v rfl .none rfl (o_move rfl) ?_
  refine go_v rfl (.yes rfl rfl rfl) rfl (o_move rfl) ?_
  refine go_v rfl (.yes rfl rfl rfl) rfl (o_idxS rfl rfl (by simp)) ?_
  refine go_v rfl (.yes rfl rfl rfl) rfl (o_loadS rfl rfl) ?_
  first | refine go_v rfl (.yes rfl rfl rfl) rfl (o_fldS rfl) ?_ | refine go_v rfl (.yes rfl rfl rfl) rfl (o_fld rfl) ?_
  first | refine go_v rfl (.yes rfl rfl rfl) rfl (o_load rfl rfl) ?_ | refine go_v rfl (.yes rfl rfl rfl) rfl (o_loadS rfl rfl) ?_ | refine go_v rfl (.yes rfl rfl rfl) rfl (o_loadC rfl) ?_
  refine go_v rfl (.yes rfl rfl rfl) rfl (o_lenL rfl) ?_
  refine go_v rfl (.yes rfl rfl rfl) rfl (o_is (c := false) (by first | rfl | exact decide_eq_false (by omega) | (simp only [List.length]; exact decide_eq_false (by omega))) (o_gtr rfl rfl)) ?_
  refine go_v rfl .none rfl (o_pickF rfl rfl rfl) ?_
  refine go_nil ?_
  refine ge_then ?_
  refine g_cond_false rfl ?_
  refine g_skip ?_
  refine ge_then ?_
  refine g_seq ?_
  refine g_seq ?_
  refine g_region ?_
  refine gl_v rfl (o_move rfl) ?_
  refine gl_v rfl (o_lenL rfl) ?_
  refine gl_v rfl (o_is (c := false) (by first | rfl | exact decide_eq_false (by omega) | (simp only [List.length]; exact decide_eq_false (by omega))) (o_lss rfl rfl)) ?_
  refine gl_nil ?_
  refine ge_then ?_
  refine g_cond_false rfl ?_
  refine g_skip ?_
  refine ge_then ?_
  refine g_seq ?_
  refine g_draw [] [] [(0, .loc), (1, .loc), (2, .loc), (3, .loc), (4, .loc), (5, .loc), (6, .loc), (7, .loc), (8, .loc), (9, .loc)] [] mixed (by kernel_rfl) ?_
  first | refine go_v rfl .none rfl (o_fldS rfl) ?_ | refine go_v rfl .none rfl (o_fld rfl) ?_
  first | refine go_v rfl .none rfl (o_load rfl rfl) ?_ | refine go_v rfl .none rfl (o_loadS rfl rfl) ?_ | refine go_v rfl .none rfl (o_loadC rfl) ?_
  refine go_v rfl .none rfl (o_move rfl) ?_
  refine go_v rfl .none rfl (o_idxS rfl rfl (by simp)) ?_
  refine go_v rfl .none rfl (o_loadS rfl rfl) ?_
  refine go_v rfl .none rfl (o_subR ((j : Nat) : Int) (by rw [wr_i64 (by omega)]; omega) rfl rfl) ?_
  refine go_v rfl .none rfl (o_idxS rfl rfl hjL) ?_
  first | refine go_v rfl .none rfl (o_fldS rfl) ?_ | refine go_v rfl .none rfl (o_fld rfl) ?_
  refine go_v rfl .none rfl (o_loadS rfl (flat_get staC 2 staC_len hs rfl)) ?_
  refine go_v rfl .none rfl (o_assign rfl) ?_
  refine go_nil ?_
  refine ge_then ?_
  refine g_seq ?_
  refine g_seq ?_
  refine g_region ?_
  refine gl_v rfl (o_move rfl) ?_
  refine gl_v rfl (o_idxS rfl rfl (by simp)) ?_
  refine gl_v rfl (o_loadS rfl rfl) ?_
  refine gl_v rfl (o_is (c := false) (by first | rfl | exact decide_eq_false (by omega) | (simp only [List.length]; exact decide_eq_false (by omega))) (o_lss rfl rfl)) ?_
  refine gl_v rfl (o_move rfl) ?_
  refine gl_gT rfl rfl rfl ?_
  refine gl_v rfl (o_move rfl) ?_
  refine gl_gT rfl rfl rfl ?_
  refine gl_v rfl (o_idxS rfl rfl (by simp)) ?_
  refine gl_gT rfl rfl rfl ?_
  refine gl_v rfl (o_loadS rfl rfl) ?_
  refine gl_gT rfl rfl rfl ?_
  refine gl_v rfl (o_move rfl) ?_
  refine gl_gT rfl rfl rfl ?_
  refine gl_v rfl (o_lenL rfl) ?_
  refine gl_gT rfl rfl rfl ?_
  refine gl_v rfl (o_is (c := false) (by first | rfl | exact decide_eq_false (by omega) | (simp only [List.length]; exact decide_eq_false (by omega))) (o_gtr rfl rfl)) ?_
  refine gl_v rfl (o_pickF rfl rfl rfl) ?_
  refine gl_nil ?_
  refine ge_then ?_
  refine g_cond_false rfl ?_
  refine g_skip ?_
  refine ge_then ?_
  refine g_seq ?_
  refine g_draw [] [] [(0, .loc), (1, .loc), (2, .loc), (3, .loc), (4, .loc), (5, .loc), (6, .loc), (7, .loc), (8, .loc), (9, .loc), (10, .loc), (11, .loc), (12, .loc), (13, .loc), (14, .loc), (15, .loc), (16, .loc), (17, .loc), (18, .loc), (19, .loc), (20, .loc), (21, .loc), (22, .loc), (23, .loc), (24, .loc)] [] mixed (by kernel_rfl) ?_
  refine go_v rfl .none rfl (o_move rfl) ?_
  refine go_v rfl .none rfl (o_lenL rfl) ?_
  refine go_v rfl .none rfl (o_is (c := true) (by first | rfl | exact decide_eq_true (by omega) | (simp only [List.length]; exact decide_eq_true (by omega))) (o_lss rfl rfl)) ?_
  refine go_v rfl .none rfl (o_move rfl) ?_
  refine go_skip rfl (.no rfl rfl rfl) rfl ?_
  refine go_skip rfl (.no rfl rfl rfl) rfl ?_
  refine go_skip rfl (.no rfl rfl rfl) rfl ?_
  refine go_skip rfl (.no rfl rfl rfl) rfl ?_
  refine go_skip rfl (.no rfl rfl rfl) rfl ?_
  refine go_skip rfl (.un rfl rfl) rfl ?_
  refine go_skip rfl (.un rfl rfl) rfl ?_
  refine go_skip rfl (.un rfl rfl) rfl ?_
  refine go_skip rfl (.un rfl rfl) rfl ?_
  refine go_skip rfl (.un rfl rfl) rfl ?_
  refine go_skip rfl (.un rfl rfl) rfl ?_
  refine go_skip rfl (.un rfl rfl) rfl ?_
  refine go_skip rfl (.un rfl rfl) rfl ?_
  refine go_skip rfl (.un rfl rfl) rfl ?_
  refine go_skip rfl (.un rfl rfl) rfl ?_
  refine go_skip rfl (.un rfl rfl) rfl ?_
  refine go_skip rfl (.un rfl rfl) rfl ?_
  refine go_skip rfl (.un rfl rfl) rfl ?_
  refine go_skip rfl (.no rfl rfl rfl) rfl ?_
  refine go_v rfl .none rfl (o_pickT rfl rfl rfl) ?_
  refine go_v rfl .none rfl (o_assign rfl) ?_
  refine go_nil ?_
  refine ge_then ?_
  refine g_ret ?_
  refine ret1 (.inl rfl) rfl rfl [base W] (⟨rfl, rfl⟩) (To.sat (by repeat (first | exact .nil | exact .done .refl | (apply To.cons; · (repeat (first | exact .head | apply Sel.tail))) | exact .done (by repeat (first | exact .refl | apply Drop.skip)))))

set_option maxRecDepth 8000 in
set_option maxHeartbeats 1000000 in
theorem CheckPlaces_4 {W : World} (hG : Gok W) (pa : Option Addr) (pc : Nat) (KK : List Knd) (hA : ∀ h, base W h → PrgOk h pa pc KK) (c : Int) (i : Nat) (k : Knd) (hk : KK[i]? = some k) (j : Nat) (s : Sta) (hs : k.states[j]? = some s) (m : Nat) (r : Row) (hr : s.rows[m]? = some r) (q : Nat) (hq : q < r.effs.length) (hR : prgF KK = some (c, [((i + 1 : Nat) : Int), ((j + 1 : Nat) : Int), ((m + 1 : Nat) : Int), ((q + 1 : Nat) : Int)])) : FnS Tryd.prog 6 [.agg #[.slice pa KK.length pc]] [base W] (fun u Bs => u = .bool true ∧ Bs = [base W]) := by
  refine fn_body Tryd.func6 rfl rfl rfl ?_
  intro W0 R
  simp only [List.zipIdx_cons, List.zipIdx_nil, List.map_cons, List.map_nil, Nat.zero_add, Nat.reduceAdd, List.cons_append, List.nil_append]
  obtain ⟨hb, hwb⟩ : ∃ h, base W h := ⟨hpOf W, fun _ _ => rfl⟩
  have hb0 := hA _ hwb
  have hKn := hb0.len; have hKc := hb0.rd.2
  haveI rK : RdA (.slice pa KK.length pc) (base W) KK.length (KK.flatMap kndC) := ⟨fun h => (hA _ h).rd.1⟩
  have hiL := (List.getElem?_eq_some_iff.1 hk).1
  have hkm := List.mem_of_getElem? hk
  have hkO := hb0.kinds k hkm
  have hSn := hkO.lens
  haveI rS : RdA (.slice k.sa k.states.length k.sc) (base W) k.states.length (k.states.flatMap staC) := ⟨fun h => ((hA _ h).kinds k hkm).rds.1⟩
  have hjL := (List.getElem?_eq_some_iff.1 hs).1
  have hsm := List.mem_of_getElem? hs
  have hsO := hkO.states s hsm
  have hRn := hsO.len
  haveI rR : RdA (.slice s.ra s.rows.length s.rc) (base W) s.rows.length (s.rows.flatMap rowC) := ⟨fun h => (((hA _ h).kinds k hkm).states s hsm).rd.1⟩
  have hmL := (List.getElem?_eq_some_iff.1 hr).1
  have hrm := List.mem_of_getElem? hr
  have hrO := hsO.rows r hrm
  have hEn := hrO.len
  unfold ok63 at *
  
  refine g_seq ?_
  refine g_region ?_
  refine gl_n rfl (o_boxA rfl) ?_
  rintro _ _ ⟨b1, rfl, rfl⟩
  refine gl_v rfl (o_assign rfl) ?_
  refine gl_nil ?_
  refine ge_then ?_
  refine g_seq ?_
  refine g_seq ?_
  refine g_region ?_
  refine gl_c rfl (o_call rfl (alive_spec hG) (by repeat (first | exact .nil | (apply Part.cons; · (repeat (first | exact .head | apply Sel.tail)))))) ?_
  rintro _ R ⟨_, ⟨rfl, rfl⟩, rfl⟩
  try simp only [List.cons_append, List.nil_append]
  refine gl_v rfl (o_is (c := false) (by rfl) (o_not rfl)) ?_
  refine gl_nil ?_
  refine ge_then ?_
  refine g_cond_false rfl ?_
  refine g_skip ?_
  refine ge_then ?_
  refine g_seq ?_
  refine g_region ?_
  first | refine gl_v rfl (o_loadSA rfl rfl rfl) ?_ | refine gl_v rfl (o_loadA rfl rfl rfl) ?_
  refine gl_c rfl (o_call rfl (ep_some (prog' pa pc KK (base W) hA) hR) (by repeat (first | exact .nil | (apply Part.cons; · (repeat (first | exact .head | apply Sel.tail)))))) ?_
  rintro _ R ⟨_, ⟨b, a, cp, rfl, rfl⟩, rfl⟩
  try simp only [List.cons_append, List.nil_append]
  refine gl_c rfl (o_call rfl (Where_bad hG b c a cp [((i + 1 : Nat) : Int), ((j + 1 : Nat) : Int), ((m + 1 : Nat) : Int), ((q + 1 : Nat) : Int)] (by simp)) (by repeat (first | exact .nil | (apply Part.cons; · (repeat (first | exact .head | apply Sel.tail)))))) ?_
  rintro _ R ⟨_, ⟨a3, cp3, rfl, rfl⟩, rfl⟩
  try simp only [List.cons_append, List.nil_append]
  refine gl_v rfl (o_assign rfl) ?_
  refine gl_nil ?_
  refine ge_then ?_
  refine g_seq ?_
  refine g_seq ?_
  refine g_draw [] [] [(0, .loc), (1, .loc), (2, .loc), (3, .loc), (4, .loc), (5, .loc), (6, .loc), (7, .loc), (8, .loc), (9, .loc), (10, .loc), (11, .loc), (12, .loc), (13, .loc), (14, .loc), (15, .loc), (16, .loc), (17, .loc), (18, .loc), (19, .loc), (20, .loc), (21, .loc), (22, .loc)] [] mixed (by kernel_rfl) ?_
  refine go_v rfl .none rfl (o_move rfl) ?_
  refine go_v rfl .none rfl (o_lenL rfl) ?_
  refine go_v rfl .none rfl (o_is (c := false) (by first | rfl | exact decide_eq_false (by omega) | (simp only [List.length]; exact decide_eq_false (by omega))) (o_gtr rfl rfl)) ?_
  refine go_v rfl .none rfl (o_move rfl) ?_
  refine go_v rfl (.yes rfl rfl rfl) rfl (o_move rfl) ?_
  refine go_v rfl (.yes rfl rfl rfl) rfl (o_lenL rfl) ?_
  refine go_v rfl (.yes rfl rfl rfl) rfl (o_is (c := true) (by first | rfl | exact decide_eq_true (by omega) | (simp only [List.length]; exact decide_eq_true (by omega))) (o_gtr rfl rfl)) ?_
  refine go_v rfl (.yes rfl rfl rfl) rfl (o_move rfl) ?_
  refine go_v rfl (.yes rfl rfl rfl) rfl (o_move rfl) ?_
  refine go_v rfl (.yes rfl rfl rfl) rfl (o_idxS rfl rfl (by simp)) ?_
  refine go_v rfl (.yes rfl rfl rfl) rfl (o_loadS rfl rfl) ?_
  refine go_v rfl (.yes rfl rfl rfl) rfl (o_is (c := false) (by first | rfl | exact decide_eq_false (by omega) | (simp only [List.length]; exact decide_eq_false (by omega))) (o_lss rfl rfl)) ?_
  refine go_v rfl (.yes rfl rfl rfl) rfl (o_move rfl) ?_
  refine go_v rfl (.yes rfl rfl rfl) rfl (o_move rfl) ?_
  refine go_v rfl (.yes rfl rfl rfl) rfl (o_idxS rfl rfl (by simp)) ?_
  refine go_v rfl (.yes rfl rfl rfl) rfl (o_loadS rfl rfl) ?_
  first | refine go_v rfl (.yes rfl rfl rfl) rfl (o_fldS rfl) ?_ | refine go_v rfl (.yes rfl rfl rfl) rfl (o_fld rfl) ?_
  first | refine go_v rfl (.yes rfl rfl rfl) rfl (o_load rfl rfl) ?_ | refine go_v rfl (.yes rfl rfl rfl) rfl (o_loadS rfl rfl) ?_ | refine go_v rfl (.yes rfl rfl rfl) rfl (o_loadC rfl) ?_
  refine go_v rfl (.yes rfl rfl rfl) rfl (o_lenL rfl) ?_
  refine go_v rfl (.yes rfl rfl rfl) rfl (o_is (c := false) (by first | rfl | exact decide_eq_false (by omega) | (simp only [List.length]; exact decide_eq_false (by omega))) (o_gtr rfl rfl)) ?_
  refine go_v rfl (.yes rfl rfl rfl) rfl (o_pickF rfl rfl rfl) ?_
  refine go_v rfl (.yes rfl rfl rfl) rfl (o_pickT rfl rfl rfl) ?_
  refine go_v rfl .none rfl (o_pickF rfl rfl rfl) ?_
  refine go_nil ?_
  refine ge_then ?_
  refine g_cond_false rfl ?_
  refine g_skip ?_
  refine ge_then ?_
  refine g_seq ?_
  refine g_seq ?_
  refine g_region ?_
  refine gl_v rfl (o_move rfl) ?_
  refine gl_v rfl (o_lenL rfl) ?_
  refine gl_v rfl (o_is (c := false) (by first | rfl | exact decide_eq_false (by omega) | (simp only [List.length]; exact decide_eq_false (by omega))) (o_lss rfl rfl)) ?_
  refine gl_nil ?_
  refine ge_then ?_
  refine g_cond_false rfl ?_
  refine g_skip ?_
  refine ge_then ?_
  refine g_seq ?_
  refine g_draw [8, 9] [8] [(0, .stab), (1, .stab), (2, .stab), (3, .stab), (4, .stab), (5, .stab), (6, .stab), (7, .stab), (8, .eff), (9, .eff)] [cel b1 24 [.slice pa KK.length pc], intsA a3 cp3 [((i + 1 : Nat) : Int), ((j + 1 : Nat) : Int), ((m + 1 : Nat) : Int), ((q + 1 : Nat) : Int)], base W] mixed (by kernel_rfl) ?_
  first | refine go_vs rfl .none rfl (o_fldS rfl) (To.sat (by repeat (first | exact .nil | exact .done .refl | (apply To.cons; · (repeat (first | exact .head | apply Sel.tail))) | exact .done (by repeat (first | exact .refl | apply Drop.skip))))) ?_ | refine go_vs rfl .none rfl (o_fld rfl) (To.sat (by repeat (first | exact .nil | exact .done .refl | (apply To.cons; · (repeat (first | exact .head | apply Sel.tail))) | exact .done (by repeat (first | exact .refl | apply Drop.skip))))) ?_
  first | refine go_vs rfl .none rfl (o_load rfl rfl) (To.sat (by repeat (first | exact .nil | exact .done .refl | (apply To.cons; · (repeat (first | exact .head | apply Sel.tail))) | exact .done (by repeat (first | exact .refl | apply Drop.skip))))) ?_ | refine go_vs rfl .none rfl (o_loadS rfl rfl) (To.sat (by repeat (first | exact .nil | exact .done .refl | (apply To.cons; · (repeat (first | exact .head | apply Sel.tail))) | exact .done (by repeat (first | exact .refl | apply Drop.skip))))) ?_ | refine go_vs rfl .none rfl (o_loadC rfl) (To.sat (by repeat (first | exact .nil | exact .done .refl | (apply To.cons; · (repeat (first | exact .head | apply Sel.tail))) | exact .done (by repeat (first | exact .refl | apply Drop.skip))))) ?_
  refine go_vs rfl .none rfl (o_move rfl) (To.sat (by repeat (first | exact .nil | exact .done .refl | (apply To.cons; · (repeat (first | exact .head | apply Sel.tail))) | exact .done (by repeat (first | exact .refl | apply Drop.skip))))) ?_
  refine go_vs rfl .none rfl (o_idxS rfl rfl (by simp)) (To.sat (by repeat (first | exact .nil | exact .done .refl | (apply To.cons; · (repeat (first | exact .head | apply Sel.tail))) | exact .done (by repeat (first | exact .refl | apply Drop.skip))))) ?_
  refine go_vs rfl .none rfl (o_loadS rfl rfl) (To.sat (by repeat (first | exact .nil | exact .done .refl | (apply To.cons; · (repeat (first | exact .head | apply Sel.tail))) | exact .done (by repeat (first | exact .refl | apply Drop.skip))))) ?_
  refine go_vs rfl .none rfl (o_subR ((i : Nat) : Int) (by rw [wr_i64 (by omega)]; omega) rfl rfl) (To.sat (by repeat (first | exact .nil | exact .done .refl | (apply To.cons; · (repeat (first | exact .head | apply Sel.tail))) | exact .done (by repeat (first | exact .refl | apply Drop.skip))))) ?_
  refine go_vs rfl .none rfl (o_idxS rfl rfl hiL) (To.sat (by repeat (first | exact .nil | exact .done .refl | (apply To.cons; · (repeat (first | exact .head | apply Sel.tail))) | exact .done (by repeat (first | exact .refl | apply Drop.skip))))) ?_
  refine go_vs rfl .none rfl (o_loadSA rfl (flat_take kndC 5 kndC_len hk) rfl) (To.sat (by repeat (first | exact .nil | exact .done .refl | (apply To.cons; · (repeat (first | exact .head | apply Sel.tail))) | exact .done (by repeat (first | exact .refl | apply Drop.skip))))) ?_
  refine go_n rfl .none rfl (o_alloc) ?_
  rintro _ _ ⟨b4, rfl, rfl⟩
  refine ⟨(fun _ => (To.sat (by repeat (first | exact .nil | exact .done .refl | (apply To.cons; · (repeat (first | exact .head | apply Sel.tail))) | exact .done (by repeat (first | exact .refl | apply Drop.skip)))))), ?_⟩
  first | refine go_u rfl .none (o_storeSA rfl rfl rfl rfl (by simp; omega) (by simp)) (fun hG => absurd hG (by decide)) ?_ | refine go_u rfl .none (o_storeA rfl rfl rfl rfl rfl) (fun hG => absurd hG (by decide)) ?_
  refine go_nil ?_
  refine ge_then ?_
  refine g_seq ?_
  refine g_seq ?_
  refine g_draw [] [] [(0, .loc), (1, .loc), (2, .loc), (3, .loc), (4, .loc), (5, .loc), (6, .loc), (7, .loc), (8, .loc), (9, .loc), (10, .loc), (11, .loc), (12, .loc)] [] mixed (by kernel_rfl) ?_
  refine go_v rfl .none rfl (o_move rfl) ?_
  refine go_v rfl .none rfl (o_idxS rfl rfl (by simp)) ?_
  refine go_v rfl .none rfl (o_loadS rfl rfl) ?_
  refine go_v rfl .none rfl (o_is (c := false) (by first | rfl | exact decide_eq_false (by omega) | (simp only [List.length]; exact decide_eq_false (by omega))) (o_lss rfl rfl)) ?_
  refine go_v rfl .none rfl (o_move rfl) ?_
  refine go_v rfl (.yes rfl rfl rfl) rfl (o_move rfl) ?_
  refine go_v rfl (.yes rfl rfl rfl) rfl (o_idxS rfl rfl (by simp)) ?_
  refine go_v rfl (.yes rfl rfl rfl) rfl (o_loadS rfl rfl) ?_
  first | refine go_v rfl (.yes rfl rfl rfl) rfl (o_fldS rfl) ?_ | refine go_v rfl (.yes rfl rfl rfl) rfl (o_fld rfl) ?_
  first | refine go_v rfl (.yes rfl rfl rfl) rfl (o_load rfl rfl) ?_ | refine go_v rfl (.yes rfl rfl rfl) rfl (o_loadS rfl rfl) ?_ | refine go_v rfl (.yes rfl rfl rfl) rfl (o_loadC rfl) ?_
  refine go_v rfl (.yes rfl rfl rfl) rfl (o_lenL rfl) ?_
  refine go_v rfl (.yes rfl rfl rfl) rfl (o_is (c := false) (by first | rfl | exact decide_eq_false (by omega) | (simp only [List.length]; exact decide_eq_false (by omega))) (o_gtr rfl rfl)) ?_
  refine go_v rfl .none rfl (o_pickF rfl rfl rfl) ?_
  refine go_nil ?_
  refine ge_then ?_
  refine g_cond_false rfl ?_
  refine g_skip ?_
  refine ge_then ?_
  refine g_seq ?_
  refine g_seq ?_
  refine g_region ?_
  refine gl_v rfl (o_move rfl) ?_
  refine gl_v rfl (o_lenL rfl) ?_
  refine gl_v rfl (o_is (c := false) (by first | rfl | exact decide_eq_false (by omega) | (simp only [List.length]; exact decide_eq_false (by omega))) (o_lss rfl rfl)) ?_
  refine gl_nil ?_
  refine ge_then ?_
  refine g_cond_false rfl ?_
  refine g_skip ?_
  refine ge_then ?_
  refine g_seq ?_
  refine g_draw [] [] [(0, .loc), (1, .loc), (2, .loc), (3, .loc), (4, .loc), (5, .loc), (6, .loc), (7, .loc), (8, .loc), (9, .loc)] [] mixed (by kernel_rfl) ?_
  first | refine go_v rfl .none rfl (o_fldS rfl) ?_ | refine go_v rfl .none rfl (o_fld rfl) ?_
  first | refine go_v rfl .none rfl (o_load rfl rfl) ?_ | refine go_v rfl .none rfl (o_loadS rfl rfl) ?_ | refine go_v rfl .none rfl (o_loadC rfl) ?_
  refine go_v rfl .none rfl (o_move rfl) ?_
  refine go_v rfl .none rfl (o_idxS rfl rfl (by simp)) ?_
  refine go_v rfl .none rfl (o_loadS rfl rfl) ?_
  refine go_v rfl .none rfl (o_subR ((j : Nat) : Int) (by rw [wr_i64 (by omega)]; omega) rfl rfl) ?_
  refine go_v rfl .none rfl (o_idxS rfl rfl hjL) ?_
  first | refine go_v rfl .none rfl (o_fldS rfl) ?_ | refine go_v rfl .none rfl (o_fld rfl) ?_
  refine go_v rfl .none rfl (o_loadS rfl (flat_get staC 2 staC_len hs rfl)) ?_
  refine go_v rfl .none rfl (o_assign rfl) ?_
  refine go_nil ?_
  refine ge_then ?_
  refine g_seq ?_
  refine g_seq ?_
  refine g_region ?_
  refine gl_v rfl (o_move rfl) ?_
  refine gl_v rfl (o_idxS rfl rfl (by simp)) ?_
  refine gl_v rfl (o_loadS rfl rfl) ?_
  refine gl_v rfl (o_is (c := false) (by first | rfl | exact decide_eq_false (by omega) | (simp only [List.length]; exact decide_eq_false (by omega))) (o_lss rfl rfl)) ?_
  refine gl_v rfl (o_move rfl) ?_
  refine gl_gT rfl rfl rfl ?_
  refine gl_v rfl (o_move rfl) ?_
  refine gl_gT rfl rfl rfl ?_
  refine gl_v rfl (o_idxS rfl rfl (by simp)) ?_
  refine gl_gT rfl rfl rfl ?_
  refine gl_v rfl (o_loadS rfl rfl) ?_
  refine gl_gT rfl rfl rfl ?_
  refine gl_v rfl (o_move rfl) ?_
  refine gl_gT rfl rfl rfl ?_
  refine gl_v rfl (o_lenL rfl) ?_
  refine gl_gT rfl rfl rfl ?_
  refine gl_v rfl (o_is (c := false) (by first | rfl | exact decide_eq_false (by omega) | (simp only [List.length]; exact decide_eq_false (by omega))) (o_gtr rfl rfl)) ?_
  refine gl_v rfl (o_pickF rfl rfl rfl) ?_
  refine gl_nil ?_
  refine ge_then ?_
  refine g_cond_false rfl ?_
  refine g_skip ?_
  refine ge_then ?_
  refine g_seq ?_
  refine g_draw [] [] [(0, .loc), (1, .loc), (2, .loc), (3, .loc), (4, .loc), (5, .loc), (6, .loc), (7, .loc), (8, .loc), (9, .loc), (10, .loc), (11, .loc), (12, .loc), (13, .loc), (14, .loc), (15, .loc), (16, .loc), (17, .loc), (18, .loc), (19, .loc), (20, .loc), (21, .loc), (22, .loc), (23, .loc), (24, .loc)] [] mixed (by kernel_rfl) ?_
  refine go_v rfl .none rfl (o_move rfl) ?_
  refine go_v rfl .none rfl (o_lenL rfl) ?_
  refine go_v rfl .none rfl (o_is (c := false) (by first | rfl | exact decide_eq_false (by omega) | (simp only [List.length]; exact decide_eq_false (by omega))) (o_lss rfl rfl)) ?_
  refine go_v rfl .none rfl (o_move rfl) ?_
  refine go_v rfl (.yes rfl rfl rfl) rfl (o_move rfl) ?_
  refine go_v rfl (.yes rfl rfl rfl) rfl (o_idxS rfl rfl (by simp)) ?_
  refine go_v rfl (.yes rfl rfl rfl) rfl (o_loadS rfl rfl) ?_
  refine go_v rfl (.yes rfl rfl rfl) rfl (o_is (c := true) (by first | rfl | exact decide_eq_true (by omega) | (simp only [List.length]; exact decide_eq_true (by omega))) (o_geq rfl rfl)) ?_
  refine go_v rfl (.yes rfl rfl rfl) rfl (o_move rfl) ?_
  refine go_v rfl (.yes rfl rfl rfl) rfl (o_move rfl) ?_
  refine go_v rfl (.yes rfl rfl rfl) rfl (o_idxS rfl rfl (by simp)) ?_
  refine go_v rfl (.yes rfl rfl rfl) rfl (o_loadS rfl rfl) ?_
  refine go_v rfl (.yes rfl rfl rfl) rfl (o_move rfl) ?_
  refine go_v rfl (.yes rfl rfl rfl) rfl (o_move rfl) ?_
  refine go_v rfl (.yes rfl rfl rfl) rfl (o_idxS rfl rfl (by simp)) ?_
  refine go_v rfl (.yes rfl rfl rfl) rfl (o_loadS rfl rfl) ?_
  refine go_v rfl (.yes rfl rfl rfl) rfl (o_subR ((m : Nat) : Int) (by rw [wr_i64 (by omega)]; omega) rfl rfl) ?_
  refine go_v rfl (.yes rfl rfl rfl) rfl (o_idxS rfl rfl hmL) ?_
  first | refine go_v rfl (.yes rfl rfl rfl) rfl (o_fldS rfl) ?_ | refine go_v rfl (.yes rfl rfl rfl) rfl (o_fld rfl) ?_
  refine go_v rfl (.yes rfl rfl rfl) rfl (o_loadS rfl (flat_get rowC 4 rowC_len hr rfl)) ?_
  refine go_v rfl (.yes rfl rfl rfl) rfl (o_lenL rfl) ?_
  refine go_v rfl (.yes rfl rfl rfl) rfl (o_is (c := true) (by first | rfl | exact decide_eq_true (by omega) | (simp only [List.length]; exact decide_eq_true (by omega))) (o_leq rfl rfl)) ?_
  refine go_v rfl (.yes rfl rfl rfl) rfl (o_pickT rfl rfl rfl) ?_
  refine go_v rfl .none rfl (o_pickF rfl rfl rfl) ?_
  refine go_v rfl .none rfl (o_assign rfl) ?_
  refine go_nil ?_
  refine ge_then ?_
  refine g_ret ?_
  refine ret1 (.inl rfl) rfl rfl [base W] (⟨rfl, rfl⟩) (To.sat (by repeat (first | exact .nil | exact .done .refl | (apply To.cons; · (repeat (first | exact .head | apply Sel.tail))) | exact .done (by repeat (first | exact .refl | apply Drop.skip)))))

theorem CheckPlaces_spec {W : World} (hG : Gok W) (pa : Option Addr) (pc : Nat) (KK : List Knd) (hA : ∀ h, base W h → PrgOk h pa pc KK) : FnS Tryd.prog 6 [.agg #[.slice pa KK.length pc]] [base W] (fun u Bs => u = .bool true ∧ Bs = [base W]) := by
  rcases h : prgF KK with _ | ⟨c, ws⟩
  · exact CheckPlaces_n hG pa pc KK hA h
  · rcases places_ok h with rfl | ⟨i, k, u1, hk, rfl, rfl | ⟨j, s, u2, hs, rfl, rfl | ⟨m, r, u3, hr, rfl, rfl | ⟨q, hq, rfl⟩⟩⟩⟩
    · exact CheckPlaces_0 hG pa pc KK hA c h
    · exact CheckPlaces_1 hG pa pc KK hA c i k hk h
    · exact CheckPlaces_2 hG pa pc KK hA c i k hk j s hs h
    · exact CheckPlaces_3 hG pa pc KK hA c i k hk j s hs m r hr h
    · exact CheckPlaces_4 hG pa pc KK hA c i k hk j s hs m r hr q hq h

end Go.Proofs.YtgmdlhlmffdbhaaDoor.L
