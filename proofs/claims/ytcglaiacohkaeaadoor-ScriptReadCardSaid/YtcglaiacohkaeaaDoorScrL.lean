/-
  Script: there and back, and lines that are passed over: the walks. Own work, printed in part by a program of its own.
-/
import Derived.Test.YtcglaiacohkaeaaDoorScrA
import Derived.Test.YtcglaiacohkaeaaDoorScrT
set_option linter.unusedSimpArgs false
set_option linter.unusedVariables false
set_option linter.unusedSectionVars false
namespace Go.Proofs.YtcglaiacohkaeaaDoor.L
open Go.L Go.L.Lx Go.L.Pa Go.L.Sc
theorem partE_R {c : UInt8} {s : By} {e e' : Ent} (he : EntR e) (h : partE c s e = some e') : EntR e' := by
  unfold partE at h
  split at h
  · split at h
    · rename_i h2; cases h
      exact ⟨he.a, he.b, he.n, by
        show s.length ≤ 1048576
        rcases Nat.lt_or_ge 16 s.length with h3 | h3
        · rw [name_long h3] at h2; cases h2
        · omega⟩
    · cases h
  · cases hn : numV 0 65535 s with
    | none => rw [hn] at h; cases h
    | some n =>
      obtain ⟨h1, h2, -⟩ := numV_iff.1 hn
      rw [hn] at h
      simp only [Option.map_some, Option.some.injEq] at h
      subst h
      repeat' split
      all_goals exact ⟨by first | exact he.a | (show -9223372036854775808 ≤ n ∧ n ≤ 9223372036854775807; omega), by first | exact he.b | (show -9223372036854775808 ≤ n ∧ n ≤ 9223372036854775807; omega), by first | exact he.n | (show -9223372036854775808 ≤ n ∧ n ≤ 9223372036854775807; omega), he.tag⟩
theorem partsE_R : ∀ {cs : By} {ws : List By} {e e' : Ent}, EntR e → partsE cs ws e = some e' → EntR e'
  | [], [], e, e', he, h => by unfold partsE at h; cases h; exact he
  | [], _ :: _, _, _, _, h => by cases h
  | _ :: _, [], _, _, _, h => by cases h
  | c :: cs, w :: ws, e, e', he, h => by
    unfold partsE at h
    cases hp : partE c w e with
    | none => rw [hp] at h; cases h
    | some x => rw [hp] at h; exact partsE_R (partE_R he hp) h
theorem entR0 (k : Int) : EntR { ent0 with kind := k } := ⟨(by decide : -9223372036854775808 ≤ (0 : Int) ∧ (0 : Int) ≤ 9223372036854775807), (by decide : -9223372036854775808 ≤ (0 : Int) ∧ (0 : Int) ≤ 9223372036854775807), (by decide : -9223372036854775808 ≤ (0 : Int) ∧ (0 : Int) ≤ 9223372036854775807), Nat.zero_le _⟩
theorem readE_R {s : By} {e : Ent} (h : readE s = some e) : EntR e := by
  unfold readE at h
  split at h
  · cases h
  · unfold wordsE at h
    split at h
    · cases h
    · exact partsE_R (entR0 _) h
theorem lines_R : ∀ (ls : List By) (i : Nat) (acc : List Ent), (∀ e ∈ acc, EntR e) → ∀ e ∈ (linesS i ls acc).1, EntR e
  | [], i, acc, h => h
  | l :: ls, i, acc, h => by
    by_cases hp : passed l = true
    · rw [lines_p hp]; exact lines_R ls (i + 1) acc h
    · have hp' : passed l = false := by simpa using hp
      cases hr : readE l with
      | none => rw [lines_n hp' hr]; intro e he; cases he
      | some e =>
        rw [lines_s hp' hr]
        refine lines_R ls (i + 1) _ fun x hx => ?_
        rcases List.mem_append.1 hx with hx | hx
        · exact h x hx
        · rw [List.mem_singleton.1 hx]; exact readE_R hr
theorem script_R (l : By) : ∀ e ∈ (scriptS l).1, EntR e := by
  unfold scriptS
  split
  · intro e he; cases he
  · exact lines_R _ 0 [] fun e he => absurd he List.not_mem_nil

set_option maxRecDepth 8000 in
set_option maxHeartbeats 2000000 in
theorem ScriptBack_spec {W : World} (hG : Gok W) (hm : ∃ m, W.cell? ⟨Tryd.spTm_ren.g 1, 0, none⟩ = some (.int .i64 m)) (v : Value) (es : List Ent) (hes : ∀ e ∈ es, EntR e) [RdA v (base W) es.length (es.flatMap entC)] (hv : es.length ≤ 1048576) (e : Evt) (hr : EvtR e) : FnS Tryd.prog 6 [v, .agg (evtC e).toArray] [base W] (fun u Bs => u = .bool true ∧ Bs = [base W]) := by
 refine fn_body Tryd.func6 rfl rfl rfl ?_
 intro W0 R
 simp only [List.zipIdx_cons, List.zipIdx_nil, List.map_cons, List.map_nil, Nat.zero_add, Nat.reduceAdd, List.cons_append, List.nil_append]
 have hrv : ∀ s2, lineV e = some s2 → readV s2 = some e ∧ s2.length ≤ 10000000 := fun s2 h => by
   unfold lineV at h
   split at h
   · rename_i h2; injection h with h; rw [← h]; exact ⟨h2, candV_len hr⟩
   · cases h
 rcases htx : textS es with ⟨s, x, a⟩
 refine g_seq ?_
 refine g_region ?_
 refine gl_n rfl (o_boxA rfl) ?_
 rintro _ _ ⟨b3, rfl, rfl⟩
 refine gl_v rfl (o_assign rfl) ?_
 refine gl_nil ?_
 refine ge_then ?_
 refine g_seq ?_
 refine g_seq ?_
 refine g_region ?_
 refine gl_c rfl (o_call rfl (alive_spec hG hm) pA) ?_
 rintro _ R ⟨_, ⟨rfl, rfl⟩, rfl⟩
 try simp only [List.cons_append, List.nil_append]
 refine gl_v rfl (o_is (c := false) (by rfl) (o_not rfl)) ?_
 refine gl_nil ?_
 refine ge_then ?_
 refine g_cond_false rfl ?_
 refine g_skip ?_
 refine ge_then ?_
 refine g_seq ?_
 refine g_seq ?_
 refine g_region ?_
 refine gl_v rfl (o_move rfl) ?_
 first | refine gl_v rfl (o_len rfl) ?_ | refine gl_v rfl (o_lenL rfl) ?_
 refine gl_v rfl (o_gtr rfl rfl) ?_
 refine gl_nil ?_
 refine ge_then ?_
 refine g_cond rfl (fun hc1 => ?_) (fun hc1 => ?_)
 ·
  replace hc1 := hs_ hc1
  refine g_seq ?_
  refine g_region ?_
  refine gl_v rfl (o_assign rfl) ?_
  refine gl_nil ?_
  refine ge_then ?_
  refine g_ret ?_
  refine ge_then_ret ?_
  refine ret1 (.inl rfl) rfl rfl [base W] (⟨rfl, rfl⟩) (tO)
 ·
  replace hc1 := hs_ hc1
  refine g_skip ?_
  refine ge_then ?_
  refine g_seq ?_
  refine g_region ?_
  refine gl_v rfl (o_move rfl) ?_
  refine gl_c rfl (o_call rfl (TextB_spec hG hm v es hes (by omega)) pA) ?_
  rintro _ R ⟨_, ⟨rfl, rfl⟩, rfl⟩
  try simp only [List.cons_append, List.nil_append]
  rw [htx]; try dsimp only
  refine gl_v rfl (o_move rfl) ?_
  refine gl_v rfl (o_extract rfl rfl) ?_
  refine gl_v rfl (o_extract rfl rfl) ?_
  refine gl_v rfl (o_extract rfl rfl) ?_
  refine gl_v rfl (o_assign rfl) ?_
  refine gl_v rfl (o_assign rfl) ?_
  refine gl_v rfl (o_assign rfl) ?_
  refine gl_nil ?_
  refine ge_then ?_
  refine g_cut (fun act wo =>  HasSl Tryd.f6.ntmps [(0, v), (3, ptr b3 0)] act ∧ St W0 (cel b3 37 (evtC e) :: base W :: R) wo) ?_ ?_
  ·
   refine g_seq ?_
   refine g_region ?_
   refine gl_v rfl (o_move rfl) ?_
   refine gl_v rfl (o_eql rfl rfl) ?_
   refine gl_nil ?_
   refine ge_then ?_
   refine g_cond rfl (fun hc2 => ?_) (fun hc2 => ?_)
   ·
    replace hc2 := hs_ hc2
    obtain rfl : a = 0 := hc2
    obtain ⟨rfl, hback⟩ := script_text htx
    refine g_seq ?_
    refine g_region ?_
    refine gl_v rfl (o_move rfl) ?_
    refine gl_c rfl (o_call rfl (Script_spec hG hm s) pA) ?_
    rintro _ R ⟨_, ⟨a1, c1, rfl, rfl⟩, rfl⟩
    try simp only [List.cons_append, List.nil_append]
    rw [hback]; try dsimp only
    refine gl_v rfl (o_move rfl) ?_
    refine gl_v rfl (o_extract rfl rfl) ?_
    refine gl_v rfl (o_extract rfl rfl) ?_
    refine gl_v rfl (o_extract rfl rfl) ?_
    refine gl_v rfl (o_assign rfl) ?_
    refine gl_v rfl (o_assign rfl) ?_
    refine gl_v rfl (o_assign rfl) ?_
    refine gl_nil ?_
    refine ge_then ?_
    refine g_seq ?_
    refine g_seq ?_
    refine g_region ?_
    refine gl_v rfl (o_move rfl) ?_
    refine gl_v rfl (o_is (c := false) (by first | rfl | exact decide_eq_false (by decide) | (simp; done)) (o_neq rfl rfl)) ?_
    refine gl_v rfl (o_move rfl) ?_
    refine gl_gT rfl rfl rfl ?_
    refine gl_v rfl (o_move rfl) ?_
    refine gl_gT rfl rfl rfl ?_
    first | refine gl_v rfl (o_len rfl) ?_ | refine gl_v rfl (o_lenL rfl) ?_
    refine gl_gT rfl rfl rfl ?_
    refine gl_v rfl (o_move rfl) ?_
    refine gl_gT rfl rfl rfl ?_
    first | refine gl_v rfl (o_len rfl) ?_ | refine gl_v rfl (o_lenL rfl) ?_
    refine gl_gT rfl rfl rfl ?_
    refine gl_v rfl (o_is (c := false) (by first | rfl | (simp; done)) (o_neq rfl rfl)) ?_
    refine gl_v rfl (o_pickF rfl rfl rfl) ?_
    refine gl_v rfl (o_move rfl) ?_
    refine gl_gT rfl rfl rfl ?_
    refine gl_v rfl (o_move rfl) ?_
    refine gl_gT rfl rfl rfl ?_
    refine gl_v rfl (o_is (c := false) (by first | rfl | exact decide_eq_false (by decide) | (simp; done)) (o_neq rfl rfl)) ?_
    refine gl_v rfl (o_pickF rfl rfl rfl) ?_
    refine gl_nil ?_
    refine ge_then ?_
    refine g_cond_false rfl ?_
    refine g_skip ?_
    refine ge_then ?_
    refine g_seq ?_
    refine g_region ?_
    refine gl_v rfl (o_assign rfl) ?_
    refine gl_nil ?_
    refine ge_then ?_
    refine g_block ?_
    refine g_loop (ι := Nat) (fun x => x ≤ es.length) (fun x => [(11, I64 x), (8, .slice a1 es.length c1), (0, v), (3, ptr b3 0)]) (fun x => own (.slice a1 es.length c1) 23 5 es.length (es.flatMap entC) :: cel b3 37 (evtC e) :: base W :: R) (fun x => es.length - x) 0 (Nat.zero_le _) (Keep.cons rfl (Keep.cons rfl (Keep.cons rfl (Keep.cons rfl (Keep.nil))))) (tO) ?_
    rintro i hi
    replace hi : i ≤ es.length := hi
    try dsimp only
    refine g_seq ?_
    refine g_seq ?_
    refine g_region ?_
    refine gl_v rfl (o_move rfl) ?_
    refine gl_v rfl (o_move rfl) ?_
    first | refine gl_v rfl (o_len rfl) ?_ | refine gl_v rfl (o_lenL rfl) ?_
    refine gl_v rfl (o_lss rfl rfl) ?_
    refine gl_nil ?_
    refine ge_then ?_
    refine g_cond rfl (fun hc3 => ?_) (fun hc3 => ?_)
    ·
     replace hc3 := hs_ hc3
     have hi1 : i < es.length := by omega
     obtain ⟨e1, he1⟩ : ∃ e1, es[i]? = some e1 := ⟨_, List.getElem?_eq_getElem hi1⟩
     refine g_skip ?_
     refine ge_then ?_
     refine g_seq ?_
     refine g_block ?_
     refine g_seq ?_
     refine g_draw [] [] [(0, .loc), (1, .loc), (2, .loc), (3, .loc), (4, .loc), (5, .loc), (6, .loc), (7, .loc), (8, .loc)] [] mixed (by kernel_rfl) ?_
     refine go_v rfl .none rfl (o_move rfl) ?_
     refine go_v rfl .none rfl (o_move rfl) ?_
     refine go_v rfl .none rfl (o_idxS rfl rfl hi1) ?_
     refine go_v rfl .none rfl (o_loadSA (vs := entC e1) rfl (entF_take he1) rfl) ?_
     refine go_v rfl .none rfl (o_move rfl) ?_
     refine go_v rfl .none rfl (o_move rfl) ?_
     refine go_v rfl .none rfl (o_idxS rfl rfl hi1) ?_
     refine go_v rfl .none rfl (o_loadSA (vs := entC e1) rfl (entF_take he1) rfl) ?_
     refine go_v rfl .none rfl (o_is (c := false) (by show (!flatEq (entC _) (entC _)) = false; rw [flatEq_ent]; simp) (o_neqA rfl rfl rfl rfl)) ?_
     refine go_nil ?_
     refine ge_then ?_
     refine g_cond_false rfl ?_
     refine g_skip ?_
     refine ge_block ?_
     refine ge_then ?_
     refine g_region ?_
     refine gl_v rfl (o_move rfl) ?_
     refine gl_v rfl (o_addR ((i + 1 : Nat) : Int) (by rw [wr_i64 (by omega)]; omega) rfl rfl) ?_
     refine gl_v rfl (o_assign rfl) ?_
     refine gl_nil ?_
     refine ge_round (i + 1) (by show i + 1 ≤ es.length; omega) (by show es.length - (i + 1) < es.length - i; omega) (Keep.cons rfl (Keep.cons rfl (Keep.cons rfl (Keep.cons rfl (Keep.nil))))) (tO)
    ·
     replace hc3 := hs_ hc3
     refine g_exit ?_
     refine ge_then_exit ?_
     refine ge_then_exit ?_
     refine ge_block_exit ?_
     exact fun act wo hsl st => ⟨hsl.keep (Keep.cons rfl (Keep.cons rfl (Keep.nil))), st.imp (tO)⟩
   ·
    replace hc2 := hs_ hc2
    refine g_skip ?_
    exact fun act wo hsl st => ⟨hsl.keep (Keep.cons rfl (Keep.cons rfl (Keep.nil))), st.imp (tO)⟩
  ·
   rintro act wo ⟨hsl, st⟩
   refine g_of ?_ hsl st
   clear hsl st act wo
   refine g_seq ?_
   rcases hle : lineV e with _ | s2
   ·
    refine g_region ?_
    first | refine gl_v rfl (o_loadSA rfl rfl rfl) ?_ | refine gl_v rfl (o_loadA rfl rfl rfl) ?_
    refine gl_c rfl (o_call rfl (Event_spec hG hm e hr) pA) ?_
    rintro _ R ⟨_, ⟨rfl, rfl⟩, rfl⟩
    try simp only [List.cons_append, List.nil_append]
    rw [hle]; try dsimp only
    refine gl_v rfl (o_move rfl) ?_
    refine gl_v rfl (o_extract rfl rfl) ?_
    refine gl_v rfl (o_extract rfl rfl) ?_
    refine gl_v rfl (o_assign rfl) ?_
    refine gl_v rfl (o_assign rfl) ?_
    refine gl_nil ?_
    refine ge_then ?_
    refine g_seq ?_
    refine g_seq ?_
    refine g_region ?_
    refine gl_v rfl (o_move rfl) ?_
    refine gl_v rfl (o_is (c := true) (by first | rfl | exact decide_eq_true (by decide) | (simp; done)) (o_neq rfl rfl)) ?_
    refine gl_nil ?_
    refine ge_then ?_
    refine g_cond_true rfl ?_
    refine g_seq ?_
    refine g_region ?_
    refine gl_v rfl (o_move rfl) ?_
    refine gl_v rfl (o_is (c := true) (by first | rfl | exact decide_eq_true (by decide) | (simp; done)) (o_eqls rfl rfl)) ?_
    refine gl_v rfl (o_assign rfl) ?_
    refine gl_nil ?_
    refine ge_then ?_
    refine g_ret ?_
    refine ge_then_ret ?_
    refine ret1 (.inl rfl) rfl rfl [base W] (⟨rfl, rfl⟩) (tO)
   ·
    refine g_region ?_
    first | refine gl_v rfl (o_loadSA rfl rfl rfl) ?_ | refine gl_v rfl (o_loadA rfl rfl rfl) ?_
    refine gl_c rfl (o_call rfl (Event_spec hG hm e hr) pA) ?_
    rintro _ R ⟨_, ⟨rfl, rfl⟩, rfl⟩
    try simp only [List.cons_append, List.nil_append]
    rw [hle]; try dsimp only
    refine gl_v rfl (o_move rfl) ?_
    refine gl_v rfl (o_extract rfl rfl) ?_
    refine gl_v rfl (o_extract rfl rfl) ?_
    refine gl_v rfl (o_assign rfl) ?_
    refine gl_v rfl (o_assign rfl) ?_
    refine gl_nil ?_
    refine ge_then ?_
    refine g_seq ?_
    refine g_seq ?_
    refine g_region ?_
    refine gl_v rfl (o_move rfl) ?_
    refine gl_v rfl (o_is (c := false) (by first | rfl | exact decide_eq_false (by decide) | (simp; done)) (o_neq rfl rfl)) ?_
    refine gl_nil ?_
    refine ge_then ?_
    refine g_cond_false rfl ?_
    refine g_skip ?_
    refine ge_then ?_
    refine g_seq ?_
    refine g_region ?_
    refine gl_v rfl (o_move rfl) ?_
    refine gl_c rfl (o_call rfl (ReadEvent_spec hG hm s2 (by have := (hrv s2 hle).2; omega)) pA) ?_
    rintro _ R ⟨_, ⟨rfl, rfl⟩, rfl⟩
    try simp only [List.cons_append, List.nil_append]
    rw [(hrv s2 hle).1]; try dsimp only
    refine gl_v rfl (o_move rfl) ?_
    refine gl_v rfl (o_extract rfl rfl) ?_
    refine gl_v rfl (o_extract rfl rfl) ?_
    refine gl_n rfl (o_alloc) ?_
    rintro _ _ ⟨b14, rfl, rfl⟩
    first | refine gl_u (o_storeSA rfl rfl rfl rfl (by simp; omega) (by simp)) ?_ | refine gl_u (o_storeA rfl rfl rfl rfl rfl) ?_
    refine gl_v rfl (o_assign rfl) ?_
    refine gl_nil ?_
    refine ge_then ?_
    refine g_seq ?_
    refine g_region ?_
    refine gl_v rfl (o_move rfl) ?_
    refine gl_v rfl (o_is (c := true) (by first | rfl | exact decide_eq_true (by decide) | (simp; done)) (o_eql rfl rfl)) ?_
    refine gl_v rfl (o_move rfl) ?_
    refine gl_gT rfl rfl rfl ?_
    first | refine gl_v rfl (o_loadSA rfl rfl rfl) ?_ | refine gl_v rfl (o_loadA rfl rfl rfl) ?_
    refine gl_gT rfl rfl rfl ?_
    first | refine gl_v rfl (o_loadSA rfl rfl rfl) ?_ | refine gl_v rfl (o_loadA rfl rfl rfl) ?_
    refine gl_gT rfl rfl rfl ?_
    refine gl_v rfl (o_is (c := true) (by show flatEq (evtC _) (evtC _) = true; rw [flatEq_evt]; exact decide_eq_true rfl) (o_eqlA rfl rfl rfl rfl)) ?_
    refine gl_v rfl (o_pickT rfl rfl rfl) ?_
    refine gl_v rfl (o_assign rfl) ?_
    refine gl_nil ?_
    refine ge_then ?_
    refine g_ret ?_
    refine ret1 (.inl rfl) rfl rfl [base W] (⟨rfl, rfl⟩) (tO)

set_option maxRecDepth 8000 in
set_option maxHeartbeats 2000000 in
theorem ScriptRead_spec {W : World} (hG : Gok W) (hm : ∃ m, W.cell? ⟨Tryd.spTm_ren.g 1, 0, none⟩ = some (.int .i64 m)) (t m : By) (z : Int) (ht : t.length ≤ 140737488351232) (hml : m.length ≤ 140737488351232) (hz : -9223372036854775808 ≤ z ∧ z ≤ 9223372036854775807) : FnS Tryd.prog 7 [S t, I64 z, S m] [base W] (fun u Bs => u = .bool true ∧ Bs = [base W]) := by
 refine fn_body Tryd.func7 rfl rfl rfl ?_
 intro W0 R
 simp only [List.zipIdx_cons, List.zipIdx_nil, List.map_cons, List.map_nil, Nat.zero_add, Nat.reduceAdd, List.cons_append, List.nil_append]
 have hR := script_R t
 have hsl := scriptS_len t
 rcases hsc : scriptS t with ⟨es, ln, e0⟩
 rw [hsc] at hR hsl
 replace hR : ∀ e ∈ es, EntR e := hR
 replace hsl : es.length ≤ 16385 := hsl
 rcases htx : textS es with ⟨s, x, f⟩
 refine g_seq ?_
 refine g_region ?_
 refine gl_v rfl (o_assign rfl) ?_
 refine gl_nil ?_
 refine ge_then ?_
 refine g_seq ?_
 refine g_seq ?_
 refine g_region ?_
 refine gl_c rfl (o_call rfl (alive_spec hG hm) pA) ?_
 rintro _ R ⟨_, ⟨rfl, rfl⟩, rfl⟩
 try simp only [List.cons_append, List.nil_append]
 refine gl_v rfl (o_is (c := false) (by rfl) (o_not rfl)) ?_
 refine gl_nil ?_
 refine ge_then ?_
 refine g_cond_false rfl ?_
 refine g_skip ?_
 refine ge_then ?_
 refine g_seq ?_
 refine g_region ?_
 refine gl_v rfl (o_move rfl) ?_
 refine gl_c rfl (o_call rfl (Script_spec hG hm t) pA) ?_
 rintro _ R ⟨_, ⟨a1, c1, rfl, rfl⟩, rfl⟩
 try simp only [List.cons_append, List.nil_append]
 rw [hsc]; try dsimp only
 refine gl_v rfl (o_move rfl) ?_
 refine gl_v rfl (o_extract rfl rfl) ?_
 refine gl_v rfl (o_extract rfl rfl) ?_
 refine gl_v rfl (o_extract rfl rfl) ?_
 refine gl_v rfl (o_assign rfl) ?_
 refine gl_v rfl (o_assign rfl) ?_
 refine gl_v rfl (o_assign rfl) ?_
 refine gl_nil ?_
 refine ge_then ?_
 refine g_seq ?_
 refine g_seq ?_
 refine g_region ?_
 refine gl_v rfl (o_move rfl) ?_
 refine gl_v rfl (o_lens rfl) ?_
 refine gl_v rfl (o_move rfl) ?_
 refine gl_v rfl (o_lens rfl) ?_
 refine gl_v rfl (o_addR ((t.length + m.length : Nat) : Int) (by rw [wr_i64 (by omega)]; omega) rfl rfl) ?_
 refine gl_v rfl (o_gtr rfl rfl) ?_
 refine gl_nil ?_
 refine ge_then ?_
 refine g_cond rfl (fun hc1 => ?_) (fun hc1 => ?_)
 ·
  replace hc1 := hs_ hc1
  refine g_seq ?_
  refine g_region ?_
  refine gl_v rfl (o_assign rfl) ?_
  refine gl_nil ?_
  refine ge_then ?_
  refine g_ret ?_
  refine ge_then_ret ?_
  refine ret1 (.inl rfl) rfl rfl [base W] (⟨rfl, rfl⟩) (tO)
 ·
  replace hc1 := hs_ hc1
  have hsum : t.length + m.length ≤ 16000 := by omega
  refine g_skip ?_
  refine ge_then ?_
  refine g_seq ?_
  refine g_region ?_
  refine gl_v rfl (o_move rfl) ?_
  refine gl_c rfl (o_call rfl (Text_spec hG hm (.slice a1 es.length c1) (own (.slice a1 es.length c1) 23 5 es.length (es.flatMap entC)) es hR (by omega)) pA) ?_
  rintro _ R ⟨_, ⟨rfl, rfl⟩, rfl⟩
  try simp only [List.cons_append, List.nil_append]
  rw [htx]; try dsimp only
  refine gl_v rfl (o_move rfl) ?_
  refine gl_v rfl (o_extract rfl rfl) ?_
  refine gl_v rfl (o_extract rfl rfl) ?_
  refine gl_v rfl (o_extract rfl rfl) ?_
  refine gl_v rfl (o_assign rfl) ?_
  refine gl_v rfl (o_assign rfl) ?_
  refine gl_v rfl (o_assign rfl) ?_
  refine gl_nil ?_
  refine ge_then ?_
  refine g_cut (fun act wo =>  HasSl Tryd.f7.ntmps [(9, I64 e0), (7, .slice a1 es.length c1), (2, S m), (1, I64 z), (0, S t)] act ∧ St W0 (own (.slice a1 es.length c1) 23 5 es.length (es.flatMap entC) :: base W :: R) wo) ?_ ?_
  ·
   refine g_seq ?_
   by_cases h0 : e0 = 0
   ·
    refine g_region ?_
    refine gl_v rfl (o_move rfl) ?_
    refine gl_v rfl (o_is (c := true) (by exact decide_eq_true h0) (o_eql rfl rfl)) ?_
    refine gl_v rfl (o_move rfl) ?_
    refine gl_gT rfl rfl rfl ?_
    refine gl_v rfl (o_move rfl) ?_
    refine gl_gT rfl rfl rfl ?_
    refine gl_v rfl (o_eql rfl rfl) ?_
    refine gl_v rfl (o_pickT rfl rfl rfl) ?_
    refine gl_nil ?_
    refine ge_then ?_
    refine g_cond rfl (fun hc2 => ?_) (fun hc2 => ?_)
    ·
     replace hc2 := hs_ hc2
     refine g_seq ?_
     subst h0
     obtain rfl : f = 0 := by simp_all
     obtain ⟨-, hback⟩ := script_text htx
     refine g_region ?_
     refine gl_v rfl (o_move rfl) ?_
     refine gl_c rfl (o_call rfl (Script_spec hG hm s) pA) ?_
     rintro _ R ⟨_, ⟨a2, c2, rfl, rfl⟩, rfl⟩
     try simp only [List.cons_append, List.nil_append]
     rw [hback]; try dsimp only
     refine gl_v rfl (o_move rfl) ?_
     refine gl_v rfl (o_extract rfl rfl) ?_
     refine gl_v rfl (o_extract rfl rfl) ?_
     refine gl_v rfl (o_extract rfl rfl) ?_
     refine gl_v rfl (o_assign rfl) ?_
     refine gl_v rfl (o_assign rfl) ?_
     refine gl_v rfl (o_assign rfl) ?_
     refine gl_nil ?_
     refine ge_then ?_
     refine g_seq ?_
     refine g_region ?_
     refine gl_v rfl (o_move rfl) ?_
     refine gl_c rfl (o_call rfl (Text_spec hG hm (.slice a2 es.length c2) (own (.slice a2 es.length c2) 23 5 es.length (es.flatMap entC)) es hR (by omega)) pA) ?_
     rintro _ R ⟨_, ⟨rfl, rfl⟩, rfl⟩
     try simp only [List.cons_append, List.nil_append]
     rw [htx]; try dsimp only
     refine gl_v rfl (o_move rfl) ?_
     refine gl_v rfl (o_extract rfl rfl) ?_
     refine gl_v rfl (o_extract rfl rfl) ?_
     refine gl_v rfl (o_extract rfl rfl) ?_
     refine gl_v rfl (o_assign rfl) ?_
     refine gl_v rfl (o_assign rfl) ?_
     refine gl_v rfl (o_assign rfl) ?_
     refine gl_nil ?_
     refine ge_then ?_
     refine g_seq ?_
     refine g_region ?_
     refine gl_v rfl (o_move rfl) ?_
     refine gl_v rfl (o_is (c := false) (by first | rfl | exact decide_eq_false (by decide) | (simp; done)) (o_neq rfl rfl)) ?_
     refine gl_v rfl (o_move rfl) ?_
     refine gl_gT rfl rfl rfl ?_
     refine gl_v rfl (o_move rfl) ?_
     refine gl_gT rfl rfl rfl ?_
     refine gl_v rfl (o_is (c := false) (by first | rfl | exact decide_eq_false (by decide) | (simp; done)) (o_neq rfl rfl)) ?_
     refine gl_v rfl (o_pickF rfl rfl rfl) ?_
     refine gl_v rfl (o_move rfl) ?_
     refine gl_gT rfl rfl rfl ?_
     refine gl_v rfl (o_move rfl) ?_
     refine gl_gT rfl rfl rfl ?_
     refine gl_v rfl (o_move rfl) ?_
     refine gl_gT rfl rfl rfl ?_
     refine gl_v rfl (o_is (c := false) (by simp) (o_neqs rfl rfl)) ?_
     refine gl_v rfl (o_pickF rfl rfl rfl) ?_
     refine gl_nil ?_
     refine ge_then ?_
     refine g_cond_false rfl ?_
     refine g_skip ?_
     exact fun act wo hsl st => ⟨hsl.keep (Keep.cons rfl (Keep.cons rfl (Keep.cons rfl (Keep.cons rfl (Keep.cons rfl (Keep.nil)))))), st.imp (tO)⟩
    ·
     replace hc2 := hs_ hc2
     refine g_skip ?_
     exact fun act wo hsl st => ⟨hsl.keep (Keep.cons rfl (Keep.cons rfl (Keep.cons rfl (Keep.cons rfl (Keep.cons rfl (Keep.nil)))))), st.imp (tO)⟩
   ·
    refine g_region ?_
    refine gl_v rfl (o_move rfl) ?_
    refine gl_v rfl (o_is (c := false) (by exact decide_eq_false h0) (o_eql rfl rfl)) ?_
    refine gl_v rfl (o_move rfl) ?_
    refine gl_gF rfl rfl rfl rfl ?_
    refine gl_gF rfl rfl rfl rfl ?_
    refine gl_v rfl (o_pickF rfl rfl rfl) ?_
    refine gl_nil ?_
    refine ge_then ?_
    refine g_cond_false rfl ?_
    refine g_skip ?_
    exact fun act wo hsl st => ⟨hsl.keep (Keep.cons rfl (Keep.cons rfl (Keep.cons rfl (Keep.cons rfl (Keep.cons rfl (Keep.nil)))))), st.imp (tO)⟩
  ·
   rintro act wo ⟨hsl, st⟩
   refine g_of ?_ hsl st
   clear hsl st act wo
   refine g_cut (fun act wo => (10 : UInt8) ∉ m ∧ HasSl Tryd.f7.ntmps [(9, I64 e0), (7, .slice a1 es.length c1), (2, S m), (1, I64 z), (0, S t)] act ∧ St W0 (own (.slice a1 es.length c1) 23 5 es.length (es.flatMap entC) :: base W :: R) wo) ?_ ?_
   ·
    refine g_seq ?_
    refine g_region ?_
    refine gl_v rfl (o_assign rfl) ?_
    refine gl_nil ?_
    refine ge_then ?_
    refine g_block ?_
    refine g_loop (ι := Nat) (fun x => x ≤ m.length ∧ (10 : UInt8) ∉ m.take x) (fun x => [(19, I64 x), (9, I64 e0), (7, .slice a1 es.length c1), (2, S m), (1, I64 z), (0, S t)]) (fun x => own (.slice a1 es.length c1) 23 5 es.length (es.flatMap entC) :: base W :: R) (fun x => m.length - x) 0 (⟨Nat.zero_le _, by simp⟩) (Keep.cons rfl (Keep.cons rfl (Keep.cons rfl (Keep.cons rfl (Keep.cons rfl (Keep.cons rfl (Keep.nil))))))) (tO) ?_
    rintro i ⟨hi, hI⟩
    replace hi : i ≤ m.length := hi
    replace hI : (10 : UInt8) ∉ m.take i := hI
    try dsimp only
    refine g_seq ?_
    refine g_seq ?_
    refine g_region ?_
    refine gl_v rfl (o_move rfl) ?_
    refine gl_v rfl (o_move rfl) ?_
    refine gl_v rfl (o_lens rfl) ?_
    refine gl_v rfl (o_lss rfl rfl) ?_
    refine gl_nil ?_
    refine ge_then ?_
    refine g_cond rfl (fun hc3 => ?_) (fun hc3 => ?_)
    ·
     replace hc3 := hs_ hc3
     have hi1 : i < m.length := by omega
     obtain ⟨ch, hch⟩ : ∃ ch, m[i]? = some ch := ⟨_, List.getElem?_eq_getElem hi1⟩
     refine g_skip ?_
     refine ge_then ?_
     refine g_seq ?_
     refine g_block ?_
     refine g_seq ?_
     refine g_region ?_
     refine gl_v rfl (o_move rfl) ?_
     refine gl_v rfl (o_move rfl) ?_
     refine gl_v rfl (o_index_string rfl rfl hch) ?_
     refine gl_v rfl (o_eql rfl rfl) ?_
     refine gl_nil ?_
     refine ge_then ?_
     refine g_cond rfl (fun hc4 => ?_) (fun hc4 => ?_)
     ·
      replace hc4 := hs_ hc4
      refine g_seq ?_
      refine g_region ?_
      refine gl_v rfl (o_assign rfl) ?_
      refine gl_nil ?_
      refine ge_then ?_
      refine g_ret ?_
      refine ge_block_ret ?_
      refine ge_then_ret ?_
      refine ge_then_ret ?_
      refine ge_block_ret ?_
      refine ge_then_ret ?_
      refine ret1 (.inl rfl) rfl rfl [base W] (⟨rfl, rfl⟩) (tO)
     ·
      replace hc4 := hs_ hc4
      have hne : ¬ (10 : UInt8) = ch := fun h => by subst h; exact hc4 rfl
      refine g_skip ?_
      refine ge_block ?_
      refine ge_then ?_
      refine g_region ?_
      refine gl_v rfl (o_move rfl) ?_
      refine gl_v rfl (o_addR ((i + 1 : Nat) : Int) (by rw [wr_i64 (by omega)]; omega) rfl rfl) ?_
      refine gl_v rfl (o_assign rfl) ?_
      refine gl_nil ?_
      refine ge_round (i + 1) ⟨by show i + 1 ≤ m.length; omega, by show (10 : UInt8) ∉ m.take (i + 1); rw [List.take_add_one, hch]; simpa [hne] using hI⟩ (by show m.length - (i + 1) < m.length - i; omega) (Keep.cons rfl (Keep.cons rfl (Keep.cons rfl (Keep.cons rfl (Keep.cons rfl (Keep.cons rfl (Keep.nil))))))) (tO)
    ·
     replace hc3 := hs_ hc3
     obtain rfl : i = m.length := by omega
     rw [List.take_length] at hI
     refine g_exit ?_
     refine ge_then_exit ?_
     refine ge_then_exit ?_
     refine ge_block_exit ?_
     exact fun act wo hsl st => ⟨hI, hsl.keep (Keep.cons rfl (Keep.cons rfl (Keep.cons rfl (Keep.cons rfl (Keep.cons rfl (Keep.nil)))))), st.imp (tO)⟩
   ·
    rintro act wo ⟨hm10, hsl, st⟩
    refine g_of ?_ hsl st
    clear hsl st act wo
    refine g_cut (fun act wo => (0 ≤ z ∧ z ≤ t.length ∧ (0 < z → t[z.toNat - 1]? = some 10)) ∧ HasSl Tryd.f7.ntmps [(9, I64 e0), (7, .slice a1 es.length c1), (2, S m), (1, I64 z), (0, S t)] act ∧ St W0 (own (.slice a1 es.length c1) 23 5 es.length (es.flatMap entC) :: base W :: R) wo) ?_ ?_
    ·
     refine g_seq ?_
     by_cases h1 : z < 0
     ·
      refine g_region ?_
      refine gl_v rfl (o_move rfl) ?_
      refine gl_v rfl (o_is (c := true) (by exact decide_eq_true h1) (o_lss rfl rfl)) ?_
      refine gl_v rfl (o_move rfl) ?_
      refine gl_gF rfl rfl rfl rfl ?_
      refine gl_gF rfl rfl rfl rfl ?_
      refine gl_gF rfl rfl rfl rfl ?_
      refine gl_gF rfl rfl rfl rfl ?_
      refine gl_v rfl (o_pickT rfl rfl rfl) ?_
      refine gl_v rfl (o_move rfl) ?_
      refine gl_gF rfl rfl rfl rfl ?_
      refine gl_gF rfl rfl rfl rfl ?_
      refine gl_gF rfl rfl rfl rfl ?_
      refine gl_gU rfl rfl rfl ?_
      refine gl_gU rfl rfl rfl ?_
      refine gl_gU rfl rfl rfl ?_
      refine gl_gU rfl rfl rfl ?_
      refine gl_gU rfl rfl rfl ?_
      refine gl_gF rfl rfl rfl rfl ?_
      refine gl_v rfl (o_pickT rfl rfl rfl) ?_
      refine gl_nil ?_
      refine ge_then ?_
      refine g_cond_true rfl ?_
      refine g_seq ?_
      refine g_region ?_
      refine gl_v rfl (o_assign rfl) ?_
      refine gl_nil ?_
      refine ge_then ?_
      refine g_ret ?_
      refine ge_then_ret ?_
      refine ret1 (.inl rfl) rfl rfl [base W] (⟨rfl, rfl⟩) (tO)
     ·
      refine g_region ?_
      refine gl_v rfl (o_move rfl) ?_
      refine gl_v rfl (o_is (c := false) (by exact decide_eq_false h1) (o_lss rfl rfl)) ?_
      refine gl_v rfl (o_move rfl) ?_
      refine gl_gT rfl rfl rfl ?_
      refine gl_v rfl (o_move rfl) ?_
      refine gl_gT rfl rfl rfl ?_
      refine gl_v rfl (o_move rfl) ?_
      refine gl_gT rfl rfl rfl ?_
      refine gl_v rfl (o_lens rfl) ?_
      refine gl_gT rfl rfl rfl ?_
      refine gl_v rfl (o_gtr rfl rfl) ?_
      refine gl_v rfl (o_pickF rfl rfl rfl) ?_
      refine gl_v rfl (o_move rfl) ?_
      refine gl_g rfl rfl (fun hc5 => ?_) (fun hc5 => ?_) rfl
      ·
       have hc5' := hc5
       replace hc5' := hs_ hc5'
       refine gl_v rfl (o_move rfl) ?_
       refine gl_gT rfl rfl hc5 ?_
       refine gl_v rfl (o_gtr rfl rfl) ?_
       refine gl_gT rfl rfl hc5 ?_
       refine gl_v rfl (o_move rfl) ?_
       refine gl_g rfl rfl (fun hc6 => ?_) (fun hc6 => ?_) rfl
       ·
        have hc6' := hc6
        replace hc6' := hs_ hc6'
        refine gl_v rfl (o_move rfl) ?_
        refine gl_gT rfl rfl hc6 ?_
        refine gl_v rfl (o_move rfl) ?_
        refine gl_gT rfl rfl hc6 ?_
        have hzt : z ≤ t.length := by omega
        obtain ⟨ch, hch⟩ : ∃ ch, t[z.toNat - 1]? = some ch := ⟨_, List.getElem?_eq_getElem (by omega)⟩
        refine gl_v rfl (o_subR ((z.toNat - 1 : Nat) : Int) (by rw [wr_i64 (by omega)]; omega) rfl rfl) ?_
        refine gl_gT rfl rfl hc6 ?_
        refine gl_v rfl (o_index_string rfl rfl hch) ?_
        refine gl_gT rfl rfl hc6 ?_
        refine gl_v rfl (o_neq rfl rfl) ?_
        refine gl_gT rfl rfl hc5 ?_
        refine gl_v rfl (o_pickT hc6 rfl rfl) ?_
        refine gl_v rfl (o_pickF hc5 rfl rfl) ?_
        refine gl_nil ?_
        refine ge_then ?_
        refine g_cond rfl (fun hc7 => ?_) (fun hc7 => ?_)
        ·
         replace hc7 := hs_ hc7
         refine g_seq ?_
         refine g_region ?_
         refine gl_v rfl (o_assign rfl) ?_
         refine gl_nil ?_
         refine ge_then ?_
         refine g_ret ?_
         refine ge_then_ret ?_
         refine ret1 (.inl rfl) rfl rfl [base W] (⟨rfl, rfl⟩) (tO)
        ·
         replace hc7 := hs_ hc7
         refine g_skip ?_
         exact fun act wo hsl st => ⟨⟨by omega, by omega, fun h => by first | omega | (rw [hch]; exact congrArg some (UInt8.toNat_inj.1 (show ch.toNat = 10 by omega)))⟩, hsl.keep (Keep.cons rfl (Keep.cons rfl (Keep.cons rfl (Keep.cons rfl (Keep.cons rfl (Keep.nil)))))), st.imp (tO)⟩
       ·
        have hc6' := hc6
        replace hc6' := hs_ hc6'
        simp only [putO]
        refine gl_gF rfl rfl hc6 rfl ?_
        refine gl_gF rfl rfl hc6 rfl ?_
        refine gl_gF rfl rfl hc6 rfl ?_
        refine gl_gF rfl rfl hc6 rfl ?_
        refine gl_gT rfl rfl hc5 ?_
        refine gl_v rfl (o_pickF hc6 rfl rfl) ?_
        refine gl_v rfl (o_pickF hc5 rfl rfl) ?_
        refine gl_nil ?_
        refine ge_then ?_
        refine g_cond_false rfl ?_
        refine g_skip ?_
        exact fun act wo hsl st => ⟨⟨by omega, by omega, fun h => by first | omega | (rw [hch]; exact congrArg some (UInt8.toNat_inj.1 (show ch.toNat = 10 by omega)))⟩, hsl.keep (Keep.cons rfl (Keep.cons rfl (Keep.cons rfl (Keep.cons rfl (Keep.cons rfl (Keep.nil)))))), st.imp (tO)⟩
      ·
       have hc5' := hc5
       replace hc5' := hs_ hc5'
       simp only [putO]
       refine gl_gF rfl rfl hc5 rfl ?_
       refine gl_gF rfl rfl hc5 rfl ?_
       refine gl_gU rfl rfl rfl ?_
       refine gl_gU rfl rfl rfl ?_
       refine gl_gU rfl rfl rfl ?_
       refine gl_gU rfl rfl rfl ?_
       refine gl_gU rfl rfl rfl ?_
       refine gl_gF rfl rfl hc5 rfl ?_
       refine gl_v rfl (o_pickT hc5 rfl rfl) ?_
       refine gl_nil ?_
       refine ge_then ?_
       refine g_cond_true rfl ?_
       refine g_seq ?_
       refine g_region ?_
       refine gl_v rfl (o_assign rfl) ?_
       refine gl_nil ?_
       refine ge_then ?_
       refine g_ret ?_
       refine ge_then_ret ?_
       refine ret1 (.inl rfl) rfl rfl [base W] (⟨rfl, rfl⟩) (tO)
    ·
     rintro act wo ⟨⟨hz0, hzt, hz10⟩, hsl, st⟩
     refine g_of ?_ hsl st
     clear hsl st act wo
     refine g_seq ?_
     obtain ⟨k, rfl⟩ : ∃ k : Nat, z = k := ⟨z.toNat, by omega⟩
     have hin := script_ins (t := t) (m := m) (k := k) (by omega) (fun h => by simpa using hz10 (by omega)) hm10 (by omega)
     rcases hsc2 : scriptS (t.take k ++ [35] ++ m ++ [10, 10] ++ t.drop k) with ⟨es2, ln2, e2⟩
     rw [show t.take k ++ ([35] ++ (m ++ ([10, 10] ++ t.drop k))) = t.take k ++ [35] ++ m ++ [10, 10] ++ t.drop k by simp only [List.append_assoc], hsc2, hsc] at hin
     obtain ⟨rfl, rfl⟩ : es = es2 ∧ e0 = e2 := by simpa [outL, eq_comm] using hin
     refine g_draw [11] [] [(0, .loc), (1, .loc), (2, .loc), (3, .loc), (4, .loc), (5, .loc), (6, .loc), (7, .loc), (8, .loc), (9, .loc), (10, .loc), (11, .eff), (12, .loc), (13, .loc), (14, .loc), (15, .loc), (16, .loc), (17, .loc), (18, .loc)] [own (.slice a1 es.length c1) 23 5 es.length (es.flatMap entC)] mixed (by kernel_rfl) ?_
     refine go_v rfl .none rfl (o_move rfl) ?_
     refine go_v rfl .none rfl (o_move rfl) ?_
     refine go_v rfl .none rfl (o_strTo rfl rfl (by omega)) ?_
     refine go_v rfl .none rfl (o_adds rfl rfl (by simp only [List.length_append, List.length_cons, List.length_nil, List.length_take, List.length_drop]; omega)) ?_
     refine go_v rfl .none rfl (o_move rfl) ?_
     refine go_v rfl .none rfl (o_adds rfl rfl (by simp only [List.length_append, List.length_cons, List.length_nil, List.length_take, List.length_drop]; omega)) ?_
     refine go_v rfl .none rfl (o_adds rfl rfl (by simp only [List.length_append, List.length_cons, List.length_nil, List.length_take, List.length_drop]; omega)) ?_
     refine go_v rfl .none rfl (o_move rfl) ?_
     refine go_v rfl .none rfl (o_move rfl) ?_
     refine go_v rfl .none rfl (o_strFrom rfl rfl (by omega)) ?_
     refine go_v rfl .none rfl (o_adds rfl rfl (by simp only [List.length_append, List.length_cons, List.length_nil, List.length_take, List.length_drop]; omega)) ?_
     refine go_c rfl .none rfl (o_call rfl (Script_spec hG hm (t.take k ++ [35] ++ m ++ [10, 10] ++ t.drop k)) pA) ?_
     rintro _ R ⟨_, ⟨a3, c3, rfl, rfl⟩, rfl⟩
     try simp only [List.cons_append, List.nil_append]
     rw [hsc2]; try dsimp only
     refine ⟨(fun hG => absurd hG (by decide)), ?_⟩
     refine go_v rfl .none rfl (o_move rfl) ?_
     refine go_v rfl .none rfl (o_extract rfl rfl) ?_
     refine go_v rfl .none rfl (o_extract rfl rfl) ?_
     refine go_v rfl .none rfl (o_extract rfl rfl) ?_
     refine go_v rfl .none rfl (o_assign rfl) ?_
     refine go_v rfl .none rfl (o_assign rfl) ?_
     refine go_v rfl .none rfl (o_assign rfl) ?_
     refine go_nil ?_
     refine ge_then ?_
     refine g_seq ?_
     refine g_seq ?_
     refine g_region ?_
     refine gl_v rfl (o_move rfl) ?_
     refine gl_v rfl (o_move rfl) ?_
     refine gl_v rfl (o_is (c := false) (by simp) (o_neq rfl rfl)) ?_
     refine gl_v rfl (o_move rfl) ?_
     refine gl_gT rfl rfl rfl ?_
     refine gl_v rfl (o_move rfl) ?_
     refine gl_gT rfl rfl rfl ?_
     first | refine gl_v rfl (o_len rfl) ?_ | refine gl_v rfl (o_lenL rfl) ?_
     refine gl_gT rfl rfl rfl ?_
     refine gl_v rfl (o_move rfl) ?_
     refine gl_gT rfl rfl rfl ?_
     first | refine gl_v rfl (o_len rfl) ?_ | refine gl_v rfl (o_lenL rfl) ?_
     refine gl_gT rfl rfl rfl ?_
     refine gl_v rfl (o_is (c := false) (by simp) (o_neq rfl rfl)) ?_
     refine gl_v rfl (o_pickF rfl rfl rfl) ?_
     refine gl_nil ?_
     refine ge_then ?_
     refine g_cond_false rfl ?_
     refine g_skip ?_
     refine ge_then ?_
     refine g_seq ?_
     refine g_seq ?_
     refine g_region ?_
     refine gl_v rfl (o_assign rfl) ?_
     refine gl_nil ?_
     refine ge_then ?_
     refine g_block ?_
     refine g_loop (ι := Nat) (fun x => x ≤ es.length) (fun x => [(23, I64 x), (20, .slice a3 es.length c3), (7, .slice a1 es.length c1)]) (fun x => own (.slice a3 es.length c3) 23 5 es.length (es.flatMap entC) :: own (.slice a1 es.length c1) 23 5 es.length (es.flatMap entC) :: base W :: R) (fun x => es.length - x) 0 (Nat.zero_le _) (Keep.cons rfl (Keep.cons rfl (Keep.cons rfl (Keep.nil)))) (tO) ?_
     rintro i hi
     replace hi : i ≤ es.length := hi
     try dsimp only
     refine g_seq ?_
     refine g_seq ?_
     refine g_region ?_
     refine gl_v rfl (o_move rfl) ?_
     refine gl_v rfl (o_move rfl) ?_
     first | refine gl_v rfl (o_len rfl) ?_ | refine gl_v rfl (o_lenL rfl) ?_
     refine gl_v rfl (o_lss rfl rfl) ?_
     refine gl_nil ?_
     refine ge_then ?_
     refine g_cond rfl (fun hc8 => ?_) (fun hc8 => ?_)
     ·
      replace hc8 := hs_ hc8
      have hi1 : i < es.length := by omega
      obtain ⟨e1, he1⟩ : ∃ e1, es[i]? = some e1 := ⟨_, List.getElem?_eq_getElem hi1⟩
      refine g_skip ?_
      refine ge_then ?_
      refine g_seq ?_
      refine g_block ?_
      refine g_seq ?_
      refine g_draw [] [] [(0, .loc), (1, .loc), (2, .loc), (3, .loc), (4, .loc), (5, .loc), (6, .loc), (7, .loc), (8, .loc)] [] mixed (by kernel_rfl) ?_
      refine go_v rfl .none rfl (o_move rfl) ?_
      refine go_v rfl .none rfl (o_move rfl) ?_
      refine go_v rfl .none rfl (o_idxS rfl rfl hi1) ?_
      refine go_v rfl .none rfl (o_loadSA (vs := entC e1) rfl (entF_take he1) rfl) ?_
      refine go_v rfl .none rfl (o_move rfl) ?_
      refine go_v rfl .none rfl (o_move rfl) ?_
      refine go_v rfl .none rfl (o_idxS rfl rfl hi1) ?_
      refine go_v rfl .none rfl (o_loadSA (vs := entC e1) rfl (entF_take he1) rfl) ?_
      refine go_v rfl .none rfl (o_is (c := false) (by show (!flatEq (entC _) (entC _)) = false; rw [flatEq_ent]; simp) (o_neqA rfl rfl rfl rfl)) ?_
      refine go_nil ?_
      refine ge_then ?_
      refine g_cond_false rfl ?_
      refine g_skip ?_
      refine ge_block ?_
      refine ge_then ?_
      refine g_region ?_
      refine gl_v rfl (o_move rfl) ?_
      refine gl_v rfl (o_addR ((i + 1 : Nat) : Int) (by rw [wr_i64 (by omega)]; omega) rfl rfl) ?_
      refine gl_v rfl (o_assign rfl) ?_
      refine gl_nil ?_
      refine ge_round (i + 1) (by show i + 1 ≤ es.length; omega) (by show es.length - (i + 1) < es.length - i; omega) (Keep.cons rfl (Keep.cons rfl (Keep.cons rfl (Keep.nil)))) (tO)
     ·
      replace hc8 := hs_ hc8
      refine g_exit ?_
      refine ge_then_exit ?_
      refine ge_then_exit ?_
      refine ge_block_exit ?_
      refine ge_then ?_
      refine g_seq ?_
      refine g_region ?_
      refine gl_v rfl (o_assign rfl) ?_
      refine gl_nil ?_
      refine ge_then ?_
      refine g_ret ?_
      refine ret1 (.inl rfl) rfl rfl [base W] (⟨rfl, rfl⟩) (tO)

end Go.Proofs.YtcglaiacohkaeaaDoor.L
