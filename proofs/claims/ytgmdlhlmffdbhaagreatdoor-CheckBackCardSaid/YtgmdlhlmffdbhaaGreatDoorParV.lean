/-
  Parse: the writer of words. Own work, printed in part by a program of its own.
-/
import Derived.Test.YtgmdlhlmffdbhaaGreatDoorParT
import Derived.Test.YtgmdlhlmffdbhaaGreatDoorParX
set_option linter.unusedSimpArgs false
set_option linter.unusedVariables false
set_option linter.unusedSectionVars false
namespace Go.Proofs.YtgmdlhlmffdbhaaGreatDoor.L
open Go.L Go.L.Lx Go.L.Pg Go.L.Pa
abbrev wsC (ws : List By) : List Value := ws.map fun w => S w
def wtr (p : Nat) (ws : List By) : Assn := exA (ι := Option Addr × Nat) (fun _ => True) (fun x => [cel p 53 [.slice x.1 ws.length x.2], own (.slice x.1 ws.length x.2) 9 1 ws.length (wsC ws)])
theorem wtr_shut {p : Nat} {ws : List By} {As R1 R2 : List Assn} (a : Option Addr) (c : Nat) (s1 : Sel (cel p 53 [.slice a ws.length c]) As R1) (s2 : Sel (own (.slice a ws.length c) 9 1 ws.length (wsC ws)) R1 R2) : ∀ h, Sat As h → Sat (wtr p ws :: R2) h :=
  ex_close (a, c) trivial (fun _ s => Sat.tail (fun _ => s2.to) (s1.to s))
abbrev wBig : Nat := 1099511627776
theorem wsC_len (ws : List By) : (wsC ws).length = ws.length * 1 := by simp
theorem wsC_one (ws : List By) : (wsC ws).all Value.oneCell' = true := by simp [wsC, Value.oneCell']
theorem Itoa_in {W : World} (hG : Gok W) (M : Assn) [HB W M] (n : Int) (h : rg n) : FnS Tryz.prog 46 [I64 n] [M] (fun u Bs => u = S (itoaB n) ∧ Bs = [M]) :=
  fns_in (Xs := []) (Itoa_spec hG n h.1 h.2) fun u Bs hb => ⟨[], hb.2, hb.1, rfl⟩

set_option maxRecDepth 8000 in
set_option maxHeartbeats 1000000 in
theorem put_spec (p : Nat) (ws vs : List By) (v : Value) (A : Assn) [RdA v A vs.length (wsC vs)] (h1 : ws.length + vs.length ≤ wBig) : FnS Tryz.prog 45 [ptr p 0, v] [wtr p ws, A] (fun u Bs => u = .tuple #[] ∧ Bs = [wtr p (ws ++ vs)]) := by
 refine fn_body Tryz.func45 rfl rfl rfl ?_
 intro W0 R
 simp only [List.zipIdx_cons, List.zipIdx_nil, List.map_cons, List.map_nil, Nat.zero_add, Nat.reduceAdd, List.cons_append, List.nil_append]
 refine g_imp (fun h s => Sel.to (A := wtr p ws) sE s) ?_
 refine g_open .head ?_
 rintro ⟨wa, wc⟩ -
 simp only [List.cons_append, List.nil_append]
 unfold wBig at h1
 refine g_region ?_
 refine gl_v rfl (o_move rfl) ?_
 refine gl_v rfl (o_move rfl) ?_
 refine gl_v rfl (o_nil rfl) ?_
 first | refine gl_v rfl (o_fldS rfl) ?_ | refine gl_v rfl (o_fld rfl) ?_
 first | refine gl_v rfl (o_load rfl rfl) ?_ | refine gl_v rfl (o_loadS rfl rfl) ?_ | refine gl_v rfl (o_loadC rfl) ?_
 refine gl_v rfl (o_move rfl) ?_
 refine gl_n rfl (o_appendS (news := wsC vs) rfl rfl sE rfl (wsC_len vs) (wsC_one vs) (by omega) (by unfold maxLen; omega)) ?_
 rintro _ _ ⟨a10, c10, rfl, rfl⟩
 rw [← List.length_append, ← List.map_append]
 refine gl_v rfl (o_nil rfl) ?_
 first | refine gl_v rfl (o_fldS rfl) ?_ | refine gl_v rfl (o_fld rfl) ?_
 first | refine gl_u (o_store rfl rfl rfl rfl) ?_ | refine gl_u (o_storeS rfl rfl rfl (by first | assumption | omega | simp)) ?_
 refine gl_nil ?_
 refine ret0 (.inr rfl) rfl  [wtr p (ws ++ vs)] ⟨rfl, rfl⟩ (fun h s => (tO) h (wtr_shut (p := p) (ws := ws ++ vs) (R1 := own (.slice a10 (ws ++ vs).length c10) 9 1 (ws ++ vs).length (wsC (ws ++ vs)) :: A :: R) (R2 := A :: R) a10 c10 sE .head h s))

theorem put1 (p b : Nat) (ws : List By) (x0 : By) (h1 : ws.length + 1 ≤ wBig) : FnS Tryz.prog 45 [ptr p 0, .slice (some ⟨b, 0, none⟩) 1 1] [wtr p ws, cel b 9 [S x0]] (fun u Bs => u = .tuple #[] ∧ Bs = [wtr p (ws ++ [x0])]) :=
  haveI : RdA (.slice (some ⟨b, 0, none⟩) 1 1) (cel b 9 [S x0]) ([x0] : List By).length (wsC [x0]) := lit_rda
  put_spec p ws [x0] (.slice (some ⟨b, 0, none⟩) 1 1) (cel b 9 [S x0]) h1

theorem put2 (p b : Nat) (ws : List By) (x0 x1 : By) (h1 : ws.length + 2 ≤ wBig) : FnS Tryz.prog 45 [ptr p 0, .slice (some ⟨b, 0, none⟩) 2 2] [wtr p ws, cel b 9 [S x0, S x1]] (fun u Bs => u = .tuple #[] ∧ Bs = [wtr p (ws ++ [x0, x1])]) :=
  haveI : RdA (.slice (some ⟨b, 0, none⟩) 2 2) (cel b 9 [S x0, S x1]) ([x0, x1] : List By).length (wsC [x0, x1]) := lit_rda
  put_spec p ws [x0, x1] (.slice (some ⟨b, 0, none⟩) 2 2) (cel b 9 [S x0, S x1]) h1

theorem put3 (p b : Nat) (ws : List By) (x0 x1 x2 : By) (h1 : ws.length + 3 ≤ wBig) : FnS Tryz.prog 45 [ptr p 0, .slice (some ⟨b, 0, none⟩) 3 3] [wtr p ws, cel b 9 [S x0, S x1, S x2]] (fun u Bs => u = .tuple #[] ∧ Bs = [wtr p (ws ++ [x0, x1, x2])]) :=
  haveI : RdA (.slice (some ⟨b, 0, none⟩) 3 3) (cel b 9 [S x0, S x1, S x2]) ([x0, x1, x2] : List By).length (wsC [x0, x1, x2]) := lit_rda
  put_spec p ws [x0, x1, x2] (.slice (some ⟨b, 0, none⟩) 3 3) (cel b 9 [S x0, S x1, S x2]) h1

theorem put8 (p b : Nat) (ws : List By) (x0 x1 x2 x3 x4 x5 x6 x7 : By) (h1 : ws.length + 8 ≤ wBig) : FnS Tryz.prog 45 [ptr p 0, .slice (some ⟨b, 0, none⟩) 8 8] [wtr p ws, cel b 9 [S x0, S x1, S x2, S x3, S x4, S x5, S x6, S x7]] (fun u Bs => u = .tuple #[] ∧ Bs = [wtr p (ws ++ [x0, x1, x2, x3, x4, x5, x6, x7])]) :=
  haveI : RdA (.slice (some ⟨b, 0, none⟩) 8 8) (cel b 9 [S x0, S x1, S x2, S x3, S x4, S x5, S x6, S x7]) ([x0, x1, x2, x3, x4, x5, x6, x7] : List By).length (wsC [x0, x1, x2, x3, x4, x5, x6, x7]) := lit_rda
  put_spec p ws [x0, x1, x2, x3, x4, x5, x6, x7] (.slice (some ⟨b, 0, none⟩) 8 8) (cel b 9 [S x0, S x1, S x2, S x3, S x4, S x5, S x6, S x7]) h1

set_option maxRecDepth 8000 in
set_option maxHeartbeats 1000000 in
theorem value_spec {W : World} (hG : Gok W) (M : Assn) [HB W M] (e : Eff) (hr : EffR e) : FnS Tryz.prog 100 [.agg (effC e).toArray] [M] (fun u Bs => u = S (valWs e) ∧ Bs = [M]) := by
 refine fn_body Tryz.func100 rfl rfl rfl ?_
 intro W0 R
 simp only [List.zipIdx_cons, List.zipIdx_nil, List.map_cons, List.map_nil, Nat.zero_add, Nat.reduceAdd, List.cons_append, List.nil_append]
 refine g_seq ?_
 refine g_region ?_
 refine gl_n rfl (o_boxA rfl) ?_
 rintro _ _ ⟨b1, rfl, rfl⟩
 refine gl_v rfl (o_assign rfl) ?_
 refine gl_nil ?_
 refine ge_then ?_
 refine g_seq ?_
 refine g_seq ?_
 refine g_region ?_
 first | refine gl_v rfl (o_fldS rfl) ?_ | refine gl_v rfl (o_fld rfl) ?_
 first | refine gl_v rfl (o_load rfl rfl) ?_ | refine gl_v rfl (o_loadS rfl rfl) ?_ | refine gl_v rfl (o_loadC rfl) ?_
 refine gl_nil ?_
 refine ge_then ?_
 refine g_block ?_
 refine g_seq ?_
 refine g_region ?_
 refine gl_v rfl (o_eql rfl rfl) ?_
 refine gl_v rfl (o_assign rfl) ?_
 refine gl_nil ?_
 refine ge_then ?_
 refine g_cond rfl (fun hc1 => ?_) (fun hc1 => ?_)
 ·
  replace hc1 := hs_ hc1
  refine g_seq ?_
  refine g_region ?_
  refine gl_v rfl (o_assign rfl) ?_
  refine gl_nil ?_
  refine ge_then ?_
  refine g_ret ?_
  refine ge_block_ret ?_
  refine ge_then_ret ?_
  refine ret1 (.inl rfl) rfl rfl _ (⟨by unfold valWs; first | rw [if_pos (by omega)] | rw [if_neg (by omega), if_pos (by omega)] | rw [if_neg (by omega), if_neg (by omega)], rfl⟩) (tO)
 ·
  replace hc1 := hs_ hc1
  refine g_seq ?_
  refine g_region ?_
  refine gl_v rfl (o_eql rfl rfl) ?_
  refine gl_v rfl (o_assign rfl) ?_
  refine gl_nil ?_
  refine ge_then ?_
  refine g_cond rfl (fun hc2 => ?_) (fun hc2 => ?_)
  ·
   replace hc2 := hs_ hc2
   refine g_seq ?_
   refine g_region ?_
   refine gl_v rfl (o_assign rfl) ?_
   refine gl_nil ?_
   refine ge_then ?_
   refine g_ret ?_
   refine ge_block_ret ?_
   refine ge_then_ret ?_
   refine ret1 (.inl rfl) rfl rfl _ (⟨by unfold valWs; first | rw [if_pos (by omega)] | rw [if_neg (by omega), if_pos (by omega)] | rw [if_neg (by omega), if_neg (by omega)], rfl⟩) (tO)
  ·
   replace hc2 := hs_ hc2
   refine g_skip ?_
   refine ge_block ?_
   refine ge_then ?_
   refine g_seq ?_
   refine g_region ?_
   first | refine gl_v rfl (o_fldS rfl) ?_ | refine gl_v rfl (o_fld rfl) ?_
   first | refine gl_v rfl (o_load rfl rfl) ?_ | refine gl_v rfl (o_loadS rfl rfl) ?_ | refine gl_v rfl (o_loadC rfl) ?_
   refine gl_c rfl (o_call rfl (Itoa_in hG M (e.n) hr.n) pA) ?_
   rintro _ R ⟨_, ⟨rfl, rfl⟩, rfl⟩
   try simp only [List.cons_append, List.nil_append]
   refine gl_v rfl (o_assign rfl) ?_
   refine gl_nil ?_
   refine ge_then ?_
   refine g_ret ?_
   refine ret1 (.inl rfl) rfl rfl _ (⟨by unfold valWs; first | rw [if_pos (by omega)] | rw [if_neg (by omega), if_pos (by omega)] | rw [if_neg (by omega), if_neg (by omega)], rfl⟩) (tO)

theorem flat_succ {α : Type} {f : UInt8 → List α} {ps : By} {k : Nat} {c : UInt8} (h : ps[k]? = some c) : (ps.take (k + 1)).flatMap f = (ps.take k).flatMap f ++ f c := by
  obtain ⟨hi, e⟩ := List.getElem?_eq_some_iff.1 h
  rw [List.take_succ_eq_append_getElem hi, e, List.flatMap_append, List.flatMap_singleton]
theorem flatT_succ {α β : Type} {f : α → List β} {ps : List α} {k : Nat} {c : α} (h : ps[k]? = some c) : (ps.take (k + 1)).flatMap f = (ps.take k).flatMap f ++ f c := by
  obtain ⟨hi, e⟩ := List.getElem?_eq_some_iff.1 h
  rw [List.take_succ_eq_append_getElem hi, e, List.flatMap_append, List.flatMap_singleton]
theorem len_flat {α β : Type} (f : α → List β) (hf : ∀ x, 1 ≤ (f x).length) : ∀ l : List α, l.length ≤ (l.flatMap f).length
  | [] => Nat.le_refl _
  | x :: l => by rw [List.flatMap_cons, List.length_append, List.length_cons]; have := hf x; have := len_flat f hf l; omega
theorem partW_len (e : Eff) (c : UInt8) : (partWs e c).length ≤ 1 := by unfold partWs; (repeat' split) <;> simp
theorem flatP_len (e : Eff) (l : By) : (l.flatMap (partWs e)).length ≤ l.length := by
  induction l with
  | nil => simp
  | cons c l ih => rw [List.flatMap_cons, List.length_append, List.length_cons]; have := partW_len e c; omega
theorem VB_small : ∀ q ∈ VB, q.2.length ≤ 3 := by decide
theorem VB_verb {i : Nat} {q : By × By} (h : VB[i]? = some q) : verb ((i + 1 : Nat) : Int) = q := by
  have hi : i < 12 := by have := (List.getElem?_eq_some_iff.1 h).1; rwa [VB_len] at this
  unfold VB at h
  rw [List.getElem?_map, List.getElem?_range hi] at h
  exact Option.some.inj h

set_option maxRecDepth 8000 in
set_option maxHeartbeats 1000000 in
theorem effW_spec {W : World} (hG : Gok W) (M : Assn) [HB W M] (p : Nat) (e : Eff) (hr : EffR e) (ws : List By) (hl : ws.length + 10 ≤ wBig) : FnS Tryz.prog 77 [ptr p 0, .agg (effC e).toArray] [wtr p ws, M] (fun u Bs => u = .tuple #[] ∧ Bs = [wtr p (ws ++ effWs e), M]) := by
 refine fn_body Tryz.func77 rfl rfl rfl ?_
 intro W0 R
 simp only [List.zipIdx_cons, List.zipIdx_nil, List.map_cons, List.map_nil, Nat.zero_add, Nat.reduceAdd, List.cons_append, List.nil_append]
 unfold wBig at hl
 refine g_seq ?_
 refine g_region ?_
 refine gl_n rfl (o_boxA rfl) ?_
 rintro _ _ ⟨b3, rfl, rfl⟩
 refine gl_nil ?_
 refine ge_then ?_
 refine g_seq ?_
 refine g_seq ?_
 refine g_region ?_
 first | refine gl_v rfl (o_fldS rfl) ?_ | refine gl_v rfl (o_fld rfl) ?_
 first | refine gl_v rfl (o_load rfl rfl) ?_ | refine gl_v rfl (o_loadS rfl rfl) ?_ | refine gl_v rfl (o_loadC rfl) ?_
 refine gl_v rfl (o_lss rfl rfl) ?_
 refine gl_v rfl (o_move rfl) ?_
 refine gl_join (d := 14) 4 (.bool (decide (e.do' < 1) || decide (12 < e.do'))) ?_ (fun jk14 => ?_)
 rotate_left
 ·
  refine gl_g rfl rfl (fun hc1 => ?_) (fun hc1 => ?_) rfl
  ·
   have hc1' := hc1
   replace hc1' := hs_ hc1'
   first | refine gl_v rfl (o_fldS rfl) ?_ | refine gl_v rfl (o_fld rfl) ?_
   refine gl_gT rfl rfl hc1 ?_
   first | refine gl_v rfl (o_load rfl rfl) ?_ | refine gl_v rfl (o_loadS rfl rfl) ?_ | refine gl_v rfl (o_loadC rfl) ?_
   refine gl_gT rfl rfl hc1 ?_
   refine gl_v rfl (o_gtr rfl rfl) ?_
   refine gl_v rfl (o_pickF hc1 rfl rfl) ?_
   first | exact jk14 _ (KeepS.top (by repeat (first | exact KeepS.refl _ | refine KeepS.push ?_ rfl)) (jval (by first | rfl | (simp only [hc1, Bool.not_true, Bool.not_false, Bool.false_and, Bool.true_and, Bool.true_or, Bool.false_or]; done) | (simp [hc1, ]; done) | simp_all))) | exact gl_imp (tO) (jk14 _ (KeepS.top (by repeat (first | exact KeepS.refl _ | refine KeepS.push ?_ rfl)) (jval (by first | rfl | (simp only [hc1, Bool.not_true, Bool.not_false, Bool.false_and, Bool.true_and, Bool.true_or, Bool.false_or]; done) | (simp [hc1, ]; done) | simp_all))))
  ·
   have hc1' := hc1
   replace hc1' := hs_ hc1'
   simp only [putO]
   refine gl_gF rfl rfl hc1 rfl ?_
   refine gl_gF rfl rfl hc1 rfl ?_
   refine gl_v rfl (o_pickT hc1 rfl rfl) ?_
   first | exact jk14 _ (KeepS.top (by repeat (first | exact KeepS.refl _ | refine KeepS.push ?_ rfl)) (jval (by first | rfl | (simp only [hc1, Bool.not_true, Bool.not_false, Bool.false_and, Bool.true_and, Bool.true_or, Bool.false_or]; done) | (simp [hc1, ]; done) | simp_all))) | exact gl_imp (tO) (jk14 _ (KeepS.top (by repeat (first | exact KeepS.refl _ | refine KeepS.push ?_ rfl)) (jval (by first | rfl | (simp only [hc1, Bool.not_true, Bool.not_false, Bool.false_and, Bool.true_and, Bool.true_or, Bool.false_or]; done) | (simp [hc1, ]; done) | simp_all))))
 refine gl_nil ?_
 refine ge_then ?_
 refine g_cond rfl (fun hc2 => ?_) (fun hc2 => ?_)
 ·
  replace hc2 := hs_ hc2
  replace hc2 : e.do' < 1 ∨ 12 < e.do' := by simpa using hc2
  refine g_ret ?_
  refine ge_then_ret ?_
  refine ret0 (.inl rfl) rfl [wtr p ws, M] (⟨rfl, by unfold effWs; rw [if_pos (by omega), List.append_nil]⟩) (tO)
 ·
  replace hc2 := hs_ hc2
  replace hc2 : ¬ (e.do' < 1 ∨ 12 < e.do') := by simpa using hc2
  refine g_skip ?_
  refine ge_then ?_
  refine g_cut (fun act wo => ∃ (b4 : Nat) (w ps : By), effWs e = w :: ps.flatMap (partWs e) ∧ (∀ c ∈ ps, c.toNat < 128) ∧ ps.length ≤ 3 ∧ HasSl Tryz.f77.ntmps [(4, ptr b4 0), (3, ptr b3 0), (0, ptr p 0)] act ∧ St W0 (cel b4 174 (vbC (w, ps)) :: cel b3 38 (effC e) :: wtr p ws :: M :: R) wo) ?_ ?_
  ·
   obtain ⟨i, hi1, hdo⟩ : ∃ i : Nat, i < 12 ∧ e.do' = ((i + 1 : Nat) : Int) := ⟨(e.do' - 1).toNat, by omega, by omega⟩
   obtain ⟨⟨w, ps⟩, hwj⟩ : ∃ w, VB[i]? = some w := ⟨_, List.getElem?_eq_getElem (show i < VB.length by rw [VB_len]; exact hi1)⟩
   have hasc := VB_ascii _ (List.mem_of_getElem? hwj)
   have hps := VB_small _ (List.mem_of_getElem? hwj)
   simp only at hasc hps
   have hEW : effWs e = w :: ps.flatMap (partWs e) := by unfold effWs; rw [if_neg (by omega), hdo, VB_verb hwj]
   refine g_treeM [0, 5, 6] [0, 5] (.stab 1 (.stab 2 (.stab 3 (.eff 0 (.stab 4 (.eff 5 (.eff 6 .nil .nil) .nil)) (.eff 5 (.eff 0 (.loc 4 (.eff 6 .nil .nil)) .nil) .nil))))) [cel b3 38 (effC e)] mixed (by kernel_rfl) ?_
   first | refine gt_vs rfl .none rfl (o_fldS rfl) (tO) ?_ | refine gt_vs rfl .none rfl (o_fld rfl) (tO) ?_
   first | refine gt_vs rfl .none rfl (o_load rfl rfl) (tO) ?_ | refine gt_vs rfl .none rfl (o_loadS rfl rfl) (tO) ?_ | refine gt_vs rfl .none rfl (o_loadC rfl) (tO) ?_
   refine gt_vs rfl .none rfl (o_subR (i : Int) (by rw [wr_i64 (by omega)]; omega) rfl rfl) (tO) ?_
   refine gt_alts ?_ ?_
   ·
    refine gt_c rfl .none rfl (o_call rfl (verbs_spec) pA) ?_
    rintro _ R ⟨_, ⟨rfl, rfl⟩, rfl⟩
    try simp only [List.cons_append, List.nil_append]
    refine ⟨(fun _ => (tO)), ?_⟩
    refine gt_vs rfl .none rfl (o_indexA (us := vbC (w, ps)) Tryz.underlying175 rfl rfl hi1 (flat_take vbC 2 vbC_len hwj)) (tO) ?_
    refine gt_n rfl .none rfl (o_alloc) ?_
    rintro _ _ ⟨b4, rfl, rfl⟩
    refine ⟨(fun _ => (tO)), ?_⟩
    first | refine gt_u rfl .none (o_storeSA rfl rfl rfl rfl (by simp; omega) (by simp)) (fun hG => absurd hG (by decide)) ?_ | refine gt_u rfl .none (o_storeA rfl rfl rfl rfl rfl) (fun hG => absurd hG (by decide)) ?_
    refine gt_nil ?_
    exact fun act wo hsl st => ⟨b4, w, ps, hEW, hasc, hps, hsl.keep (Keep.cons rfl (Keep.cons rfl (Keep.cons rfl (Keep.nil)))), st.imp (tO)⟩
   ·
    refine gt_n rfl .none rfl (o_alloc) ?_
    rintro _ _ ⟨b4, rfl, rfl⟩
    refine ⟨(fun _ => (tO)), ?_⟩
    refine gt_c rfl .none rfl (o_call rfl (verbs_spec) pA) ?_
    rintro _ R ⟨_, ⟨rfl, rfl⟩, rfl⟩
    try simp only [List.cons_append, List.nil_append]
    refine ⟨(fun _ => (tO)), ?_⟩
    refine gt_v rfl .none rfl (o_indexA (us := vbC (w, ps)) Tryz.underlying175 rfl rfl hi1 (flat_take vbC 2 vbC_len hwj)) ?_
    first | refine gt_u rfl .none (o_storeSA rfl rfl rfl rfl (by simp; omega) (by simp)) (fun hG => absurd hG (by decide)) ?_ | refine gt_u rfl .none (o_storeA rfl rfl rfl rfl rfl) (fun hG => absurd hG (by decide)) ?_
    refine gt_nil ?_
    exact fun act wo hsl st => ⟨b4, w, ps, hEW, hasc, hps, hsl.keep (Keep.cons rfl (Keep.cons rfl (Keep.cons rfl (Keep.nil)))), st.imp (tO)⟩
  ·
   rintro act wo ⟨b4, w, ps, hEW, hasc, hps, hsl, st⟩
   refine g_of ?_ hsl st
   clear hsl st act wo
   refine g_seq ?_
   refine g_region ?_
   refine gl_v rfl (o_move rfl) ?_
   first | refine gl_v rfl (o_fldS rfl) ?_ | refine gl_v rfl (o_fld rfl) ?_
   first | refine gl_v rfl (o_load rfl rfl) ?_ | refine gl_v rfl (o_loadS rfl rfl) ?_ | refine gl_v rfl (o_loadC rfl) ?_
   first | refine gl_n rfl (o_buildS1 rfl rfl rfl) ?_ | refine gl_n rfl (o_buildS1A rfl rfl rfl rfl) ?_ | refine gl_n rfl (o_buildS rfl rfl rfl rfl) ?_
   rintro _ _ ⟨b23, rfl, rfl⟩
   refine gl_c rfl (o_call rfl (put1 p b23 ws w (by unfold wBig; omega)) pA) ?_
   rintro _ R ⟨_, ⟨rfl, rfl⟩, rfl⟩
   try simp only [List.cons_append, List.nil_append]
   refine gl_nil ?_
   refine ge_then ?_
   refine g_seq ?_
   refine g_region ?_
   first | refine gl_v rfl (o_fldS rfl) ?_ | refine gl_v rfl (o_fld rfl) ?_
   first | refine gl_v rfl (o_load rfl rfl) ?_ | refine gl_v rfl (o_loadS rfl rfl) ?_ | refine gl_v rfl (o_loadC rfl) ?_
   refine gl_n rfl (o_range rfl) ?_
   rintro _ _ ⟨b27, rfl, rfl⟩
   refine gl_nil ?_
   refine ge_then ?_
   refine g_block ?_
   refine g_loop (ι := Nat) (fun x => x ≤ ps.length) (fun x => [(27, ptr b27 0), (4, ptr b4 0), (3, ptr b3 0), (0, ptr p 0)]) (fun k => itr b27 ps k :: wtr p (ws ++ [w] ++ (ps.take k).flatMap (partWs e)) :: cel b3 38 (effC e) :: M :: R) (fun x => ps.length - x) 0 (Nat.zero_le _) (Keep.cons rfl (Keep.cons rfl (Keep.cons rfl (Keep.cons rfl (Keep.nil))))) (by rw [List.take_zero, List.flatMap_nil, List.append_nil]; exact (tO)) ?_
   rintro k hk
   replace hk : k ≤ ps.length := hk
   have hfl := flatP_len e (ps.take k)
   have htk : (ps.take k).length ≤ 3 := by rw [List.length_take]; omega
   refine g_seq ?_
   rcases Nat.lt_or_ge k ps.length with hk1 | hk1
   ·
    obtain ⟨c, hkc⟩ : ∃ c, ps[k]? = some c := ⟨_, List.getElem?_eq_getElem hk1⟩
    have h8 := hasc c (List.mem_of_getElem? hkc)
    refine g_region ?_
    refine gl_n rfl (o_next rfl sE hkc h8) ?_
    rintro _ _ ⟨rfl, rfl⟩
    refine gl_v rfl (o_extract (v := .bool true) rfl rfl) ?_
    refine gl_nil ?_
    refine ge_then ?_
    refine g_seq ?_
    refine g_cond_true rfl ?_
    refine g_skip ?_
    refine ge_then ?_
    refine g_block ?_
    refine g_seq ?_
    refine g_region ?_
    refine gl_v rfl (o_extract rfl rfl) ?_
    refine gl_v rfl (o_assign rfl) ?_
    refine gl_nil ?_
    refine ge_then ?_
    refine g_seq ?_
    refine g_region ?_
    refine gl_v rfl (o_move rfl) ?_
    refine gl_nil ?_
    refine ge_then ?_
    refine g_block ?_
    refine g_seq ?_
    refine g_region ?_
    refine gl_v rfl (o_eql rfl rfl) ?_
    refine gl_v rfl (o_assign rfl) ?_
    refine gl_nil ?_
    refine ge_then ?_
    refine g_cond rfl (fun hc3 => ?_) (fun hc3 => ?_)
    ·
     replace hc3 := hs_ hc3
     have hw : partWs e c = [e.ref] := by unfold partWs; (first | rw [if_pos (by omega)] | rw [if_neg (by omega), if_pos (by omega)] | rw [if_neg (by omega), if_neg (by omega), if_pos (by omega)] | rw [if_neg (by omega), if_neg (by omega), if_neg (by omega), if_pos (by omega)] | rw [if_neg (by omega), if_neg (by omega), if_neg (by omega), if_neg (by omega), if_pos (by omega)])
     refine g_region ?_
     refine gl_v rfl (o_move rfl) ?_
     first | refine gl_v rfl (o_fldS rfl) ?_ | refine gl_v rfl (o_fld rfl) ?_
     first | refine gl_v rfl (o_load rfl rfl) ?_ | refine gl_v rfl (o_loadS rfl rfl) ?_ | refine gl_v rfl (o_loadC rfl) ?_
     first | refine gl_n rfl (o_buildS1 rfl rfl rfl) ?_ | refine gl_n rfl (o_buildS1A rfl rfl rfl rfl) ?_ | refine gl_n rfl (o_buildS rfl rfl rfl rfl) ?_
     rintro _ _ ⟨b37, rfl, rfl⟩
     refine gl_c rfl (o_call rfl (put1 p b37 ((ws ++ [w] ++ (ps.take k).flatMap (partWs e))) (e.ref) (by simp only [List.length_append, List.length_cons, List.length_nil] at *; unfold wBig; omega)) pA) ?_
     rintro _ R ⟨_, ⟨rfl, rfl⟩, rfl⟩
     try simp only [List.cons_append, List.nil_append]
     refine gl_nil ?_
     refine ge_block ?_
     refine ge_block ?_
     refine ge_round (k + 1) (show k + 1 ≤ ps.length by omega) (by show ps.length - (k + 1) < ps.length - k; omega) (Keep.cons rfl (Keep.cons rfl (Keep.cons rfl (Keep.cons rfl (Keep.nil))))) (by rw [flat_succ hkc, hw]; (try rw [← List.append_assoc]); (try rw [List.append_nil]); exact (tO))
    ·
     replace hc3 := hs_ hc3
     refine g_seq ?_
     refine g_region ?_
     refine gl_v rfl (o_eql rfl rfl) ?_
     refine gl_v rfl (o_assign rfl) ?_
     refine gl_nil ?_
     refine ge_then ?_
     refine g_cond rfl (fun hc4 => ?_) (fun hc4 => ?_)
     ·
      replace hc4 := hs_ hc4
      have hw : partWs e c = [e.slot] := by unfold partWs; (first | rw [if_pos (by omega)] | rw [if_neg (by omega), if_pos (by omega)] | rw [if_neg (by omega), if_neg (by omega), if_pos (by omega)] | rw [if_neg (by omega), if_neg (by omega), if_neg (by omega), if_pos (by omega)] | rw [if_neg (by omega), if_neg (by omega), if_neg (by omega), if_neg (by omega), if_pos (by omega)])
      refine g_region ?_
      refine gl_v rfl (o_move rfl) ?_
      first | refine gl_v rfl (o_fldS rfl) ?_ | refine gl_v rfl (o_fld rfl) ?_
      first | refine gl_v rfl (o_load rfl rfl) ?_ | refine gl_v rfl (o_loadS rfl rfl) ?_ | refine gl_v rfl (o_loadC rfl) ?_
      first | refine gl_n rfl (o_buildS1 rfl rfl rfl) ?_ | refine gl_n rfl (o_buildS1A rfl rfl rfl rfl) ?_ | refine gl_n rfl (o_buildS rfl rfl rfl rfl) ?_
      rintro _ _ ⟨b44, rfl, rfl⟩
      refine gl_c rfl (o_call rfl (put1 p b44 ((ws ++ [w] ++ (ps.take k).flatMap (partWs e))) (e.slot) (by simp only [List.length_append, List.length_cons, List.length_nil] at *; unfold wBig; omega)) pA) ?_
      rintro _ R ⟨_, ⟨rfl, rfl⟩, rfl⟩
      try simp only [List.cons_append, List.nil_append]
      refine gl_nil ?_
      refine ge_block ?_
      refine ge_block ?_
      refine ge_round (k + 1) (show k + 1 ≤ ps.length by omega) (by show ps.length - (k + 1) < ps.length - k; omega) (Keep.cons rfl (Keep.cons rfl (Keep.cons rfl (Keep.cons rfl (Keep.nil))))) (by rw [flat_succ hkc, hw]; (try rw [← List.append_assoc]); (try rw [List.append_nil]); exact (tO))
     ·
      replace hc4 := hs_ hc4
      refine g_seq ?_
      refine g_region ?_
      refine gl_v rfl (o_eql rfl rfl) ?_
      refine gl_v rfl (o_assign rfl) ?_
      refine gl_nil ?_
      refine ge_then ?_
      refine g_cond rfl (fun hc5 => ?_) (fun hc5 => ?_)
      ·
       replace hc5 := hs_ hc5
       have hw : partWs e c = [e.name] := by unfold partWs; (first | rw [if_pos (by omega)] | rw [if_neg (by omega), if_pos (by omega)] | rw [if_neg (by omega), if_neg (by omega), if_pos (by omega)] | rw [if_neg (by omega), if_neg (by omega), if_neg (by omega), if_pos (by omega)] | rw [if_neg (by omega), if_neg (by omega), if_neg (by omega), if_neg (by omega), if_pos (by omega)])
       refine g_region ?_
       refine gl_v rfl (o_move rfl) ?_
       first | refine gl_v rfl (o_fldS rfl) ?_ | refine gl_v rfl (o_fld rfl) ?_
       first | refine gl_v rfl (o_load rfl rfl) ?_ | refine gl_v rfl (o_loadS rfl rfl) ?_ | refine gl_v rfl (o_loadC rfl) ?_
       first | refine gl_n rfl (o_buildS1 rfl rfl rfl) ?_ | refine gl_n rfl (o_buildS1A rfl rfl rfl rfl) ?_ | refine gl_n rfl (o_buildS rfl rfl rfl rfl) ?_
       rintro _ _ ⟨b51, rfl, rfl⟩
       refine gl_c rfl (o_call rfl (put1 p b51 ((ws ++ [w] ++ (ps.take k).flatMap (partWs e))) (e.name) (by simp only [List.length_append, List.length_cons, List.length_nil] at *; unfold wBig; omega)) pA) ?_
       rintro _ R ⟨_, ⟨rfl, rfl⟩, rfl⟩
       try simp only [List.cons_append, List.nil_append]
       refine gl_nil ?_
       refine ge_block ?_
       refine ge_block ?_
       refine ge_round (k + 1) (show k + 1 ≤ ps.length by omega) (by show ps.length - (k + 1) < ps.length - k; omega) (Keep.cons rfl (Keep.cons rfl (Keep.cons rfl (Keep.cons rfl (Keep.nil))))) (by rw [flat_succ hkc, hw]; (try rw [← List.append_assoc]); (try rw [List.append_nil]); exact (tO))
      ·
       replace hc5 := hs_ hc5
       refine g_seq ?_
       refine g_region ?_
       refine gl_v rfl (o_eql rfl rfl) ?_
       refine gl_v rfl (o_assign rfl) ?_
       refine gl_nil ?_
       refine ge_then ?_
       refine g_cond rfl (fun hc6 => ?_) (fun hc6 => ?_)
       ·
        replace hc6 := hs_ hc6
        have hw : partWs e c = [itoaB e.delay] := by unfold partWs; (first | rw [if_pos (by omega)] | rw [if_neg (by omega), if_pos (by omega)] | rw [if_neg (by omega), if_neg (by omega), if_pos (by omega)] | rw [if_neg (by omega), if_neg (by omega), if_neg (by omega), if_pos (by omega)] | rw [if_neg (by omega), if_neg (by omega), if_neg (by omega), if_neg (by omega), if_pos (by omega)])
        refine g_region ?_
        refine gl_v rfl (o_move rfl) ?_
        first | refine gl_v rfl (o_fldS rfl) ?_ | refine gl_v rfl (o_fld rfl) ?_
        first | refine gl_v rfl (o_load rfl rfl) ?_ | refine gl_v rfl (o_loadS rfl rfl) ?_ | refine gl_v rfl (o_loadC rfl) ?_
        refine gl_c rfl (o_call rfl (Itoa_in hG M (e.delay) hr.delay) pA) ?_
        rintro _ R ⟨_, ⟨rfl, rfl⟩, rfl⟩
        try simp only [List.cons_append, List.nil_append]
        first | refine gl_n rfl (o_buildS1 rfl rfl rfl) ?_ | refine gl_n rfl (o_buildS1A rfl rfl rfl rfl) ?_ | refine gl_n rfl (o_buildS rfl rfl rfl rfl) ?_
        rintro _ _ ⟨b59, rfl, rfl⟩
        refine gl_c rfl (o_call rfl (put1 p b59 ((ws ++ [w] ++ (ps.take k).flatMap (partWs e))) (itoaB e.delay) (by simp only [List.length_append, List.length_cons, List.length_nil] at *; unfold wBig; omega)) pA) ?_
        rintro _ R ⟨_, ⟨rfl, rfl⟩, rfl⟩
        try simp only [List.cons_append, List.nil_append]
        refine gl_nil ?_
        refine ge_block ?_
        refine ge_block ?_
        refine ge_round (k + 1) (show k + 1 ≤ ps.length by omega) (by show ps.length - (k + 1) < ps.length - k; omega) (Keep.cons rfl (Keep.cons rfl (Keep.cons rfl (Keep.cons rfl (Keep.nil))))) (by rw [flat_succ hkc, hw]; (try rw [← List.append_assoc]); (try rw [List.append_nil]); exact (tO))
       ·
        replace hc6 := hs_ hc6
        refine g_seq ?_
        refine g_region ?_
        refine gl_v rfl (o_eql rfl rfl) ?_
        refine gl_v rfl (o_assign rfl) ?_
        refine gl_nil ?_
        refine ge_then ?_
        refine g_cond rfl (fun hc7 => ?_) (fun hc7 => ?_)
        ·
         replace hc7 := hs_ hc7
         have hw : partWs e c = [valWs e] := by unfold partWs; (first | rw [if_pos (by omega)] | rw [if_neg (by omega), if_pos (by omega)] | rw [if_neg (by omega), if_neg (by omega), if_pos (by omega)] | rw [if_neg (by omega), if_neg (by omega), if_neg (by omega), if_pos (by omega)] | rw [if_neg (by omega), if_neg (by omega), if_neg (by omega), if_neg (by omega), if_pos (by omega)])
         refine g_region ?_
         refine gl_v rfl (o_move rfl) ?_
         first | refine gl_v rfl (o_loadSA rfl rfl rfl) ?_ | refine gl_v rfl (o_loadA rfl rfl rfl) ?_
         refine gl_c rfl (o_call rfl (value_spec hG M e hr) pA) ?_
         rintro _ R ⟨_, ⟨rfl, rfl⟩, rfl⟩
         try simp only [List.cons_append, List.nil_append]
         first | refine gl_n rfl (o_buildS1 rfl rfl rfl) ?_ | refine gl_n rfl (o_buildS1A rfl rfl rfl rfl) ?_ | refine gl_n rfl (o_buildS rfl rfl rfl rfl) ?_
         rintro _ _ ⟨b66, rfl, rfl⟩
         refine gl_c rfl (o_call rfl (put1 p b66 ((ws ++ [w] ++ (ps.take k).flatMap (partWs e))) (valWs e) (by simp only [List.length_append, List.length_cons, List.length_nil] at *; unfold wBig; omega)) pA) ?_
         rintro _ R ⟨_, ⟨rfl, rfl⟩, rfl⟩
         try simp only [List.cons_append, List.nil_append]
         refine gl_nil ?_
         refine ge_block ?_
         refine ge_block ?_
         refine ge_round (k + 1) (show k + 1 ≤ ps.length by omega) (by show ps.length - (k + 1) < ps.length - k; omega) (Keep.cons rfl (Keep.cons rfl (Keep.cons rfl (Keep.cons rfl (Keep.nil))))) (by rw [flat_succ hkc, hw]; (try rw [← List.append_assoc]); (try rw [List.append_nil]); exact (tO))
        ·
         replace hc7 := hs_ hc7
         have hw : partWs e c = [] := by unfold partWs; rw [if_neg (by omega), if_neg (by omega), if_neg (by omega), if_neg (by omega), if_neg (by omega)]
         refine g_skip ?_
         refine ge_block ?_
         refine ge_block ?_
         refine ge_round (k + 1) (show k + 1 ≤ ps.length by omega) (by show ps.length - (k + 1) < ps.length - k; omega) (Keep.cons rfl (Keep.cons rfl (Keep.cons rfl (Keep.cons rfl (Keep.nil))))) (by rw [flat_succ hkc, hw]; (try rw [← List.append_assoc]); (try rw [List.append_nil]); exact (tO))
   ·
    obtain rfl : k = ps.length := by omega
    rw [List.take_length]
    refine g_region ?_
    refine gl_v rfl (o_nextE rfl sE) ?_
    refine gl_v rfl (o_extract (v := .bool false) rfl rfl) ?_
    refine gl_nil ?_
    refine ge_then ?_
    refine g_seq ?_
    refine g_cond_false rfl ?_
    refine g_exit ?_
    refine ge_then_exit ?_
    refine ge_then_exit ?_
    refine ge_block_exit ?_
    refine ret0 (.inr rfl) rfl [wtr p (ws ++ [w] ++ ps.flatMap (partWs e)), M] (⟨rfl, by rw [hEW, List.append_assoc]; rfl⟩) (tO)

theorem app_succ {α β : Type} {f : α → List β} {l : List α} {k : Nat} {x : α} (h : l[k]? = some x) (X : List β) : X ++ (l.take (k + 1)).flatMap f = X ++ (l.take k).flatMap f ++ f x := by rw [flatT_succ h, List.append_assoc]
theorem take_le {α β : Type} {f : α → List β} {l : List α} {k : Nat} {x : α} (h : l[k]? = some x) : ((l.take k).flatMap f).length + (f x).length ≤ (l.flatMap f).length := by
  obtain ⟨hi, e⟩ := List.getElem?_eq_some_iff.1 h
  have h1 : l = l.take k ++ x :: l.drop (k + 1) := by rw [← e, ← List.drop_eq_getElem_cons hi, List.take_append_drop]
  conv => rhs; rw [h1, List.flatMap_append, List.flatMap_cons]
  simp only [List.length_append]; omega
theorem effs_succ {l : List Eff} {k : Nat} {x : Eff} (h : l[k]? = some x) (X : List By) : X ++ effsWs (l.take (k + 1)) = X ++ effsWs (l.take k) ++ effWs x ++ [wSemi] := by unfold effsWs; rw [app_succ h]; simp only [List.append_assoc]
theorem effs_le {l : List Eff} {k : Nat} {x : Eff} (h : l[k]? = some x) : (effsWs (l.take k)).length + (effWs x).length + 1 ≤ (effsWs l).length := by
  have := take_le (f := fun e => effWs e ++ [wSemi]) h
  unfold effsWs; simp only [List.length_append, List.length_cons, List.length_nil] at this ⊢; omega
theorem rowWs_len (r : Row) : (rowWs r).length = (tagWs r).length + (numWs r).length + 1 + (effsWs r.effs).length + 1 := by simp only [rowWs, List.length_append, List.length_cons, List.length_nil]

set_option maxRecDepth 8000 in
set_option maxHeartbeats 1000000 in
theorem rowW_spec {W : World} (hG : Gok W) (M : Assn) [HB W M] (p : Nat) (r : Row) (hr : RowR r) (hM : ∀ h, M h → RowOk h r) (ws : List By) (hl : ws.length + (rowWs r).length + 10 ≤ wBig) : FnS Tryz.prog 47 [ptr p 0, .agg (rowC r).toArray] [wtr p ws, M] (fun u Bs => u = .tuple #[] ∧ Bs = [wtr p (ws ++ rowWs r), M]) := by
 refine fn_body Tryz.func47 rfl rfl rfl ?_
 intro W0 R
 simp only [List.zipIdx_cons, List.zipIdx_nil, List.map_cons, List.map_nil, Nat.zero_add, Nat.reduceAdd, List.cons_append, List.nil_append]
 haveI iE : RdA (.slice r.ea r.effs.length r.ec) M r.effs.length (r.effs.flatMap effC) := ⟨fun a => (hM _ a).rd.1⟩
 unfold wBig at hl
 rw [rowWs_len] at hl
 have hb : r.effs.length ≤ 140737488351232 := by
   have : r.effs.length ≤ (effsWs r.effs).length := by unfold effsWs; exact len_flat _ (fun e => by simp) r.effs
   omega
 refine g_seq ?_
 refine g_region ?_
 refine gl_n rfl (o_boxA rfl) ?_
 rintro _ _ ⟨b3, rfl, rfl⟩
 refine gl_nil ?_
 refine ge_then ?_
 refine g_cut (fun act wo =>  HasSl Tryz.f47.ntmps [(3, ptr b3 0), (0, ptr p 0)] act ∧ St W0 (cel b3 83 (rowC r) :: wtr p (ws ++ tagWs r) :: M :: R) wo) ?_ ?_
 ·
  refine g_seq ?_
  refine g_region ?_
  first | refine gl_v rfl (o_fldS rfl) ?_ | refine gl_v rfl (o_fld rfl) ?_
  first | refine gl_v rfl (o_load rfl rfl) ?_ | refine gl_v rfl (o_loadS rfl rfl) ?_ | refine gl_v rfl (o_loadC rfl) ?_
  refine gl_v rfl (o_eqls rfl rfl) ?_
  refine gl_nil ?_
  refine ge_then ?_
  refine g_cond rfl (fun hc1 => ?_) (fun hc1 => ?_)
  ·
   replace hc1 := hs_ hc1
   have ht : tagWs r = [wAny] := by unfold tagWs; rw [if_pos (by simpa using hc1)]
   refine g_region ?_
   refine gl_v rfl (o_move rfl) ?_
   first | refine gl_n rfl (o_buildS1 rfl rfl rfl) ?_ | refine gl_n rfl (o_buildS1A rfl rfl rfl rfl) ?_ | refine gl_n rfl (o_buildS rfl rfl rfl rfl) ?_
   rintro _ _ ⟨b10, rfl, rfl⟩
   refine gl_c rfl (o_call rfl (put1 p b10 ws wAny (by rw [ht] at hl; simp only [List.length_cons, List.length_nil] at hl; unfold wBig; omega)) pA) ?_
   rintro _ R ⟨_, ⟨rfl, rfl⟩, rfl⟩
   try simp only [List.cons_append, List.nil_append]
   refine gl_nil ?_
   exact fun act wo hsl st => ⟨hsl.keep (Keep.cons rfl (Keep.cons rfl (Keep.nil))), st.imp (by rw [ht]; exact (tO))⟩
  ·
   replace hc1 := hs_ hc1
   have ht : tagWs r = [wOn, r.tag] := by unfold tagWs; rw [if_neg (by simpa using hc1)]
   refine g_region ?_
   refine gl_v rfl (o_move rfl) ?_
   first | refine gl_v rfl (o_fldS rfl) ?_ | refine gl_v rfl (o_fld rfl) ?_
   first | refine gl_v rfl (o_load rfl rfl) ?_ | refine gl_v rfl (o_loadS rfl rfl) ?_ | refine gl_v rfl (o_loadC rfl) ?_
   refine gl_n rfl (o_buildS rfl rfl rfl rfl) ?_
   rintro _ _ ⟨b15, rfl, rfl⟩
   refine gl_c rfl (o_call rfl (put2 p b15 ws wOn r.tag (by rw [ht] at hl; simp only [List.length_cons, List.length_nil] at hl; unfold wBig; omega)) pA) ?_
   rintro _ R ⟨_, ⟨rfl, rfl⟩, rfl⟩
   try simp only [List.cons_append, List.nil_append]
   refine gl_nil ?_
   exact fun act wo hsl st => ⟨hsl.keep (Keep.cons rfl (Keep.cons rfl (Keep.nil))), st.imp (by rw [ht]; exact (tO))⟩
 ·
  rintro act wo ⟨hsl, st⟩
  refine g_of ?_ hsl st
  clear hsl st act wo
  refine g_cut (fun act wo =>  HasSl Tryz.f47.ntmps [(3, ptr b3 0), (0, ptr p 0)] act ∧ St W0 (cel b3 83 (rowC r) :: wtr p (ws ++ tagWs r ++ numWs r) :: M :: R) wo) ?_ ?_
  ·
   refine g_seq ?_
   refine g_region ?_
   first | refine gl_v rfl (o_fldS rfl) ?_ | refine gl_v rfl (o_fld rfl) ?_
   first | refine gl_v rfl (o_load rfl rfl) ?_ | refine gl_v rfl (o_loadS rfl rfl) ?_ | refine gl_v rfl (o_loadC rfl) ?_
   refine gl_nil ?_
   refine ge_then ?_
   refine g_cond rfl (fun hc2 => ?_) (fun hc2 => ?_)
   ·
    replace hc2 := hs_ hc2
    have hn : numWs r = [itoaB r.n] := by unfold numWs; rw [if_pos (by simpa using hc2)]
    refine g_region ?_
    refine gl_v rfl (o_move rfl) ?_
    first | refine gl_v rfl (o_fldS rfl) ?_ | refine gl_v rfl (o_fld rfl) ?_
    first | refine gl_v rfl (o_load rfl rfl) ?_ | refine gl_v rfl (o_loadS rfl rfl) ?_ | refine gl_v rfl (o_loadC rfl) ?_
    refine gl_c rfl (o_call rfl (Itoa_in hG M (r.n) hr.n) pA) ?_
    rintro _ R ⟨_, ⟨rfl, rfl⟩, rfl⟩
    try simp only [List.cons_append, List.nil_append]
    first | refine gl_n rfl (o_buildS1 rfl rfl rfl) ?_ | refine gl_n rfl (o_buildS1A rfl rfl rfl rfl) ?_ | refine gl_n rfl (o_buildS rfl rfl rfl rfl) ?_
    rintro _ _ ⟨b23, rfl, rfl⟩
    refine gl_c rfl (o_call rfl (put1 p b23 (ws ++ tagWs r) (itoaB r.n) (by rw [hn] at hl; simp only [List.length_append, List.length_cons, List.length_nil] at *; unfold wBig; omega)) pA) ?_
    rintro _ R ⟨_, ⟨rfl, rfl⟩, rfl⟩
    try simp only [List.cons_append, List.nil_append]
    refine gl_nil ?_
    exact fun act wo hsl st => ⟨hsl.keep (Keep.cons rfl (Keep.cons rfl (Keep.nil))), st.imp (by rw [hn]; (try rw [List.append_nil]); exact (tO))⟩
   ·
    replace hc2 := hs_ hc2
    have hn : numWs r = [] := by unfold numWs; rw [if_neg (by simpa using hc2)]
    refine g_skip ?_
    exact fun act wo hsl st => ⟨hsl.keep (Keep.cons rfl (Keep.cons rfl (Keep.nil))), st.imp (by rw [hn]; (try rw [List.append_nil]); exact (tO))⟩
  ·
   rintro act wo ⟨hsl, st⟩
   refine g_of ?_ hsl st
   clear hsl st act wo
   refine g_seq ?_
   refine g_region ?_
   refine gl_v rfl (o_move rfl) ?_
   first | refine gl_n rfl (o_buildS1 rfl rfl rfl) ?_ | refine gl_n rfl (o_buildS1A rfl rfl rfl rfl) ?_ | refine gl_n rfl (o_buildS rfl rfl rfl rfl) ?_
   rintro _ _ ⟨b26, rfl, rfl⟩
   refine gl_c rfl (o_call rfl (put1 p b26 (ws ++ tagWs r ++ numWs r) (wOpen) (by simp only [List.length_append, List.length_cons, List.length_nil] at *; unfold wBig; omega)) pA) ?_
   rintro _ R ⟨_, ⟨rfl, rfl⟩, rfl⟩
   try simp only [List.cons_append, List.nil_append]
   refine gl_nil ?_
   refine ge_then ?_
   refine g_seq ?_
   refine g_seq ?_
   refine g_region ?_
   first | refine gl_v rfl (o_fldS rfl) ?_ | refine gl_v rfl (o_fld rfl) ?_
   first | refine gl_v rfl (o_load rfl rfl) ?_ | refine gl_v rfl (o_loadS rfl rfl) ?_ | refine gl_v rfl (o_loadC rfl) ?_
   first | refine gl_v rfl (o_len rfl) ?_ | refine gl_v rfl (o_lenL rfl) ?_
   refine gl_v rfl (o_move rfl) ?_
   refine gl_nil ?_
   refine ge_then ?_
   refine g_block ?_
   refine g_loop (ι := Nat) (fun x => x ≤ r.effs.length) (fun x => [(31, I64 x), (30, I64 r.effs.length), (29, .slice r.ea r.effs.length r.ec), (3, ptr b3 0), (0, ptr p 0)]) (fun j => cel b3 83 (rowC r) :: wtr p (ws ++ tagWs r ++ numWs r ++ [wOpen] ++ effsWs (r.effs.take j)) :: M :: R) (fun x => r.effs.length - x) 0 (Nat.zero_le _) (Keep.cons rfl (Keep.cons rfl (Keep.cons rfl (Keep.cons rfl (Keep.cons rfl (Keep.nil)))))) (by rw [List.take_zero]; show ∀ h, _ → Sat (_ :: wtr p (ws ++ tagWs r ++ numWs r ++ [wOpen] ++ []) :: M :: R) h; rw [List.append_nil]; exact (tO)) ?_
   rintro j hj
   replace hj : j ≤ r.effs.length := hj
   refine g_seq ?_
   refine g_region ?_
   refine gl_v rfl (o_lss rfl rfl) ?_
   refine gl_nil ?_
   refine ge_then ?_
   refine g_seq ?_
   refine g_cond rfl (fun hc3 => ?_) (fun hc3 => ?_)
   ·
    replace hc3 := hs_ hc3
    obtain ⟨e, hte⟩ : ∃ t, r.effs[j]? = some t := ⟨_, List.getElem?_eq_getElem (show j < r.effs.length by omega)⟩
    have hle := effs_le hte
    refine g_skip ?_
    refine ge_then ?_
    refine g_seq ?_
    refine g_block ?_
    refine g_seq ?_
    refine g_region ?_
    refine gl_v rfl (o_idxS rfl rfl (show j < r.effs.length by omega)) ?_
    refine gl_v rfl (o_loadSA rfl (flat_take effC 7 effC_len hte) rfl) ?_
    refine gl_n rfl (o_alloc) ?_
    rintro _ _ ⟨b5, rfl, rfl⟩
    first | refine gl_u (o_storeSA rfl rfl rfl rfl (by simp; omega) (by simp)) ?_ | refine gl_u (o_storeA rfl rfl rfl rfl rfl) ?_
    refine gl_nil ?_
    refine ge_then ?_
    refine g_seq ?_
    refine g_region ?_
    refine gl_v rfl (o_move rfl) ?_
    first | refine gl_v rfl (o_loadSA rfl rfl rfl) ?_ | refine gl_v rfl (o_loadA rfl rfl rfl) ?_
    refine gl_c rfl (o_call rfl (effW_spec hG M p e (hr.effs e (List.mem_of_getElem? hte)) (ws ++ tagWs r ++ numWs r ++ [wOpen] ++ effsWs (r.effs.take j)) (by simp only [List.length_append, List.length_cons, List.length_nil] at *; unfold wBig; omega)) pA) ?_
    rintro _ R ⟨_, ⟨rfl, rfl⟩, rfl⟩
    try simp only [List.cons_append, List.nil_append]
    refine gl_nil ?_
    refine ge_then ?_
    refine g_region ?_
    refine gl_v rfl (o_move rfl) ?_
    first | refine gl_n rfl (o_buildS1 rfl rfl rfl) ?_ | refine gl_n rfl (o_buildS1A rfl rfl rfl rfl) ?_ | refine gl_n rfl (o_buildS rfl rfl rfl rfl) ?_
    rintro _ _ ⟨b39, rfl, rfl⟩
    refine gl_c rfl (o_call rfl (put1 p b39 (ws ++ tagWs r ++ numWs r ++ [wOpen] ++ effsWs (r.effs.take j) ++ effWs e) (wSemi) (by simp only [List.length_append, List.length_cons, List.length_nil] at *; unfold wBig; omega)) pA) ?_
    rintro _ R ⟨_, ⟨rfl, rfl⟩, rfl⟩
    try simp only [List.cons_append, List.nil_append]
    refine gl_nil ?_
    refine ge_block ?_
    refine ge_then ?_
    refine g_region ?_
    refine gl_v rfl (o_addR ((j + 1 : Nat) : Int) (by rw [wr_i64 (by omega)]; omega) rfl rfl) ?_
    refine gl_v rfl (o_move rfl) ?_
    refine gl_nil ?_
    refine ge_round (j + 1) (show j + 1 ≤ r.effs.length by omega) (by show r.effs.length - (j + 1) < r.effs.length - j; omega) (Keep.cons rfl (Keep.cons rfl (Keep.cons rfl (Keep.cons rfl (Keep.cons rfl (Keep.nil)))))) (by rw [effs_succ hte]; exact (tO))
   ·
    replace hc3 := hs_ hc3
    obtain rfl : j = r.effs.length := by omega
    rw [List.take_length]
    refine g_exit ?_
    refine ge_then_exit ?_
    refine ge_then_exit ?_
    refine ge_block_exit ?_
    refine ge_then ?_
    refine g_region ?_
    refine gl_v rfl (o_move rfl) ?_
    first | refine gl_n rfl (o_buildS1 rfl rfl rfl) ?_ | refine gl_n rfl (o_buildS1A rfl rfl rfl rfl) ?_ | refine gl_n rfl (o_buildS rfl rfl rfl rfl) ?_
    rintro _ _ ⟨b43, rfl, rfl⟩
    refine gl_c rfl (o_call rfl (put1 p b43 (ws ++ tagWs r ++ numWs r ++ [wOpen] ++ effsWs r.effs) (wShut) (by simp only [List.length_append, List.length_cons, List.length_nil] at *; unfold wBig; omega)) pA) ?_
    rintro _ R ⟨_, ⟨rfl, rfl⟩, rfl⟩
    try simp only [List.cons_append, List.nil_append]
    refine gl_nil ?_
    refine ret0 (.inr rfl) rfl [wtr p (ws ++ tagWs r ++ numWs r ++ [wOpen] ++ effsWs r.effs ++ [wShut]), M] (⟨rfl, by unfold rowWs; simp only [List.append_assoc]⟩) (tO)

theorem casWs_len (c : Cas) : (casWs c).length = (hdWs c).length + (dirWs c.do').length + 1 := by simp only [casWs, List.length_append, List.length_cons, List.length_nil]
theorem staWs_len (s : Sta) : (staWs s).length = 3 + (s.rows.flatMap rowWs).length + 1 := by simp only [staWs, List.length_append, List.length_cons, List.length_nil]
theorem kndWs_len (k : Knd) : (kndWs k).length = 8 + (k.cases.flatMap casWs).length + (k.states.flatMap staWs).length + 1 := by simp only [kndWs, topWs, List.length_append, List.length_cons, List.length_nil]
theorem topWs_len (k : Knd) : (topWs k).length = 8 := rfl
theorem dirWs_at {d : Int} {i : Nat} {w : By} (hd : d = ((i + 1 : Nat) : Int)) (hi : i < 4) (h : dirs[i]? = some w) : dirWs d = [w] := by
  unfold dirWs
  rw [if_pos (by omega), show (d - 1).toNat = i by omega, List.getD_eq_getElem?_getD, h]; rfl

set_option maxRecDepth 8000 in
set_option maxHeartbeats 2000000 in
theorem kindW_spec {W : World} (hG : Gok W) (M : Assn) [HB W M] (p : Nat) (k : Knd) (hr : KndR k) (hM : ∀ h, M h → KndOk h k) (ws : List By) (hl : ws.length + (kndWs k).length + 10 ≤ wBig) : FnS Tryz.prog 17 [ptr p 0, .agg (kndC k).toArray] [wtr p ws, M] (fun u Bs => u = .tuple #[] ∧ Bs = [wtr p (ws ++ kndWs k), M]) := by
 refine fn_body Tryz.func17 rfl rfl rfl ?_
 intro W0 R
 simp only [List.zipIdx_cons, List.zipIdx_nil, List.map_cons, List.map_nil, Nat.zero_add, Nat.reduceAdd, List.cons_append, List.nil_append]
 haveI iC : RdA (.slice k.ca k.cases.length k.cc) M k.cases.length (k.cases.flatMap casC) := ⟨fun a => (hM _ a).rdc.1⟩
 haveI iS : RdA (.slice k.sa k.states.length k.sc) M k.states.length (k.states.flatMap staC) := ⟨fun a => (hM _ a).rds.1⟩
 unfold wBig at hl
 rw [kndWs_len] at hl
 have hb1 := len_flat casWs (fun c => by rw [casWs_len]; omega) k.cases
 have hb2 := len_flat staWs (fun c => by rw [staWs_len]; omega) k.states
 refine g_seq ?_
 refine g_region ?_
 refine gl_n rfl (o_boxA rfl) ?_
 rintro _ _ ⟨b3, rfl, rfl⟩
 refine gl_nil ?_
 refine ge_then ?_
 refine g_cut (fun act wo =>  HasSl Tryz.f17.ntmps [(3, ptr b3 0), (0, ptr p 0)] act ∧ St W0 (cel b3 57 (kndC k) :: wtr p (ws ++ topWs k) :: M :: R) wo) ?_ ?_
 ·
  refine g_treeM [5, 8, 9, 10] [5, 8, 9] (.stab 0 (.stab 1 (.stab 2 (.loc 3 (.loc 4 (.stab 6 (.stab 7 (.eff 5 (.eff 8 (.eff 9 (.eff 10 .nil .nil) .nil) .nil) .nil)))))))) [cel b3 57 (kndC k), M] mixed (by kernel_rfl) ?_
  refine gt_vs rfl .none rfl (o_move rfl) (tO) ?_
  first | refine gt_vs rfl .none rfl (o_fldS rfl) (tO) ?_ | refine gt_vs rfl .none rfl (o_fld rfl) (tO) ?_
  first | refine gt_vs rfl .none rfl (o_load rfl rfl) (tO) ?_ | refine gt_vs rfl .none rfl (o_loadS rfl rfl) (tO) ?_ | refine gt_vs rfl .none rfl (o_loadC rfl) (tO) ?_
  first | refine gt_v rfl .none rfl (o_fldS rfl) ?_ | refine gt_v rfl .none rfl (o_fld rfl) ?_
  first | refine gt_v rfl .none rfl (o_load rfl rfl) ?_ | refine gt_v rfl .none rfl (o_loadS rfl rfl) ?_ | refine gt_v rfl .none rfl (o_loadC rfl) ?_
  first | refine gt_vs rfl .none rfl (o_fldS rfl) (tO) ?_ | refine gt_vs rfl .none rfl (o_fld rfl) (tO) ?_
  first | refine gt_vs rfl .none rfl (o_load rfl rfl) (tO) ?_ | refine gt_vs rfl .none rfl (o_loadS rfl rfl) (tO) ?_ | refine gt_vs rfl .none rfl (o_loadC rfl) (tO) ?_
  refine gt_c rfl .none rfl (o_call rfl (Itoa_in hG M (k.limit) hr.limit) pA) ?_
  rintro _ R ⟨_, ⟨rfl, rfl⟩, rfl⟩
  try simp only [List.cons_append, List.nil_append]
  refine ⟨(fun _ => (tO)), ?_⟩
  refine gt_c rfl .none rfl (o_call rfl (Itoa_in hG M (k.within) hr.within) pA) ?_
  rintro _ R ⟨_, ⟨rfl, rfl⟩, rfl⟩
  try simp only [List.cons_append, List.nil_append]
  refine ⟨(fun _ => (tO)), ?_⟩
  refine gt_n rfl .none rfl (o_buildS rfl rfl rfl rfl) ?_
  rintro _ _ ⟨b19, rfl, rfl⟩
  refine ⟨(fun _ => (tO)), ?_⟩
  refine gt_c rfl .none rfl (o_call rfl (put8 p b19 ws wKind k.name wOpen wLimit (itoaB k.limit) wIn (itoaB k.within) wSemi (by unfold wBig; omega)) pA) ?_
  rintro _ R ⟨_, ⟨rfl, rfl⟩, rfl⟩
  try simp only [List.cons_append, List.nil_append]
  refine ⟨(fun hG => absurd hG (by decide)), ?_⟩
  refine gt_nil ?_
  exact fun act wo hsl st => ⟨hsl.keep (Keep.cons rfl (Keep.cons rfl (Keep.nil))), st.imp (tO)⟩
 ·
  rintro act wo ⟨hsl, st⟩
  refine g_of ?_ hsl st
  clear hsl st act wo
  refine g_cut (fun act wo =>  HasSl Tryz.f17.ntmps [(3, ptr b3 0), (0, ptr p 0)] act ∧ St W0 (cel b3 57 (kndC k) :: wtr p (ws ++ topWs k ++ k.cases.flatMap casWs) :: M :: R) wo) ?_ ?_
  ·
   refine g_seq ?_
   refine g_region ?_
   first | refine gl_v rfl (o_fldS rfl) ?_ | refine gl_v rfl (o_fld rfl) ?_
   first | refine gl_v rfl (o_load rfl rfl) ?_ | refine gl_v rfl (o_loadS rfl rfl) ?_ | refine gl_v rfl (o_loadC rfl) ?_
   first | refine gl_v rfl (o_len rfl) ?_ | refine gl_v rfl (o_lenL rfl) ?_
   refine gl_v rfl (o_move rfl) ?_
   refine gl_nil ?_
   refine ge_then ?_
   refine g_block ?_
   refine g_loop (ι := Nat) (fun x => x ≤ k.cases.length) (fun x => [(24, I64 x), (23, I64 k.cases.length), (22, .slice k.ca k.cases.length k.cc), (3, ptr b3 0), (0, ptr p 0)]) (fun j => cel b3 57 (kndC k) :: wtr p (ws ++ topWs k ++ (k.cases.take j).flatMap casWs) :: M :: R) (fun x => k.cases.length - x) 0 (Nat.zero_le _) (Keep.cons rfl (Keep.cons rfl (Keep.cons rfl (Keep.cons rfl (Keep.cons rfl (Keep.nil)))))) (by rw [List.take_zero, List.flatMap_nil, List.append_nil]; exact (tO)) ?_
   rintro j hj
   replace hj : j ≤ k.cases.length := hj
   refine g_seq ?_
   refine g_region ?_
   refine gl_v rfl (o_lss rfl rfl) ?_
   refine gl_nil ?_
   refine ge_then ?_
   refine g_seq ?_
   refine g_cond rfl (fun hc1 => ?_) (fun hc1 => ?_)
   ·
    replace hc1 := hs_ hc1
    obtain ⟨c, htc⟩ : ∃ t, k.cases[j]? = some t := ⟨_, List.getElem?_eq_getElem (show j < k.cases.length by omega)⟩
    have hle := take_le (f := casWs) htc
    rw [casWs_len] at hle
    refine g_skip ?_
    refine ge_then ?_
    refine g_seq ?_
    refine g_block ?_
    refine g_seq ?_
    refine g_region ?_
    refine gl_v rfl (o_idxS rfl rfl (show j < k.cases.length by omega)) ?_
    refine gl_v rfl (o_loadSA rfl (flat_take casC 2 casC_len htc) rfl) ?_
    refine gl_n rfl (o_alloc) ?_
    rintro _ _ ⟨b5, rfl, rfl⟩
    first | refine gl_u (o_storeSA rfl rfl rfl rfl (by simp; omega) (by simp)) ?_ | refine gl_u (o_storeA rfl rfl rfl rfl rfl) ?_
    refine gl_nil ?_
    refine ge_then ?_
    refine g_cut (fun act wo =>  HasSl Tryz.f17.ntmps [(5, ptr b5 0), (24, I64 j), (23, I64 k.cases.length), (22, .slice k.ca k.cases.length k.cc), (3, ptr b3 0), (0, ptr p 0)] act ∧ St W0 (cel b5 75 (casC c) :: cel b3 57 (kndC k) :: wtr p (ws ++ topWs k ++ (k.cases.take j).flatMap casWs ++ hdWs c) :: M :: R) wo) ?_ ?_
    ·
     refine g_seq ?_
     refine g_region ?_
     first | refine gl_v rfl (o_fldS rfl) ?_ | refine gl_v rfl (o_fld rfl) ?_
     first | refine gl_v rfl (o_load rfl rfl) ?_ | refine gl_v rfl (o_loadS rfl rfl) ?_ | refine gl_v rfl (o_loadC rfl) ?_
     refine gl_v rfl (o_eqls rfl rfl) ?_
     refine gl_nil ?_
     refine ge_then ?_
     refine g_cond rfl (fun hc2 => ?_) (fun hc2 => ?_)
     ·
      replace hc2 := hs_ hc2
      have ht : hdWs c = [wElse] := by unfold hdWs; rw [if_pos (by simpa using hc2)]
      refine g_region ?_
      refine gl_v rfl (o_move rfl) ?_
      first | refine gl_n rfl (o_buildS1 rfl rfl rfl) ?_ | refine gl_n rfl (o_buildS1A rfl rfl rfl rfl) ?_ | refine gl_n rfl (o_buildS rfl rfl rfl rfl) ?_
      rintro _ _ ⟨b32, rfl, rfl⟩
      refine gl_c rfl (o_call rfl (put1 p b32 (ws ++ topWs k ++ (k.cases.take j).flatMap casWs) wElse (by rw [ht] at hle; simp only [List.length_append, List.length_cons, List.length_nil, topWs_len] at *; unfold wBig; omega)) pA) ?_
      rintro _ R ⟨_, ⟨rfl, rfl⟩, rfl⟩
      try simp only [List.cons_append, List.nil_append]
      refine gl_nil ?_
      exact fun act wo hsl st => ⟨hsl.keep (Keep.cons rfl (Keep.cons rfl (Keep.cons rfl (Keep.cons rfl (Keep.cons rfl (Keep.cons rfl (Keep.nil))))))), st.imp (by rw [ht]; exact (tO))⟩
     ·
      replace hc2 := hs_ hc2
      have ht : hdWs c = [wCase, c.reason] := by unfold hdWs; rw [if_neg (by simpa using hc2)]
      refine g_region ?_
      refine gl_v rfl (o_move rfl) ?_
      first | refine gl_v rfl (o_fldS rfl) ?_ | refine gl_v rfl (o_fld rfl) ?_
      first | refine gl_v rfl (o_load rfl rfl) ?_ | refine gl_v rfl (o_loadS rfl rfl) ?_ | refine gl_v rfl (o_loadC rfl) ?_
      refine gl_n rfl (o_buildS rfl rfl rfl rfl) ?_
      rintro _ _ ⟨b37, rfl, rfl⟩
      refine gl_c rfl (o_call rfl (put2 p b37 (ws ++ topWs k ++ (k.cases.take j).flatMap casWs) wCase c.reason (by rw [ht] at hle; simp only [List.length_append, List.length_cons, List.length_nil, topWs_len] at *; unfold wBig; omega)) pA) ?_
      rintro _ R ⟨_, ⟨rfl, rfl⟩, rfl⟩
      try simp only [List.cons_append, List.nil_append]
      refine gl_nil ?_
      exact fun act wo hsl st => ⟨hsl.keep (Keep.cons rfl (Keep.cons rfl (Keep.cons rfl (Keep.cons rfl (Keep.cons rfl (Keep.cons rfl (Keep.nil))))))), st.imp (by rw [ht]; exact (tO))⟩
    ·
     rintro act wo ⟨hsl, st⟩
     refine g_of ?_ hsl st
     clear hsl st act wo
     refine g_cut (fun act wo =>  HasSl Tryz.f17.ntmps [(5, ptr b5 0), (24, I64 j), (23, I64 k.cases.length), (22, .slice k.ca k.cases.length k.cc), (3, ptr b3 0), (0, ptr p 0)] act ∧ St W0 (cel b5 75 (casC c) :: cel b3 57 (kndC k) :: wtr p (ws ++ topWs k ++ (k.cases.take j).flatMap casWs ++ hdWs c ++ dirWs c.do') :: M :: R) wo) ?_ ?_
     ·
      refine g_seq ?_
      refine g_region ?_
      first | refine gl_v rfl (o_fldS rfl) ?_ | refine gl_v rfl (o_fld rfl) ?_
      first | refine gl_v rfl (o_load rfl rfl) ?_ | refine gl_v rfl (o_loadS rfl rfl) ?_ | refine gl_v rfl (o_loadC rfl) ?_
      refine gl_v rfl (o_geq rfl rfl) ?_
      refine gl_v rfl (o_move rfl) ?_
      refine gl_join (d := 46) 4 (.bool (decide (1 ≤ c.do') && decide (c.do' ≤ 4))) ?_ (fun jk46 => ?_)
      rotate_left
      ·
       refine gl_g rfl rfl (fun hc3 => ?_) (fun hc3 => ?_) rfl
       ·
        have hc3' := hc3
        replace hc3' := hs_ hc3'
        first | refine gl_v rfl (o_fldS rfl) ?_ | refine gl_v rfl (o_fld rfl) ?_
        refine gl_gT rfl rfl hc3 ?_
        first | refine gl_v rfl (o_load rfl rfl) ?_ | refine gl_v rfl (o_loadS rfl rfl) ?_ | refine gl_v rfl (o_loadC rfl) ?_
        refine gl_gT rfl rfl hc3 ?_
        refine gl_v rfl (o_leq rfl rfl) ?_
        refine gl_v rfl (o_pickT hc3 rfl rfl) ?_
        first | exact jk46 _ (KeepS.top (by repeat (first | exact KeepS.refl _ | refine KeepS.push ?_ rfl)) (jval (by first | rfl | (simp only [hc3, Bool.not_true, Bool.not_false, Bool.false_and, Bool.true_and, Bool.true_or, Bool.false_or]; done) | (simp [hc3, ]; done) | simp_all))) | exact gl_imp (tO) (jk46 _ (KeepS.top (by repeat (first | exact KeepS.refl _ | refine KeepS.push ?_ rfl)) (jval (by first | rfl | (simp only [hc3, Bool.not_true, Bool.not_false, Bool.false_and, Bool.true_and, Bool.true_or, Bool.false_or]; done) | (simp [hc3, ]; done) | simp_all))))
       ·
        have hc3' := hc3
        replace hc3' := hs_ hc3'
        simp only [putO]
        refine gl_gF rfl rfl hc3 rfl ?_
        refine gl_gF rfl rfl hc3 rfl ?_
        refine gl_v rfl (o_pickF hc3 rfl rfl) ?_
        first | exact jk46 _ (KeepS.top (by repeat (first | exact KeepS.refl _ | refine KeepS.push ?_ rfl)) (jval (by first | rfl | (simp only [hc3, Bool.not_true, Bool.not_false, Bool.false_and, Bool.true_and, Bool.true_or, Bool.false_or]; done) | (simp [hc3, ]; done) | simp_all))) | exact gl_imp (tO) (jk46 _ (KeepS.top (by repeat (first | exact KeepS.refl _ | refine KeepS.push ?_ rfl)) (jval (by first | rfl | (simp only [hc3, Bool.not_true, Bool.not_false, Bool.false_and, Bool.true_and, Bool.true_or, Bool.false_or]; done) | (simp [hc3, ]; done) | simp_all))))
      refine gl_nil ?_
      refine ge_then ?_
      refine g_cond rfl (fun hc4 => ?_) (fun hc4 => ?_)
      ·
       replace hc4 := hs_ hc4
       replace hc4 : 1 ≤ c.do' ∧ c.do' ≤ 4 := by simpa using hc4
       obtain ⟨i, hi4, hd⟩ : ∃ i : Nat, i < 4 ∧ c.do' = ((i + 1 : Nat) : Int) := ⟨(c.do' - 1).toNat, by omega, by omega⟩
       obtain ⟨w, hw⟩ : ∃ w, dirs[i]? = some w := ⟨_, List.getElem?_eq_getElem (show i < dirs.length from hi4)⟩
       have hdw := dirWs_at hd hi4 hw
       refine g_region ?_
       refine gl_v rfl (o_move rfl) ?_
       refine gl_n rfl (o_buildS rfl rfl rfl rfl) ?_
       rintro _ _ ⟨b48, rfl, rfl⟩
       first | refine gl_v rfl (o_fldS rfl) ?_ | refine gl_v rfl (o_fld rfl) ?_
       first | refine gl_v rfl (o_load rfl rfl) ?_ | refine gl_v rfl (o_loadS rfl rfl) ?_ | refine gl_v rfl (o_loadC rfl) ?_
       refine gl_v rfl (o_subR (i : Int) (by rw [wr_i64 (by omega)]; omega) rfl rfl) ?_
       refine gl_v rfl (o_idxS rfl rfl (show i < 4 by omega)) ?_
       refine gl_v rfl (o_loadS rfl (show (dirs.map fun w => S w)[i * 1]? = some (S w) by rw [Nat.mul_one, List.getElem?_map, hw]; rfl)) ?_
       first | refine gl_n rfl (o_buildS1 rfl rfl rfl) ?_ | refine gl_n rfl (o_buildS1A rfl rfl rfl rfl) ?_ | refine gl_n rfl (o_buildS rfl rfl rfl rfl) ?_
       rintro _ _ ⟨b54, rfl, rfl⟩
       refine gl_c rfl (o_call rfl (put1 p b54 (ws ++ topWs k ++ (k.cases.take j).flatMap casWs ++ hdWs c) w (by rw [hdw] at hle; simp only [List.length_append, List.length_cons, List.length_nil, topWs_len] at *; unfold wBig; omega)) pA) ?_
       rintro _ R ⟨_, ⟨rfl, rfl⟩, rfl⟩
       try simp only [List.cons_append, List.nil_append]
       refine gl_nil ?_
       exact fun act wo hsl st => ⟨hsl.keep (Keep.cons rfl (Keep.cons rfl (Keep.cons rfl (Keep.cons rfl (Keep.cons rfl (Keep.cons rfl (Keep.nil))))))), st.imp (by rw [hdw]; (try rw [List.append_nil]); exact (tO))⟩
      ·
       replace hc4 := hs_ hc4
       replace hc4 : ¬ (1 ≤ c.do' ∧ c.do' ≤ 4) := by simpa using hc4
       have hdw : dirWs c.do' = [] := by unfold dirWs; rw [if_neg hc4]
       refine g_skip ?_
       exact fun act wo hsl st => ⟨hsl.keep (Keep.cons rfl (Keep.cons rfl (Keep.cons rfl (Keep.cons rfl (Keep.cons rfl (Keep.cons rfl (Keep.nil))))))), st.imp (by rw [hdw]; (try rw [List.append_nil]); exact (tO))⟩
     ·
      rintro act wo ⟨hsl, st⟩
      refine g_of ?_ hsl st
      clear hsl st act wo
      refine g_region ?_
      refine gl_v rfl (o_move rfl) ?_
      first | refine gl_n rfl (o_buildS1 rfl rfl rfl) ?_ | refine gl_n rfl (o_buildS1A rfl rfl rfl rfl) ?_ | refine gl_n rfl (o_buildS rfl rfl rfl rfl) ?_
      rintro _ _ ⟨b57, rfl, rfl⟩
      refine gl_c rfl (o_call rfl (put1 p b57 (ws ++ topWs k ++ (k.cases.take j).flatMap casWs ++ hdWs c ++ dirWs c.do') (wSemi) (by simp only [List.length_append, List.length_cons, List.length_nil, topWs_len] at *; unfold wBig; omega)) pA) ?_
      rintro _ R ⟨_, ⟨rfl, rfl⟩, rfl⟩
      try simp only [List.cons_append, List.nil_append]
      refine gl_nil ?_
      refine ge_block ?_
      refine ge_then ?_
      refine g_region ?_
      refine gl_v rfl (o_addR ((j + 1 : Nat) : Int) (by rw [wr_i64 (by omega)]; omega) rfl rfl) ?_
      refine gl_v rfl (o_move rfl) ?_
      refine gl_nil ?_
      refine ge_round (j + 1) (show j + 1 ≤ k.cases.length by omega) (by show k.cases.length - (j + 1) < k.cases.length - j; omega) (Keep.cons rfl (Keep.cons rfl (Keep.cons rfl (Keep.cons rfl (Keep.cons rfl (Keep.nil)))))) (by rw [app_succ htc]; show ∀ h, _ → Sat (_ :: wtr p (_ ++ (hdWs c ++ dirWs c.do' ++ [wSemi])) :: M :: R) h; rw [← List.append_assoc, ← List.append_assoc]; exact (tO))
   ·
    replace hc1 := hs_ hc1
    obtain rfl : j = k.cases.length := by omega
    rw [List.take_length]
    refine g_exit ?_
    refine ge_then_exit ?_
    refine ge_then_exit ?_
    refine ge_block_exit ?_
    exact fun act wo hsl st => ⟨hsl.keep (Keep.cons rfl (Keep.cons rfl (Keep.nil))), st.imp (tO)⟩
  ·
   rintro act wo ⟨hsl, st⟩
   refine g_of ?_ hsl st
   clear hsl st act wo
   refine g_seq ?_
   refine g_seq ?_
   refine g_region ?_
   first | refine gl_v rfl (o_fldS rfl) ?_ | refine gl_v rfl (o_fld rfl) ?_
   first | refine gl_v rfl (o_load rfl rfl) ?_ | refine gl_v rfl (o_loadS rfl rfl) ?_ | refine gl_v rfl (o_loadC rfl) ?_
   first | refine gl_v rfl (o_len rfl) ?_ | refine gl_v rfl (o_lenL rfl) ?_
   refine gl_v rfl (o_move rfl) ?_
   refine gl_nil ?_
   refine ge_then ?_
   refine g_block ?_
   refine g_loop (ι := Nat) (fun x => x ≤ k.states.length) (fun x => [(63, I64 x), (62, I64 k.states.length), (61, .slice k.sa k.states.length k.sc), (3, ptr b3 0), (0, ptr p 0)]) (fun j => cel b3 57 (kndC k) :: wtr p (ws ++ topWs k ++ k.cases.flatMap casWs ++ (k.states.take j).flatMap staWs) :: M :: R) (fun x => k.states.length - x) 0 (Nat.zero_le _) (Keep.cons rfl (Keep.cons rfl (Keep.cons rfl (Keep.cons rfl (Keep.cons rfl (Keep.nil)))))) (by rw [List.take_zero, List.flatMap_nil, List.append_nil]; exact (tO)) ?_
   rintro j hj
   replace hj : j ≤ k.states.length := hj
   refine g_seq ?_
   refine g_region ?_
   refine gl_v rfl (o_lss rfl rfl) ?_
   refine gl_nil ?_
   refine ge_then ?_
   refine g_seq ?_
   refine g_cond rfl (fun hc5 => ?_) (fun hc5 => ?_)
   ·
    replace hc5 := hs_ hc5
    obtain ⟨s, hts⟩ : ∃ t, k.states[j]? = some t := ⟨_, List.getElem?_eq_getElem (show j < k.states.length by omega)⟩
    have hle := take_le (f := staWs) hts
    rw [staWs_len] at hle
    have hsm := List.mem_of_getElem? hts
    haveI iR : RdA (.slice s.ra s.rows.length s.rc) M s.rows.length (s.rows.flatMap rowC) := ⟨fun a => ((hM _ a).states s hsm).rd.1⟩
    have hb3 := len_flat rowWs (fun c => by rw [rowWs_len]; omega) s.rows
    refine g_skip ?_
    refine ge_then ?_
    refine g_seq ?_
    refine g_block ?_
    refine g_seq ?_
    refine g_region ?_
    refine gl_v rfl (o_idxS rfl rfl (show j < k.states.length by omega)) ?_
    refine gl_v rfl (o_loadSA rfl (flat_take staC 2 staC_len hts) rfl) ?_
    refine gl_n rfl (o_alloc) ?_
    rintro _ _ ⟨b7, rfl, rfl⟩
    first | refine gl_u (o_storeSA rfl rfl rfl rfl (by simp; omega) (by simp)) ?_ | refine gl_u (o_storeA rfl rfl rfl rfl rfl) ?_
    refine gl_nil ?_
    refine ge_then ?_
    refine g_seq ?_
    refine g_region ?_
    refine gl_v rfl (o_move rfl) ?_
    first | refine gl_v rfl (o_fldS rfl) ?_ | refine gl_v rfl (o_fld rfl) ?_
    first | refine gl_v rfl (o_load rfl rfl) ?_ | refine gl_v rfl (o_loadS rfl rfl) ?_ | refine gl_v rfl (o_loadC rfl) ?_
    refine gl_n rfl (o_buildS rfl rfl rfl rfl) ?_
    rintro _ _ ⟨b70, rfl, rfl⟩
    refine gl_c rfl (o_call rfl (put3 p b70 (ws ++ topWs k ++ k.cases.flatMap casWs ++ (k.states.take j).flatMap staWs) (wState) (s.name) (wOpen) (by simp only [List.length_append, List.length_cons, List.length_nil, topWs_len] at *; unfold wBig; omega)) pA) ?_
    rintro _ R ⟨_, ⟨rfl, rfl⟩, rfl⟩
    try simp only [List.cons_append, List.nil_append]
    refine gl_nil ?_
    refine ge_then ?_
    refine g_seq ?_
    refine g_seq ?_
    refine g_region ?_
    first | refine gl_v rfl (o_fldS rfl) ?_ | refine gl_v rfl (o_fld rfl) ?_
    first | refine gl_v rfl (o_load rfl rfl) ?_ | refine gl_v rfl (o_loadS rfl rfl) ?_ | refine gl_v rfl (o_loadC rfl) ?_
    first | refine gl_v rfl (o_len rfl) ?_ | refine gl_v rfl (o_lenL rfl) ?_
    refine gl_v rfl (o_move rfl) ?_
    refine gl_nil ?_
    refine ge_then ?_
    refine g_block ?_
    refine g_loop (ι := Nat) (fun x => x ≤ s.rows.length) (fun x => [(75, I64 x), (74, I64 s.rows.length), (73, .slice s.ra s.rows.length s.rc), (63, I64 j), (62, I64 k.states.length), (61, .slice k.sa k.states.length k.sc), (3, ptr b3 0), (0, ptr p 0)]) (fun i => cel b3 57 (kndC k) :: wtr p (ws ++ topWs k ++ k.cases.flatMap casWs ++ (k.states.take j).flatMap staWs ++ [wState, s.name, wOpen] ++ (s.rows.take i).flatMap rowWs) :: M :: R) (fun x => s.rows.length - x) 0 (Nat.zero_le _) (Keep.cons rfl (Keep.cons rfl (Keep.cons rfl (Keep.cons rfl (Keep.cons rfl (Keep.cons rfl (Keep.cons rfl (Keep.cons rfl (Keep.nil))))))))) (by rw [List.take_zero, List.flatMap_nil, List.append_nil]; exact (tO)) ?_
    rintro i hi
    replace hi : i ≤ s.rows.length := hi
    refine g_seq ?_
    refine g_region ?_
    refine gl_v rfl (o_lss rfl rfl) ?_
    refine gl_nil ?_
    refine ge_then ?_
    refine g_seq ?_
    refine g_cond rfl (fun hc6 => ?_) (fun hc6 => ?_)
    ·
     replace hc6 := hs_ hc6
     obtain ⟨r, htr⟩ : ∃ t, s.rows[i]? = some t := ⟨_, List.getElem?_eq_getElem (show i < s.rows.length by omega)⟩
     have hle2 := take_le (f := rowWs) htr
     refine g_skip ?_
     refine ge_then ?_
     refine g_seq ?_
     refine g_block ?_
     refine g_seq ?_
     refine g_region ?_
     refine gl_v rfl (o_idxS rfl rfl (show i < s.rows.length by omega)) ?_
     refine gl_v rfl (o_loadSA rfl (flat_take rowC 4 rowC_len htr) rfl) ?_
     refine gl_n rfl (o_alloc) ?_
     rintro _ _ ⟨b9, rfl, rfl⟩
     first | refine gl_u (o_storeSA rfl rfl rfl rfl (by simp; omega) (by simp)) ?_ | refine gl_u (o_storeA rfl rfl rfl rfl rfl) ?_
     refine gl_nil ?_
     refine ge_then ?_
     refine g_region ?_
     refine gl_v rfl (o_move rfl) ?_
     first | refine gl_v rfl (o_loadSA rfl rfl rfl) ?_ | refine gl_v rfl (o_loadA rfl rfl rfl) ?_
     refine gl_c rfl (o_call rfl (rowW_spec hG M p r (hr.rows s hsm r (List.mem_of_getElem? htr)) (fun h a => ((hM h a).states s hsm).rows r (List.mem_of_getElem? htr)) (ws ++ topWs k ++ k.cases.flatMap casWs ++ (k.states.take j).flatMap staWs ++ [wState, s.name, wOpen] ++ (s.rows.take i).flatMap rowWs) (by simp only [List.length_append, List.length_cons, List.length_nil, topWs_len] at *; unfold wBig; omega)) pA) ?_
     rintro _ R ⟨_, ⟨rfl, rfl⟩, rfl⟩
     try simp only [List.cons_append, List.nil_append]
     refine gl_nil ?_
     refine ge_block ?_
     refine ge_then ?_
     refine g_region ?_
     refine gl_v rfl (o_addR ((i + 1 : Nat) : Int) (by rw [wr_i64 (by omega)]; omega) rfl rfl) ?_
     refine gl_v rfl (o_move rfl) ?_
     refine gl_nil ?_
     refine ge_round (i + 1) (show i + 1 ≤ s.rows.length by omega) (by show s.rows.length - (i + 1) < s.rows.length - i; omega) (Keep.cons rfl (Keep.cons rfl (Keep.cons rfl (Keep.cons rfl (Keep.cons rfl (Keep.cons rfl (Keep.cons rfl (Keep.cons rfl (Keep.nil))))))))) (by rw [app_succ htr]; exact (tO))
    ·
     replace hc6 := hs_ hc6
     obtain rfl : i = s.rows.length := by omega
     rw [List.take_length]
     refine g_exit ?_
     refine ge_then_exit ?_
     refine ge_then_exit ?_
     refine ge_block_exit ?_
     refine ge_then ?_
     refine g_region ?_
     refine gl_v rfl (o_move rfl) ?_
     first | refine gl_n rfl (o_buildS1 rfl rfl rfl) ?_ | refine gl_n rfl (o_buildS1A rfl rfl rfl rfl) ?_ | refine gl_n rfl (o_buildS rfl rfl rfl rfl) ?_
     rintro _ _ ⟨b84, rfl, rfl⟩
     refine gl_c rfl (o_call rfl (put1 p b84 (ws ++ topWs k ++ k.cases.flatMap casWs ++ (k.states.take j).flatMap staWs ++ [wState, s.name, wOpen] ++ s.rows.flatMap rowWs) (wShut) (by simp only [List.length_append, List.length_cons, List.length_nil, topWs_len] at *; unfold wBig; omega)) pA) ?_
     rintro _ R ⟨_, ⟨rfl, rfl⟩, rfl⟩
     try simp only [List.cons_append, List.nil_append]
     refine gl_nil ?_
     refine ge_block ?_
     refine ge_then ?_
     refine g_region ?_
     refine gl_v rfl (o_addR ((j + 1 : Nat) : Int) (by rw [wr_i64 (by omega)]; omega) rfl rfl) ?_
     refine gl_v rfl (o_move rfl) ?_
     refine gl_nil ?_
     refine ge_round (j + 1) (show j + 1 ≤ k.states.length by omega) (by show k.states.length - (j + 1) < k.states.length - j; omega) (Keep.cons rfl (Keep.cons rfl (Keep.cons rfl (Keep.cons rfl (Keep.cons rfl (Keep.nil)))))) (by rw [app_succ hts]; show ∀ h, _ → Sat (_ :: wtr p (_ ++ ([wState, s.name, wOpen] ++ s.rows.flatMap rowWs ++ [wShut])) :: M :: R) h; rw [← List.append_assoc, ← List.append_assoc]; exact (tO))
   ·
    replace hc5 := hs_ hc5
    obtain rfl : j = k.states.length := by omega
    rw [List.take_length]
    refine g_exit ?_
    refine ge_then_exit ?_
    refine ge_then_exit ?_
    refine ge_block_exit ?_
    refine ge_then ?_
    refine g_region ?_
    refine gl_v rfl (o_move rfl) ?_
    first | refine gl_n rfl (o_buildS1 rfl rfl rfl) ?_ | refine gl_n rfl (o_buildS1A rfl rfl rfl rfl) ?_ | refine gl_n rfl (o_buildS rfl rfl rfl rfl) ?_
    rintro _ _ ⟨b88, rfl, rfl⟩
    refine gl_c rfl (o_call rfl (put1 p b88 (ws ++ topWs k ++ k.cases.flatMap casWs ++ k.states.flatMap staWs) (wShut) (by simp only [List.length_append, List.length_cons, List.length_nil, topWs_len] at *; unfold wBig; omega)) pA) ?_
    rintro _ R ⟨_, ⟨rfl, rfl⟩, rfl⟩
    try simp only [List.cons_append, List.nil_append]
    refine gl_nil ?_
    refine ret0 (.inr rfl) rfl [wtr p (ws ++ topWs k ++ k.cases.flatMap casWs ++ k.states.flatMap staWs ++ [wShut]), M] (⟨rfl, by unfold kndWs; simp only [List.append_assoc]⟩) (tO)

end Go.Proofs.YtgmdlhlmffdbhaaGreatDoor.L
