/-
  Check: rows, states, kinds and programs. Own work, printed in part by a program of its own.
-/
import Derived.Test.YtgmdlhlmffdbhaaGreatDoorChkB
set_option linter.unusedSimpArgs false
set_option linter.unusedVariables false
set_option linter.unusedSectionVars false
namespace Go.Proofs.YtgmdlhlmffdbhaaGreatDoor.C
open Go.Proofs.YtgmdlhlmffdbhaaGreatDoor.L Go.L Go.L.Lx Go.L.Pg
attribute [local irreducible] isName
theorem errP_some {r : Flt} {c : Int} {ws : List Int} (e : r = some (c, ws)) {Ms : List Assn} {b : Nat} {a : Option Addr} {cp : Nat} : ErrP r Ms (badV b) (cel b BT [I64 c, .slice a ws.length cp] :: intsA a cp ws :: Ms) := by subst e; exact ⟨_, _, _, rfl, rfl⟩
theorem errP_none {r : Flt} (e : r = none) {Ms : List Assn} : ErrP r Ms .nilIface Ms := by subst e; exact ⟨rfl, rfl⟩

theorem ConT_Cas (L : List Cas) (i : Nat) (hi : i ≤ L.length) (a : Option Addr) (c : Nat) (F : FuncId) [TFunc Tryz.prog F] (caps : List Value) (Ms : List Assn) (q : Cas → Bool) (hn : L.length ≤ 9223372036854775807) (hr : ∀ h, Sat Ms h → SlR h (.slice a L.length c) L.length (L.flatMap casC))
    (hp : ∀ x ∈ L, FnS Tryz.prog F ([.agg (casC x).toArray] ++ caps) Ms (fun u Bs => u = .bool (q x) ∧ Bs = Ms)) : FnS Tryz.prog 36 [.slice a i c, .func (.func F) #[] caps.toArray] Ms (fun u Bs => u = .bool ((L.take i).any q) ∧ Bs = Ms) := by
  have h := ConF_Cas (L.take i) a c F caps Ms q (by simp; omega) (fun h s => by
    have e := SlR.to (sz := 2) (hr h s) hi
    rw [flat_to casC 2 casC_len] at e
    rwa [List.length_take, Nat.min_eq_left hi]) (fun x hx => hp x (List.mem_of_mem_take hx))
  rwa [List.length_take, Nat.min_eq_left hi] at h

theorem ConT_Knd (L : List Knd) (i : Nat) (hi : i ≤ L.length) (a : Option Addr) (c : Nat) (F : FuncId) [TFunc Tryz.prog F] (caps : List Value) (Ms : List Assn) (q : Knd → Bool) (hn : L.length ≤ 9223372036854775807) (hr : ∀ h, Sat Ms h → SlR h (.slice a L.length c) L.length (L.flatMap kndC))
    (hp : ∀ x ∈ L, FnS Tryz.prog F ([.agg (kndC x).toArray] ++ caps) Ms (fun u Bs => u = .bool (q x) ∧ Bs = Ms)) : FnS Tryz.prog 41 [.slice a i c, .func (.func F) #[] caps.toArray] Ms (fun u Bs => u = .bool ((L.take i).any q) ∧ Bs = Ms) := by
  have h := ConF_Knd (L.take i) a c F caps Ms q (by simp; omega) (fun h s => by
    have e := SlR.to (sz := 5) (hr h s) hi
    rw [flat_to kndC 5 kndC_len] at e
    rwa [List.length_take, Nat.min_eq_left hi]) (fun x hx => hp x (List.mem_of_mem_take hx))
  rwa [List.length_take, Nat.min_eq_left hi] at h

theorem ConT_Sta (L : List Sta) (i : Nat) (hi : i ≤ L.length) (a : Option Addr) (c : Nat) (F : FuncId) [TFunc Tryz.prog F] (caps : List Value) (Ms : List Assn) (q : Sta → Bool) (hn : L.length ≤ 9223372036854775807) (hr : ∀ h, Sat Ms h → SlR h (.slice a L.length c) L.length (L.flatMap staC))
    (hp : ∀ x ∈ L, FnS Tryz.prog F ([.agg (staC x).toArray] ++ caps) Ms (fun u Bs => u = .bool (q x) ∧ Bs = Ms)) : FnS Tryz.prog 72 [.slice a i c, .func (.func F) #[] caps.toArray] Ms (fun u Bs => u = .bool ((L.take i).any q) ∧ Bs = Ms) := by
  have h := ConF_Sta (L.take i) a c F caps Ms q (by simp; omega) (fun h s => by
    have e := SlR.to (sz := 2) (hr h s) hi
    rw [flat_to staC 2 staC_len] at e
    rwa [List.length_take, Nat.min_eq_left hi]) (fun x hx => hp x (List.mem_of_mem_take hx))
  rwa [List.length_take, Nat.min_eq_left hi] at h

theorem ConT_Row (L : List Row) (i : Nat) (hi : i ≤ L.length) (a : Option Addr) (c : Nat) (F : FuncId) [TFunc Tryz.prog F] (caps : List Value) (Ms : List Assn) (q : Row → Bool) (hn : L.length ≤ 9223372036854775807) (hr : ∀ h, Sat Ms h → SlR h (.slice a L.length c) L.length (L.flatMap rowC))
    (hp : ∀ x ∈ L, FnS Tryz.prog F ([.agg (rowC x).toArray] ++ caps) Ms (fun u Bs => u = .bool (q x) ∧ Bs = Ms)) : FnS Tryz.prog 94 [.slice a i c, .func (.func F) #[] caps.toArray] Ms (fun u Bs => u = .bool ((L.take i).any q) ∧ Bs = Ms) := by
  have h := ConF_Row (L.take i) a c F caps Ms q (by simp; omega) (fun h s => by
    have e := SlR.to (sz := 4) (hr h s) hi
    rw [flat_to rowC 4 rowC_len] at e
    rwa [List.length_take, Nat.min_eq_left hi]) (fun x hx => hp x (List.mem_of_mem_take hx))
  rwa [List.length_take, Nat.min_eq_left hi] at h

set_option maxRecDepth 8000 in
set_option maxHeartbeats 1000000 in
theorem row3_spec (pa : Option Addr) (pc : Nat) (KK : List Knd) (A : Assn) (hA : ∀ h, A h → PrgOk h pa pc KK) (hb : ∃ h, PrgOk h pa pc KK) (k : Knd) (hk : k ∈ KK) (s : Sta) (hs : s ∈ k.states) (r : Row) (hr : r ∈ s.rows) (bp bk br j : Nat) (hj : j < r.effs.length) : FnS Tryz.prog 96 [I64 j, ptr bp 0, ptr bk 0, ptr br 0] [cel bp 24 ([.slice pa KK.length pc]), cel bk 57 (kndC k), cel br 83 (rowC r), A] (BadP (effF KK k.states r.effs j) [cel bp 24 ([.slice pa KK.length pc]), cel bk 57 (kndC k), cel br 83 (rowC r), A]) := by
 refine fn_body Tryz.func96 rfl rfl rfl ?_
 intro W0 R
 simp only [List.zipIdx_cons, List.zipIdx_nil, List.map_cons, List.map_nil, Nat.zero_add, Nat.reduceAdd, List.cons_append, List.nil_append]
 obtain ⟨h0, hb0⟩ := id hb
 have hKn := hb0.len; have hKc := hb0.rd.2
 haveI rK : RdA (.slice pa KK.length pc) A KK.length (KK.flatMap kndC) := ⟨fun h => (hA _ h).rd.1⟩
 have hkO := hb0.kinds k hk
 have hsc := hkO.rds.2; have hcc := hkO.rdc.2
 have hSn := hkO.lens; have hCn := hkO.lenc; have hkn := hkO.name
 haveI rS : RdA (.slice k.sa k.states.length k.sc) A k.states.length (k.states.flatMap staC) := ⟨fun h => ((hA _ h).kinds k hk).rds.1⟩
 haveI rC : RdA (.slice k.ca k.cases.length k.cc) A k.cases.length (k.cases.flatMap casC) := ⟨fun h => ((hA _ h).kinds k hk).rdc.1⟩
 have hsO := hkO.states s hs
 have hrc := hsO.rd.2
 have hRn := hsO.len; have hsn := hsO.name
 haveI rR : RdA (.slice s.ra s.rows.length s.rc) A s.rows.length (s.rows.flatMap rowC) := ⟨fun h => (((hA _ h).kinds k hk).states s hs).rd.1⟩
 have hrO := hsO.rows r hr
 have hEn := hrO.len; have hrn := hrO.tag
 haveI rE : RdA (.slice r.ea r.effs.length r.ec) A r.effs.length (r.effs.flatMap effC) := ⟨fun h => ((((hA _ h).kinds k hk).states s hs).rows r hr).rd.1⟩
 obtain ⟨e, he⟩ : ∃ e, r.effs[j]? = some e := ⟨_, List.getElem?_eq_getElem hj⟩
 have heO := hrO.effs e (List.mem_of_getElem? he)
 have hF := effF_at (KK := KK) (SS := k.states) he
 unfold ok63 at *
 
 refine g_seq ?_
 refine g_region ?_
 refine gl_v rfl (o_assign rfl) ?_
 refine gl_nil ?_
 refine ge_then ?_
 refine g_seq ?_
 refine g_seq ?_
 refine g_draw [13] [] [(0, .loc), (1, .loc), (2, .loc), (3, .loc), (4, .loc), (5, .loc), (6, .loc), (7, .loc), (8, .loc), (9, .loc), (10, .loc), (11, .loc), (12, .loc), (13, .eff), (14, .loc)] [] mixed (by kernel_rfl) ?_
 first | refine go_v rfl .none rfl (o_loadSA rfl rfl rfl) ?_ | refine go_v rfl .none rfl (o_loadA rfl rfl rfl) ?_
 first | refine go_v rfl .none rfl (o_loadSA rfl rfl rfl) ?_ | refine go_v rfl .none rfl (o_loadA rfl rfl rfl) ?_
 first | refine go_v rfl .none rfl (o_fldS rfl) ?_ | refine go_v rfl .none rfl (o_fld rfl) ?_
 first | refine go_v rfl .none rfl (o_load rfl rfl) ?_ | refine go_v rfl .none rfl (o_loadS rfl rfl) ?_ | refine go_v rfl .none rfl (o_loadC rfl) ?_
 refine go_v rfl .none rfl (o_move rfl) ?_
 refine go_v rfl .none rfl (o_idxS rfl rfl hj) ?_
 refine go_v rfl .none rfl (o_loadSA rfl (flat_take effC 7 effC_len he) rfl) ?_
 refine go_v rfl .none rfl (o_move rfl) ?_
 first | refine go_v rfl .none rfl (o_fldS rfl) ?_ | refine go_v rfl .none rfl (o_fld rfl) ?_
 first | refine go_v rfl .none rfl (o_load rfl rfl) ?_ | refine go_v rfl .none rfl (o_loadS rfl rfl) ?_ | refine go_v rfl .none rfl (o_loadC rfl) ?_
 refine go_v rfl .none rfl (o_lenL rfl) ?_
 refine go_v rfl .none rfl (o_subR (((r.effs.length : Int) - 1)) (by rw [wr_i64 (by omega)]) rfl rfl) ?_
 refine go_v rfl .none rfl (o_eql rfl rfl) ?_
 refine go_c rfl .none rfl (o_call rfl (effect_spec pa pc KK A hA hb k hk e heO (decide ((j : Int) = (r.effs.length : Int) - 1))) pA) ?_
 rintro _ R ⟨_, ⟨rfl, rfl⟩, rfl⟩
 try simp only [List.cons_append, List.nil_append]
 refine ⟨(fun hG => absurd hG (by decide)), ?_⟩
 refine go_v rfl .none rfl (o_assign rfl) ?_
 refine go_nil ?_
 refine ge_then ?_
 refine g_seq ?_
 refine g_region ?_
 refine gl_v rfl (o_move rfl) ?_
 refine gl_v rfl (o_neq rfl rfl) ?_
 refine gl_nil ?_
 refine ge_then ?_
 refine g_cond rfl (fun hc1 => ?_) (fun hc1 => ?_)
 ·
  replace hc1 := hs_ hc1
  have hf : effF KK k.states r.effs j = some ((effE KK k.states e (decide ((j : Int) = (r.effs.length : Int) - 1))), []) := by rw [hF, if_neg (by omega)]
  refine g_seq ?_
  refine g_region ?_
  refine gl_v rfl (o_move rfl) ?_
  refine gl_v rfl (o_build rfl rfl) ?_
  refine gl_n rfl (o_boxA rfl) ?_
  rintro _ _ ⟨b25, rfl, rfl⟩
  refine gl_v rfl (o_assign rfl) ?_
  refine gl_nil ?_
  refine ge_then ?_
  refine g_ret ?_
  refine ge_then_ret ?_
  refine ret1 (.inl rfl) rfl rfl  [cel b25 BT [I64 (effE KK k.states e (decide ((j : Int) = (r.effs.length : Int) - 1))), .slice none 0 0], intsA none 0 [], cel bp 24 ([.slice pa KK.length pc]), cel bk 57 (kndC k), cel br 83 (rowC r), A] (badP_some (Ms := [cel bp 24 ([.slice pa KK.length pc]), cel bk 57 (kndC k), cel br 83 (rowC r), A]) hf) (fun _ h => Sat.tail (r := (cel bp 24 ([.slice pa KK.length pc]) :: cel bk 57 (kndC k) :: cel br 83 (rowC r) :: A :: R)) (r' := intsA none 0 [] :: (cel bp 24 ([.slice pa KK.length pc]) :: cel bk 57 (kndC k) :: cel br 83 (rowC r) :: A :: R)) (fun _ h => own_nilI _ h) ((tO) _ h))
 ·
  replace hc1 := hs_ hc1
  have hf : effF KK k.states r.effs j = none := by rw [hF, if_pos (by omega)]
  refine g_skip ?_
  refine ge_then ?_
  refine g_seq ?_
  refine g_region ?_
  refine gl_v rfl (o_assign rfl) ?_
  refine gl_nil ?_
  refine ge_then ?_
  refine g_ret ?_
  refine ret1 (.inl rfl) rfl rfl  [cel bp 24 ([.slice pa KK.length pc]), cel bk 57 (kndC k), cel br 83 (rowC r), A] (badP_none hf) (tO)

set_option maxRecDepth 8000 in
set_option maxHeartbeats 4000000 in
theorem row_spec (pa : Option Addr) (pc : Nat) (KK : List Knd) (A : Assn) (hA : ∀ h, A h → PrgOk h pa pc KK) (hb : ∃ h, PrgOk h pa pc KK) (k : Knd) (hk : k ∈ KK) (s : Sta) (hs : s ∈ k.states) (i : Nat) (hi : i < s.rows.length) : FnS Tryz.prog 75 [.agg #[.slice pa KK.length pc], .agg (kndC k).toArray, .agg (staC s).toArray, I64 i] [A] (BadP (rowF KK k.states s.rows i) [A]) := by
 refine fn_body Tryz.func75 rfl rfl rfl ?_
 intro W0 R
 simp only [List.zipIdx_cons, List.zipIdx_nil, List.map_cons, List.map_nil, Nat.zero_add, Nat.reduceAdd, List.cons_append, List.nil_append]
 obtain ⟨h0, hb0⟩ := id hb
 have hKn := hb0.len; have hKc := hb0.rd.2
 haveI rK : RdA (.slice pa KK.length pc) A KK.length (KK.flatMap kndC) := ⟨fun h => (hA _ h).rd.1⟩
 have hkO := hb0.kinds k hk
 have hsc := hkO.rds.2; have hcc := hkO.rdc.2
 have hSn := hkO.lens; have hCn := hkO.lenc; have hkn := hkO.name
 haveI rS : RdA (.slice k.sa k.states.length k.sc) A k.states.length (k.states.flatMap staC) := ⟨fun h => ((hA _ h).kinds k hk).rds.1⟩
 haveI rC : RdA (.slice k.ca k.cases.length k.cc) A k.cases.length (k.cases.flatMap casC) := ⟨fun h => ((hA _ h).kinds k hk).rdc.1⟩
 have hsO := hkO.states s hs
 have hrc := hsO.rd.2
 have hRn := hsO.len; have hsn := hsO.name
 haveI rR : RdA (.slice s.ra s.rows.length s.rc) A s.rows.length (s.rows.flatMap rowC) := ⟨fun h => (((hA _ h).kinds k hk).states s hs).rd.1⟩
 obtain ⟨r, hri⟩ : ∃ r, s.rows[i]? = some r := ⟨_, List.getElem?_eq_getElem hi⟩
 have hr := List.mem_of_getElem? hri
 have hrO := hsO.rows r hr
 have hEn := hrO.len; have hrn := hrO.tag
 haveI rE : RdA (.slice r.ea r.effs.length r.ec) A r.effs.length (r.effs.flatMap effC) := ⟨fun h => ((((hA _ h).kinds k hk).states s hs).rows r hr).rd.1⟩
 have hF := rowF_at (KK := KK) (SS := k.states) hri
 unfold ok63 at *
 
 refine g_seq ?_
 refine g_region ?_
 refine gl_n rfl (o_boxA rfl) ?_
 rintro _ _ ⟨b4, rfl, rfl⟩
 refine gl_n rfl (o_boxA rfl) ?_
 rintro _ _ ⟨b5, rfl, rfl⟩
 refine gl_n rfl (o_boxA rfl) ?_
 rintro _ _ ⟨b6, rfl, rfl⟩
 refine gl_v rfl (o_assign rfl) ?_
 refine gl_nil ?_
 refine ge_then ?_
 refine g_seq ?_
 refine g_region ?_
 first | refine gl_v rfl (o_fldS rfl) ?_ | refine gl_v rfl (o_fld rfl) ?_
 first | refine gl_v rfl (o_load rfl rfl) ?_ | refine gl_v rfl (o_loadS rfl rfl) ?_ | refine gl_v rfl (o_loadC rfl) ?_
 refine gl_v rfl (o_move rfl) ?_
 refine gl_v rfl (o_idxS rfl rfl hi) ?_
 refine gl_v rfl (o_loadSA rfl (flat_take rowC 4 rowC_len hri) rfl) ?_
 refine gl_n rfl (o_alloc) ?_
 rintro _ _ ⟨b9, rfl, rfl⟩
 first | refine gl_u (o_storeSA rfl rfl rfl rfl (by simp; omega) (by simp)) ?_ | refine gl_u (o_storeA rfl rfl rfl rfl rfl) ?_
 refine gl_nil ?_
 refine ge_then ?_
 refine g_seq ?_
 refine g_region ?_
 first | refine gl_v rfl (o_fldS rfl) ?_ | refine gl_v rfl (o_fld rfl) ?_
 first | refine gl_v rfl (o_load rfl rfl) ?_ | refine gl_v rfl (o_loadS rfl rfl) ?_ | refine gl_v rfl (o_loadC rfl) ?_
 refine gl_c rfl (o_call rfl (ConF_Eff r.effs r.ea r.ec 93 [] [A] (fun e => decide (e.do' = 4)) (by omega) (rd_head fun h a => ((((hA h a).kinds k hk).states s hs).rows r hr).rd.1) (fun d _ => row1_spec A d)) pA) ?_
 rintro _ R ⟨_, ⟨rfl, rfl⟩, rfl⟩
 try simp only [List.cons_append, List.nil_append]
 refine gl_v rfl (o_assign rfl) ?_
 refine gl_nil ?_
 refine ge_then ?_
 refine g_seq ?_
 refine g_treeM [2, 39, 54, 55] [2, 39] (.loc 0 (.loc 1 (.stab 34 (.stab 35 (.stab 36 (.stab 37 (.stab 38 (.stab 41 (.stab 42 (.stab 43 (.stab 44 (.stab 45 (.stab 46 (.eff 2 (.loc 3 (.loc 4 (.loc 5 (.loc 6 (.loc 7 (.loc 8 (.loc 9 (.loc 10 (.loc 11 (.loc 12 (.loc 13 (.loc 14 (.loc 15 (.loc 16 (.loc 17 (.loc 18 (.loc 19 (.loc 20 (.loc 21 (.loc 22 (.loc 23 (.loc 24 (.loc 25 (.loc 26 (.loc 27 (.stab 28 (.stab 29 (.stab 30 (.stab 31 (.stab 32 (.stab 33 (.eff 39 (.loc 40 (.loc 47 (.loc 48 (.loc 49 (.loc 50 (.loc 51 (.loc 52 (.loc 53 (.eff 54 (.eff 55 (.loc 56 .nil) .nil) .nil))))))))) .nil)))))))))))))))))))))))))))))))) .nil)))))))))))))) [cel b6 79 (staC s), cel b9 83 (rowC r)] mixed (by kernel_rfl) ?_
 first | refine gt_v rfl .none rfl (o_fldS rfl) ?_ | refine gt_v rfl .none rfl (o_fld rfl) ?_
 first | refine gt_v rfl .none rfl (o_load rfl rfl) ?_ | refine gt_v rfl .none rfl (o_loadS rfl rfl) ?_ | refine gt_v rfl .none rfl (o_loadC rfl) ?_
 first | refine gt_vs rfl .none rfl (o_fldS rfl) (tO) ?_ | refine gt_vs rfl .none rfl (o_fld rfl) (tO) ?_
 first | refine gt_vs rfl .none rfl (o_load rfl rfl) (tO) ?_ | refine gt_vs rfl .none rfl (o_loadS rfl rfl) (tO) ?_ | refine gt_vs rfl .none rfl (o_loadC rfl) (tO) ?_
 refine gt_vs rfl .none rfl (o_move rfl) (tO) ?_
 refine gt_vs rfl .none rfl (o_slTo rfl rfl (show i ≤ s.rc by omega)) (tO) ?_
 refine gt_vs rfl .none rfl (o_func rfl rfl) (tO) ?_
 first | refine gt_vs rfl .none rfl (o_fldS rfl) (tO) ?_ | refine gt_vs rfl .none rfl (o_fld rfl) (tO) ?_
 first | refine gt_vs rfl .none rfl (o_load rfl rfl) (tO) ?_ | refine gt_vs rfl .none rfl (o_loadS rfl rfl) (tO) ?_ | refine gt_vs rfl .none rfl (o_loadC rfl) (tO) ?_
 first | refine gt_vs rfl .none rfl (o_len rfl) (tO) ?_ | refine gt_vs rfl .none rfl (o_lenL rfl) (tO) ?_
 refine gt_vs rfl .none rfl (o_gtr rfl rfl) (tO) ?_
 refine gt_vs rfl .none rfl (o_build rfl rfl) (tO) ?_
 refine gt_vs rfl .none rfl (o_move rfl) (tO) ?_
 refine gt_c rfl .none rfl (o_call rfl (named_spec r.tag (by omega)) pA) ?_
 rintro _ R ⟨_, ⟨rfl, rfl⟩, rfl⟩
 try simp only [List.cons_append, List.nil_append]
 refine ⟨(fun _ => (tO)), ?_⟩
 refine gt_v rfl .none rfl (o_not rfl) ?_
 refine gt_v rfl .none rfl (o_move rfl) ?_
 refine gt_join (d := 52) (.stab 33 (.eff 39 (.loc 40 (.loc 47 (.loc 48 (.loc 49 (.loc 50 (.loc 51 (.loc 52 (.loc 53 (.eff 54 (.eff 55 (.loc 56 .nil) .nil) .nil))))))))) .nil)) (.bool (r1 r)) ?_ (fun jk52 => ?_)
 rotate_left
 ·
  refine gt_split (j := 4) rfl rfl (fun hc1 => ?_) (fun hc1 => ?_)
  ·
   have hc1' := hc1
   replace hc1' := hs_ hc1'
   refine gt_skipL rfl (.no rfl rfl hc1) rfl ?_
   refine gt_skipL rfl (.no rfl rfl hc1) rfl ?_
   refine gt_skipL rfl (.no rfl rfl hc1) rfl ?_
   refine gt_skipL rfl (.un rfl rfl) rfl ?_
   refine gt_skipL rfl (.un rfl rfl) rfl ?_
   refine gt_skipL rfl (.un rfl rfl) rfl ?_
   refine gt_skipL rfl (.no rfl rfl hc1) rfl ?_
   refine gt_v rfl .none rfl (o_pickT hc1 rfl rfl) ?_
   refine gt_v rfl .none rfl (o_move rfl) ?_
   refine gt_skipL rfl (.no rfl rfl rfl) rfl ?_
   refine gt_skipL rfl (.no rfl rfl rfl) rfl ?_
   refine gt_skipL rfl (.no rfl rfl rfl) rfl ?_
   refine gt_v rfl .none rfl (o_pickT rfl rfl rfl) ?_
   refine gt_v rfl .none rfl (o_move rfl) ?_
   refine gt_skipL rfl (.no rfl rfl rfl) rfl ?_
   refine gt_skipL rfl (.no rfl rfl rfl) rfl ?_
   refine gt_skipL rfl (.no rfl rfl rfl) rfl ?_
   refine gt_v rfl .none rfl (o_pickT rfl rfl rfl) ?_
   refine gt_v rfl .none rfl (o_move rfl) ?_
   refine gt_skipL rfl (.no rfl rfl rfl) rfl ?_
   refine gt_skipL rfl (.no rfl rfl rfl) rfl ?_
   refine gt_skipL rfl (.no rfl rfl rfl) rfl ?_
   refine gt_skipL rfl (.no rfl rfl rfl) rfl ?_
   refine gt_skipS rfl (.un rfl rfl) rfl ?_
   refine gt_skipS rfl (.un rfl rfl) rfl ?_
   refine gt_skipS rfl (.un rfl rfl) rfl ?_
   refine gt_skipS rfl (.no rfl rfl rfl) rfl ?_
   refine gt_vs rfl .none rfl (o_pickT rfl rfl rfl) (tO) ?_
   first | exact jk52 _ (KeepS.top (by repeat (first | exact KeepS.refl _ | refine KeepS.push ?_ rfl)) (jval (by first | rfl | (simp only [hc1, r1, Bool.not_true, Bool.not_false, Bool.false_and, Bool.true_and, Bool.true_or, Bool.false_or]; done) | (simp [hc1, r1]; done) | simp_all))) | exact gt_imp (tO) (jk52 _ (KeepS.top (by repeat (first | exact KeepS.refl _ | refine KeepS.push ?_ rfl)) (jval (by first | rfl | (simp only [hc1, r1, Bool.not_true, Bool.not_false, Bool.false_and, Bool.true_and, Bool.true_or, Bool.false_or]; done) | (simp [hc1, r1]; done) | simp_all))))
  ·
   have hc1' := hc1
   replace hc1' := hs_ hc1'
   first | refine gt_v rfl (.yes rfl rfl hc1) rfl (o_fldS rfl) ?_ | refine gt_v rfl (.yes rfl rfl hc1) rfl (o_fld rfl) ?_
   first | refine gt_v rfl (.yes rfl rfl hc1) rfl (o_load rfl rfl) ?_ | refine gt_v rfl (.yes rfl rfl hc1) rfl (o_loadS rfl rfl) ?_ | refine gt_v rfl (.yes rfl rfl hc1) rfl (o_loadC rfl) ?_
   refine gt_v rfl (.yes rfl rfl hc1) rfl (o_move rfl) ?_
   refine gt_split (j := 7) rfl rfl (fun hc2 => ?_) (fun hc2 => ?_)
   ·
    have hc2' := hc2
    replace hc2' := hs_ hc2'
    first | refine gt_v rfl (.yes rfl rfl hc2) rfl (o_fldS rfl) ?_ | refine gt_v rfl (.yes rfl rfl hc2) rfl (o_fld rfl) ?_
    first | refine gt_v rfl (.yes rfl rfl hc2) rfl (o_load rfl rfl) ?_ | refine gt_v rfl (.yes rfl rfl hc2) rfl (o_loadS rfl rfl) ?_ | refine gt_v rfl (.yes rfl rfl hc2) rfl (o_loadC rfl) ?_
    refine gt_v rfl (.yes rfl rfl hc2) rfl (o_eqls rfl rfl) ?_
    refine gt_v rfl (.yes rfl rfl hc1) rfl (o_pickT hc2 rfl rfl) ?_
    refine gt_v rfl .none rfl (o_pickF hc1 rfl rfl) ?_
    refine gt_v rfl .none rfl (o_move rfl) ?_
    refine gt_split (j := 13) rfl rfl (fun hc3 => ?_) (fun hc3 => ?_)
    ·
     have hc3' := hc3
     replace hc3' := hs_ hc3'
     refine gt_skipL rfl (.no rfl rfl hc3) rfl ?_
     refine gt_skipL rfl (.no rfl rfl hc3) rfl ?_
     refine gt_skipL rfl (.no rfl rfl hc3) rfl ?_
     refine gt_v rfl .none rfl (o_pickT hc3 rfl rfl) ?_
     refine gt_v rfl .none rfl (o_move rfl) ?_
     refine gt_skipL rfl (.no rfl rfl rfl) rfl ?_
     refine gt_skipL rfl (.no rfl rfl rfl) rfl ?_
     refine gt_skipL rfl (.no rfl rfl rfl) rfl ?_
     refine gt_v rfl .none rfl (o_pickT rfl rfl rfl) ?_
     refine gt_v rfl .none rfl (o_move rfl) ?_
     refine gt_skipL rfl (.no rfl rfl rfl) rfl ?_
     refine gt_skipL rfl (.no rfl rfl rfl) rfl ?_
     refine gt_skipL rfl (.no rfl rfl rfl) rfl ?_
     refine gt_skipL rfl (.no rfl rfl rfl) rfl ?_
     refine gt_skipS rfl (.un rfl rfl) rfl ?_
     refine gt_skipS rfl (.un rfl rfl) rfl ?_
     refine gt_skipS rfl (.un rfl rfl) rfl ?_
     refine gt_skipS rfl (.no rfl rfl rfl) rfl ?_
     refine gt_vs rfl .none rfl (o_pickT rfl rfl rfl) (tO) ?_
     first | exact jk52 _ (KeepS.top (by repeat (first | exact KeepS.refl _ | refine KeepS.push ?_ rfl)) (jval (by first | rfl | (simp only [hc1, hc2, hc3, r1, Bool.not_true, Bool.not_false, Bool.false_and, Bool.true_and, Bool.true_or, Bool.false_or]; done) | (simp [hc1, hc2, hc3, r1]; done) | simp_all))) | exact gt_imp (tO) (jk52 _ (KeepS.top (by repeat (first | exact KeepS.refl _ | refine KeepS.push ?_ rfl)) (jval (by first | rfl | (simp only [hc1, hc2, hc3, r1, Bool.not_true, Bool.not_false, Bool.false_and, Bool.true_and, Bool.true_or, Bool.false_or]; done) | (simp [hc1, hc2, hc3, r1]; done) | simp_all))))
    ·
     have hc3' := hc3
     replace hc3' := hs_ hc3'
     first | refine gt_v rfl (.yes rfl rfl hc3) rfl (o_fldS rfl) ?_ | refine gt_v rfl (.yes rfl rfl hc3) rfl (o_fld rfl) ?_
     first | refine gt_v rfl (.yes rfl rfl hc3) rfl (o_load rfl rfl) ?_ | refine gt_v rfl (.yes rfl rfl hc3) rfl (o_loadS rfl rfl) ?_ | refine gt_v rfl (.yes rfl rfl hc3) rfl (o_loadC rfl) ?_
     refine gt_v rfl (.yes rfl rfl hc3) rfl (o_lss rfl rfl) ?_
     refine gt_v rfl .none rfl (o_pickF hc3 rfl rfl) ?_
     refine gt_v rfl .none rfl (o_move rfl) ?_
     refine gt_split (j := 18) rfl rfl (fun hc4 => ?_) (fun hc4 => ?_)
     ·
      have hc4' := hc4
      replace hc4' := hs_ hc4'
      refine gt_skipL rfl (.no rfl rfl hc4) rfl ?_
      refine gt_skipL rfl (.no rfl rfl hc4) rfl ?_
      refine gt_skipL rfl (.no rfl rfl hc4) rfl ?_
      refine gt_v rfl .none rfl (o_pickT hc4 rfl rfl) ?_
      refine gt_v rfl .none rfl (o_move rfl) ?_
      refine gt_skipL rfl (.no rfl rfl rfl) rfl ?_
      refine gt_skipL rfl (.no rfl rfl rfl) rfl ?_
      refine gt_skipL rfl (.no rfl rfl rfl) rfl ?_
      refine gt_skipL rfl (.no rfl rfl rfl) rfl ?_
      refine gt_skipS rfl (.un rfl rfl) rfl ?_
      refine gt_skipS rfl (.un rfl rfl) rfl ?_
      refine gt_skipS rfl (.un rfl rfl) rfl ?_
      refine gt_skipS rfl (.no rfl rfl rfl) rfl ?_
      refine gt_vs rfl .none rfl (o_pickT rfl rfl rfl) (tO) ?_
      first | exact jk52 _ (KeepS.top (by repeat (first | exact KeepS.refl _ | refine KeepS.push ?_ rfl)) (jval (by first | rfl | (simp only [hc1, hc2, hc3, hc4, r1, Bool.not_true, Bool.not_false, Bool.false_and, Bool.true_and, Bool.true_or, Bool.false_or]; done) | (simp [hc1, hc2, hc3, hc4, r1]; done) | simp_all))) | exact gt_imp (tO) (jk52 _ (KeepS.top (by repeat (first | exact KeepS.refl _ | refine KeepS.push ?_ rfl)) (jval (by first | rfl | (simp only [hc1, hc2, hc3, hc4, r1, Bool.not_true, Bool.not_false, Bool.false_and, Bool.true_and, Bool.true_or, Bool.false_or]; done) | (simp [hc1, hc2, hc3, hc4, r1]; done) | simp_all))))
     ·
      have hc4' := hc4
      replace hc4' := hs_ hc4'
      first | refine gt_v rfl (.yes rfl rfl hc4) rfl (o_fldS rfl) ?_ | refine gt_v rfl (.yes rfl rfl hc4) rfl (o_fld rfl) ?_
      first | refine gt_v rfl (.yes rfl rfl hc4) rfl (o_load rfl rfl) ?_ | refine gt_v rfl (.yes rfl rfl hc4) rfl (o_loadS rfl rfl) ?_ | refine gt_v rfl (.yes rfl rfl hc4) rfl (o_loadC rfl) ?_
      refine gt_v rfl (.yes rfl rfl hc4) rfl (o_gtr rfl rfl) ?_
      refine gt_v rfl .none rfl (o_pickF hc4 rfl rfl) ?_
      refine gt_v rfl .none rfl (o_move rfl) ?_
      refine gt_split (j := 23) rfl rfl (fun hc5 => ?_) (fun hc5 => ?_)
      ·
       have hc5' := hc5
       replace hc5' := hs_ hc5'
       refine gt_skipL rfl (.no rfl rfl hc5) rfl ?_
       refine gt_skipL rfl (.no rfl rfl hc5) rfl ?_
       refine gt_skipL rfl (.no rfl rfl hc5) rfl ?_
       refine gt_skipL rfl (.no rfl rfl hc5) rfl ?_
       refine gt_skipS rfl (.un rfl rfl) rfl ?_
       refine gt_skipS rfl (.un rfl rfl) rfl ?_
       refine gt_skipS rfl (.un rfl rfl) rfl ?_
       refine gt_skipS rfl (.no rfl rfl hc5) rfl ?_
       refine gt_vs rfl .none rfl (o_pickT hc5 rfl rfl) (tO) ?_
       first | exact jk52 _ (KeepS.top (by repeat (first | exact KeepS.refl _ | refine KeepS.push ?_ rfl)) (jval (by first | rfl | (simp only [hc1, hc2, hc3, hc4, hc5, r1, Bool.not_true, Bool.not_false, Bool.false_and, Bool.true_and, Bool.true_or, Bool.false_or]; done) | (simp [hc1, hc2, hc3, hc4, hc5, r1]; done) | simp_all))) | exact gt_imp (tO) (jk52 _ (KeepS.top (by repeat (first | exact KeepS.refl _ | refine KeepS.push ?_ rfl)) (jval (by first | rfl | (simp only [hc1, hc2, hc3, hc4, hc5, r1, Bool.not_true, Bool.not_false, Bool.false_and, Bool.true_and, Bool.true_or, Bool.false_or]; done) | (simp [hc1, hc2, hc3, hc4, hc5, r1]; done) | simp_all))))
      ·
       have hc5' := hc5
       replace hc5' := hs_ hc5'
       first | refine gt_v rfl (.yes rfl rfl hc5) rfl (o_fldS rfl) ?_ | refine gt_v rfl (.yes rfl rfl hc5) rfl (o_fld rfl) ?_
       first | refine gt_v rfl (.yes rfl rfl hc5) rfl (o_load rfl rfl) ?_ | refine gt_v rfl (.yes rfl rfl hc5) rfl (o_loadS rfl rfl) ?_ | refine gt_v rfl (.yes rfl rfl hc5) rfl (o_loadC rfl) ?_
       refine gt_v rfl (.yes rfl rfl hc5) rfl (o_not rfl) ?_
       refine gt_v rfl (.yes rfl rfl hc5) rfl (o_move rfl) ?_
       refine gt_split (j := 27) rfl rfl (fun hc6 => ?_) (fun hc6 => ?_)
       ·
        have hc6' := hc6
        replace hc6' := hs_ hc6'
        first | refine gt_vs rfl (.yes rfl rfl hc6) rfl (o_fldS rfl) (tO) ?_ | refine gt_vs rfl (.yes rfl rfl hc6) rfl (o_fld rfl) (tO) ?_
        first | refine gt_vs rfl (.yes rfl rfl hc6) rfl (o_load rfl rfl) (tO) ?_ | refine gt_vs rfl (.yes rfl rfl hc6) rfl (o_loadS rfl rfl) (tO) ?_ | refine gt_vs rfl (.yes rfl rfl hc6) rfl (o_loadC rfl) (tO) ?_
        refine gt_vs rfl (.yes rfl rfl hc6) rfl (o_neq rfl rfl) (tO) ?_
        refine gt_vs rfl (.yes rfl rfl hc5) rfl (o_pickT hc6 rfl rfl) (tO) ?_
        refine gt_vs rfl .none rfl (o_pickF hc5 rfl rfl) (tO) ?_
        first | exact jk52 _ (KeepS.top (by repeat (first | exact KeepS.refl _ | refine KeepS.push ?_ rfl)) (jval (by first | rfl | (simp only [hc1, hc2, hc3, hc4, hc5, hc6, r1, Bool.not_true, Bool.not_false, Bool.false_and, Bool.true_and, Bool.true_or, Bool.false_or]; done) | (simp [hc1, hc2, hc3, hc4, hc5, hc6, r1]; done) | simp_all))) | exact gt_imp (tO) (jk52 _ (KeepS.top (by repeat (first | exact KeepS.refl _ | refine KeepS.push ?_ rfl)) (jval (by first | rfl | (simp only [hc1, hc2, hc3, hc4, hc5, hc6, r1, Bool.not_true, Bool.not_false, Bool.false_and, Bool.true_and, Bool.true_or, Bool.false_or]; done) | (simp [hc1, hc2, hc3, hc4, hc5, hc6, r1]; done) | simp_all))))
       ·
        have hc6' := hc6
        replace hc6' := hs_ hc6'
        refine gt_skipS rfl (.no rfl rfl hc6) rfl ?_
        refine gt_skipS rfl (.no rfl rfl hc6) rfl ?_
        refine gt_skipS rfl (.no rfl rfl hc6) rfl ?_
        refine gt_vs rfl (.yes rfl rfl hc5) rfl (o_pickF hc6 rfl rfl) (tO) ?_
        refine gt_vs rfl .none rfl (o_pickF hc5 rfl rfl) (tO) ?_
        first | exact jk52 _ (KeepS.top (by repeat (first | exact KeepS.refl _ | refine KeepS.push ?_ rfl)) (jval (by first | rfl | (simp only [hc1, hc2, hc3, hc4, hc5, hc6, r1, Bool.not_true, Bool.not_false, Bool.false_and, Bool.true_and, Bool.true_or, Bool.false_or]; done) | (simp [hc1, hc2, hc3, hc4, hc5, hc6, r1]; done) | simp_all))) | exact gt_imp (tO) (jk52 _ (KeepS.top (by repeat (first | exact KeepS.refl _ | refine KeepS.push ?_ rfl)) (jval (by first | rfl | (simp only [hc1, hc2, hc3, hc4, hc5, hc6, r1, Bool.not_true, Bool.not_false, Bool.false_and, Bool.true_and, Bool.true_or, Bool.false_or]; done) | (simp [hc1, hc2, hc3, hc4, hc5, hc6, r1]; done) | simp_all))))
   ·
    have hc2' := hc2
    replace hc2' := hs_ hc2'
    refine gt_skipL rfl (.no rfl rfl hc2) rfl ?_
    refine gt_skipL rfl (.no rfl rfl hc2) rfl ?_
    refine gt_skipL rfl (.no rfl rfl hc2) rfl ?_
    refine gt_v rfl (.yes rfl rfl hc1) rfl (o_pickF hc2 rfl rfl) ?_
    refine gt_v rfl .none rfl (o_pickF hc1 rfl rfl) ?_
    refine gt_v rfl .none rfl (o_move rfl) ?_
    first | refine gt_v rfl (.yes rfl rfl rfl) rfl (o_fldS rfl) ?_ | refine gt_v rfl (.yes rfl rfl rfl) rfl (o_fld rfl) ?_
    first | refine gt_v rfl (.yes rfl rfl rfl) rfl (o_load rfl rfl) ?_ | refine gt_v rfl (.yes rfl rfl rfl) rfl (o_loadS rfl rfl) ?_ | refine gt_v rfl (.yes rfl rfl rfl) rfl (o_loadC rfl) ?_
    refine gt_v rfl (.yes rfl rfl rfl) rfl (o_lss rfl rfl) ?_
    refine gt_v rfl .none rfl (o_pickF rfl rfl rfl) ?_
    refine gt_v rfl .none rfl (o_move rfl) ?_
    refine gt_split (j := 18) rfl rfl (fun hc7 => ?_) (fun hc7 => ?_)
    ·
     have hc7' := hc7
     replace hc7' := hs_ hc7'
     refine gt_skipL rfl (.no rfl rfl hc7) rfl ?_
     refine gt_skipL rfl (.no rfl rfl hc7) rfl ?_
     refine gt_skipL rfl (.no rfl rfl hc7) rfl ?_
     refine gt_v rfl .none rfl (o_pickT hc7 rfl rfl) ?_
     refine gt_v rfl .none rfl (o_move rfl) ?_
     refine gt_skipL rfl (.no rfl rfl rfl) rfl ?_
     refine gt_skipL rfl (.no rfl rfl rfl) rfl ?_
     refine gt_skipL rfl (.no rfl rfl rfl) rfl ?_
     refine gt_skipL rfl (.no rfl rfl rfl) rfl ?_
     refine gt_skipS rfl (.un rfl rfl) rfl ?_
     refine gt_skipS rfl (.un rfl rfl) rfl ?_
     refine gt_skipS rfl (.un rfl rfl) rfl ?_
     refine gt_skipS rfl (.no rfl rfl rfl) rfl ?_
     refine gt_vs rfl .none rfl (o_pickT rfl rfl rfl) (tO) ?_
     first | exact jk52 _ (KeepS.top (by repeat (first | exact KeepS.refl _ | refine KeepS.push ?_ rfl)) (jval (by first | rfl | (simp only [hc1, hc2, hc7, r1, Bool.not_true, Bool.not_false, Bool.false_and, Bool.true_and, Bool.true_or, Bool.false_or]; done) | (simp [hc1, hc2, hc7, r1]; done) | simp_all))) | exact gt_imp (tO) (jk52 _ (KeepS.top (by repeat (first | exact KeepS.refl _ | refine KeepS.push ?_ rfl)) (jval (by first | rfl | (simp only [hc1, hc2, hc7, r1, Bool.not_true, Bool.not_false, Bool.false_and, Bool.true_and, Bool.true_or, Bool.false_or]; done) | (simp [hc1, hc2, hc7, r1]; done) | simp_all))))
    ·
     have hc7' := hc7
     replace hc7' := hs_ hc7'
     first | refine gt_v rfl (.yes rfl rfl hc7) rfl (o_fldS rfl) ?_ | refine gt_v rfl (.yes rfl rfl hc7) rfl (o_fld rfl) ?_
     first | refine gt_v rfl (.yes rfl rfl hc7) rfl (o_load rfl rfl) ?_ | refine gt_v rfl (.yes rfl rfl hc7) rfl (o_loadS rfl rfl) ?_ | refine gt_v rfl (.yes rfl rfl hc7) rfl (o_loadC rfl) ?_
     refine gt_v rfl (.yes rfl rfl hc7) rfl (o_gtr rfl rfl) ?_
     refine gt_v rfl .none rfl (o_pickF hc7 rfl rfl) ?_
     refine gt_v rfl .none rfl (o_move rfl) ?_
     refine gt_split (j := 23) rfl rfl (fun hc8 => ?_) (fun hc8 => ?_)
     ·
      have hc8' := hc8
      replace hc8' := hs_ hc8'
      refine gt_skipL rfl (.no rfl rfl hc8) rfl ?_
      refine gt_skipL rfl (.no rfl rfl hc8) rfl ?_
      refine gt_skipL rfl (.no rfl rfl hc8) rfl ?_
      refine gt_skipL rfl (.no rfl rfl hc8) rfl ?_
      refine gt_skipS rfl (.un rfl rfl) rfl ?_
      refine gt_skipS rfl (.un rfl rfl) rfl ?_
      refine gt_skipS rfl (.un rfl rfl) rfl ?_
      refine gt_skipS rfl (.no rfl rfl hc8) rfl ?_
      refine gt_vs rfl .none rfl (o_pickT hc8 rfl rfl) (tO) ?_
      first | exact jk52 _ (KeepS.top (by repeat (first | exact KeepS.refl _ | refine KeepS.push ?_ rfl)) (jval (by first | rfl | (simp only [hc1, hc2, hc7, hc8, r1, Bool.not_true, Bool.not_false, Bool.false_and, Bool.true_and, Bool.true_or, Bool.false_or]; done) | (simp [hc1, hc2, hc7, hc8, r1]; done) | simp_all))) | exact gt_imp (tO) (jk52 _ (KeepS.top (by repeat (first | exact KeepS.refl _ | refine KeepS.push ?_ rfl)) (jval (by first | rfl | (simp only [hc1, hc2, hc7, hc8, r1, Bool.not_true, Bool.not_false, Bool.false_and, Bool.true_and, Bool.true_or, Bool.false_or]; done) | (simp [hc1, hc2, hc7, hc8, r1]; done) | simp_all))))
     ·
      have hc8' := hc8
      replace hc8' := hs_ hc8'
      first | refine gt_v rfl (.yes rfl rfl hc8) rfl (o_fldS rfl) ?_ | refine gt_v rfl (.yes rfl rfl hc8) rfl (o_fld rfl) ?_
      first | refine gt_v rfl (.yes rfl rfl hc8) rfl (o_load rfl rfl) ?_ | refine gt_v rfl (.yes rfl rfl hc8) rfl (o_loadS rfl rfl) ?_ | refine gt_v rfl (.yes rfl rfl hc8) rfl (o_loadC rfl) ?_
      refine gt_v rfl (.yes rfl rfl hc8) rfl (o_not rfl) ?_
      refine gt_v rfl (.yes rfl rfl hc8) rfl (o_move rfl) ?_
      refine gt_split (j := 27) rfl rfl (fun hc9 => ?_) (fun hc9 => ?_)
      ·
       have hc9' := hc9
       replace hc9' := hs_ hc9'
       first | refine gt_vs rfl (.yes rfl rfl hc9) rfl (o_fldS rfl) (tO) ?_ | refine gt_vs rfl (.yes rfl rfl hc9) rfl (o_fld rfl) (tO) ?_
       first | refine gt_vs rfl (.yes rfl rfl hc9) rfl (o_load rfl rfl) (tO) ?_ | refine gt_vs rfl (.yes rfl rfl hc9) rfl (o_loadS rfl rfl) (tO) ?_ | refine gt_vs rfl (.yes rfl rfl hc9) rfl (o_loadC rfl) (tO) ?_
       refine gt_vs rfl (.yes rfl rfl hc9) rfl (o_neq rfl rfl) (tO) ?_
       refine gt_vs rfl (.yes rfl rfl hc8) rfl (o_pickT hc9 rfl rfl) (tO) ?_
       refine gt_vs rfl .none rfl (o_pickF hc8 rfl rfl) (tO) ?_
       first | exact jk52 _ (KeepS.top (by repeat (first | exact KeepS.refl _ | refine KeepS.push ?_ rfl)) (jval (by first | rfl | (simp only [hc1, hc2, hc7, hc8, hc9, r1, Bool.not_true, Bool.not_false, Bool.false_and, Bool.true_and, Bool.true_or, Bool.false_or]; done) | (simp [hc1, hc2, hc7, hc8, hc9, r1]; done) | simp_all))) | exact gt_imp (tO) (jk52 _ (KeepS.top (by repeat (first | exact KeepS.refl _ | refine KeepS.push ?_ rfl)) (jval (by first | rfl | (simp only [hc1, hc2, hc7, hc8, hc9, r1, Bool.not_true, Bool.not_false, Bool.false_and, Bool.true_and, Bool.true_or, Bool.false_or]; done) | (simp [hc1, hc2, hc7, hc8, hc9, r1]; done) | simp_all))))
      ·
       have hc9' := hc9
       replace hc9' := hs_ hc9'
       refine gt_skipS rfl (.no rfl rfl hc9) rfl ?_
       refine gt_skipS rfl (.no rfl rfl hc9) rfl ?_
       refine gt_skipS rfl (.no rfl rfl hc9) rfl ?_
       refine gt_vs rfl (.yes rfl rfl hc8) rfl (o_pickF hc9 rfl rfl) (tO) ?_
       refine gt_vs rfl .none rfl (o_pickF hc8 rfl rfl) (tO) ?_
       first | exact jk52 _ (KeepS.top (by repeat (first | exact KeepS.refl _ | refine KeepS.push ?_ rfl)) (jval (by first | rfl | (simp only [hc1, hc2, hc7, hc8, hc9, r1, Bool.not_true, Bool.not_false, Bool.false_and, Bool.true_and, Bool.true_or, Bool.false_or]; done) | (simp [hc1, hc2, hc7, hc8, hc9, r1]; done) | simp_all))) | exact gt_imp (tO) (jk52 _ (KeepS.top (by repeat (first | exact KeepS.refl _ | refine KeepS.push ?_ rfl)) (jval (by first | rfl | (simp only [hc1, hc2, hc7, hc8, hc9, r1, Bool.not_true, Bool.not_false, Bool.false_and, Bool.true_and, Bool.true_or, Bool.false_or]; done) | (simp [hc1, hc2, hc7, hc8, hc9, r1]; done) | simp_all))))
 refine gt_keep (Keep.cons (t := 66) rfl (Keep.cons (t := 65) rfl (Keep.cons (t := 58) rfl (Keep.cons (t := 57) rfl (Keep.cons (t := 52) rfl (Keep.cons (t := 19) rfl (Keep.cons (t := 18) rfl (Keep.cons (t := 17) rfl (Keep.cons (t := 16) rfl (Keep.cons (t := 15) rfl (Keep.cons (t := 14) rfl (Keep.cons (t := 13) rfl (Keep.cons (t := 12) rfl (Keep.cons (t := 10) rfl (Keep.cons (t := 9) rfl (Keep.cons (t := 8) rfl (Keep.cons (t := 6) rfl (Keep.cons (t := 5) rfl (Keep.cons (t := 4) rfl (Keep.cons (t := 3) rfl (Keep.cons (t := 2) rfl (Keep.cons (t := 1) rfl (Keep.cons (t := 0) rfl (Keep.nil)))))))))))))))))))))))) ?_
 refine gt_vs rfl .none rfl (o_build rfl rfl) (tO) ?_
 refine gt_c rfl .none rfl (o_call rfl (ConT_Row s.rows i (by omega) s.ra s.rc 95 [ptr b9 0] [A, cel b9 83 (rowC r)] (fun o => sameR o r) (by omega) (rd_head fun h a => (((hA h a).kinds k hk).states s hs).rd.1) (fun d _ => row2_spec A b9 d r)) pA) ?_
 rintro _ R ⟨_, ⟨rfl, rfl⟩, rfl⟩
 try simp only [List.cons_append, List.nil_append]
 refine ⟨(fun _ => (tO)), ?_⟩
 refine gt_v rfl .none rfl (o_build rfl rfl) ?_
 refine gt_v rfl .none rfl (o_move rfl) ?_
 refine gt_join (d := 72) (.loc 53 (.eff 54 (.eff 55 (.loc 56 .nil) .nil) .nil)) (.bool (r4 r)) ?_ (fun jk72 => ?_)
 rotate_left
 ·
  refine gt_split (j := 47) rfl rfl (fun hc10 => ?_) (fun hc10 => ?_)
  ·
   have hc10' := hc10
   replace hc10' := hs_ hc10'
   first | refine gt_v rfl (.yes rfl rfl hc10) rfl (o_fldS rfl) ?_ | refine gt_v rfl (.yes rfl rfl hc10) rfl (o_fld rfl) ?_
   first | refine gt_v rfl (.yes rfl rfl hc10) rfl (o_load rfl rfl) ?_ | refine gt_v rfl (.yes rfl rfl hc10) rfl (o_loadS rfl rfl) ?_ | refine gt_v rfl (.yes rfl rfl hc10) rfl (o_loadC rfl) ?_
   first | refine gt_v rfl (.yes rfl rfl hc10) rfl (o_len rfl) ?_ | refine gt_v rfl (.yes rfl rfl hc10) rfl (o_lenL rfl) ?_
   refine gt_v rfl (.yes rfl rfl hc10) rfl (o_gtr rfl rfl) ?_
   refine gt_v rfl .none rfl (o_pickT hc10 rfl rfl) ?_
   first | exact jk72 _ (KeepS.top (by repeat (first | exact KeepS.refl _ | refine KeepS.push ?_ rfl)) (jval (by first | rfl | (simp only [hc10, r4, Bool.not_true, Bool.not_false, Bool.false_and, Bool.true_and, Bool.true_or, Bool.false_or]; done) | (simp [hc10, r4]; done) | simp_all))) | exact gt_imp (tO) (jk72 _ (KeepS.top (by repeat (first | exact KeepS.refl _ | refine KeepS.push ?_ rfl)) (jval (by first | rfl | (simp only [hc10, r4, Bool.not_true, Bool.not_false, Bool.false_and, Bool.true_and, Bool.true_or, Bool.false_or]; done) | (simp [hc10, r4]; done) | simp_all))))
  ·
   have hc10' := hc10
   replace hc10' := hs_ hc10'
   refine gt_skipL rfl (.no rfl rfl hc10) rfl ?_
   refine gt_skipL rfl (.no rfl rfl hc10) rfl ?_
   refine gt_skipL rfl (.no rfl rfl hc10) rfl ?_
   refine gt_skipL rfl (.no rfl rfl hc10) rfl ?_
   refine gt_v rfl .none rfl (o_pickF hc10 rfl rfl) ?_
   first | exact jk72 _ (KeepS.top (by repeat (first | exact KeepS.refl _ | refine KeepS.push ?_ rfl)) (jval (by first | rfl | (simp only [hc10, r4, Bool.not_true, Bool.not_false, Bool.false_and, Bool.true_and, Bool.true_or, Bool.false_or]; done) | (simp [hc10, r4]; done) | simp_all))) | exact gt_imp (tO) (jk72 _ (KeepS.top (by repeat (first | exact KeepS.refl _ | refine KeepS.push ?_ rfl)) (jval (by first | rfl | (simp only [hc10, r4, Bool.not_true, Bool.not_false, Bool.false_and, Bool.true_and, Bool.true_or, Bool.false_or]; done) | (simp [hc10, r4]; done) | simp_all))))
 refine gt_keep (Keep.cons (t := 72) rfl (Keep.cons (t := 65) rfl (Keep.cons (t := 60) rfl (Keep.cons (t := 53) rfl (Keep.cons (t := 19) rfl (Keep.cons (t := 18) rfl (Keep.cons (t := 17) rfl (Keep.cons (t := 16) rfl (Keep.cons (t := 15) rfl (Keep.cons (t := 14) rfl (Keep.cons (t := 13) rfl (Keep.cons (t := 12) rfl (Keep.cons (t := 10) rfl (Keep.cons (t := 9) rfl (Keep.cons (t := 8) rfl (Keep.cons (t := 6) rfl (Keep.cons (t := 5) rfl (Keep.cons (t := 4) rfl (Keep.cons (t := 3) rfl (Keep.cons (t := 2) rfl (Keep.cons (t := 1) rfl (Keep.cons (t := 0) rfl (Keep.nil))))))))))))))))))))))) ?_
 refine gt_v rfl .none rfl (o_build rfl rfl) ?_
 refine gt_n rfl .none rfl (o_buildS (cs := [(r1 r, 43), ((s.rows.take i).any (fun o => sameR o r), 41), (decide (8 < (r.effs.length : Int)), 40), (r4 r, 45)].flatMap ruC) rfl rfl rfl rfl) ?_
 rintro _ _ ⟨b74, rfl, rfl⟩
 refine ⟨(fun hG => absurd hG (by decide)), ?_⟩
 refine gt_c rfl .none rfl (o_call rfl (first_spec [(r1 r, 43), ((s.rows.take i).any (fun o => sameR o r), 41), (decide (8 < (r.effs.length : Int)), 40), (r4 r, 45)] b74 (by simp)) pA) ?_
 rintro _ R ⟨_, ⟨rfl, rfl⟩, rfl⟩
 try simp only [List.cons_append, List.nil_append]
 refine ⟨(fun hG => absurd hG (by decide)), ?_⟩
 refine gt_v rfl .none rfl (o_assign rfl) ?_
 refine gt_nil ?_
 refine ge_then ?_
 refine g_seq ?_
 rcases hR : rowF KK k.states s.rows i with _ | ⟨c, ws⟩
 ·
  refine g_region ?_
  refine gl_v rfl (o_move rfl) ?_
  first | refine gl_v rfl (o_fldS rfl) ?_ | refine gl_v rfl (o_fld rfl) ?_
  first | refine gl_v rfl (o_load rfl rfl) ?_ | refine gl_v rfl (o_loadS rfl rfl) ?_ | refine gl_v rfl (o_loadC rfl) ?_
  first | refine gl_v rfl (o_len rfl) ?_ | refine gl_v rfl (o_lenL rfl) ?_
  refine gl_v rfl (o_func rfl rfl) ?_
  refine gl_c rfl (o_call rfl (hp_none (within_spec (rowE s.rows i r) r.effs.length (by omega) 96 [ptr b4 0, ptr b5 0, ptr b9 0] [cel b4 24 [.slice pa KK.length pc], cel b5 57 (kndC k), cel b9 83 (rowC r), A] (effF KK k.states r.effs) (fun i c ws h => by have := effF_len i c ws h; omega) (fun j hj => row3_spec pa pc KK A hA hb k hk s hs r hr b4 b5 b9 j hj)) (hF ▸ hR)) pA) ?_
  rintro _ R ⟨_, ⟨rfl, rfl⟩, rfl⟩
  try simp only [List.cons_append, List.nil_append]
  refine gl_v rfl (o_assign rfl) ?_
  refine gl_nil ?_
  refine ge_then ?_
  refine g_ret ?_
  refine ret1 (.inl rfl) rfl rfl _ (⟨rfl, rfl⟩) (tO)
 ·
  refine g_region ?_
  refine gl_v rfl (o_move rfl) ?_
  first | refine gl_v rfl (o_fldS rfl) ?_ | refine gl_v rfl (o_fld rfl) ?_
  first | refine gl_v rfl (o_load rfl rfl) ?_ | refine gl_v rfl (o_loadS rfl rfl) ?_ | refine gl_v rfl (o_loadC rfl) ?_
  first | refine gl_v rfl (o_len rfl) ?_ | refine gl_v rfl (o_lenL rfl) ?_
  refine gl_v rfl (o_func rfl rfl) ?_
  refine gl_c rfl (o_call rfl (hp_some (within_spec (rowE s.rows i r) r.effs.length (by omega) 96 [ptr b4 0, ptr b5 0, ptr b9 0] [cel b4 24 [.slice pa KK.length pc], cel b5 57 (kndC k), cel b9 83 (rowC r), A] (effF KK k.states r.effs) (fun i c ws h => by have := effF_len i c ws h; omega) (fun j hj => row3_spec pa pc KK A hA hb k hk s hs r hr b4 b5 b9 j hj)) (hF ▸ hR)) pA) ?_
  rintro _ R ⟨_, ⟨b, a, cp, rfl, rfl⟩, rfl⟩
  try simp only [List.cons_append, List.nil_append]
  refine gl_v rfl (o_assign rfl) ?_
  refine gl_nil ?_
  refine ge_then ?_
  refine g_ret ?_
  refine ret1 (.inl rfl) rfl rfl _ (⟨_, _, _, rfl, rfl⟩) (tO)

set_option maxRecDepth 8000 in
set_option maxHeartbeats 1000000 in
theorem state2b_spec (pa : Option Addr) (pc : Nat) (KK : List Knd) (A : Assn) (hA : ∀ h, A h → PrgOk h pa pc KK) (hb : ∃ h, PrgOk h pa pc KK) (k : Knd) (hk : k ∈ KK) (s : Sta) (hs : s ∈ k.states) (bp bk bs j : Nat) (hj : j < s.rows.length) : FnS Tryz.prog 74 [I64 j, ptr bp 0, ptr bk 0, ptr bs 0] [cel bp 24 ([.slice pa KK.length pc]), cel bk 57 (kndC k), cel bs 79 (staC s), A] (BadP (rowF KK k.states s.rows j) [cel bp 24 ([.slice pa KK.length pc]), cel bk 57 (kndC k), cel bs 79 (staC s), A]) := by
 refine fn_body Tryz.func74 rfl rfl rfl ?_
 intro W0 R
 simp only [List.zipIdx_cons, List.zipIdx_nil, List.map_cons, List.map_nil, Nat.zero_add, Nat.reduceAdd, List.cons_append, List.nil_append]
 refine g_seq ?_
 refine g_region ?_
 refine gl_v rfl (o_assign rfl) ?_
 refine gl_nil ?_
 refine ge_then ?_
 refine g_seq ?_
 rcases hR : rowF KK k.states s.rows j with _ | ⟨c, ws⟩
 ·
  refine g_region ?_
  first | refine gl_v rfl (o_loadSA rfl rfl rfl) ?_ | refine gl_v rfl (o_loadA rfl rfl rfl) ?_
  first | refine gl_v rfl (o_loadSA rfl rfl rfl) ?_ | refine gl_v rfl (o_loadA rfl rfl rfl) ?_
  first | refine gl_v rfl (o_loadSA rfl rfl rfl) ?_ | refine gl_v rfl (o_loadA rfl rfl rfl) ?_
  refine gl_v rfl (o_move rfl) ?_
  refine gl_c rfl (o_call rfl (hp_none (row_spec pa pc KK A hA hb k hk s hs j hj) hR) pA) ?_
  rintro _ R ⟨_, ⟨rfl, rfl⟩, rfl⟩
  try simp only [List.cons_append, List.nil_append]
  refine gl_v rfl (o_assign rfl) ?_
  refine gl_nil ?_
  refine ge_then ?_
  refine g_ret ?_
  refine ret1 (.inl rfl) rfl rfl _ (⟨rfl, rfl⟩) (tO)
 ·
  refine g_region ?_
  first | refine gl_v rfl (o_loadSA rfl rfl rfl) ?_ | refine gl_v rfl (o_loadA rfl rfl rfl) ?_
  first | refine gl_v rfl (o_loadSA rfl rfl rfl) ?_ | refine gl_v rfl (o_loadA rfl rfl rfl) ?_
  first | refine gl_v rfl (o_loadSA rfl rfl rfl) ?_ | refine gl_v rfl (o_loadA rfl rfl rfl) ?_
  refine gl_v rfl (o_move rfl) ?_
  refine gl_c rfl (o_call rfl (hp_some (row_spec pa pc KK A hA hb k hk s hs j hj) hR) pA) ?_
  rintro _ R ⟨_, ⟨b, a, cp, rfl, rfl⟩, rfl⟩
  try simp only [List.cons_append, List.nil_append]
  refine gl_v rfl (o_assign rfl) ?_
  refine gl_nil ?_
  refine ge_then ?_
  refine g_ret ?_
  refine ret1 (.inl rfl) rfl rfl _ (⟨_, _, _, rfl, rfl⟩) (tO)

set_option maxRecDepth 8000 in
set_option maxHeartbeats 4000000 in
theorem state_spec (pa : Option Addr) (pc : Nat) (KK : List Knd) (A : Assn) (hA : ∀ h, A h → PrgOk h pa pc KK) (hb : ∃ h, PrgOk h pa pc KK) (k : Knd) (hk : k ∈ KK) (i : Nat) (hi : i < k.states.length) : FnS Tryz.prog 44 [.agg #[.slice pa KK.length pc], .agg (kndC k).toArray, I64 i] [A] (BadP (staF KK k.states i) [A]) := by
 refine fn_body Tryz.func44 rfl rfl rfl ?_
 intro W0 R
 simp only [List.zipIdx_cons, List.zipIdx_nil, List.map_cons, List.map_nil, Nat.zero_add, Nat.reduceAdd, List.cons_append, List.nil_append]
 obtain ⟨h0, hb0⟩ := id hb
 have hKn := hb0.len; have hKc := hb0.rd.2
 haveI rK : RdA (.slice pa KK.length pc) A KK.length (KK.flatMap kndC) := ⟨fun h => (hA _ h).rd.1⟩
 have hkO := hb0.kinds k hk
 have hsc := hkO.rds.2; have hcc := hkO.rdc.2
 have hSn := hkO.lens; have hCn := hkO.lenc; have hkn := hkO.name
 haveI rS : RdA (.slice k.sa k.states.length k.sc) A k.states.length (k.states.flatMap staC) := ⟨fun h => ((hA _ h).kinds k hk).rds.1⟩
 haveI rC : RdA (.slice k.ca k.cases.length k.cc) A k.cases.length (k.cases.flatMap casC) := ⟨fun h => ((hA _ h).kinds k hk).rdc.1⟩
 obtain ⟨s, hsi⟩ : ∃ s, k.states[i]? = some s := ⟨_, List.getElem?_eq_getElem hi⟩
 have hs := List.mem_of_getElem? hsi
 have hsO := hkO.states s hs
 have hrc := hsO.rd.2
 have hRn := hsO.len; have hsn := hsO.name
 haveI rR : RdA (.slice s.ra s.rows.length s.rc) A s.rows.length (s.rows.flatMap rowC) := ⟨fun h => (((hA _ h).kinds k hk).states s hs).rd.1⟩
 have hF := staF_at (KK := KK) hsi
 unfold ok63 at *
 
 refine g_seq ?_
 refine g_region ?_
 refine gl_n rfl (o_boxA rfl) ?_
 rintro _ _ ⟨b3, rfl, rfl⟩
 refine gl_n rfl (o_boxA rfl) ?_
 rintro _ _ ⟨b4, rfl, rfl⟩
 refine gl_v rfl (o_assign rfl) ?_
 refine gl_nil ?_
 refine ge_then ?_
 refine g_seq ?_
 refine g_region ?_
 first | refine gl_v rfl (o_fldS rfl) ?_ | refine gl_v rfl (o_fld rfl) ?_
 first | refine gl_v rfl (o_load rfl rfl) ?_ | refine gl_v rfl (o_loadS rfl rfl) ?_ | refine gl_v rfl (o_loadC rfl) ?_
 refine gl_v rfl (o_move rfl) ?_
 refine gl_v rfl (o_idxS rfl rfl hi) ?_
 refine gl_v rfl (o_loadSA rfl (flat_take staC 2 staC_len hsi) rfl) ?_
 refine gl_n rfl (o_alloc) ?_
 rintro _ _ ⟨b7, rfl, rfl⟩
 first | refine gl_u (o_storeSA rfl rfl rfl rfl (by simp; omega) (by simp)) ?_ | refine gl_u (o_storeA rfl rfl rfl rfl rfl) ?_
 refine gl_nil ?_
 refine ge_then ?_
 refine g_seq ?_
 refine g_draw [2, 10, 17, 18] [2, 10] [(0, .loc), (1, .loc), (5, .stab), (6, .stab), (7, .stab), (8, .stab), (9, .stab), (12, .stab), (13, .stab), (14, .stab), (15, .stab), (16, .stab), (2, .eff), (3, .stab), (4, .stab), (10, .eff), (11, .loc), (17, .eff), (18, .eff), (19, .loc)] [cel b4 57 (kndC k), cel b7 79 (staC s)] mixed (by kernel_rfl) ?_
 first | refine go_v rfl .none rfl (o_fldS rfl) ?_ | refine go_v rfl .none rfl (o_fld rfl) ?_
 first | refine go_v rfl .none rfl (o_load rfl rfl) ?_ | refine go_v rfl .none rfl (o_loadS rfl rfl) ?_ | refine go_v rfl .none rfl (o_loadC rfl) ?_
 first | refine go_vs rfl .none rfl (o_fldS rfl) (tO) ?_ | refine go_vs rfl .none rfl (o_fld rfl) (tO) ?_
 first | refine go_vs rfl .none rfl (o_load rfl rfl) (tO) ?_ | refine go_vs rfl .none rfl (o_loadS rfl rfl) (tO) ?_ | refine go_vs rfl .none rfl (o_loadC rfl) (tO) ?_
 refine go_vs rfl .none rfl (o_move rfl) (tO) ?_
 refine go_vs rfl .none rfl (o_slTo rfl rfl (show i ≤ k.sc by omega)) (tO) ?_
 refine go_vs rfl .none rfl (o_func rfl rfl) (tO) ?_
 first | refine go_vs rfl .none rfl (o_fldS rfl) (tO) ?_ | refine go_vs rfl .none rfl (o_fld rfl) (tO) ?_
 first | refine go_vs rfl .none rfl (o_load rfl rfl) (tO) ?_ | refine go_vs rfl .none rfl (o_loadS rfl rfl) (tO) ?_ | refine go_vs rfl .none rfl (o_loadC rfl) (tO) ?_
 first | refine go_vs rfl .none rfl (o_len rfl) (tO) ?_ | refine go_vs rfl .none rfl (o_lenL rfl) (tO) ?_
 refine go_vs rfl .none rfl (o_gtr rfl rfl) (tO) ?_
 refine go_vs rfl .none rfl (o_build rfl rfl) (tO) ?_
 refine go_c rfl .none rfl (o_call rfl (Name_spec (s.name) (by omega)) pA) ?_
 rintro _ R ⟨_, ⟨rfl, rfl⟩, rfl⟩
 try simp only [List.cons_append, List.nil_append]
 refine ⟨(fun _ => (tO)), ?_⟩
 refine go_vs rfl .none rfl (o_not rfl) (tO) ?_
 refine go_vs rfl .none rfl (o_build rfl rfl) (tO) ?_
 refine go_c rfl .none rfl (o_call rfl (ConT_Sta k.states i (by omega) k.sa k.sc 73 [ptr b7 0] [A, cel b7 79 (staC s)] (fun d => decide (d.name = s.name)) (by omega) (rd_head fun h a => ((hA h a).kinds k hk).rds.1) (fun d _ => state1_spec A b7 d s)) pA) ?_
 rintro _ R ⟨_, ⟨rfl, rfl⟩, rfl⟩
 try simp only [List.cons_append, List.nil_append]
 refine ⟨(fun _ => (tO)), ?_⟩
 refine go_v rfl .none rfl (o_build rfl rfl) ?_
 refine go_n rfl .none rfl (o_buildS (cs := [(!isName s.name, 43), (hasS (k.states.take i) s.name, 41), (decide (16 < (s.rows.length : Int)), 40)].flatMap ruC) rfl rfl rfl rfl) ?_
 rintro _ _ ⟨b31, rfl, rfl⟩
 refine ⟨(fun hG => absurd hG (by decide)), ?_⟩
 refine go_c rfl .none rfl (o_call rfl (first_spec [(!isName s.name, 43), (hasS (k.states.take i) s.name, 41), (decide (16 < (s.rows.length : Int)), 40)] b31 (by simp)) pA) ?_
 rintro _ R ⟨_, ⟨rfl, rfl⟩, rfl⟩
 try simp only [List.cons_append, List.nil_append]
 refine ⟨(fun hG => absurd hG (by decide)), ?_⟩
 refine go_v rfl .none rfl (o_assign rfl) ?_
 refine go_nil ?_
 refine ge_then ?_
 refine g_seq ?_
 rcases hR : staF KK k.states i with _ | ⟨c, ws⟩
 ·
  refine g_region ?_
  refine gl_v rfl (o_move rfl) ?_
  first | refine gl_v rfl (o_fldS rfl) ?_ | refine gl_v rfl (o_fld rfl) ?_
  first | refine gl_v rfl (o_load rfl rfl) ?_ | refine gl_v rfl (o_loadS rfl rfl) ?_ | refine gl_v rfl (o_loadC rfl) ?_
  first | refine gl_v rfl (o_len rfl) ?_ | refine gl_v rfl (o_lenL rfl) ?_
  refine gl_v rfl (o_func rfl rfl) ?_
  refine gl_c rfl (o_call rfl (hp_none (within_spec (staE k.states i s) s.rows.length (by omega) 74 [ptr b3 0, ptr b4 0, ptr b7 0] [cel b3 24 [.slice pa KK.length pc], cel b4 57 (kndC k), cel b7 79 (staC s), A] (rowF KK k.states s.rows) (fun i c ws h => by have := rowF_len i c ws h; omega) (fun j hj => state2b_spec pa pc KK A hA hb k hk s hs b3 b4 b7 j hj)) (hF ▸ hR)) pA) ?_
  rintro _ R ⟨_, ⟨rfl, rfl⟩, rfl⟩
  try simp only [List.cons_append, List.nil_append]
  refine gl_v rfl (o_assign rfl) ?_
  refine gl_nil ?_
  refine ge_then ?_
  refine g_ret ?_
  refine ret1 (.inl rfl) rfl rfl _ (⟨rfl, rfl⟩) (tO)
 ·
  refine g_region ?_
  refine gl_v rfl (o_move rfl) ?_
  first | refine gl_v rfl (o_fldS rfl) ?_ | refine gl_v rfl (o_fld rfl) ?_
  first | refine gl_v rfl (o_load rfl rfl) ?_ | refine gl_v rfl (o_loadS rfl rfl) ?_ | refine gl_v rfl (o_loadC rfl) ?_
  first | refine gl_v rfl (o_len rfl) ?_ | refine gl_v rfl (o_lenL rfl) ?_
  refine gl_v rfl (o_func rfl rfl) ?_
  refine gl_c rfl (o_call rfl (hp_some (within_spec (staE k.states i s) s.rows.length (by omega) 74 [ptr b3 0, ptr b4 0, ptr b7 0] [cel b3 24 [.slice pa KK.length pc], cel b4 57 (kndC k), cel b7 79 (staC s), A] (rowF KK k.states s.rows) (fun i c ws h => by have := rowF_len i c ws h; omega) (fun j hj => state2b_spec pa pc KK A hA hb k hk s hs b3 b4 b7 j hj)) (hF ▸ hR)) pA) ?_
  rintro _ R ⟨_, ⟨b, a, cp, rfl, rfl⟩, rfl⟩
  try simp only [List.cons_append, List.nil_append]
  refine gl_v rfl (o_assign rfl) ?_
  refine gl_nil ?_
  refine ge_then ?_
  refine g_ret ?_
  refine ret1 (.inl rfl) rfl rfl _ (⟨_, _, _, rfl, rfl⟩) (tO)

set_option maxRecDepth 8000 in
set_option maxHeartbeats 1000000 in
theorem kind4_spec (pa : Option Addr) (pc : Nat) (KK : List Knd) (A : Assn) (hA : ∀ h, A h → PrgOk h pa pc KK) (hb : ∃ h, PrgOk h pa pc KK) (k : Knd) (hk : k ∈ KK) (bp bk j : Nat) (hj : j < k.states.length) : FnS Tryz.prog 43 [I64 j, ptr bp 0, ptr bk 0] [cel bp 24 ([.slice pa KK.length pc]), cel bk 57 (kndC k), A] (BadP (staF KK k.states j) [cel bp 24 ([.slice pa KK.length pc]), cel bk 57 (kndC k), A]) := by
 refine fn_body Tryz.func43 rfl rfl rfl ?_
 intro W0 R
 simp only [List.zipIdx_cons, List.zipIdx_nil, List.map_cons, List.map_nil, Nat.zero_add, Nat.reduceAdd, List.cons_append, List.nil_append]
 refine g_seq ?_
 refine g_region ?_
 refine gl_v rfl (o_assign rfl) ?_
 refine gl_nil ?_
 refine ge_then ?_
 refine g_seq ?_
 rcases hR : staF KK k.states j with _ | ⟨c, ws⟩
 ·
  refine g_region ?_
  first | refine gl_v rfl (o_loadSA rfl rfl rfl) ?_ | refine gl_v rfl (o_loadA rfl rfl rfl) ?_
  first | refine gl_v rfl (o_loadSA rfl rfl rfl) ?_ | refine gl_v rfl (o_loadA rfl rfl rfl) ?_
  refine gl_v rfl (o_move rfl) ?_
  refine gl_c rfl (o_call rfl (hp_none (state_spec pa pc KK A hA hb k hk j hj) hR) pA) ?_
  rintro _ R ⟨_, ⟨rfl, rfl⟩, rfl⟩
  try simp only [List.cons_append, List.nil_append]
  refine gl_v rfl (o_assign rfl) ?_
  refine gl_nil ?_
  refine ge_then ?_
  refine g_ret ?_
  refine ret1 (.inl rfl) rfl rfl _ (⟨rfl, rfl⟩) (tO)
 ·
  refine g_region ?_
  first | refine gl_v rfl (o_loadSA rfl rfl rfl) ?_ | refine gl_v rfl (o_loadA rfl rfl rfl) ?_
  first | refine gl_v rfl (o_loadSA rfl rfl rfl) ?_ | refine gl_v rfl (o_loadA rfl rfl rfl) ?_
  refine gl_v rfl (o_move rfl) ?_
  refine gl_c rfl (o_call rfl (hp_some (state_spec pa pc KK A hA hb k hk j hj) hR) pA) ?_
  rintro _ R ⟨_, ⟨b, a, cp, rfl, rfl⟩, rfl⟩
  try simp only [List.cons_append, List.nil_append]
  refine gl_v rfl (o_assign rfl) ?_
  refine gl_nil ?_
  refine ge_then ?_
  refine g_ret ?_
  refine ret1 (.inl rfl) rfl rfl _ (⟨_, _, _, rfl, rfl⟩) (tO)

set_option maxRecDepth 8000 in
set_option maxHeartbeats 4000000 in
theorem kind_spec (pa : Option Addr) (pc : Nat) (KK : List Knd) (A : Assn) (hA : ∀ h, A h → PrgOk h pa pc KK) (hb : ∃ h, PrgOk h pa pc KK) (i : Nat) (hi : i < KK.length) : FnS Tryz.prog 16 [.agg #[.slice pa KK.length pc], I64 i] [A] (BadP (kndF KK i) [A]) := by
 refine fn_body Tryz.func16 rfl rfl rfl ?_
 intro W0 R
 simp only [List.zipIdx_cons, List.zipIdx_nil, List.map_cons, List.map_nil, Nat.zero_add, Nat.reduceAdd, List.cons_append, List.nil_append]
 obtain ⟨h0, hb0⟩ := id hb
 have hKn := hb0.len; have hKc := hb0.rd.2
 haveI rK : RdA (.slice pa KK.length pc) A KK.length (KK.flatMap kndC) := ⟨fun h => (hA _ h).rd.1⟩
 obtain ⟨k, hki⟩ : ∃ k, KK[i]? = some k := ⟨_, List.getElem?_eq_getElem hi⟩
 have hk := List.mem_of_getElem? hki
 have hkO := hb0.kinds k hk
 have hsc := hkO.rds.2; have hcc := hkO.rdc.2
 have hSn := hkO.lens; have hCn := hkO.lenc; have hkn := hkO.name
 haveI rS : RdA (.slice k.sa k.states.length k.sc) A k.states.length (k.states.flatMap staC) := ⟨fun h => ((hA _ h).kinds k hk).rds.1⟩
 haveI rC : RdA (.slice k.ca k.cases.length k.cc) A k.cases.length (k.cases.flatMap casC) := ⟨fun h => ((hA _ h).kinds k hk).rdc.1⟩
 have hF := kndF_at hki
 unfold ok63 at *
 
 refine g_seq ?_
 refine g_region ?_
 refine gl_n rfl (o_boxA rfl) ?_
 rintro _ _ ⟨b2, rfl, rfl⟩
 refine gl_v rfl (o_assign rfl) ?_
 refine gl_nil ?_
 refine ge_then ?_
 refine g_seq ?_
 refine g_region ?_
 first | refine gl_v rfl (o_fldS rfl) ?_ | refine gl_v rfl (o_fld rfl) ?_
 first | refine gl_v rfl (o_load rfl rfl) ?_ | refine gl_v rfl (o_loadS rfl rfl) ?_ | refine gl_v rfl (o_loadC rfl) ?_
 refine gl_v rfl (o_move rfl) ?_
 refine gl_v rfl (o_idxS rfl rfl hi) ?_
 refine gl_v rfl (o_loadSA rfl (flat_take kndC 5 kndC_len hki) rfl) ?_
 refine gl_n rfl (o_alloc) ?_
 rintro _ _ ⟨b5, rfl, rfl⟩
 first | refine gl_u (o_storeSA rfl rfl rfl rfl (by simp; omega) (by simp)) ?_ | refine gl_u (o_storeA rfl rfl rfl rfl rfl) ?_
 refine gl_nil ?_
 refine ge_then ?_
 refine g_seq ?_
 refine g_region ?_
 first | refine gl_v rfl (o_fldS rfl) ?_ | refine gl_v rfl (o_fld rfl) ?_
 first | refine gl_v rfl (o_load rfl rfl) ?_ | refine gl_v rfl (o_loadS rfl rfl) ?_ | refine gl_v rfl (o_loadC rfl) ?_
 refine gl_c rfl (o_call rfl (ConF_Cas k.cases k.ca k.cc 37 [] [A] casB (by omega) (rd_head fun h a => ((hA h a).kinds k hk).rdc.1) (fun d hd => kind1_spec A d (hkO.cases d hd))) pA) ?_
 rintro _ R ⟨_, ⟨rfl, rfl⟩, rfl⟩
 try simp only [List.cons_append, List.nil_append]
 refine gl_v rfl (o_assign rfl) ?_
 refine gl_nil ?_
 refine ge_then ?_
 refine g_seq ?_
 refine g_region ?_
 refine gl_v rfl (o_assign rfl) ?_
 refine gl_nil ?_
 refine ge_then ?_
 refine g_seq ?_
 refine g_seq ?_
 refine g_region ?_
 first | refine gl_v rfl (o_fldS rfl) ?_ | refine gl_v rfl (o_fld rfl) ?_
 first | refine gl_v rfl (o_load rfl rfl) ?_ | refine gl_v rfl (o_loadS rfl rfl) ?_ | refine gl_v rfl (o_loadC rfl) ?_
 first | refine gl_v rfl (o_len rfl) ?_ | refine gl_v rfl (o_lenL rfl) ?_
 refine gl_v rfl (o_move rfl) ?_
 refine gl_nil ?_
 refine ge_then ?_
 refine g_block ?_
 refine g_loop (ι := Nat) (fun x => x ≤ k.cases.length) (fun x => [(22, I64 x), (21, I64 k.cases.length), (20, .slice k.ca k.cases.length k.cc), (7, .bool (twc k.cases x)), (6, .bool (k.cases.any casB)), (5, ptr b5 0), (2, ptr b2 0), (1, I64 i)]) (fun _ => cel b5 57 (kndC k) :: cel b2 24 [.slice pa KK.length pc] :: A :: R) (fun x => k.cases.length - x) 0 (Nat.zero_le _) (Keep.cons rfl (Keep.cons rfl (Keep.cons rfl (Keep.cons rfl (Keep.cons rfl (Keep.cons rfl (Keep.cons rfl (Keep.cons rfl (Keep.nil))))))))) (tO) ?_
 rintro x hx
 replace hx : x ≤ k.cases.length := hx
 refine g_seq ?_
 refine g_region ?_
 refine gl_v rfl (o_lss rfl rfl) ?_
 refine gl_nil ?_
 refine ge_then ?_
 refine g_seq ?_
 refine g_cond rfl (fun hc1 => ?_) (fun hc1 => ?_)
 ·
  replace hc1 := hs_ hc1
  obtain ⟨c, hc⟩ : ∃ c, k.cases[x]? = some c := ⟨_, List.getElem?_eq_getElem (show x < k.cases.length by omega)⟩
  refine g_skip ?_
  refine ge_then ?_
  refine g_seq ?_
  refine g_block ?_
  refine g_seq ?_
  refine g_region ?_
  refine gl_v rfl (o_move rfl) ?_
  refine gl_v rfl (o_idxS rfl rfl (show x < k.cases.length by omega)) ?_
  refine gl_v rfl (o_loadSA rfl (flat_take casC 2 casC_len hc) rfl) ?_
  refine gl_n rfl (o_alloc) ?_
  rintro _ _ ⟨b9, rfl, rfl⟩
  refine gl_v rfl (o_assign rfl) ?_
  first | refine gl_u (o_storeSA rfl rfl rfl rfl (by simp; omega) (by simp)) ?_ | refine gl_u (o_storeA rfl rfl rfl rfl rfl) ?_
  refine gl_nil ?_
  refine ge_then ?_
  refine g_region ?_
  refine gl_v rfl (o_move rfl) ?_
  refine gl_v rfl (o_move rfl) ?_
  refine gl_join (d := 35) 7 (.bool (twc k.cases (x + 1))) ?_ (fun jk35 => ?_)
  rotate_left
  ·
   refine gl_g rfl rfl (fun hc2 => ?_) (fun hc2 => ?_) rfl
   ·
    have hc2' := hc2
    replace hc2' := hs_ hc2'
    first | refine gl_v rfl (o_fldS rfl) ?_ | refine gl_v rfl (o_fld rfl) ?_
    refine gl_gT rfl rfl hc2 ?_
    first | refine gl_v rfl (o_load rfl rfl) ?_ | refine gl_v rfl (o_loadS rfl rfl) ?_ | refine gl_v rfl (o_loadC rfl) ?_
    refine gl_gT rfl rfl hc2 ?_
    refine gl_v rfl (o_move rfl) ?_
    refine gl_gT rfl rfl hc2 ?_
    refine gl_v rfl (o_slTo rfl rfl (show x ≤ k.cc by omega)) ?_
    refine gl_gT rfl rfl hc2 ?_
    refine gl_v rfl (o_func rfl rfl) ?_
    refine gl_gT rfl rfl hc2 ?_
    refine gl_c rfl (o_call rfl (ConT_Cas k.cases x (by omega) k.ca k.cc 39 [ptr b9 0] [A, cel b9 75 (casC c)] (fun d => decide (d.reason = c.reason)) (by omega) (rd_head fun h a => ((hA h a).kinds k hk).rdc.1) (fun d _ => kind2_spec A b9 d c)) pA) ?_
    rintro _ R ⟨_, ⟨rfl, rfl⟩, rfl⟩
    try simp only [List.cons_append, List.nil_append]
    refine gl_v rfl (o_pickF hc2 rfl rfl) ?_
    first | exact jk35 _ (KeepS.top (by repeat (first | exact KeepS.refl _ | refine KeepS.push ?_ rfl)) (jval (by first | rfl | (simp only [hc2, twc_succ hc, Bool.not_true, Bool.not_false, Bool.false_and, Bool.true_and, Bool.true_or, Bool.false_or]; done) | (simp [hc2, twc_succ hc]; done) | simp_all))) | exact gl_imp (tO) (jk35 _ (KeepS.top (by repeat (first | exact KeepS.refl _ | refine KeepS.push ?_ rfl)) (jval (by first | rfl | (simp only [hc2, twc_succ hc, Bool.not_true, Bool.not_false, Bool.false_and, Bool.true_and, Bool.true_or, Bool.false_or]; done) | (simp [hc2, twc_succ hc]; done) | simp_all))))
   ·
    have hc2' := hc2
    replace hc2' := hs_ hc2'
    simp only [putO]
    refine gl_gF rfl rfl hc2 rfl ?_
    refine gl_gF rfl rfl hc2 rfl ?_
    refine gl_gF rfl rfl hc2 rfl ?_
    refine gl_gF rfl rfl hc2 rfl ?_
    refine gl_gF rfl rfl hc2 rfl ?_
    refine gl_v rfl (o_pickT hc2 rfl rfl) ?_
    first | exact jk35 _ (KeepS.top (by repeat (first | exact KeepS.refl _ | refine KeepS.push ?_ rfl)) (jval (by first | rfl | (simp only [hc2, twc_succ hc, Bool.not_true, Bool.not_false, Bool.false_and, Bool.true_and, Bool.true_or, Bool.false_or]; done) | (simp [hc2, twc_succ hc]; done) | simp_all))) | exact gl_imp (tO) (jk35 _ (KeepS.top (by repeat (first | exact KeepS.refl _ | refine KeepS.push ?_ rfl)) (jval (by first | rfl | (simp only [hc2, twc_succ hc, Bool.not_true, Bool.not_false, Bool.false_and, Bool.true_and, Bool.true_or, Bool.false_or]; done) | (simp [hc2, twc_succ hc]; done) | simp_all))))
  refine gl_v rfl (o_assign rfl) ?_
  refine gl_nil ?_
  refine ge_block ?_
  refine ge_then ?_
  refine g_region ?_
  refine gl_v rfl (o_addR (((x + 1 : Nat) : Int)) (by rw [wr_i64 (by omega)]; omega) rfl rfl) ?_
  refine gl_v rfl (o_move rfl) ?_
  refine gl_nil ?_
  refine ge_round (x + 1) (show x + 1 ≤ k.cases.length by omega) (show k.cases.length - (x + 1) < k.cases.length - x by omega) (Keep.cons rfl (Keep.cons rfl (Keep.cons rfl (Keep.cons rfl (Keep.cons rfl (Keep.cons rfl (Keep.cons rfl (Keep.cons rfl (Keep.nil))))))))) (tO)
 ·
  replace hc1 := hs_ hc1
  obtain rfl : x = k.cases.length := by omega
  refine g_exit ?_
  refine ge_then_exit ?_
  refine ge_then_exit ?_
  refine ge_block_exit ?_
  refine ge_then ?_
  refine g_seq ?_
  refine g_treeM [2, 30, 53, 54] [2, 30] (.loc 0 (.loc 1 (.stab 25 (.stab 26 (.stab 27 (.stab 28 (.stab 29 (.stab 32 (.stab 33 (.stab 34 (.stab 35 (.stab 49 (.stab 50 (.stab 51 (.stab 52 (.eff 2 (.loc 3 (.loc 4 (.loc 5 (.loc 6 (.loc 7 (.loc 8 (.loc 9 (.loc 10 (.loc 11 (.loc 12 (.loc 13 (.loc 14 (.loc 15 (.loc 16 (.loc 17 (.loc 18 (.loc 19 (.stab 20 (.stab 21 (.stab 22 (.stab 23 (.stab 24 (.eff 30 (.loc 31 (.loc 36 (.loc 37 (.loc 38 (.loc 39 (.loc 40 (.loc 41 (.loc 42 (.loc 43 (.loc 44 (.loc 45 (.loc 46 (.loc 47 (.loc 48 (.eff 53 (.eff 54 (.loc 55 .nil) .nil) .nil))))))))))))))) .nil))))))))))))))))))))))) .nil)))))))))))))))) [cel b2 24 [.slice pa KK.length pc], cel b5 57 (kndC k)] mixed (by kernel_rfl) ?_
  first | refine gt_v rfl .none rfl (o_fldS rfl) ?_ | refine gt_v rfl .none rfl (o_fld rfl) ?_
  first | refine gt_v rfl .none rfl (o_load rfl rfl) ?_ | refine gt_v rfl .none rfl (o_loadS rfl rfl) ?_ | refine gt_v rfl .none rfl (o_loadC rfl) ?_
  first | refine gt_vs rfl .none rfl (o_fldS rfl) (tO) ?_ | refine gt_vs rfl .none rfl (o_fld rfl) (tO) ?_
  first | refine gt_vs rfl .none rfl (o_load rfl rfl) (tO) ?_ | refine gt_vs rfl .none rfl (o_loadS rfl rfl) (tO) ?_ | refine gt_vs rfl .none rfl (o_loadC rfl) (tO) ?_
  refine gt_vs rfl .none rfl (o_move rfl) (tO) ?_
  refine gt_vs rfl .none rfl (o_slTo rfl rfl (show i ≤ pc by omega)) (tO) ?_
  refine gt_vs rfl .none rfl (o_func rfl rfl) (tO) ?_
  first | refine gt_vs rfl .none rfl (o_fldS rfl) (tO) ?_ | refine gt_vs rfl .none rfl (o_fld rfl) (tO) ?_
  first | refine gt_vs rfl .none rfl (o_load rfl rfl) (tO) ?_ | refine gt_vs rfl .none rfl (o_loadS rfl rfl) (tO) ?_ | refine gt_vs rfl .none rfl (o_loadC rfl) (tO) ?_
  first | refine gt_vs rfl .none rfl (o_len rfl) (tO) ?_ | refine gt_vs rfl .none rfl (o_lenL rfl) (tO) ?_
  refine gt_vs rfl .none rfl (o_gtr rfl rfl) (tO) ?_
  refine gt_vs rfl .none rfl (o_move rfl) (tO) ?_
  refine gt_vs rfl .none rfl (o_build rfl rfl) (tO) ?_
  refine gt_vs rfl .none rfl (o_move rfl) (tO) ?_
  refine gt_vs rfl .none rfl (o_build rfl rfl) (tO) ?_
  refine gt_c rfl .none rfl (o_call rfl (Name_spec (k.name) (by omega)) pA) ?_
  rintro _ R ⟨_, ⟨rfl, rfl⟩, rfl⟩
  try simp only [List.cons_append, List.nil_append]
  refine ⟨(fun _ => (tO)), ?_⟩
  refine gt_v rfl .none rfl (o_not rfl) ?_
  refine gt_v rfl .none rfl (o_move rfl) ?_
  refine gt_join (d := 60) (.stab 24 (.eff 30 (.loc 31 (.loc 36 (.loc 37 (.loc 38 (.loc 39 (.loc 40 (.loc 41 (.loc 42 (.loc 43 (.loc 44 (.loc 45 (.loc 46 (.loc 47 (.loc 48 (.eff 53 (.eff 54 (.loc 55 .nil) .nil) .nil))))))))))))))) .nil)) (.bool (k1 k)) ?_ (fun jk60 => ?_)
  rotate_left
  ·
   refine gt_split (j := 4) rfl rfl (fun hc3 => ?_) (fun hc3 => ?_)
   ·
    have hc3' := hc3
    replace hc3' := hs_ hc3'
    refine gt_skipL rfl (.no rfl rfl hc3) rfl ?_
    refine gt_skipL rfl (.no rfl rfl hc3) rfl ?_
    refine gt_skipL rfl (.no rfl rfl hc3) rfl ?_
    refine gt_v rfl .none rfl (o_pickT hc3 rfl rfl) ?_
    refine gt_v rfl .none rfl (o_move rfl) ?_
    refine gt_skipL rfl (.no rfl rfl rfl) rfl ?_
    refine gt_skipL rfl (.no rfl rfl rfl) rfl ?_
    refine gt_skipL rfl (.no rfl rfl rfl) rfl ?_
    refine gt_v rfl .none rfl (o_pickT rfl rfl rfl) ?_
    refine gt_v rfl .none rfl (o_move rfl) ?_
    refine gt_skipL rfl (.no rfl rfl rfl) rfl ?_
    refine gt_skipL rfl (.no rfl rfl rfl) rfl ?_
    refine gt_skipL rfl (.no rfl rfl rfl) rfl ?_
    refine gt_v rfl .none rfl (o_pickT rfl rfl rfl) ?_
    refine gt_v rfl .none rfl (o_move rfl) ?_
    refine gt_skipS rfl (.no rfl rfl rfl) rfl ?_
    refine gt_skipS rfl (.no rfl rfl rfl) rfl ?_
    refine gt_skipS rfl (.no rfl rfl rfl) rfl ?_
    refine gt_vs rfl .none rfl (o_pickT rfl rfl rfl) (tO) ?_
    first | exact jk60 _ (KeepS.top (by repeat (first | exact KeepS.refl _ | refine KeepS.push ?_ rfl)) (jval (by first | rfl | (simp only [hc3, k1, Bool.not_true, Bool.not_false, Bool.false_and, Bool.true_and, Bool.true_or, Bool.false_or]; done) | (simp [hc3, k1]; done) | simp_all))) | exact gt_imp (tO) (jk60 _ (KeepS.top (by repeat (first | exact KeepS.refl _ | refine KeepS.push ?_ rfl)) (jval (by first | rfl | (simp only [hc3, k1, Bool.not_true, Bool.not_false, Bool.false_and, Bool.true_and, Bool.true_or, Bool.false_or]; done) | (simp [hc3, k1]; done) | simp_all))))
   ·
    have hc3' := hc3
    replace hc3' := hs_ hc3'
    first | refine gt_v rfl (.yes rfl rfl hc3) rfl (o_fldS rfl) ?_ | refine gt_v rfl (.yes rfl rfl hc3) rfl (o_fld rfl) ?_
    first | refine gt_v rfl (.yes rfl rfl hc3) rfl (o_load rfl rfl) ?_ | refine gt_v rfl (.yes rfl rfl hc3) rfl (o_loadS rfl rfl) ?_ | refine gt_v rfl (.yes rfl rfl hc3) rfl (o_loadC rfl) ?_
    refine gt_v rfl (.yes rfl rfl hc3) rfl (o_lss rfl rfl) ?_
    refine gt_v rfl .none rfl (o_pickF hc3 rfl rfl) ?_
    refine gt_v rfl .none rfl (o_move rfl) ?_
    refine gt_split (j := 9) rfl rfl (fun hc4 => ?_) (fun hc4 => ?_)
    ·
     have hc4' := hc4
     replace hc4' := hs_ hc4'
     refine gt_skipL rfl (.no rfl rfl hc4) rfl ?_
     refine gt_skipL rfl (.no rfl rfl hc4) rfl ?_
     refine gt_skipL rfl (.no rfl rfl hc4) rfl ?_
     refine gt_v rfl .none rfl (o_pickT hc4 rfl rfl) ?_
     refine gt_v rfl .none rfl (o_move rfl) ?_
     refine gt_skipL rfl (.no rfl rfl rfl) rfl ?_
     refine gt_skipL rfl (.no rfl rfl rfl) rfl ?_
     refine gt_skipL rfl (.no rfl rfl rfl) rfl ?_
     refine gt_v rfl .none rfl (o_pickT rfl rfl rfl) ?_
     refine gt_v rfl .none rfl (o_move rfl) ?_
     refine gt_skipS rfl (.no rfl rfl rfl) rfl ?_
     refine gt_skipS rfl (.no rfl rfl rfl) rfl ?_
     refine gt_skipS rfl (.no rfl rfl rfl) rfl ?_
     refine gt_vs rfl .none rfl (o_pickT rfl rfl rfl) (tO) ?_
     first | exact jk60 _ (KeepS.top (by repeat (first | exact KeepS.refl _ | refine KeepS.push ?_ rfl)) (jval (by first | rfl | (simp only [hc3, hc4, k1, Bool.not_true, Bool.not_false, Bool.false_and, Bool.true_and, Bool.true_or, Bool.false_or]; done) | (simp [hc3, hc4, k1]; done) | simp_all))) | exact gt_imp (tO) (jk60 _ (KeepS.top (by repeat (first | exact KeepS.refl _ | refine KeepS.push ?_ rfl)) (jval (by first | rfl | (simp only [hc3, hc4, k1, Bool.not_true, Bool.not_false, Bool.false_and, Bool.true_and, Bool.true_or, Bool.false_or]; done) | (simp [hc3, hc4, k1]; done) | simp_all))))
    ·
     have hc4' := hc4
     replace hc4' := hs_ hc4'
     first | refine gt_v rfl (.yes rfl rfl hc4) rfl (o_fldS rfl) ?_ | refine gt_v rfl (.yes rfl rfl hc4) rfl (o_fld rfl) ?_
     first | refine gt_v rfl (.yes rfl rfl hc4) rfl (o_load rfl rfl) ?_ | refine gt_v rfl (.yes rfl rfl hc4) rfl (o_loadS rfl rfl) ?_ | refine gt_v rfl (.yes rfl rfl hc4) rfl (o_loadC rfl) ?_
     refine gt_v rfl (.yes rfl rfl hc4) rfl (o_gtr rfl rfl) ?_
     refine gt_v rfl .none rfl (o_pickF hc4 rfl rfl) ?_
     refine gt_v rfl .none rfl (o_move rfl) ?_
     refine gt_split (j := 14) rfl rfl (fun hc5 => ?_) (fun hc5 => ?_)
     ·
      have hc5' := hc5
      replace hc5' := hs_ hc5'
      refine gt_skipL rfl (.no rfl rfl hc5) rfl ?_
      refine gt_skipL rfl (.no rfl rfl hc5) rfl ?_
      refine gt_skipL rfl (.no rfl rfl hc5) rfl ?_
      refine gt_v rfl .none rfl (o_pickT hc5 rfl rfl) ?_
      refine gt_v rfl .none rfl (o_move rfl) ?_
      refine gt_skipS rfl (.no rfl rfl rfl) rfl ?_
      refine gt_skipS rfl (.no rfl rfl rfl) rfl ?_
      refine gt_skipS rfl (.no rfl rfl rfl) rfl ?_
      refine gt_vs rfl .none rfl (o_pickT rfl rfl rfl) (tO) ?_
      first | exact jk60 _ (KeepS.top (by repeat (first | exact KeepS.refl _ | refine KeepS.push ?_ rfl)) (jval (by first | rfl | (simp only [hc3, hc4, hc5, k1, Bool.not_true, Bool.not_false, Bool.false_and, Bool.true_and, Bool.true_or, Bool.false_or]; done) | (simp [hc3, hc4, hc5, k1]; done) | simp_all))) | exact gt_imp (tO) (jk60 _ (KeepS.top (by repeat (first | exact KeepS.refl _ | refine KeepS.push ?_ rfl)) (jval (by first | rfl | (simp only [hc3, hc4, hc5, k1, Bool.not_true, Bool.not_false, Bool.false_and, Bool.true_and, Bool.true_or, Bool.false_or]; done) | (simp [hc3, hc4, hc5, k1]; done) | simp_all))))
     ·
      have hc5' := hc5
      replace hc5' := hs_ hc5'
      first | refine gt_v rfl (.yes rfl rfl hc5) rfl (o_fldS rfl) ?_ | refine gt_v rfl (.yes rfl rfl hc5) rfl (o_fld rfl) ?_
      first | refine gt_v rfl (.yes rfl rfl hc5) rfl (o_load rfl rfl) ?_ | refine gt_v rfl (.yes rfl rfl hc5) rfl (o_loadS rfl rfl) ?_ | refine gt_v rfl (.yes rfl rfl hc5) rfl (o_loadC rfl) ?_
      refine gt_v rfl (.yes rfl rfl hc5) rfl (o_lss rfl rfl) ?_
      refine gt_v rfl .none rfl (o_pickF hc5 rfl rfl) ?_
      refine gt_v rfl .none rfl (o_move rfl) ?_
      refine gt_split (j := 19) rfl rfl (fun hc6 => ?_) (fun hc6 => ?_)
      ·
       have hc6' := hc6
       replace hc6' := hs_ hc6'
       refine gt_skipS rfl (.no rfl rfl hc6) rfl ?_
       refine gt_skipS rfl (.no rfl rfl hc6) rfl ?_
       refine gt_skipS rfl (.no rfl rfl hc6) rfl ?_
       refine gt_vs rfl .none rfl (o_pickT hc6 rfl rfl) (tO) ?_
       first | exact jk60 _ (KeepS.top (by repeat (first | exact KeepS.refl _ | refine KeepS.push ?_ rfl)) (jval (by first | rfl | (simp only [hc3, hc4, hc5, hc6, k1, Bool.not_true, Bool.not_false, Bool.false_and, Bool.true_and, Bool.true_or, Bool.false_or]; done) | (simp [hc3, hc4, hc5, hc6, k1]; done) | simp_all))) | exact gt_imp (tO) (jk60 _ (KeepS.top (by repeat (first | exact KeepS.refl _ | refine KeepS.push ?_ rfl)) (jval (by first | rfl | (simp only [hc3, hc4, hc5, hc6, k1, Bool.not_true, Bool.not_false, Bool.false_and, Bool.true_and, Bool.true_or, Bool.false_or]; done) | (simp [hc3, hc4, hc5, hc6, k1]; done) | simp_all))))
      ·
       have hc6' := hc6
       replace hc6' := hs_ hc6'
       first | refine gt_vs rfl (.yes rfl rfl hc6) rfl (o_fldS rfl) (tO) ?_ | refine gt_vs rfl (.yes rfl rfl hc6) rfl (o_fld rfl) (tO) ?_
       first | refine gt_vs rfl (.yes rfl rfl hc6) rfl (o_load rfl rfl) (tO) ?_ | refine gt_vs rfl (.yes rfl rfl hc6) rfl (o_loadS rfl rfl) (tO) ?_ | refine gt_vs rfl (.yes rfl rfl hc6) rfl (o_loadC rfl) (tO) ?_
       refine gt_vs rfl (.yes rfl rfl hc6) rfl (o_gtr rfl rfl) (tO) ?_
       refine gt_vs rfl .none rfl (o_pickF hc6 rfl rfl) (tO) ?_
       first | exact jk60 _ (KeepS.top (by repeat (first | exact KeepS.refl _ | refine KeepS.push ?_ rfl)) (jval (by first | rfl | (simp only [hc3, hc4, hc5, hc6, k1, Bool.not_true, Bool.not_false, Bool.false_and, Bool.true_and, Bool.true_or, Bool.false_or]; done) | (simp [hc3, hc4, hc5, hc6, k1]; done) | simp_all))) | exact gt_imp (tO) (jk60 _ (KeepS.top (by repeat (first | exact KeepS.refl _ | refine KeepS.push ?_ rfl)) (jval (by first | rfl | (simp only [hc3, hc4, hc5, hc6, k1, Bool.not_true, Bool.not_false, Bool.false_and, Bool.true_and, Bool.true_or, Bool.false_or]; done) | (simp [hc3, hc4, hc5, hc6, k1]; done) | simp_all))))
  refine gt_keep (Keep.cons (t := 89) rfl (Keep.cons (t := 87) rfl (Keep.cons (t := 72) rfl (Keep.cons (t := 66) rfl (Keep.cons (t := 65) rfl (Keep.cons (t := 60) rfl (Keep.cons (t := 23) rfl (Keep.cons (t := 22) rfl (Keep.cons (t := 21) rfl (Keep.cons (t := 20) rfl (Keep.cons (t := 7) rfl (Keep.cons (t := 6) rfl (Keep.cons (t := 5) rfl (Keep.cons (t := 2) rfl (Keep.cons (t := 1) rfl (Keep.nil)))))))))))))))) ?_
  refine gt_vs rfl .none rfl (o_build rfl rfl) (tO) ?_
  refine gt_c rfl .none rfl (o_call rfl (ConT_Knd KK i (by omega) pa pc 42 [ptr b5 0] [A, cel b5 57 (kndC k)] (fun d => decide (d.name = k.name)) (by omega) (rd_head fun h a => (hA h a).rd.1) (fun d _ => kind3_spec A b5 d k)) pA) ?_
  rintro _ R ⟨_, ⟨rfl, rfl⟩, rfl⟩
  try simp only [List.cons_append, List.nil_append]
  refine ⟨(fun _ => (tO)), ?_⟩
  refine gt_v rfl .none rfl (o_build rfl rfl) ?_
  refine gt_v rfl .none rfl (o_move rfl) ?_
  refine gt_join (d := 84) (.loc 48 (.eff 53 (.eff 54 (.loc 55 .nil) .nil) .nil)) (.bool (k3 k)) ?_ (fun jk84 => ?_)
  rotate_left
  ·
   refine gt_split (j := 36) rfl rfl (fun hc7 => ?_) (fun hc7 => ?_)
   ·
    have hc7' := hc7
    replace hc7' := hs_ hc7'
    refine gt_skipL rfl (.no rfl rfl hc7) rfl ?_
    refine gt_skipL rfl (.no rfl rfl hc7) rfl ?_
    refine gt_skipL rfl (.no rfl rfl hc7) rfl ?_
    refine gt_skipL rfl (.no rfl rfl hc7) rfl ?_
    refine gt_v rfl .none rfl (o_pickT hc7 rfl rfl) ?_
    refine gt_v rfl .none rfl (o_move rfl) ?_
    refine gt_skipL rfl (.no rfl rfl rfl) rfl ?_
    refine gt_skipL rfl (.no rfl rfl rfl) rfl ?_
    refine gt_skipL rfl (.no rfl rfl rfl) rfl ?_
    refine gt_skipL rfl (.no rfl rfl rfl) rfl ?_
    refine gt_v rfl .none rfl (o_pickT rfl rfl rfl) ?_
    first | exact jk84 _ (KeepS.top (by repeat (first | exact KeepS.refl _ | refine KeepS.push ?_ rfl)) (jval (by first | rfl | (simp only [hc7, k3, Bool.not_true, Bool.not_false, Bool.false_and, Bool.true_and, Bool.true_or, Bool.false_or]; done) | (simp [hc7, k3]; done) | simp_all))) | exact gt_imp (tO) (jk84 _ (KeepS.top (by repeat (first | exact KeepS.refl _ | refine KeepS.push ?_ rfl)) (jval (by first | rfl | (simp only [hc7, k3, Bool.not_true, Bool.not_false, Bool.false_and, Bool.true_and, Bool.true_or, Bool.false_or]; done) | (simp [hc7, k3]; done) | simp_all))))
   ·
    have hc7' := hc7
    replace hc7' := hs_ hc7'
    first | refine gt_v rfl (.yes rfl rfl hc7) rfl (o_fldS rfl) ?_ | refine gt_v rfl (.yes rfl rfl hc7) rfl (o_fld rfl) ?_
    first | refine gt_v rfl (.yes rfl rfl hc7) rfl (o_load rfl rfl) ?_ | refine gt_v rfl (.yes rfl rfl hc7) rfl (o_loadS rfl rfl) ?_ | refine gt_v rfl (.yes rfl rfl hc7) rfl (o_loadC rfl) ?_
    first | refine gt_v rfl (.yes rfl rfl hc7) rfl (o_len rfl) ?_ | refine gt_v rfl (.yes rfl rfl hc7) rfl (o_lenL rfl) ?_
    refine gt_v rfl (.yes rfl rfl hc7) rfl (o_lss rfl rfl) ?_
    refine gt_v rfl .none rfl (o_pickF hc7 rfl rfl) ?_
    refine gt_v rfl .none rfl (o_move rfl) ?_
    refine gt_split (j := 42) rfl rfl (fun hc8 => ?_) (fun hc8 => ?_)
    ·
     have hc8' := hc8
     replace hc8' := hs_ hc8'
     refine gt_skipL rfl (.no rfl rfl hc8) rfl ?_
     refine gt_skipL rfl (.no rfl rfl hc8) rfl ?_
     refine gt_skipL rfl (.no rfl rfl hc8) rfl ?_
     refine gt_skipL rfl (.no rfl rfl hc8) rfl ?_
     refine gt_v rfl .none rfl (o_pickT hc8 rfl rfl) ?_
     first | exact jk84 _ (KeepS.top (by repeat (first | exact KeepS.refl _ | refine KeepS.push ?_ rfl)) (jval (by first | rfl | (simp only [hc7, hc8, k3, Bool.not_true, Bool.not_false, Bool.false_and, Bool.true_and, Bool.true_or, Bool.false_or]; done) | (simp [hc7, hc8, k3]; done) | simp_all))) | exact gt_imp (tO) (jk84 _ (KeepS.top (by repeat (first | exact KeepS.refl _ | refine KeepS.push ?_ rfl)) (jval (by first | rfl | (simp only [hc7, hc8, k3, Bool.not_true, Bool.not_false, Bool.false_and, Bool.true_and, Bool.true_or, Bool.false_or]; done) | (simp [hc7, hc8, k3]; done) | simp_all))))
    ·
     have hc8' := hc8
     replace hc8' := hs_ hc8'
     first | refine gt_v rfl (.yes rfl rfl hc8) rfl (o_fldS rfl) ?_ | refine gt_v rfl (.yes rfl rfl hc8) rfl (o_fld rfl) ?_
     first | refine gt_v rfl (.yes rfl rfl hc8) rfl (o_load rfl rfl) ?_ | refine gt_v rfl (.yes rfl rfl hc8) rfl (o_loadS rfl rfl) ?_ | refine gt_v rfl (.yes rfl rfl hc8) rfl (o_loadC rfl) ?_
     first | refine gt_v rfl (.yes rfl rfl hc8) rfl (o_len rfl) ?_ | refine gt_v rfl (.yes rfl rfl hc8) rfl (o_lenL rfl) ?_
     refine gt_v rfl (.yes rfl rfl hc8) rfl (o_gtr rfl rfl) ?_
     refine gt_v rfl .none rfl (o_pickF hc8 rfl rfl) ?_
     first | exact jk84 _ (KeepS.top (by repeat (first | exact KeepS.refl _ | refine KeepS.push ?_ rfl)) (jval (by first | rfl | (simp only [hc7, hc8, k3, Bool.not_true, Bool.not_false, Bool.false_and, Bool.true_and, Bool.true_or, Bool.false_or]; done) | (simp [hc7, hc8, k3]; done) | simp_all))) | exact gt_imp (tO) (jk84 _ (KeepS.top (by repeat (first | exact KeepS.refl _ | refine KeepS.push ?_ rfl)) (jval (by first | rfl | (simp only [hc7, hc8, k3, Bool.not_true, Bool.not_false, Bool.false_and, Bool.true_and, Bool.true_or, Bool.false_or]; done) | (simp [hc7, hc8, k3]; done) | simp_all))))
  refine gt_keep (Keep.cons (t := 89) rfl (Keep.cons (t := 87) rfl (Keep.cons (t := 84) rfl (Keep.cons (t := 68) rfl (Keep.cons (t := 61) rfl (Keep.cons (t := 23) rfl (Keep.cons (t := 22) rfl (Keep.cons (t := 21) rfl (Keep.cons (t := 20) rfl (Keep.cons (t := 7) rfl (Keep.cons (t := 6) rfl (Keep.cons (t := 5) rfl (Keep.cons (t := 2) rfl (Keep.cons (t := 1) rfl (Keep.nil))))))))))))))) ?_
  refine gt_v rfl .none rfl (o_build rfl rfl) ?_
  refine gt_n rfl .none rfl (o_buildS (cs := [(k1 k, 43), (hasK (KK.take i) k.name, 41), (k3 k, 40), (k.cases.any casB, 43), (twc k.cases k.cases.length, 41)].flatMap ruC) rfl rfl rfl rfl) ?_
  rintro _ _ ⟨b90, rfl, rfl⟩
  refine ⟨(fun hG => absurd hG (by decide)), ?_⟩
  refine gt_c rfl .none rfl (o_call rfl (first_spec [(k1 k, 43), (hasK (KK.take i) k.name, 41), (k3 k, 40), (k.cases.any casB, 43), (twc k.cases k.cases.length, 41)] b90 (by simp)) pA) ?_
  rintro _ R ⟨_, ⟨rfl, rfl⟩, rfl⟩
  try simp only [List.cons_append, List.nil_append]
  refine ⟨(fun hG => absurd hG (by decide)), ?_⟩
  refine gt_v rfl .none rfl (o_assign rfl) ?_
  refine gt_nil ?_
  refine ge_then ?_
  refine g_seq ?_
  rcases hR : kndF KK i with _ | ⟨c, ws⟩
  ·
   refine g_region ?_
   refine gl_v rfl (o_move rfl) ?_
   first | refine gl_v rfl (o_fldS rfl) ?_ | refine gl_v rfl (o_fld rfl) ?_
   first | refine gl_v rfl (o_load rfl rfl) ?_ | refine gl_v rfl (o_loadS rfl rfl) ?_ | refine gl_v rfl (o_loadC rfl) ?_
   first | refine gl_v rfl (o_len rfl) ?_ | refine gl_v rfl (o_lenL rfl) ?_
   refine gl_v rfl (o_func rfl rfl) ?_
   refine gl_c rfl (o_call rfl (hp_none (within_spec (kndE KK i k) k.states.length (by omega) 43 [ptr b2 0, ptr b5 0] [cel b2 24 [.slice pa KK.length pc], cel b5 57 (kndC k), A] (staF KK k.states) (fun i c ws h => by have := staF_len i c ws h; omega) (fun j hj => kind4_spec pa pc KK A hA hb k hk b2 b5 j hj)) (hF ▸ hR)) pA) ?_
   rintro _ R ⟨_, ⟨rfl, rfl⟩, rfl⟩
   try simp only [List.cons_append, List.nil_append]
   refine gl_v rfl (o_assign rfl) ?_
   refine gl_nil ?_
   refine ge_then ?_
   refine g_ret ?_
   refine ret1 (.inl rfl) rfl rfl _ (⟨rfl, rfl⟩) (tO)
  ·
   refine g_region ?_
   refine gl_v rfl (o_move rfl) ?_
   first | refine gl_v rfl (o_fldS rfl) ?_ | refine gl_v rfl (o_fld rfl) ?_
   first | refine gl_v rfl (o_load rfl rfl) ?_ | refine gl_v rfl (o_loadS rfl rfl) ?_ | refine gl_v rfl (o_loadC rfl) ?_
   first | refine gl_v rfl (o_len rfl) ?_ | refine gl_v rfl (o_lenL rfl) ?_
   refine gl_v rfl (o_func rfl rfl) ?_
   refine gl_c rfl (o_call rfl (hp_some (within_spec (kndE KK i k) k.states.length (by omega) 43 [ptr b2 0, ptr b5 0] [cel b2 24 [.slice pa KK.length pc], cel b5 57 (kndC k), A] (staF KK k.states) (fun i c ws h => by have := staF_len i c ws h; omega) (fun j hj => kind4_spec pa pc KK A hA hb k hk b2 b5 j hj)) (hF ▸ hR)) pA) ?_
   rintro _ R ⟨_, ⟨b, a, cp, rfl, rfl⟩, rfl⟩
   try simp only [List.cons_append, List.nil_append]
   refine gl_v rfl (o_assign rfl) ?_
   refine gl_nil ?_
   refine ge_then ?_
   refine g_ret ?_
   refine ret1 (.inl rfl) rfl rfl _ (⟨_, _, _, rfl, rfl⟩) (tO)

set_option maxRecDepth 8000 in
set_option maxHeartbeats 1000000 in
theorem prog1_spec (pa : Option Addr) (pc : Nat) (KK : List Knd) (A : Assn) (hA : ∀ h, A h → PrgOk h pa pc KK) (hb : ∃ h, PrgOk h pa pc KK) (bp j : Nat) (hj : j < KK.length) : FnS Tryz.prog 15 [I64 j, ptr bp 0] [cel bp 24 ([.slice pa KK.length pc]), A] (BadP (kndF KK j) [cel bp 24 ([.slice pa KK.length pc]), A]) := by
 refine fn_body Tryz.func15 rfl rfl rfl ?_
 intro W0 R
 simp only [List.zipIdx_cons, List.zipIdx_nil, List.map_cons, List.map_nil, Nat.zero_add, Nat.reduceAdd, List.cons_append, List.nil_append]
 refine g_seq ?_
 refine g_region ?_
 refine gl_v rfl (o_assign rfl) ?_
 refine gl_nil ?_
 refine ge_then ?_
 refine g_seq ?_
 rcases hR : kndF KK j with _ | ⟨c, ws⟩
 ·
  refine g_region ?_
  first | refine gl_v rfl (o_loadSA rfl rfl rfl) ?_ | refine gl_v rfl (o_loadA rfl rfl rfl) ?_
  refine gl_v rfl (o_move rfl) ?_
  refine gl_c rfl (o_call rfl (hp_none (kind_spec pa pc KK A hA hb j hj) hR) pA) ?_
  rintro _ R ⟨_, ⟨rfl, rfl⟩, rfl⟩
  try simp only [List.cons_append, List.nil_append]
  refine gl_v rfl (o_assign rfl) ?_
  refine gl_nil ?_
  refine ge_then ?_
  refine g_ret ?_
  refine ret1 (.inl rfl) rfl rfl _ (⟨rfl, rfl⟩) (tO)
 ·
  refine g_region ?_
  first | refine gl_v rfl (o_loadSA rfl rfl rfl) ?_ | refine gl_v rfl (o_loadA rfl rfl rfl) ?_
  refine gl_v rfl (o_move rfl) ?_
  refine gl_c rfl (o_call rfl (hp_some (kind_spec pa pc KK A hA hb j hj) hR) pA) ?_
  rintro _ R ⟨_, ⟨b, a, cp, rfl, rfl⟩, rfl⟩
  try simp only [List.cons_append, List.nil_append]
  refine gl_v rfl (o_assign rfl) ?_
  refine gl_nil ?_
  refine ge_then ?_
  refine g_ret ?_
  refine ret1 (.inl rfl) rfl rfl _ (⟨_, _, _, rfl, rfl⟩) (tO)

set_option maxRecDepth 8000 in
set_option maxHeartbeats 1000000 in
theorem prog_spec (pa : Option Addr) (pc : Nat) (KK : List Knd) (A : Assn) (hA : ∀ h, A h → PrgOk h pa pc KK) (hb : ∃ h, PrgOk h pa pc KK) : FnS Tryz.prog 5 [.agg #[.slice pa KK.length pc]] [A] (ErrP (prgF KK) [A]) := by
 refine fn_body Tryz.func5 rfl rfl rfl ?_
 intro W0 R
 simp only [List.zipIdx_cons, List.zipIdx_nil, List.map_cons, List.map_nil, Nat.zero_add, Nat.reduceAdd, List.cons_append, List.nil_append]
 obtain ⟨h0, hb0⟩ := id hb
 have hKn := hb0.len; have hKc := hb0.rd.2
 haveI rK : RdA (.slice pa KK.length pc) A KK.length (KK.flatMap kndC) := ⟨fun h => (hA _ h).rd.1⟩
 unfold ok63 at *
 
 refine g_seq ?_
 refine g_region ?_
 refine gl_n rfl (o_boxA rfl) ?_
 rintro _ _ ⟨b1, rfl, rfl⟩
 refine gl_v rfl (o_assign rfl) ?_
 refine gl_nil ?_
 refine ge_then ?_
 refine g_seq ?_
 refine g_region ?_
 first | refine gl_v rfl (o_fldS rfl) ?_ | refine gl_v rfl (o_fld rfl) ?_
 first | refine gl_v rfl (o_load rfl rfl) ?_ | refine gl_v rfl (o_loadS rfl rfl) ?_ | refine gl_v rfl (o_loadC rfl) ?_
 first | refine gl_v rfl (o_len rfl) ?_ | refine gl_v rfl (o_lenL rfl) ?_
 refine gl_v rfl (o_lss rfl rfl) ?_
 refine gl_v rfl (o_move rfl) ?_
 refine gl_join (d := 14) 5 (.bool (decide ((KK.length : Int) < 1) || decide (8 < (KK.length : Int)))) ?_ (fun jk14 => ?_)
 rotate_left
 ·
  refine gl_g rfl rfl (fun hc1 => ?_) (fun hc1 => ?_) rfl
  ·
   have hc1' := hc1
   replace hc1' := hs_ hc1'
   first | refine gl_v rfl (o_fldS rfl) ?_ | refine gl_v rfl (o_fld rfl) ?_
   refine gl_gT rfl rfl hc1 ?_
   first | refine gl_v rfl (o_load rfl rfl) ?_ | refine gl_v rfl (o_loadS rfl rfl) ?_ | refine gl_v rfl (o_loadC rfl) ?_
   refine gl_gT rfl rfl hc1 ?_
   first | refine gl_v rfl (o_len rfl) ?_ | refine gl_v rfl (o_lenL rfl) ?_
   refine gl_gT rfl rfl hc1 ?_
   refine gl_v rfl (o_gtr rfl rfl) ?_
   refine gl_v rfl (o_pickF hc1 rfl rfl) ?_
   first | exact jk14 _ (KeepS.top (by repeat (first | exact KeepS.refl _ | refine KeepS.push ?_ rfl)) (jval (by first | rfl | (simp only [hc1, Bool.not_true, Bool.not_false, Bool.false_and, Bool.true_and, Bool.true_or, Bool.false_or]; done) | (simp [hc1, ]; done) | simp_all))) | exact gl_imp (tO) (jk14 _ (KeepS.top (by repeat (first | exact KeepS.refl _ | refine KeepS.push ?_ rfl)) (jval (by first | rfl | (simp only [hc1, Bool.not_true, Bool.not_false, Bool.false_and, Bool.true_and, Bool.true_or, Bool.false_or]; done) | (simp [hc1, ]; done) | simp_all))))
  ·
   have hc1' := hc1
   replace hc1' := hs_ hc1'
   simp only [putO]
   refine gl_gF rfl rfl hc1 rfl ?_
   refine gl_gF rfl rfl hc1 rfl ?_
   refine gl_gF rfl rfl hc1 rfl ?_
   refine gl_v rfl (o_pickT hc1 rfl rfl) ?_
   first | exact jk14 _ (KeepS.top (by repeat (first | exact KeepS.refl _ | refine KeepS.push ?_ rfl)) (jval (by first | rfl | (simp only [hc1, Bool.not_true, Bool.not_false, Bool.false_and, Bool.true_and, Bool.true_or, Bool.false_or]; done) | (simp [hc1, ]; done) | simp_all))) | exact gl_imp (tO) (jk14 _ (KeepS.top (by repeat (first | exact KeepS.refl _ | refine KeepS.push ?_ rfl)) (jval (by first | rfl | (simp only [hc1, Bool.not_true, Bool.not_false, Bool.false_and, Bool.true_and, Bool.true_or, Bool.false_or]; done) | (simp [hc1, ]; done) | simp_all))))
 refine gl_v rfl (o_build rfl rfl) ?_
 refine gl_n rfl (o_buildS (cs := [(decide ((KK.length : Int) < 1) || decide (8 < (KK.length : Int)), 40)].flatMap ruC) rfl rfl rfl rfl) ?_
 rintro _ _ ⟨b16, rfl, rfl⟩
 refine gl_c rfl (o_call rfl (first_spec [(decide ((KK.length : Int) < 1) || decide (8 < (KK.length : Int)), 40)] b16 (by simp)) pA) ?_
 rintro _ R ⟨_, ⟨rfl, rfl⟩, rfl⟩
 try simp only [List.cons_append, List.nil_append]
 refine gl_v rfl (o_assign rfl) ?_
 refine gl_nil ?_
 refine ge_then ?_
 refine g_seq ?_
 refine g_seq ?_
 rcases hR : prgF KK with _ | ⟨c, ws⟩
 ·
  refine g_region ?_
  refine gl_v rfl (o_move rfl) ?_
  first | refine gl_v rfl (o_fldS rfl) ?_ | refine gl_v rfl (o_fld rfl) ?_
  first | refine gl_v rfl (o_load rfl rfl) ?_ | refine gl_v rfl (o_loadS rfl rfl) ?_ | refine gl_v rfl (o_loadC rfl) ?_
  first | refine gl_v rfl (o_len rfl) ?_ | refine gl_v rfl (o_lenL rfl) ?_
  refine gl_v rfl (o_func rfl rfl) ?_
  refine gl_c rfl (o_call rfl (hp_none (within_spec (prgE KK) KK.length (by omega) 15 [ptr b1 0] [cel b1 24 [.slice pa KK.length pc], A] (kndF KK) (fun i c ws h => by have := kndF_len i c ws h; omega) (fun j hj => prog1_spec pa pc KK A hA hb b1 j hj)) hR) pA) ?_
  rintro _ R ⟨_, ⟨rfl, rfl⟩, rfl⟩
  try simp only [List.cons_append, List.nil_append]
  refine gl_v rfl (o_assign rfl) ?_
  refine gl_nil ?_
  refine ge_then ?_
  refine g_seq ?_
  refine g_region ?_
  refine gl_v rfl (o_move rfl) ?_
  refine gl_v rfl (o_neqnn rfl rfl) ?_
  refine gl_nil ?_
  refine ge_then ?_
  refine g_cond_false rfl ?_
  refine g_skip ?_
  refine ge_then ?_
  refine g_seq ?_
  refine g_region ?_
  refine gl_v rfl (o_assign rfl) ?_
  refine gl_nil ?_
  refine ge_then ?_
  refine g_ret ?_
  refine ret1 (.inl rfl) rfl rfl _ (⟨rfl, rfl⟩) (tO)
 ·
  refine g_region ?_
  refine gl_v rfl (o_move rfl) ?_
  first | refine gl_v rfl (o_fldS rfl) ?_ | refine gl_v rfl (o_fld rfl) ?_
  first | refine gl_v rfl (o_load rfl rfl) ?_ | refine gl_v rfl (o_loadS rfl rfl) ?_ | refine gl_v rfl (o_loadC rfl) ?_
  first | refine gl_v rfl (o_len rfl) ?_ | refine gl_v rfl (o_lenL rfl) ?_
  refine gl_v rfl (o_func rfl rfl) ?_
  refine gl_c rfl (o_call rfl (hp_some (within_spec (prgE KK) KK.length (by omega) 15 [ptr b1 0] [cel b1 24 [.slice pa KK.length pc], A] (kndF KK) (fun i c ws h => by have := kndF_len i c ws h; omega) (fun j hj => prog1_spec pa pc KK A hA hb b1 j hj)) hR) pA) ?_
  rintro _ R ⟨_, ⟨b, a, cp, rfl, rfl⟩, rfl⟩
  try simp only [List.cons_append, List.nil_append]
  refine gl_v rfl (o_assign rfl) ?_
  refine gl_nil ?_
  refine ge_then ?_
  refine g_seq ?_
  refine g_region ?_
  refine gl_v rfl (o_move rfl) ?_
  refine gl_v rfl (o_neqPn rfl rfl) ?_
  refine gl_nil ?_
  refine ge_then ?_
  refine g_cond_true rfl ?_
  refine g_seq ?_
  refine g_region ?_
  refine gl_v rfl (o_move rfl) ?_
  refine gl_v rfl (o_iface Tryz.underlying46 rfl rfl) ?_
  refine gl_v rfl (o_assign rfl) ?_
  refine gl_nil ?_
  refine ge_then ?_
  refine g_ret ?_
  refine ge_then_ret ?_
  refine ret1 (.inl rfl) rfl rfl _ (⟨_, _, _, rfl, rfl⟩) (tO)

end Go.Proofs.YtgmdlhlmffdbhaaGreatDoor.C
