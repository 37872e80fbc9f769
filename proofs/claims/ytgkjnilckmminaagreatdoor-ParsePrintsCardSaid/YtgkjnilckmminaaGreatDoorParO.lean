/-
  Parse: the reference's Text. Own work, printed in part by a program of its own.
-/
import Derived.Test.YtgkjnilckmminaaGreatDoorParF
set_option linter.unusedSimpArgs false
set_option linter.unusedVariables false
set_option linter.unusedSectionVars false
namespace Go.Proofs.YtgkjnilckmminaaGreatDoor.L
open Go.L Go.L.Lx Go.L.Pg Go.L.Pa
theorem has_ch {ps : By} {ch : UInt8} (h : ch ∈ ps) (c : UInt8) (e : ch.toNat = c.toNat) : Pa.has ps c = true := decide_eq_true (UInt8.toNat_inj.1 e ▸ h)
theorem wl_part {e : Eff} {ps : By} {q : Nat} {ch : UInt8} {n : By} (h : ps[q]? = some ch) (hw : partWs e ch = [n]) : wl ((ps.take q).flatMap (partWs e)) + (n.length + 1) ≤ wl (ps.flatMap (partWs e)) := by
  have h1 := wl_flat (partWs e) ps (q + 1)
  rw [flat_succ h, hw, wl_app] at h1
  exact h1

theorem wOne : wl [wOpen] = 2 ∧ wl [wShut] = 2 ∧ wl [wSemi] = 2 := ⟨rfl, rfl, rfl⟩
set_option maxRecDepth 8000 in
set_option maxHeartbeats 3000000 in
theorem rowT_spec (M : Assn) (r : Row) (ok : rowOK r = true) (hM : ∀ h, M h → RowOk h r) (xs : List By) (a : Option Addr) (c : Nat) (hx : OKJ xs) (hne : xs ≠ []) (hl0 : wl (xs ++ rowWs r) ≤ 100000000) : FnS Tryz.prog 40 [.slice a (joinS xs).length c, .agg (rowC r).toArray] [byA a c (joinS xs), M] (fun u Bs => ∃ a' c', u = .slice a' (joinS (xs ++ rowWs r)).length c' ∧ Bs = [byA a' c' (joinS (xs ++ rowWs r)), M]) := by
 refine fn_body Tryz.func40 rfl rfl rfl ?_
 intro W0 R
 simp only [List.zipIdx_cons, List.zipIdx_nil, List.map_cons, List.map_nil, Nat.zero_add, Nat.reduceAdd, List.cons_append, List.nil_append]
 obtain ⟨o1, o2, o3⟩ := rowOK_inv ok
 haveI iE : RdA (.slice r.ea r.effs.length r.ec) M r.effs.length (r.effs.flatMap effC) := ⟨fun a => (hM _ a).rd.1⟩
 have hl : wl xs + wl (tagWs r) + wl (numWs r) + 2 + wl (effsWs r.effs) + 2 ≤ 100000000 := by unfold rowWs at hl0; simp only [wl_app, wl_cons, wl_nil, List.length_cons, List.length_nil] at hl0; omega
 clear hl0
 have hel : r.effs.length ≤ 100000000 := by have h1 := len_wl (effsWs r.effs); have h2 : r.effs.length ≤ (effsWs r.effs).length := (by unfold effsWs; exact len_flat _ (fun e => by simp) r.effs); omega
 refine g_seq ?_
 refine g_region ?_
 refine gl_n rfl (o_boxA rfl) ?_
 rintro _ _ ⟨b3, rfl, rfl⟩
 refine gl_v rfl (o_assign rfl) ?_
 refine gl_nil ?_
 refine ge_then ?_
 refine g_cut (fun act wo => ∃ (a1 : Option Addr) (c1 : Nat), HasSl Tryz.f40.ntmps [(3, ptr b3 0), (0, .slice a1 (joinS (xs ++ tagWs r)).length c1)] act ∧ St W0 (byA a1 c1 (joinS (xs ++ tagWs r)) :: cel b3 57 (rowC r) :: M :: R) wo) ?_ ?_
 ·
  refine g_seq ?_
  refine g_region ?_
  first | refine gl_v rfl (o_fldS rfl) ?_ | refine gl_v rfl (o_fld rfl) ?_
  first | refine gl_v rfl (o_load rfl rfl) ?_ | refine gl_v rfl (o_loadS rfl rfl) ?_ | refine gl_v rfl (o_loadC rfl) ?_
  refine gl_v rfl (o_eqls rfl rfl) ?_
  refine gl_nil ?_
  refine ge_then ?_
  refine g_cond rfl (fun hc1 => ?_) (fun hc1 => ?_)
  ·
   replace hc1 := hs_ hc1
   have ht : tagWs r = [wAny] := by unfold tagWs; rw [if_pos (by simpa using hc1)]
   rw [ht] at hl
   refine g_region ?_
   refine gl_v rfl (o_move rfl) ?_
   first | refine gl_n rfl (o_buildS1 rfl rfl rfl) ?_ | refine gl_n rfl (o_buildS1A rfl rfl rfl rfl) ?_ | refine gl_n rfl (o_buildS rfl rfl rfl rfl) ?_
   rintro _ _ ⟨b14, rfl, rfl⟩
   refine gl_c rfl (o_call rfl (pt1 (xs) a c b14 (wAny) (by first | exact hx | exact hx.more hne _ | (simp only [List.append_assoc]; exact hx.more hne _)) (fun e => absurd e (by first | exact hne | exact ne_app hne _ | (simp only [List.append_assoc]; exact ne_app hne _))) (by simp only [wl_app, wl_cons, wl_nil, List.length_cons, List.length_nil] at *; omega)) pA) ?_
   rintro _ R ⟨_, ⟨a15, c15, rfl, rfl⟩, rfl⟩
   try simp only [List.cons_append, List.nil_append]
   refine gl_v rfl (o_assign rfl) ?_
   refine gl_nil ?_
   exact fun act wo hsl st => ⟨a15, c15, hsl.keep (by rw [ht]; exact (Keep.cons rfl (Keep.cons rfl (Keep.nil)))), st.imp (by rw [ht]; exact (tO))⟩
  ·
   replace hc1 := hs_ hc1
   have ht : tagWs r = [wOn, r.tag] := by unfold tagWs; rw [if_neg (by simpa using hc1)]
   rw [ht] at hl
   refine g_region ?_
   refine gl_v rfl (o_move rfl) ?_
   first | refine gl_v rfl (o_fldS rfl) ?_ | refine gl_v rfl (o_fld rfl) ?_
   first | refine gl_v rfl (o_load rfl rfl) ?_ | refine gl_v rfl (o_loadS rfl rfl) ?_ | refine gl_v rfl (o_loadC rfl) ?_
   refine gl_n rfl (o_buildS rfl rfl rfl rfl) ?_
   rintro _ _ ⟨b19, rfl, rfl⟩
   refine gl_c rfl (o_call rfl (pt2 (xs) a c b19 (wOn) (r.tag) (by first | exact hx | exact hx.more hne _ | (simp only [List.append_assoc]; exact hx.more hne _)) (fun e => absurd e (by first | exact hne | exact ne_app hne _ | (simp only [List.append_assoc]; exact ne_app hne _))) (by simp only [wl_app, wl_cons, wl_nil, List.length_cons, List.length_nil] at *; omega)) pA) ?_
   rintro _ R ⟨_, ⟨a20, c20, rfl, rfl⟩, rfl⟩
   try simp only [List.cons_append, List.nil_append]
   refine gl_v rfl (o_assign rfl) ?_
   refine gl_nil ?_
   exact fun act wo hsl st => ⟨a20, c20, hsl.keep (by rw [ht]; exact (Keep.cons rfl (Keep.cons rfl (Keep.nil)))), st.imp (by rw [ht]; exact (tO))⟩
 ·
  rintro act wo ⟨a1, c1, hsl, st⟩
  refine g_of ?_ hsl st
  clear hsl st act wo
  refine g_cut (fun act wo => ∃ (a2 : Option Addr) (c2 : Nat), HasSl Tryz.f40.ntmps [(3, ptr b3 0), (0, .slice a2 (joinS (xs ++ tagWs r ++ numWs r)).length c2)] act ∧ St W0 (byA a2 c2 (joinS (xs ++ tagWs r ++ numWs r)) :: cel b3 57 (rowC r) :: M :: R) wo) ?_ ?_
  ·
   refine g_seq ?_
   refine g_region ?_
   first | refine gl_v rfl (o_fldS rfl) ?_ | refine gl_v rfl (o_fld rfl) ?_
   first | refine gl_v rfl (o_load rfl rfl) ?_ | refine gl_v rfl (o_loadS rfl rfl) ?_ | refine gl_v rfl (o_loadC rfl) ?_
   refine gl_nil ?_
   refine ge_then ?_
   refine g_cond rfl (fun hc2 => ?_) (fun hc2 => ?_)
   ·
    replace hc2 := hs_ hc2
    have hn : numWs r = [itoaB r.n] := by unfold numWs; rw [if_pos (by simpa using hc2)]
    rw [hn] at hl
    refine g_region ?_
    refine gl_v rfl (o_move rfl) ?_
    first | refine gl_v rfl (o_fldS rfl) ?_ | refine gl_v rfl (o_fld rfl) ?_
    first | refine gl_v rfl (o_load rfl rfl) ?_ | refine gl_v rfl (o_loadS rfl rfl) ?_ | refine gl_v rfl (o_loadC rfl) ?_
    refine gl_c rfl (o_call rfl (Decimal_Z (r.n) (by rcases o2 with h | h; exact h.2; simp_all)) pA) ?_
    rintro _ R ⟨_, ⟨rfl, rfl⟩, rfl⟩
    try simp only [List.cons_append, List.nil_append]
    first | refine gl_n rfl (o_buildS1 rfl rfl rfl) ?_ | refine gl_n rfl (o_buildS1A rfl rfl rfl rfl) ?_ | refine gl_n rfl (o_buildS rfl rfl rfl rfl) ?_
    rintro _ _ ⟨b27, rfl, rfl⟩
    refine gl_c rfl (o_call rfl (pt1 (xs ++ tagWs r) a1 c1 b27 (itoaB r.n) (by first | exact hx | exact hx.more hne _ | (simp only [List.append_assoc]; exact hx.more hne _)) (fun e => absurd e (by first | exact hne | exact ne_app hne _ | (simp only [List.append_assoc]; exact ne_app hne _))) (by simp only [wl_app, wl_cons, wl_nil, List.length_cons, List.length_nil] at *; omega)) pA) ?_
    rintro _ R ⟨_, ⟨a28, c28, rfl, rfl⟩, rfl⟩
    try simp only [List.cons_append, List.nil_append]
    refine gl_v rfl (o_assign rfl) ?_
    refine gl_nil ?_
    exact fun act wo hsl st => ⟨a28, c28, hsl.keep (by rw [hn]; (try rw [List.append_nil]); exact (Keep.cons rfl (Keep.cons rfl (Keep.nil)))), st.imp (by rw [hn]; (try rw [List.append_nil]); exact (tO))⟩
   ·
    replace hc2 := hs_ hc2
    have hn : numWs r = [] := by unfold numWs; rw [if_neg (by simpa using hc2)]
    refine g_skip ?_
    exact fun act wo hsl st => ⟨a1, c1, hsl.keep (by rw [hn]; (try rw [List.append_nil]); exact (Keep.cons rfl (Keep.cons rfl (Keep.nil)))), st.imp (by rw [hn]; (try rw [List.append_nil]); exact (tO))⟩
  ·
   rintro act wo ⟨a2, c2, hsl, st⟩
   refine g_of ?_ hsl st
   clear hsl st act wo
   refine g_seq ?_
   refine g_region ?_
   refine gl_v rfl (o_move rfl) ?_
   first | refine gl_n rfl (o_buildS1 rfl rfl rfl) ?_ | refine gl_n rfl (o_buildS1A rfl rfl rfl rfl) ?_ | refine gl_n rfl (o_buildS rfl rfl rfl rfl) ?_
   rintro _ _ ⟨b30, rfl, rfl⟩
   refine gl_c rfl (o_call rfl (pt1 (xs ++ tagWs r ++ numWs r) a2 c2 b30 (wOpen) (by first | exact hx | exact hx.more hne _ | (simp only [List.append_assoc]; exact hx.more hne _)) (fun e => absurd e (by first | exact hne | exact ne_app hne _ | (simp only [List.append_assoc]; exact ne_app hne _))) (by simp only [wl_app, wl_cons, wl_nil, List.length_cons, List.length_nil] at *; omega)) pA) ?_
   rintro _ R ⟨_, ⟨a31, c31, rfl, rfl⟩, rfl⟩
   try simp only [List.cons_append, List.nil_append]
   refine gl_v rfl (o_assign rfl) ?_
   refine gl_nil ?_
   refine ge_then ?_
   refine g_seq ?_
   refine g_seq ?_
   refine g_region ?_
   refine gl_v rfl (o_assign rfl) ?_
   refine gl_nil ?_
   refine ge_then ?_
   refine g_block ?_
   refine g_loop (ι := Nat × Option Addr × Nat) (fun x => x.1 ≤ r.effs.length) (fun x => [(5, I64 x.1), (3, ptr b3 0), (0, .slice x.2.1 (joinS (xs ++ tagWs r ++ numWs r ++ [wOpen] ++ effsWs (r.effs.take x.1))).length x.2.2)]) (fun x => byA x.2.1 x.2.2 (joinS (xs ++ tagWs r ++ numWs r ++ [wOpen] ++ effsWs (r.effs.take x.1))) :: cel b3 57 (rowC r) :: M :: R) (fun x => r.effs.length - x.1) (0, a31, c31) (Nat.zero_le _) ((by dsimp only; rw [show xs ++ tagWs r ++ numWs r ++ [wOpen] ++ effsWs (r.effs.take 0) = xs ++ tagWs r ++ numWs r ++ [wOpen] from List.append_nil _]; exact (Keep.cons rfl (Keep.cons rfl (Keep.cons rfl (Keep.nil)))))) (by dsimp only; rw [show xs ++ tagWs r ++ numWs r ++ [wOpen] ++ effsWs (r.effs.take 0) = xs ++ tagWs r ++ numWs r ++ [wOpen] from List.append_nil _]; exact (tO)) ?_
   rintro ⟨j, ba, bc⟩ hj
   replace hj : j ≤ r.effs.length := hj
   dsimp only
   refine g_seq ?_
   refine g_seq ?_
   refine g_region ?_
   refine gl_v rfl (o_move rfl) ?_
   first | refine gl_v rfl (o_fldS rfl) ?_ | refine gl_v rfl (o_fld rfl) ?_
   first | refine gl_v rfl (o_load rfl rfl) ?_ | refine gl_v rfl (o_loadS rfl rfl) ?_ | refine gl_v rfl (o_loadC rfl) ?_
   first | refine gl_v rfl (o_len rfl) ?_ | refine gl_v rfl (o_lenL rfl) ?_
   refine gl_v rfl (o_lss rfl rfl) ?_
   refine gl_nil ?_
   refine ge_then ?_
   refine g_cond rfl (fun hc3 => ?_) (fun hc3 => ?_)
   ·
    replace hc3 := hs_ hc3
    obtain ⟨e, hte⟩ : ∃ t, r.effs[j]? = some t := ⟨_, List.getElem?_eq_getElem (show j < r.effs.length by omega)⟩
    have hem := List.mem_of_getElem? hte
    have hwe := wl_effs hte
    have oe := o3 e hem
    obtain ⟨i, hi12, hdo⟩ := effOK_do oe
    obtain ⟨-, -, -, -, -, -, -, f4, -, -, f7⟩ := effOK_inv oe
    obtain ⟨w, hw0⟩ : ∃ w, (verb e.do').1 = w := ⟨_, rfl⟩
    obtain ⟨ps, hps0⟩ : ∃ p, (verb e.do').2 = p := ⟨_, rfl⟩
    have hEW : effWs e = w :: ps.flatMap (partWs e) := by unfold effWs; rw [if_neg (by omega), hw0, hps0]
    have hwW : wl (effWs e) = w.length + 1 + wl (ps.flatMap (partWs e)) := by rw [hEW]; rfl
    rw [hps0] at f4 f7
    have hps3 : ps.length ≤ 3 := by rw [← hps0, hdo]; exact VB_small _ (List.mem_of_getElem? (VB_at hi12))
    refine g_skip ?_
    refine ge_then ?_
    refine g_seq ?_
    refine g_block ?_
    refine g_seq ?_
    refine g_region ?_
    first | refine gl_v rfl (o_fldS rfl) ?_ | refine gl_v rfl (o_fld rfl) ?_
    first | refine gl_v rfl (o_load rfl rfl) ?_ | refine gl_v rfl (o_loadS rfl rfl) ?_ | refine gl_v rfl (o_loadC rfl) ?_
    refine gl_v rfl (o_move rfl) ?_
    refine gl_v rfl (o_idxS rfl rfl (show j < r.effs.length by omega)) ?_
    refine gl_v rfl (o_loadSA rfl (flat_take effC 7 effC_len hte) rfl) ?_
    refine gl_n rfl (o_alloc) ?_
    rintro _ _ ⟨b6, rfl, rfl⟩
    first | refine gl_u (o_storeSA rfl rfl rfl rfl (by simp; omega) (by simp)) ?_ | refine gl_u (o_storeA rfl rfl rfl rfl rfl) ?_
    refine gl_nil ?_
    refine ge_then ?_
    refine g_seq ?_
    refine g_region ?_
    first | refine gl_v rfl (o_fldS rfl) ?_ | refine gl_v rfl (o_fld rfl) ?_
    first | refine gl_v rfl (o_load rfl rfl) ?_ | refine gl_v rfl (o_loadS rfl rfl) ?_ | refine gl_v rfl (o_loadC rfl) ?_
    refine gl_c rfl (o_call rfl (Verb_spec e.do') pA) ?_
    rintro _ R ⟨_, ⟨rfl, rfl⟩, rfl⟩
    try simp only [List.cons_append, List.nil_append]
    rw [hw0, hps0]
    refine gl_v rfl (o_move rfl) ?_
    refine gl_v rfl (o_extract rfl rfl) ?_
    refine gl_v rfl (o_extract rfl rfl) ?_
    refine gl_v rfl (o_assign rfl) ?_
    refine gl_v rfl (o_assign rfl) ?_
    refine gl_nil ?_
    refine ge_then ?_
    refine g_seq ?_
    refine g_region ?_
    refine gl_v rfl (o_move rfl) ?_
    refine gl_v rfl (o_move rfl) ?_
    first | refine gl_n rfl (o_buildS1 rfl rfl rfl) ?_ | refine gl_n rfl (o_buildS1A rfl rfl rfl rfl) ?_ | refine gl_n rfl (o_buildS rfl rfl rfl rfl) ?_
    rintro _ _ ⟨b52, rfl, rfl⟩
    refine gl_c rfl (o_call rfl (pt1 (xs ++ tagWs r ++ numWs r ++ [wOpen] ++ effsWs (r.effs.take j)) ba bc b52 (w) (by first | exact hx | exact hx.more hne _ | (simp only [List.append_assoc]; exact hx.more hne _)) (fun e => absurd e (by first | exact hne | exact ne_app hne _ | (simp only [List.append_assoc]; exact ne_app hne _))) (by simp only [wl_app, wl_cons, wl_nil, List.length_cons, List.length_nil] at *; omega)) pA) ?_
    rintro _ R ⟨_, ⟨a53, c53, rfl, rfl⟩, rfl⟩
    try simp only [List.cons_append, List.nil_append]
    refine gl_v rfl (o_assign rfl) ?_
    refine gl_nil ?_
    refine ge_then ?_
    refine g_seq ?_
    refine g_seq ?_
    refine g_region ?_
    refine gl_v rfl (o_assign rfl) ?_
    refine gl_nil ?_
    refine ge_then ?_
    refine g_block ?_
    refine g_loop (ι := Nat × Option Addr × Nat) (fun x => x.1 ≤ ps.length) (fun x => [(9, I64 x.1), (8, S ps), (6, ptr b6 0), (5, I64 j), (3, ptr b3 0), (0, .slice x.2.1 (joinS (xs ++ tagWs r ++ numWs r ++ [wOpen] ++ effsWs (r.effs.take j) ++ [w] ++ (ps.take x.1).flatMap (partWs e))).length x.2.2)]) (fun x => byA x.2.1 x.2.2 (joinS (xs ++ tagWs r ++ numWs r ++ [wOpen] ++ effsWs (r.effs.take j) ++ [w] ++ (ps.take x.1).flatMap (partWs e))) :: cel b6 59 (effC e) :: cel b3 57 (rowC r) :: M :: R) (fun x => ps.length - x.1) (0, a53, c53) (Nat.zero_le _) ((by dsimp only; rw [show xs ++ tagWs r ++ numWs r ++ [wOpen] ++ effsWs (r.effs.take j) ++ [w] ++ (ps.take 0).flatMap (partWs e) = xs ++ tagWs r ++ numWs r ++ [wOpen] ++ effsWs (r.effs.take j) ++ [w] from List.append_nil _]; exact (Keep.cons rfl (Keep.cons rfl (Keep.cons rfl (Keep.cons rfl (Keep.cons rfl (Keep.cons rfl (Keep.nil))))))))) (by dsimp only; rw [show xs ++ tagWs r ++ numWs r ++ [wOpen] ++ effsWs (r.effs.take j) ++ [w] ++ (ps.take 0).flatMap (partWs e) = xs ++ tagWs r ++ numWs r ++ [wOpen] ++ effsWs (r.effs.take j) ++ [w] from List.append_nil _]; exact (tO)) ?_
    rintro ⟨q, ba, bc⟩ hq
    replace hq : q ≤ ps.length := hq
    dsimp only
    refine g_seq ?_
    refine g_seq ?_
    refine g_region ?_
    refine gl_v rfl (o_move rfl) ?_
    refine gl_v rfl (o_move rfl) ?_
    refine gl_v rfl (o_lens rfl) ?_
    refine gl_v rfl (o_lss rfl rfl) ?_
    refine gl_nil ?_
    refine ge_then ?_
    refine g_cond rfl (fun hc4 => ?_) (fun hc4 => ?_)
    ·
     replace hc4 := hs_ hc4
     obtain ⟨ch, hch⟩ : ∃ t, ps[q]? = some t := ⟨_, List.getElem?_eq_getElem (show q < ps.length by omega)⟩
     have hcm := List.mem_of_getElem? hch
     refine g_skip ?_
     refine ge_then ?_
     refine g_seq ?_
     refine g_block ?_
     refine g_seq ?_
     refine g_region ?_
     refine gl_v rfl (o_move rfl) ?_
     refine gl_v rfl (o_move rfl) ?_
     refine gl_v rfl (o_index_string rfl rfl (hch)) ?_
     refine gl_nil ?_
     refine ge_then ?_
     refine g_block ?_
     refine g_seq ?_
     refine g_region ?_
     refine gl_v rfl (o_eql rfl rfl) ?_
     refine gl_v rfl (o_assign rfl) ?_
     refine gl_nil ?_
     refine ge_then ?_
     refine g_cond rfl (fun hc5 => ?_) (fun hc5 => ?_)
     ·
      replace hc5 := hs_ hc5
      have hw' : partWs e ch = [e.ref] := by unfold partWs; (first | rw [if_pos (by omega)] | rw [if_neg (by omega), if_pos (by omega)] | rw [if_neg (by omega), if_neg (by omega), if_pos (by omega)] | rw [if_neg (by omega), if_neg (by omega), if_neg (by omega), if_pos (by omega)])
      have hwq := wl_part hch hw'
      refine g_region ?_
      refine gl_v rfl (o_move rfl) ?_
      first | refine gl_v rfl (o_fldS rfl) ?_ | refine gl_v rfl (o_fld rfl) ?_
      first | refine gl_v rfl (o_load rfl rfl) ?_ | refine gl_v rfl (o_loadS rfl rfl) ?_ | refine gl_v rfl (o_loadC rfl) ?_
      first | refine gl_n rfl (o_buildS1 rfl rfl rfl) ?_ | refine gl_n rfl (o_buildS1A rfl rfl rfl rfl) ?_ | refine gl_n rfl (o_buildS rfl rfl rfl rfl) ?_
      rintro _ _ ⟨b68, rfl, rfl⟩
      refine gl_c rfl (o_call rfl (pt1 (xs ++ tagWs r ++ numWs r ++ [wOpen] ++ effsWs (r.effs.take j) ++ [w] ++ (ps.take q).flatMap (partWs e)) ba bc b68 (e.ref) (by first | exact hx | exact hx.more hne _ | (simp only [List.append_assoc]; exact hx.more hne _)) (fun e => absurd e (by first | exact hne | exact ne_app hne _ | (simp only [List.append_assoc]; exact ne_app hne _))) (by simp only [wl_app, wl_cons, wl_nil, List.length_cons, List.length_nil] at *; omega)) pA) ?_
      rintro _ R ⟨_, ⟨az, cz, rfl, rfl⟩, rfl⟩
      try simp only [List.cons_append, List.nil_append]
      refine gl_v rfl (o_assign rfl) ?_
      refine gl_nil ?_
      refine ge_block ?_
      refine ge_block ?_
      refine ge_then ?_
      refine g_region ?_
      refine gl_v rfl (o_move rfl) ?_
      refine gl_v rfl (o_addR ((q + 1 : Nat) : Int) (by rw [wr_i64 (by omega)]; omega) rfl rfl) ?_
      refine gl_v rfl (o_assign rfl) ?_
      refine gl_nil ?_
      refine ge_round (q + 1, az, cz) (show q + 1 ≤ ps.length by omega) (by show ps.length - (q + 1) < ps.length - q; omega) (by dsimp only; rw [flat_succ hch, hw', ← List.append_assoc]; exact (Keep.cons rfl (Keep.cons rfl (Keep.cons rfl (Keep.cons rfl (Keep.cons rfl (Keep.cons rfl (Keep.nil)))))))) (by dsimp only; rw [flat_succ hch, hw', ← List.append_assoc]; exact (tO))
     ·
      replace hc5 := hs_ hc5
      refine g_seq ?_
      refine g_region ?_
      refine gl_v rfl (o_eql rfl rfl) ?_
      refine gl_v rfl (o_assign rfl) ?_
      refine gl_nil ?_
      refine ge_then ?_
      refine g_cond rfl (fun hc6 => ?_) (fun hc6 => ?_)
      ·
       replace hc6 := hs_ hc6
       have hw' : partWs e ch = [e.slot] := by unfold partWs; (first | rw [if_pos (by omega)] | rw [if_neg (by omega), if_pos (by omega)] | rw [if_neg (by omega), if_neg (by omega), if_pos (by omega)] | rw [if_neg (by omega), if_neg (by omega), if_neg (by omega), if_pos (by omega)])
       have hwq := wl_part hch hw'
       refine g_region ?_
       refine gl_v rfl (o_move rfl) ?_
       first | refine gl_v rfl (o_fldS rfl) ?_ | refine gl_v rfl (o_fld rfl) ?_
       first | refine gl_v rfl (o_load rfl rfl) ?_ | refine gl_v rfl (o_loadS rfl rfl) ?_ | refine gl_v rfl (o_loadC rfl) ?_
       first | refine gl_n rfl (o_buildS1 rfl rfl rfl) ?_ | refine gl_n rfl (o_buildS1A rfl rfl rfl rfl) ?_ | refine gl_n rfl (o_buildS rfl rfl rfl rfl) ?_
       rintro _ _ ⟨b75, rfl, rfl⟩
       refine gl_c rfl (o_call rfl (pt1 (xs ++ tagWs r ++ numWs r ++ [wOpen] ++ effsWs (r.effs.take j) ++ [w] ++ (ps.take q).flatMap (partWs e)) ba bc b75 (e.slot) (by first | exact hx | exact hx.more hne _ | (simp only [List.append_assoc]; exact hx.more hne _)) (fun e => absurd e (by first | exact hne | exact ne_app hne _ | (simp only [List.append_assoc]; exact ne_app hne _))) (by simp only [wl_app, wl_cons, wl_nil, List.length_cons, List.length_nil] at *; omega)) pA) ?_
       rintro _ R ⟨_, ⟨az, cz, rfl, rfl⟩, rfl⟩
       try simp only [List.cons_append, List.nil_append]
       refine gl_v rfl (o_assign rfl) ?_
       refine gl_nil ?_
       refine ge_block ?_
       refine ge_block ?_
       refine ge_then ?_
       refine g_region ?_
       refine gl_v rfl (o_move rfl) ?_
       refine gl_v rfl (o_addR ((q + 1 : Nat) : Int) (by rw [wr_i64 (by omega)]; omega) rfl rfl) ?_
       refine gl_v rfl (o_assign rfl) ?_
       refine gl_nil ?_
       refine ge_round (q + 1, az, cz) (show q + 1 ≤ ps.length by omega) (by show ps.length - (q + 1) < ps.length - q; omega) (by dsimp only; rw [flat_succ hch, hw', ← List.append_assoc]; exact (Keep.cons rfl (Keep.cons rfl (Keep.cons rfl (Keep.cons rfl (Keep.cons rfl (Keep.cons rfl (Keep.nil)))))))) (by dsimp only; rw [flat_succ hch, hw', ← List.append_assoc]; exact (tO))
      ·
       replace hc6 := hs_ hc6
       refine g_seq ?_
       refine g_region ?_
       refine gl_v rfl (o_eql rfl rfl) ?_
       refine gl_v rfl (o_assign rfl) ?_
       refine gl_nil ?_
       refine ge_then ?_
       refine g_cond rfl (fun hc7 => ?_) (fun hc7 => ?_)
       ·
        replace hc7 := hs_ hc7
        have hw' : partWs e ch = [e.name] := by unfold partWs; (first | rw [if_pos (by omega)] | rw [if_neg (by omega), if_pos (by omega)] | rw [if_neg (by omega), if_neg (by omega), if_pos (by omega)] | rw [if_neg (by omega), if_neg (by omega), if_neg (by omega), if_pos (by omega)])
        have hwq := wl_part hch hw'
        refine g_region ?_
        refine gl_v rfl (o_move rfl) ?_
        first | refine gl_v rfl (o_fldS rfl) ?_ | refine gl_v rfl (o_fld rfl) ?_
        first | refine gl_v rfl (o_load rfl rfl) ?_ | refine gl_v rfl (o_loadS rfl rfl) ?_ | refine gl_v rfl (o_loadC rfl) ?_
        first | refine gl_n rfl (o_buildS1 rfl rfl rfl) ?_ | refine gl_n rfl (o_buildS1A rfl rfl rfl rfl) ?_ | refine gl_n rfl (o_buildS rfl rfl rfl rfl) ?_
        rintro _ _ ⟨b82, rfl, rfl⟩
        refine gl_c rfl (o_call rfl (pt1 (xs ++ tagWs r ++ numWs r ++ [wOpen] ++ effsWs (r.effs.take j) ++ [w] ++ (ps.take q).flatMap (partWs e)) ba bc b82 (e.name) (by first | exact hx | exact hx.more hne _ | (simp only [List.append_assoc]; exact hx.more hne _)) (fun e => absurd e (by first | exact hne | exact ne_app hne _ | (simp only [List.append_assoc]; exact ne_app hne _))) (by simp only [wl_app, wl_cons, wl_nil, List.length_cons, List.length_nil] at *; omega)) pA) ?_
        rintro _ R ⟨_, ⟨az, cz, rfl, rfl⟩, rfl⟩
        try simp only [List.cons_append, List.nil_append]
        refine gl_v rfl (o_assign rfl) ?_
        refine gl_nil ?_
        refine ge_block ?_
        refine ge_block ?_
        refine ge_then ?_
        refine g_region ?_
        refine gl_v rfl (o_move rfl) ?_
        refine gl_v rfl (o_addR ((q + 1 : Nat) : Int) (by rw [wr_i64 (by omega)]; omega) rfl rfl) ?_
        refine gl_v rfl (o_assign rfl) ?_
        refine gl_nil ?_
        refine ge_round (q + 1, az, cz) (show q + 1 ≤ ps.length by omega) (by show ps.length - (q + 1) < ps.length - q; omega) (by dsimp only; rw [flat_succ hch, hw', ← List.append_assoc]; exact (Keep.cons rfl (Keep.cons rfl (Keep.cons rfl (Keep.cons rfl (Keep.cons rfl (Keep.cons rfl (Keep.nil)))))))) (by dsimp only; rw [flat_succ hch, hw', ← List.append_assoc]; exact (tO))
       ·
        replace hc7 := hs_ hc7
        refine g_seq ?_
        refine g_region ?_
        refine gl_v rfl (o_eql rfl rfl) ?_
        refine gl_v rfl (o_assign rfl) ?_
        refine gl_nil ?_
        refine ge_then ?_
        refine g_cond rfl (fun hc8 => ?_) (fun hc8 => ?_)
        ·
         replace hc8 := hs_ hc8
         have hw' : partWs e ch = [itoaB e.delay] := by unfold partWs; (first | rw [if_pos (by omega)] | rw [if_neg (by omega), if_pos (by omega)] | rw [if_neg (by omega), if_neg (by omega), if_pos (by omega)] | rw [if_neg (by omega), if_neg (by omega), if_neg (by omega), if_pos (by omega)])
         have hwq := wl_part hch hw'
         have hde := f4 (has_ch hcm 100 (by show ch.toNat = 100; omega))
         refine g_region ?_
         refine gl_v rfl (o_move rfl) ?_
         first | refine gl_v rfl (o_fldS rfl) ?_ | refine gl_v rfl (o_fld rfl) ?_
         first | refine gl_v rfl (o_load rfl rfl) ?_ | refine gl_v rfl (o_loadS rfl rfl) ?_ | refine gl_v rfl (o_loadC rfl) ?_
         refine gl_c rfl (o_call rfl (Decimal_Z (e.delay) (hde)) pA) ?_
         rintro _ R ⟨_, ⟨rfl, rfl⟩, rfl⟩
         try simp only [List.cons_append, List.nil_append]
         first | refine gl_n rfl (o_buildS1 rfl rfl rfl) ?_ | refine gl_n rfl (o_buildS1A rfl rfl rfl rfl) ?_ | refine gl_n rfl (o_buildS rfl rfl rfl rfl) ?_
         rintro _ _ ⟨b90, rfl, rfl⟩
         refine gl_c rfl (o_call rfl (pt1 (xs ++ tagWs r ++ numWs r ++ [wOpen] ++ effsWs (r.effs.take j) ++ [w] ++ (ps.take q).flatMap (partWs e)) ba bc b90 (itoaB e.delay) (by first | exact hx | exact hx.more hne _ | (simp only [List.append_assoc]; exact hx.more hne _)) (fun e => absurd e (by first | exact hne | exact ne_app hne _ | (simp only [List.append_assoc]; exact ne_app hne _))) (by simp only [wl_app, wl_cons, wl_nil, List.length_cons, List.length_nil] at *; omega)) pA) ?_
         rintro _ R ⟨_, ⟨az, cz, rfl, rfl⟩, rfl⟩
         try simp only [List.cons_append, List.nil_append]
         refine gl_v rfl (o_assign rfl) ?_
         refine gl_nil ?_
         refine ge_block ?_
         refine ge_block ?_
         refine ge_then ?_
         refine g_region ?_
         refine gl_v rfl (o_move rfl) ?_
         refine gl_v rfl (o_addR ((q + 1 : Nat) : Int) (by rw [wr_i64 (by omega)]; omega) rfl rfl) ?_
         refine gl_v rfl (o_assign rfl) ?_
         refine gl_nil ?_
         refine ge_round (q + 1, az, cz) (show q + 1 ≤ ps.length by omega) (by show ps.length - (q + 1) < ps.length - q; omega) (by dsimp only; rw [flat_succ hch, hw', ← List.append_assoc]; exact (Keep.cons rfl (Keep.cons rfl (Keep.cons rfl (Keep.cons rfl (Keep.cons rfl (Keep.cons rfl (Keep.nil)))))))) (by dsimp only; rw [flat_succ hch, hw', ← List.append_assoc]; exact (tO))
        ·
         replace hc8 := hs_ hc8
         refine g_seq ?_
         refine g_region ?_
         refine gl_v rfl (o_eql rfl rfl) ?_
         refine gl_v rfl (o_assign rfl) ?_
         refine gl_nil ?_
         refine ge_then ?_
         refine g_cond rfl (fun hc9 => ?_) (fun hc9 => ?_)
         ·
          replace hc9 := hs_ hc9
          have hv' : partWs e ch = [valWs e] := by unfold partWs; rw [if_neg (by omega), if_neg (by omega), if_neg (by omega), if_neg (by omega), if_pos (by omega)]
          have f8 := f7 (has_ch hcm 118 (by show ch.toNat = 118; omega))
          refine g_seq ?_
          refine g_region ?_
          first | refine gl_v rfl (o_fldS rfl) ?_ | refine gl_v rfl (o_fld rfl) ?_
          first | refine gl_v rfl (o_load rfl rfl) ?_ | refine gl_v rfl (o_loadS rfl rfl) ?_ | refine gl_v rfl (o_loadC rfl) ?_
          refine gl_nil ?_
          refine ge_then ?_
          refine g_block ?_
          refine g_seq ?_
          refine g_region ?_
          refine gl_v rfl (o_eql rfl rfl) ?_
          refine gl_v rfl (o_assign rfl) ?_
          refine gl_nil ?_
          refine ge_then ?_
          refine g_cond rfl (fun hc10 => ?_) (fun hc10 => ?_)
          ·
           replace hc10 := hs_ hc10
           have hw' : partWs e ch = [wKeep] := by rw [hv']; unfold valWs; rw [if_pos (by omega)]
           have hwq := wl_part hch hw'
           refine g_region ?_
           refine gl_v rfl (o_move rfl) ?_
           first | refine gl_n rfl (o_buildS1 rfl rfl rfl) ?_ | refine gl_n rfl (o_buildS1A rfl rfl rfl rfl) ?_ | refine gl_n rfl (o_buildS rfl rfl rfl rfl) ?_
           rintro _ _ ⟨b105, rfl, rfl⟩
           refine gl_c rfl (o_call rfl (pt1 (xs ++ tagWs r ++ numWs r ++ [wOpen] ++ effsWs (r.effs.take j) ++ [w] ++ (ps.take q).flatMap (partWs e)) ba bc b105 (wKeep) (by first | exact hx | exact hx.more hne _ | (simp only [List.append_assoc]; exact hx.more hne _)) (fun e => absurd e (by first | exact hne | exact ne_app hne _ | (simp only [List.append_assoc]; exact ne_app hne _))) (by simp only [wl_app, wl_cons, wl_nil, List.length_cons, List.length_nil] at *; omega)) pA) ?_
           rintro _ R ⟨_, ⟨az, cz, rfl, rfl⟩, rfl⟩
           try simp only [List.cons_append, List.nil_append]
           refine gl_v rfl (o_assign rfl) ?_
           refine gl_nil ?_
           refine ge_block ?_
           refine ge_block ?_
           refine ge_block ?_
           refine ge_then ?_
           refine g_region ?_
           refine gl_v rfl (o_move rfl) ?_
           refine gl_v rfl (o_addR ((q + 1 : Nat) : Int) (by rw [wr_i64 (by omega)]; omega) rfl rfl) ?_
           refine gl_v rfl (o_assign rfl) ?_
           refine gl_nil ?_
           refine ge_round (q + 1, az, cz) (show q + 1 ≤ ps.length by omega) (by show ps.length - (q + 1) < ps.length - q; omega) (by dsimp only; rw [flat_succ hch, hw', ← List.append_assoc]; exact (Keep.cons rfl (Keep.cons rfl (Keep.cons rfl (Keep.cons rfl (Keep.cons rfl (Keep.cons rfl (Keep.nil)))))))) (by dsimp only; rw [flat_succ hch, hw', ← List.append_assoc]; exact (tO))
          ·
           replace hc10 := hs_ hc10
           refine g_seq ?_
           refine g_region ?_
           refine gl_v rfl (o_eql rfl rfl) ?_
           refine gl_v rfl (o_assign rfl) ?_
           refine gl_nil ?_
           refine ge_then ?_
           refine g_cond rfl (fun hc11 => ?_) (fun hc11 => ?_)
           ·
            replace hc11 := hs_ hc11
            have hw' : partWs e ch = [wLess] := by rw [hv']; unfold valWs; rw [if_neg (by omega), if_pos (by omega)]
            have hwq := wl_part hch hw'
            refine g_region ?_
            refine gl_v rfl (o_move rfl) ?_
            first | refine gl_n rfl (o_buildS1 rfl rfl rfl) ?_ | refine gl_n rfl (o_buildS1A rfl rfl rfl rfl) ?_ | refine gl_n rfl (o_buildS rfl rfl rfl rfl) ?_
            rintro _ _ ⟨b110, rfl, rfl⟩
            refine gl_c rfl (o_call rfl (pt1 (xs ++ tagWs r ++ numWs r ++ [wOpen] ++ effsWs (r.effs.take j) ++ [w] ++ (ps.take q).flatMap (partWs e)) ba bc b110 (wLess) (by first | exact hx | exact hx.more hne _ | (simp only [List.append_assoc]; exact hx.more hne _)) (fun e => absurd e (by first | exact hne | exact ne_app hne _ | (simp only [List.append_assoc]; exact ne_app hne _))) (by simp only [wl_app, wl_cons, wl_nil, List.length_cons, List.length_nil] at *; omega)) pA) ?_
            rintro _ R ⟨_, ⟨az, cz, rfl, rfl⟩, rfl⟩
            try simp only [List.cons_append, List.nil_append]
            refine gl_v rfl (o_assign rfl) ?_
            refine gl_nil ?_
            refine ge_block ?_
            refine ge_block ?_
            refine ge_block ?_
            refine ge_then ?_
            refine g_region ?_
            refine gl_v rfl (o_move rfl) ?_
            refine gl_v rfl (o_addR ((q + 1 : Nat) : Int) (by rw [wr_i64 (by omega)]; omega) rfl rfl) ?_
            refine gl_v rfl (o_assign rfl) ?_
            refine gl_nil ?_
            refine ge_round (q + 1, az, cz) (show q + 1 ≤ ps.length by omega) (by show ps.length - (q + 1) < ps.length - q; omega) (by dsimp only; rw [flat_succ hch, hw', ← List.append_assoc]; exact (Keep.cons rfl (Keep.cons rfl (Keep.cons rfl (Keep.cons rfl (Keep.cons rfl (Keep.cons rfl (Keep.nil)))))))) (by dsimp only; rw [flat_succ hch, hw', ← List.append_assoc]; exact (tO))
           ·
            replace hc11 := hs_ hc11
            have hw' : partWs e ch = [itoaB e.n] := by rw [hv']; unfold valWs; rw [if_neg (by omega), if_neg (by omega)]
            have hwq := wl_part hch hw'
            have hne2 : 0 ≤ e.n ∧ e.n ≤ 65535 := by omega
            refine g_region ?_
            refine gl_v rfl (o_move rfl) ?_
            first | refine gl_v rfl (o_fldS rfl) ?_ | refine gl_v rfl (o_fld rfl) ?_
            first | refine gl_v rfl (o_load rfl rfl) ?_ | refine gl_v rfl (o_loadS rfl rfl) ?_ | refine gl_v rfl (o_loadC rfl) ?_
            refine gl_c rfl (o_call rfl (Decimal_Z (e.n) (hne2)) pA) ?_
            rintro _ R ⟨_, ⟨rfl, rfl⟩, rfl⟩
            try simp only [List.cons_append, List.nil_append]
            first | refine gl_n rfl (o_buildS1 rfl rfl rfl) ?_ | refine gl_n rfl (o_buildS1A rfl rfl rfl rfl) ?_ | refine gl_n rfl (o_buildS rfl rfl rfl rfl) ?_
            rintro _ _ ⟨b100, rfl, rfl⟩
            refine gl_c rfl (o_call rfl (pt1 (xs ++ tagWs r ++ numWs r ++ [wOpen] ++ effsWs (r.effs.take j) ++ [w] ++ (ps.take q).flatMap (partWs e)) ba bc b100 (itoaB e.n) (by first | exact hx | exact hx.more hne _ | (simp only [List.append_assoc]; exact hx.more hne _)) (fun e => absurd e (by first | exact hne | exact ne_app hne _ | (simp only [List.append_assoc]; exact ne_app hne _))) (by simp only [wl_app, wl_cons, wl_nil, List.length_cons, List.length_nil] at *; omega)) pA) ?_
            rintro _ R ⟨_, ⟨az, cz, rfl, rfl⟩, rfl⟩
            try simp only [List.cons_append, List.nil_append]
            refine gl_v rfl (o_assign rfl) ?_
            refine gl_nil ?_
            refine ge_block ?_
            refine ge_block ?_
            refine ge_block ?_
            refine ge_then ?_
            refine g_region ?_
            refine gl_v rfl (o_move rfl) ?_
            refine gl_v rfl (o_addR ((q + 1 : Nat) : Int) (by rw [wr_i64 (by omega)]; omega) rfl rfl) ?_
            refine gl_v rfl (o_assign rfl) ?_
            refine gl_nil ?_
            refine ge_round (q + 1, az, cz) (show q + 1 ≤ ps.length by omega) (by show ps.length - (q + 1) < ps.length - q; omega) (by dsimp only; rw [flat_succ hch, hw', ← List.append_assoc]; exact (Keep.cons rfl (Keep.cons rfl (Keep.cons rfl (Keep.cons rfl (Keep.cons rfl (Keep.cons rfl (Keep.nil)))))))) (by dsimp only; rw [flat_succ hch, hw', ← List.append_assoc]; exact (tO))
         ·
          replace hc9 := hs_ hc9
          have hw' : partWs e ch = [] := by unfold partWs; rw [if_neg (by omega), if_neg (by omega), if_neg (by omega), if_neg (by omega), if_neg (by omega)]
          refine g_skip ?_
          refine ge_block ?_
          refine ge_block ?_
          refine ge_then ?_
          refine g_region ?_
          refine gl_v rfl (o_move rfl) ?_
          refine gl_v rfl (o_addR ((q + 1 : Nat) : Int) (by rw [wr_i64 (by omega)]; omega) rfl rfl) ?_
          refine gl_v rfl (o_assign rfl) ?_
          refine gl_nil ?_
          refine ge_round (q + 1, ba, bc) (show q + 1 ≤ ps.length by omega) (by show ps.length - (q + 1) < ps.length - q; omega) (by dsimp only; rw [flat_succ hch, hw', List.append_nil]; exact (Keep.cons rfl (Keep.cons rfl (Keep.cons rfl (Keep.cons rfl (Keep.cons rfl (Keep.cons rfl (Keep.nil)))))))) (by dsimp only; rw [flat_succ hch, hw', List.append_nil]; exact (tO))
    ·
     replace hc4 := hs_ hc4
     obtain rfl : q = ps.length := by omega
     rw [List.take_length, show xs ++ tagWs r ++ numWs r ++ [wOpen] ++ effsWs (r.effs.take j) ++ [w] ++ ps.flatMap (partWs e) = xs ++ tagWs r ++ numWs r ++ [wOpen] ++ effsWs (r.effs.take j) ++ effWs e from by rw [hEW, List.append_assoc]; rfl]
     refine g_exit ?_
     refine ge_then_exit ?_
     refine ge_then_exit ?_
     refine ge_block_exit ?_
     refine ge_then ?_
     refine g_region ?_
     refine gl_v rfl (o_move rfl) ?_
     first | refine gl_n rfl (o_buildS1 rfl rfl rfl) ?_ | refine gl_n rfl (o_buildS1A rfl rfl rfl rfl) ?_ | refine gl_n rfl (o_buildS rfl rfl rfl rfl) ?_
     rintro _ _ ⟨b113, rfl, rfl⟩
     refine gl_c rfl (o_call rfl (pt1 (xs ++ tagWs r ++ numWs r ++ [wOpen] ++ effsWs (r.effs.take j) ++ effWs e) ba bc b113 (wSemi) (by first | exact hx | exact hx.more hne _ | (simp only [List.append_assoc]; exact hx.more hne _)) (fun e => absurd e (by first | exact hne | exact ne_app hne _ | (simp only [List.append_assoc]; exact ne_app hne _))) (by simp only [wl_app, wl_cons, wl_nil, List.length_cons, List.length_nil] at *; omega)) pA) ?_
     rintro _ R ⟨_, ⟨a114, c114, rfl, rfl⟩, rfl⟩
     try simp only [List.cons_append, List.nil_append]
     refine gl_v rfl (o_assign rfl) ?_
     refine gl_nil ?_
     refine ge_block ?_
     refine ge_then ?_
     refine g_region ?_
     refine gl_v rfl (o_move rfl) ?_
     refine gl_v rfl (o_addR ((j + 1 : Nat) : Int) (by rw [wr_i64 (by omega)]; omega) rfl rfl) ?_
     refine gl_v rfl (o_assign rfl) ?_
     refine gl_nil ?_
     refine ge_round (j + 1, a114, c114) (show j + 1 ≤ r.effs.length by omega) (by show r.effs.length - (j + 1) < r.effs.length - j; omega) (by dsimp only; rw [effs_succ hte]; exact (Keep.cons rfl (Keep.cons rfl (Keep.cons rfl (Keep.nil))))) (by dsimp only; rw [effs_succ hte]; exact (tO))
   ·
    replace hc3 := hs_ hc3
    obtain rfl : j = r.effs.length := by omega
    rw [List.take_length]
    refine g_exit ?_
    refine ge_then_exit ?_
    refine ge_then_exit ?_
    refine ge_block_exit ?_
    refine ge_then ?_
    refine g_seq ?_
    refine g_region ?_
    refine gl_v rfl (o_move rfl) ?_
    first | refine gl_n rfl (o_buildS1 rfl rfl rfl) ?_ | refine gl_n rfl (o_buildS1A rfl rfl rfl rfl) ?_ | refine gl_n rfl (o_buildS rfl rfl rfl rfl) ?_
    rintro _ _ ⟨b116, rfl, rfl⟩
    refine gl_c rfl (o_call rfl (pt1 (xs ++ tagWs r ++ numWs r ++ [wOpen] ++ effsWs r.effs) ba bc b116 (wShut) (by first | exact hx | exact hx.more hne _ | (simp only [List.append_assoc]; exact hx.more hne _)) (fun e => absurd e (by first | exact hne | exact ne_app hne _ | (simp only [List.append_assoc]; exact ne_app hne _))) (by simp only [wl_app, wl_cons, wl_nil, List.length_cons, List.length_nil] at *; omega)) pA) ?_
    rintro _ R ⟨_, ⟨a117, c117, rfl, rfl⟩, rfl⟩
    try simp only [List.cons_append, List.nil_append]
    refine gl_v rfl (o_assign rfl) ?_
    refine gl_nil ?_
    refine ge_then ?_
    refine g_ret ?_
    refine ret1 (.inl rfl) rfl rfl [byA a117 c117 (joinS (xs ++ rowWs r)), M] (⟨a117, c117, by rw [show xs ++ rowWs r = xs ++ tagWs r ++ numWs r ++ [wOpen] ++ effsWs r.effs ++ [wShut] from by unfold rowWs; simp only [List.append_assoc]], rfl⟩) (by rw [show xs ++ rowWs r = xs ++ tagWs r ++ numWs r ++ [wOpen] ++ effsWs r.effs ++ [wShut] from by unfold rowWs; simp only [List.append_assoc]]; exact (tO))

theorem wl_take {α : Type} {f : α → List By} {l : List α} {k : Nat} {x : α} (h : l[k]? = some x) : wl ((l.take k).flatMap f) + wl (f x) ≤ wl (l.flatMap f) := by
  have h1 := wl_flat f l (k + 1)
  rw [flatT_succ h, wl_app] at h1
  exact h1
theorem dirWs_word {d : Int} (h : 1 ≤ d ∧ d ≤ 4) : dirWs d = [wordD d] := by
  rcases (show d = 1 ∨ d = 2 ∨ d = 3 ∨ d = 4 by omega) with rfl | rfl | rfl | rfl <;> rfl
theorem many_wl {α : Type} {f : α → List By} (hf : ∀ x, 1 ≤ (f x).length) (l : List α) : l.length ≤ wl (l.flatMap f) := by
  have h1 := len_flat f hf l; have h2 := len_wl (l.flatMap f); omega
theorem o1_row (r : Row) : 1 ≤ (rowWs r).length := by rw [rowWs_len]; omega
theorem o1_cas (c : Cas) : 1 ≤ (casWs c).length := by rw [casWs_len]; omega
theorem o1_sta (c : Sta) : 1 ≤ (staWs c).length := by rw [staWs_len]; omega
theorem o1_knd (c : Knd) : 1 ≤ (kndWs c).length := by rw [kndWs_len]; omega

set_option maxRecDepth 8000 in
set_option maxHeartbeats 3000000 in
theorem Text_spec (M : Assn) (K : List Knd) (a : Option Addr) (c : Nat) (hok : ∀ k ∈ K, kndOK k = true) (hM : ∀ h, M h → PrgOk h a c K) (hl0 : wl (prgWs K) ≤ 100000000) : FnS Tryz.prog 19 [.agg #[.slice a K.length c]] [M] (fun u Bs => u = S (joinS (prgWs K)) ∧ Bs = [M]) := by
 refine fn_body Tryz.func19 rfl rfl rfl ?_
 intro W0 R
 simp only [List.zipIdx_cons, List.zipIdx_nil, List.map_cons, List.map_nil, Nat.zero_add, Nat.reduceAdd, List.cons_append, List.nil_append]
 haveI iK : RdA (.slice a K.length c) M K.length (K.flatMap kndC) := ⟨fun p => (hM _ p).rd.1⟩
 have hKl : K.length ≤ 100000000 := Nat.le_trans (many_wl o1_knd K) hl0
 refine g_seq ?_
 refine g_region ?_
 refine gl_n rfl (o_boxA rfl) ?_
 rintro _ _ ⟨b1, rfl, rfl⟩
 refine gl_v rfl (o_assign rfl) ?_
 refine gl_nil ?_
 refine ge_then ?_
 refine g_seq ?_
 refine g_region ?_
 refine gl_v rfl (o_assign rfl) ?_
 refine gl_nil ?_
 refine ge_then ?_
 refine g_seq ?_
 refine g_seq ?_
 refine g_region ?_
 refine gl_v rfl (o_assign rfl) ?_
 refine gl_nil ?_
 refine ge_then ?_
 refine g_block ?_
 refine g_loop (ι := Nat × Option Addr × Nat) (fun x => x.1 ≤ K.length ∧ OKJ (prgWs (K.take x.1))) (fun x => [(4, I64 x.1), (1, ptr b1 0), (3, .slice x.2.1 (joinS (prgWs (K.take x.1))).length x.2.2)]) (fun x => byA x.2.1 x.2.2 (joinS (prgWs (K.take x.1))) :: cel b1 25 [.slice a K.length c] :: M :: R) (fun x => K.length - x.1) (0, none, 0) (⟨Nat.zero_le _, .inl rfl⟩) (Keep.cons rfl (Keep.cons rfl (Keep.cons rfl (Keep.nil)))) (fun h s => own_nil0 (e := 5) (sz := 1) h ((tO) h s)) ?_
 rintro ⟨j, ba, bc⟩ ⟨hj, hok1⟩
 replace hj : j ≤ K.length := hj
 replace hok1 : OKJ (prgWs (K.take j)) := hok1
 dsimp only
 refine g_seq ?_
 refine g_seq ?_
 refine g_region ?_
 refine gl_v rfl (o_move rfl) ?_
 first | refine gl_v rfl (o_fldS rfl) ?_ | refine gl_v rfl (o_fld rfl) ?_
 first | refine gl_v rfl (o_load rfl rfl) ?_ | refine gl_v rfl (o_loadS rfl rfl) ?_ | refine gl_v rfl (o_loadC rfl) ?_
 first | refine gl_v rfl (o_len rfl) ?_ | refine gl_v rfl (o_lenL rfl) ?_
 refine gl_v rfl (o_lss rfl rfl) ?_
 refine gl_nil ?_
 refine ge_then ?_
 refine g_cond rfl (fun hc1 => ?_) (fun hc1 => ?_)
 ·
  replace hc1 := hs_ hc1
  obtain ⟨k, hk⟩ : ∃ t, K[j]? = some t := ⟨_, List.getElem?_eq_getElem (show j < K.length by omega)⟩
  have hkm := List.mem_of_getElem? hk
  obtain ⟨o1, o2, o3, o4, o5⟩ := kndOK_inv (hok k hkm)
  have hwk : wl (prgWs (K.take j)) + wl (kndWs k) ≤ wl (prgWs K) := wl_take (f := kndWs) hk
  have hwk2 : wl (kndWs k) = wl [wKind, k.name, wOpen, wLimit, itoaB k.limit, wIn, itoaB k.within, wSemi] + wl (k.cases.flatMap casWs) + wl (k.states.flatMap staWs) + 2 := by unfold kndWs topWs; rw [wl_app, wl_app, wl_app]; rfl
  have hcl := many_wl o1_cas k.cases
  have hsl := many_wl o1_sta k.states
  haveI iC : RdA (.slice k.ca k.cases.length k.cc) M k.cases.length (k.cases.flatMap casC) := ⟨fun p => ((hM _ p).kinds k hkm).rdc.1⟩
  haveI iS : RdA (.slice k.sa k.states.length k.sc) M k.states.length (k.states.flatMap staC) := ⟨fun p => ((hM _ p).kinds k hkm).rds.1⟩
  refine g_skip ?_
  refine ge_then ?_
  refine g_seq ?_
  refine g_block ?_
  refine g_seq ?_
  refine g_region ?_
  first | refine gl_v rfl (o_fldS rfl) ?_ | refine gl_v rfl (o_fld rfl) ?_
  first | refine gl_v rfl (o_load rfl rfl) ?_ | refine gl_v rfl (o_loadS rfl rfl) ?_ | refine gl_v rfl (o_loadC rfl) ?_
  refine gl_v rfl (o_move rfl) ?_
  refine gl_v rfl (o_idxS rfl rfl (show j < K.length by omega)) ?_
  refine gl_v rfl (o_loadSA rfl (flat_take kndC 5 kndC_len hk) rfl) ?_
  refine gl_n rfl (o_alloc) ?_
  rintro _ _ ⟨b5, rfl, rfl⟩
  first | refine gl_u (o_storeSA rfl rfl rfl rfl (by simp; omega) (by simp)) ?_ | refine gl_u (o_storeA rfl rfl rfl rfl rfl) ?_
  refine gl_nil ?_
  refine ge_then ?_
  refine g_seq ?_
  refine g_draw [5, 8, 9, 10] [5, 8, 9] [(0, .stab), (1, .stab), (2, .stab), (3, .loc), (4, .loc), (6, .stab), (7, .stab), (5, .eff), (8, .eff), (9, .eff), (10, .eff), (11, .loc)] [cel b5 51 (kndC k)] mixed (by kernel_rfl) ?_
  refine go_vs rfl .none rfl (o_move rfl) (tO) ?_
  first | refine go_vs rfl .none rfl (o_fldS rfl) (tO) ?_ | refine go_vs rfl .none rfl (o_fld rfl) (tO) ?_
  first | refine go_vs rfl .none rfl (o_load rfl rfl) (tO) ?_ | refine go_vs rfl .none rfl (o_loadS rfl rfl) (tO) ?_ | refine go_vs rfl .none rfl (o_loadC rfl) (tO) ?_
  first | refine go_v rfl .none rfl (o_fldS rfl) ?_ | refine go_v rfl .none rfl (o_fld rfl) ?_
  first | refine go_v rfl .none rfl (o_load rfl rfl) ?_ | refine go_v rfl .none rfl (o_loadS rfl rfl) ?_ | refine go_v rfl .none rfl (o_loadC rfl) ?_
  first | refine go_vs rfl .none rfl (o_fldS rfl) (tO) ?_ | refine go_vs rfl .none rfl (o_fld rfl) (tO) ?_
  first | refine go_vs rfl .none rfl (o_load rfl rfl) (tO) ?_ | refine go_vs rfl .none rfl (o_loadS rfl rfl) (tO) ?_ | refine go_vs rfl .none rfl (o_loadC rfl) (tO) ?_
  refine go_c rfl .none rfl (o_call rfl (Decimal_Z (k.limit) o2) pA) ?_
  rintro _ R ⟨_, ⟨rfl, rfl⟩, rfl⟩
  try simp only [List.cons_append, List.nil_append]
  refine ⟨(fun _ => (tO)), ?_⟩
  refine go_c rfl .none rfl (o_call rfl (Decimal_Z (k.within) o3) pA) ?_
  rintro _ R ⟨_, ⟨rfl, rfl⟩, rfl⟩
  try simp only [List.cons_append, List.nil_append]
  refine ⟨(fun _ => (tO)), ?_⟩
  refine go_n rfl .none rfl (o_buildS rfl rfl rfl rfl) ?_
  rintro _ _ ⟨b31, rfl, rfl⟩
  refine ⟨(fun _ => (tO)), ?_⟩
  refine go_c rfl .none rfl (o_call rfl (pt8 (prgWs (K.take j)) ba bc b31 (wKind) (k.name) (wOpen) (wLimit) (itoaB k.limit) (wIn) (itoaB k.within) (wSemi) hok1 (fun _ => by decide) (by simp only [wl_app, wl_cons, wl_nil, List.length_cons, List.length_nil] at *; omega)) pA) ?_
  rintro _ R ⟨_, ⟨a32, c32, rfl, rfl⟩, rfl⟩
  try simp only [List.cons_append, List.nil_append]
  obtain ⟨xs, hxt⟩ : ∃ xs, prgWs (K.take j) ++ topWs k = xs := ⟨_, rfl⟩
  have hxs : prgWs (K.take j) ++ [wKind, k.name, wOpen, wLimit, itoaB k.limit, wIn, itoaB k.within, wSemi] = xs := hxt
  rw [hxs]
  have hne : xs ≠ [] := fun e => by rw [← hxs] at e; cases (List.append_eq_nil_iff.1 e).2
  have hx : OKJ xs := by rw [← hxs]; exact OKJ.app _ hok1 (fun _ w h => by simp only [List.head?_cons, Option.some.injEq] at h; rw [← h]; decide)
  have hl : wl xs + wl (k.cases.flatMap casWs) + wl (k.states.flatMap staWs) + 2 ≤ 100000000 := by rw [← hxs, wl_app]; omega
  refine ⟨(fun hG => absurd hG (by decide)), ?_⟩
  refine go_v rfl .none rfl (o_assign rfl) ?_
  refine go_nil ?_
  refine ge_then ?_
  refine g_seq ?_
  refine g_seq ?_
  refine g_region ?_
  refine gl_v rfl (o_assign rfl) ?_
  refine gl_nil ?_
  refine ge_then ?_
  refine g_block ?_
  refine g_loop (ι := Nat × Option Addr × Nat) (fun x => x.1 ≤ k.cases.length) (fun x => [(6, I64 x.1), (5, ptr b5 0), (4, I64 j), (1, ptr b1 0), (3, .slice x.2.1 (joinS (xs ++ (k.cases.take x.1).flatMap casWs)).length x.2.2)]) (fun x => byA x.2.1 x.2.2 (joinS (xs ++ (k.cases.take x.1).flatMap casWs)) :: cel b5 51 (kndC k) :: cel b1 25 [.slice a K.length c] :: M :: R) (fun x => k.cases.length - x.1) (0, a32, c32) (Nat.zero_le _) ((by dsimp only; rw [show xs ++ (k.cases.take 0).flatMap casWs = xs from List.append_nil _]; exact (Keep.cons rfl (Keep.cons rfl (Keep.cons rfl (Keep.cons rfl (Keep.cons rfl (Keep.nil)))))))) (by dsimp only; rw [show xs ++ (k.cases.take 0).flatMap casWs = xs from List.append_nil _]; exact (tO)) ?_
  rintro ⟨q, ba, bc⟩ hq
  replace hq : q ≤ k.cases.length := hq
  dsimp only
  refine g_seq ?_
  refine g_seq ?_
  refine g_region ?_
  refine gl_v rfl (o_move rfl) ?_
  first | refine gl_v rfl (o_fldS rfl) ?_ | refine gl_v rfl (o_fld rfl) ?_
  first | refine gl_v rfl (o_load rfl rfl) ?_ | refine gl_v rfl (o_loadS rfl rfl) ?_ | refine gl_v rfl (o_loadC rfl) ?_
  first | refine gl_v rfl (o_len rfl) ?_ | refine gl_v rfl (o_lenL rfl) ?_
  refine gl_v rfl (o_lss rfl rfl) ?_
  refine gl_nil ?_
  refine ge_then ?_
  refine g_cond rfl (fun hc2 => ?_) (fun hc2 => ?_)
  ·
   replace hc2 := hs_ hc2
   obtain ⟨c1, hc⟩ : ∃ t, k.cases[q]? = some t := ⟨_, List.getElem?_eq_getElem (show q < k.cases.length by omega)⟩
   have hcm := List.mem_of_getElem? hc
   have hdw := dirWs_word (casOK_inv (o4 c1 hcm)).2
   have hwc := wl_take (f := casWs) hc
   refine g_skip ?_
   refine ge_then ?_
   refine g_seq ?_
   refine g_block ?_
   refine g_seq ?_
   refine g_region ?_
   first | refine gl_v rfl (o_fldS rfl) ?_ | refine gl_v rfl (o_fld rfl) ?_
   first | refine gl_v rfl (o_load rfl rfl) ?_ | refine gl_v rfl (o_loadS rfl rfl) ?_ | refine gl_v rfl (o_loadC rfl) ?_
   refine gl_v rfl (o_move rfl) ?_
   refine gl_v rfl (o_idxS rfl rfl (show q < k.cases.length by omega)) ?_
   refine gl_v rfl (o_loadSA rfl (flat_take casC 2 casC_len hc) rfl) ?_
   refine gl_n rfl (o_alloc) ?_
   rintro _ _ ⟨b7, rfl, rfl⟩
   first | refine gl_u (o_storeSA rfl rfl rfl rfl (by simp; omega) (by simp)) ?_ | refine gl_u (o_storeA rfl rfl rfl rfl rfl) ?_
   refine gl_nil ?_
   refine ge_then ?_
   refine g_seq ?_
   refine g_region ?_
   first | refine gl_v rfl (o_fldS rfl) ?_ | refine gl_v rfl (o_fld rfl) ?_
   first | refine gl_v rfl (o_load rfl rfl) ?_ | refine gl_v rfl (o_loadS rfl rfl) ?_ | refine gl_v rfl (o_loadC rfl) ?_
   refine gl_v rfl (o_eqls rfl rfl) ?_
   refine gl_nil ?_
   refine ge_then ?_
   refine g_cond rfl (fun hc3 => ?_) (fun hc3 => ?_)
   ·
    replace hc3 := hs_ hc3
    have hcw : casWs c1 = [wElse, wordD c1.do', wSemi] := by unfold casWs hdWs; rw [if_pos (by simpa using hc3), hdw]; rfl
    rw [hcw] at hwc
    refine g_region ?_
    refine gl_v rfl (o_move rfl) ?_
    first | refine gl_v rfl (o_fldS rfl) ?_ | refine gl_v rfl (o_fld rfl) ?_
    first | refine gl_v rfl (o_load rfl rfl) ?_ | refine gl_v rfl (o_loadS rfl rfl) ?_ | refine gl_v rfl (o_loadC rfl) ?_
    refine gl_c rfl (o_call rfl (Word_spec c1.do') pA) ?_
    rintro _ R ⟨_, ⟨rfl, rfl⟩, rfl⟩
    try simp only [List.cons_append, List.nil_append]
    refine gl_n rfl (o_buildS rfl rfl rfl rfl) ?_
    rintro _ _ ⟨b52, rfl, rfl⟩
    refine gl_c rfl (o_call rfl (pt3 (xs ++ (k.cases.take q).flatMap casWs) ba bc b52 (wElse) (wordD c1.do') (wSemi) (by first | exact hx | exact hx.more hne _ | (simp only [List.append_assoc]; exact hx.more hne _)) (fun e => absurd e (by first | exact hne | exact ne_app hne _ | (simp only [List.append_assoc]; exact ne_app hne _))) (by simp only [wl_app, wl_cons, wl_nil, List.length_cons, List.length_nil] at *; omega)) pA) ?_
    rintro _ R ⟨_, ⟨a53, c53, rfl, rfl⟩, rfl⟩
    try simp only [List.cons_append, List.nil_append]
    refine gl_v rfl (o_assign rfl) ?_
    refine gl_nil ?_
    refine ge_block ?_
    refine ge_then ?_
    refine g_region ?_
    refine gl_v rfl (o_move rfl) ?_
    refine gl_v rfl (o_addR ((q + 1 : Nat) : Int) (by rw [wr_i64 (by omega)]; omega) rfl rfl) ?_
    refine gl_v rfl (o_assign rfl) ?_
    refine gl_nil ?_
    refine ge_round (q + 1, a53, c53) (show q + 1 ≤ k.cases.length by omega) (by show k.cases.length - (q + 1) < k.cases.length - q; omega) (by dsimp only; rw [app_succ hc, hcw]; exact (Keep.cons rfl (Keep.cons rfl (Keep.cons rfl (Keep.cons rfl (Keep.cons rfl (Keep.nil))))))) (by dsimp only; rw [app_succ hc, hcw]; exact (tO))
   ·
    replace hc3 := hs_ hc3
    have hcw : casWs c1 = [wCase, c1.reason, wordD c1.do', wSemi] := by unfold casWs hdWs; rw [if_neg (by simpa using hc3), hdw]; rfl
    rw [hcw] at hwc
    refine g_draw [5, 6, 7] [5, 6] [(0, .stab), (1, .stab), (2, .stab), (3, .loc), (4, .loc), (5, .eff), (6, .eff), (7, .eff), (8, .loc)] [cel b7 78 (casC c1)] mixed (by kernel_rfl) ?_
    refine go_vs rfl .none rfl (o_move rfl) (tO) ?_
    first | refine go_vs rfl .none rfl (o_fldS rfl) (tO) ?_ | refine go_vs rfl .none rfl (o_fld rfl) (tO) ?_
    first | refine go_vs rfl .none rfl (o_load rfl rfl) (tO) ?_ | refine go_vs rfl .none rfl (o_loadS rfl rfl) (tO) ?_ | refine go_vs rfl .none rfl (o_loadC rfl) (tO) ?_
    first | refine go_v rfl .none rfl (o_fldS rfl) ?_ | refine go_v rfl .none rfl (o_fld rfl) ?_
    first | refine go_v rfl .none rfl (o_load rfl rfl) ?_ | refine go_v rfl .none rfl (o_loadS rfl rfl) ?_ | refine go_v rfl .none rfl (o_loadC rfl) ?_
    refine go_c rfl .none rfl (o_call rfl (Word_spec c1.do') pA) ?_
    rintro _ R ⟨_, ⟨rfl, rfl⟩, rfl⟩
    try simp only [List.cons_append, List.nil_append]
    refine ⟨(fun _ => (tO)), ?_⟩
    refine go_n rfl .none rfl (o_buildS rfl rfl rfl rfl) ?_
    rintro _ _ ⟨b60, rfl, rfl⟩
    refine ⟨(fun _ => (tO)), ?_⟩
    refine go_c rfl .none rfl (o_call rfl (pt4 (xs ++ (k.cases.take q).flatMap casWs) ba bc b60 (wCase) (c1.reason) (wordD c1.do') (wSemi) (by first | exact hx | exact hx.more hne _ | (simp only [List.append_assoc]; exact hx.more hne _)) (fun e => absurd e (by first | exact hne | exact ne_app hne _ | (simp only [List.append_assoc]; exact ne_app hne _))) (by simp only [wl_app, wl_cons, wl_nil, List.length_cons, List.length_nil] at *; omega)) pA) ?_
    rintro _ R ⟨_, ⟨a61, c61, rfl, rfl⟩, rfl⟩
    try simp only [List.cons_append, List.nil_append]
    refine ⟨(fun hG => absurd hG (by decide)), ?_⟩
    refine go_v rfl .none rfl (o_assign rfl) ?_
    refine go_nil ?_
    refine ge_block ?_
    refine ge_then ?_
    refine g_region ?_
    refine gl_v rfl (o_move rfl) ?_
    refine gl_v rfl (o_addR ((q + 1 : Nat) : Int) (by rw [wr_i64 (by omega)]; omega) rfl rfl) ?_
    refine gl_v rfl (o_assign rfl) ?_
    refine gl_nil ?_
    refine ge_round (q + 1, a61, c61) (show q + 1 ≤ k.cases.length by omega) (by show k.cases.length - (q + 1) < k.cases.length - q; omega) (by dsimp only; rw [app_succ hc, hcw]; exact (Keep.cons rfl (Keep.cons rfl (Keep.cons rfl (Keep.cons rfl (Keep.cons rfl (Keep.nil))))))) (by dsimp only; rw [app_succ hc, hcw]; exact (tO))
  ·
   replace hc2 := hs_ hc2
   obtain rfl : q = k.cases.length := by omega
   rw [List.take_length]
   refine g_exit ?_
   refine ge_then_exit ?_
   refine ge_then_exit ?_
   refine ge_block_exit ?_
   refine ge_then ?_
   refine g_seq ?_
   refine g_seq ?_
   refine g_region ?_
   refine gl_v rfl (o_assign rfl) ?_
   refine gl_nil ?_
   refine ge_then ?_
   refine g_block ?_
   refine g_loop (ι := Nat × Option Addr × Nat) (fun x => x.1 ≤ k.states.length) (fun x => [(8, I64 x.1), (5, ptr b5 0), (4, I64 j), (1, ptr b1 0), (3, .slice x.2.1 (joinS (xs ++ k.cases.flatMap casWs ++ (k.states.take x.1).flatMap staWs)).length x.2.2)]) (fun x => byA x.2.1 x.2.2 (joinS (xs ++ k.cases.flatMap casWs ++ (k.states.take x.1).flatMap staWs)) :: cel b5 51 (kndC k) :: cel b1 25 [.slice a K.length c] :: M :: R) (fun x => k.states.length - x.1) (0, ba, bc) (Nat.zero_le _) ((by dsimp only; rw [show xs ++ k.cases.flatMap casWs ++ (k.states.take 0).flatMap staWs = xs ++ k.cases.flatMap casWs from List.append_nil _]; exact (Keep.cons rfl (Keep.cons rfl (Keep.cons rfl (Keep.cons rfl (Keep.cons rfl (Keep.nil)))))))) (by dsimp only; rw [show xs ++ k.cases.flatMap casWs ++ (k.states.take 0).flatMap staWs = xs ++ k.cases.flatMap casWs from List.append_nil _]; exact (tO)) ?_
   rintro ⟨q, ba, bc⟩ hq
   replace hq : q ≤ k.states.length := hq
   dsimp only
   refine g_seq ?_
   refine g_seq ?_
   refine g_region ?_
   refine gl_v rfl (o_move rfl) ?_
   first | refine gl_v rfl (o_fldS rfl) ?_ | refine gl_v rfl (o_fld rfl) ?_
   first | refine gl_v rfl (o_load rfl rfl) ?_ | refine gl_v rfl (o_loadS rfl rfl) ?_ | refine gl_v rfl (o_loadC rfl) ?_
   first | refine gl_v rfl (o_len rfl) ?_ | refine gl_v rfl (o_lenL rfl) ?_
   refine gl_v rfl (o_lss rfl rfl) ?_
   refine gl_nil ?_
   refine ge_then ?_
   refine g_cond rfl (fun hc4 => ?_) (fun hc4 => ?_)
   ·
    replace hc4 := hs_ hc4
    obtain ⟨s, hts⟩ : ∃ t, k.states[q]? = some t := ⟨_, List.getElem?_eq_getElem (show q < k.states.length by omega)⟩
    have hsm := List.mem_of_getElem? hts
    obtain ⟨s1, s2⟩ := staOK_inv (o5 s hsm)
    have hws := wl_take (f := staWs) hts
    have hws2 : wl (staWs s) = wl [wState, s.name, wOpen] + wl (s.rows.flatMap rowWs) + 2 := by unfold staWs; rw [wl_app, wl_app]; rfl
    have hrl := many_wl o1_row s.rows
    haveI iR : RdA (.slice s.ra s.rows.length s.rc) M s.rows.length (s.rows.flatMap rowC) := ⟨fun p => (((hM _ p).kinds k hkm).states s hsm).rd.1⟩
    refine g_skip ?_
    refine ge_then ?_
    refine g_seq ?_
    refine g_block ?_
    refine g_seq ?_
    refine g_region ?_
    refine gl_v rfl (o_move rfl) ?_
    first | refine gl_v rfl (o_fldS rfl) ?_ | refine gl_v rfl (o_fld rfl) ?_
    first | refine gl_v rfl (o_load rfl rfl) ?_ | refine gl_v rfl (o_loadS rfl rfl) ?_ | refine gl_v rfl (o_loadC rfl) ?_
    refine gl_v rfl (o_move rfl) ?_
    refine gl_v rfl (o_idxS rfl rfl (show q < k.states.length by omega)) ?_
    first | refine gl_v rfl (o_fldS rfl) ?_ | refine gl_v rfl (o_fld rfl) ?_
    refine gl_v rfl (o_loadS rfl (flat_get staC 2 staC_len hts (show (staC _)[0]? = some _ from rfl))) ?_
    refine gl_n rfl (o_buildS rfl rfl rfl rfl) ?_
    rintro _ _ ⟨b76, rfl, rfl⟩
    refine gl_c rfl (o_call rfl (pt3 (xs ++ k.cases.flatMap casWs ++ (k.states.take q).flatMap staWs) ba bc b76 (wState) (s.name) (wOpen) (by first | exact hx | exact hx.more hne _ | (simp only [List.append_assoc]; exact hx.more hne _)) (fun e => absurd e (by first | exact hne | exact ne_app hne _ | (simp only [List.append_assoc]; exact ne_app hne _))) (by simp only [wl_app, wl_cons, wl_nil, List.length_cons, List.length_nil] at *; omega)) pA) ?_
    rintro _ R ⟨_, ⟨a77, c77, rfl, rfl⟩, rfl⟩
    try simp only [List.cons_append, List.nil_append]
    refine gl_v rfl (o_assign rfl) ?_
    refine gl_nil ?_
    refine ge_then ?_
    refine g_seq ?_
    refine g_seq ?_
    refine g_region ?_
    refine gl_v rfl (o_assign rfl) ?_
    refine gl_nil ?_
    refine ge_then ?_
    refine g_block ?_
    refine g_loop (ι := Nat × Option Addr × Nat) (fun x => x.1 ≤ s.rows.length) (fun x => [(9, I64 x.1), (8, I64 q), (5, ptr b5 0), (4, I64 j), (1, ptr b1 0), (3, .slice x.2.1 (joinS (xs ++ k.cases.flatMap casWs ++ (k.states.take q).flatMap staWs ++ [wState, s.name, wOpen] ++ (s.rows.take x.1).flatMap rowWs)).length x.2.2)]) (fun x => byA x.2.1 x.2.2 (joinS (xs ++ k.cases.flatMap casWs ++ (k.states.take q).flatMap staWs ++ [wState, s.name, wOpen] ++ (s.rows.take x.1).flatMap rowWs)) :: cel b5 51 (kndC k) :: cel b1 25 [.slice a K.length c] :: M :: R) (fun x => s.rows.length - x.1) (0, a77, c77) (Nat.zero_le _) ((by dsimp only; rw [show xs ++ k.cases.flatMap casWs ++ (k.states.take q).flatMap staWs ++ [wState, s.name, wOpen] ++ (s.rows.take 0).flatMap rowWs = xs ++ k.cases.flatMap casWs ++ (k.states.take q).flatMap staWs ++ [wState, s.name, wOpen] from List.append_nil _]; exact (Keep.cons rfl (Keep.cons rfl (Keep.cons rfl (Keep.cons rfl (Keep.cons rfl (Keep.cons rfl (Keep.nil))))))))) (by dsimp only; rw [show xs ++ k.cases.flatMap casWs ++ (k.states.take q).flatMap staWs ++ [wState, s.name, wOpen] ++ (s.rows.take 0).flatMap rowWs = xs ++ k.cases.flatMap casWs ++ (k.states.take q).flatMap staWs ++ [wState, s.name, wOpen] from List.append_nil _]; exact (tO)) ?_
    rintro ⟨n, ba, bc⟩ hn
    replace hn : n ≤ s.rows.length := hn
    dsimp only
    refine g_seq ?_
    refine g_seq ?_
    refine g_region ?_
    refine gl_v rfl (o_move rfl) ?_
    first | refine gl_v rfl (o_fldS rfl) ?_ | refine gl_v rfl (o_fld rfl) ?_
    first | refine gl_v rfl (o_load rfl rfl) ?_ | refine gl_v rfl (o_loadS rfl rfl) ?_ | refine gl_v rfl (o_loadC rfl) ?_
    refine gl_v rfl (o_move rfl) ?_
    refine gl_v rfl (o_idxS rfl rfl (show q < k.states.length by omega)) ?_
    first | refine gl_v rfl (o_fldS rfl) ?_ | refine gl_v rfl (o_fld rfl) ?_
    refine gl_v rfl (o_loadS rfl (flat_get staC 2 staC_len hts (show (staC _)[1]? = some _ from rfl))) ?_
    first | refine gl_v rfl (o_len rfl) ?_ | refine gl_v rfl (o_lenL rfl) ?_
    refine gl_v rfl (o_lss rfl rfl) ?_
    refine gl_nil ?_
    refine ge_then ?_
    refine g_cond rfl (fun hc5 => ?_) (fun hc5 => ?_)
    ·
     replace hc5 := hs_ hc5
     obtain ⟨r, htr⟩ : ∃ t, s.rows[n]? = some t := ⟨_, List.getElem?_eq_getElem (show n < s.rows.length by omega)⟩
     have hrm := List.mem_of_getElem? htr
     have hwr := wl_take (f := rowWs) htr
     refine g_skip ?_
     refine ge_then ?_
     refine g_seq ?_
     refine g_block ?_
     refine g_region ?_
     refine gl_v rfl (o_move rfl) ?_
     first | refine gl_v rfl (o_fldS rfl) ?_ | refine gl_v rfl (o_fld rfl) ?_
     first | refine gl_v rfl (o_load rfl rfl) ?_ | refine gl_v rfl (o_loadS rfl rfl) ?_ | refine gl_v rfl (o_loadC rfl) ?_
     refine gl_v rfl (o_move rfl) ?_
     refine gl_v rfl (o_idxS rfl rfl (show q < k.states.length by omega)) ?_
     first | refine gl_v rfl (o_fldS rfl) ?_ | refine gl_v rfl (o_fld rfl) ?_
     refine gl_v rfl (o_loadS rfl (flat_get staC 2 staC_len hts (show (staC _)[1]? = some _ from rfl))) ?_
     refine gl_v rfl (o_move rfl) ?_
     refine gl_v rfl (o_idxS rfl rfl (show n < s.rows.length by omega)) ?_
     refine gl_v rfl (o_loadSA rfl (flat_take rowC 4 rowC_len htr) rfl) ?_
     refine gl_c rfl (o_call rfl (rowT_spec M r (s2 r hrm) (fun h p => (((hM h p).kinds k hkm).states s hsm).rows r hrm) (xs ++ k.cases.flatMap casWs ++ (k.states.take q).flatMap staWs ++ [wState, s.name, wOpen] ++ (s.rows.take n).flatMap rowWs) ba bc (by first | exact hx | exact hx.more hne _ | (simp only [List.append_assoc]; exact hx.more hne _)) (by first | exact ne_app hne _ | (simp only [List.append_assoc]; exact ne_app hne _)) (by simp only [wl_app, wl_cons, wl_nil, List.length_cons, List.length_nil] at *; omega)) pA) ?_
     rintro _ R ⟨_, ⟨a99, c99, rfl, rfl⟩, rfl⟩
     try simp only [List.cons_append, List.nil_append]
     refine gl_v rfl (o_assign rfl) ?_
     refine gl_nil ?_
     refine ge_block ?_
     refine ge_then ?_
     refine g_region ?_
     refine gl_v rfl (o_move rfl) ?_
     refine gl_v rfl (o_addR ((n + 1 : Nat) : Int) (by rw [wr_i64 (by omega)]; omega) rfl rfl) ?_
     refine gl_v rfl (o_assign rfl) ?_
     refine gl_nil ?_
     refine ge_round (n + 1, a99, c99) (show n + 1 ≤ s.rows.length by omega) (by show s.rows.length - (n + 1) < s.rows.length - n; omega) (by dsimp only; rw [app_succ htr]; exact (Keep.cons rfl (Keep.cons rfl (Keep.cons rfl (Keep.cons rfl (Keep.cons rfl (Keep.cons rfl (Keep.nil)))))))) (by dsimp only; rw [app_succ htr]; exact (tO))
    ·
     replace hc5 := hs_ hc5
     obtain rfl : n = s.rows.length := by omega
     rw [List.take_length]
     refine g_exit ?_
     refine ge_then_exit ?_
     refine ge_then_exit ?_
     refine ge_block_exit ?_
     refine ge_then ?_
     refine g_region ?_
     refine gl_v rfl (o_move rfl) ?_
     first | refine gl_n rfl (o_buildS1 rfl rfl rfl) ?_ | refine gl_n rfl (o_buildS1A rfl rfl rfl rfl) ?_ | refine gl_n rfl (o_buildS rfl rfl rfl rfl) ?_
     rintro _ _ ⟨b101, rfl, rfl⟩
     refine gl_c rfl (o_call rfl (pt1 (xs ++ k.cases.flatMap casWs ++ (k.states.take q).flatMap staWs ++ [wState, s.name, wOpen] ++ s.rows.flatMap rowWs) ba bc b101 (wShut) (by first | exact hx | exact hx.more hne _ | (simp only [List.append_assoc]; exact hx.more hne _)) (fun e => absurd e (by first | exact hne | exact ne_app hne _ | (simp only [List.append_assoc]; exact ne_app hne _))) (by simp only [wl_app, wl_cons, wl_nil, List.length_cons, List.length_nil] at *; omega)) pA) ?_
     rintro _ R ⟨_, ⟨a102, c102, rfl, rfl⟩, rfl⟩
     try simp only [List.cons_append, List.nil_append]
     refine gl_v rfl (o_assign rfl) ?_
     refine gl_nil ?_
     refine ge_block ?_
     refine ge_then ?_
     refine g_region ?_
     refine gl_v rfl (o_move rfl) ?_
     refine gl_v rfl (o_addR ((q + 1 : Nat) : Int) (by rw [wr_i64 (by omega)]; omega) rfl rfl) ?_
     refine gl_v rfl (o_assign rfl) ?_
     refine gl_nil ?_
     refine ge_round (q + 1, a102, c102) (show q + 1 ≤ k.states.length by omega) (by show k.states.length - (q + 1) < k.states.length - q; omega) (by dsimp only; rw [show xs ++ k.cases.flatMap casWs ++ (k.states.take (q + 1)).flatMap staWs = xs ++ k.cases.flatMap casWs ++ (k.states.take q).flatMap staWs ++ [wState, s.name, wOpen] ++ s.rows.flatMap rowWs ++ [wShut] from by rw [app_succ hts]; unfold staWs; simp only [List.append_assoc]]; exact (Keep.cons rfl (Keep.cons rfl (Keep.cons rfl (Keep.cons rfl (Keep.cons rfl (Keep.nil))))))) (by dsimp only; rw [show xs ++ k.cases.flatMap casWs ++ (k.states.take (q + 1)).flatMap staWs = xs ++ k.cases.flatMap casWs ++ (k.states.take q).flatMap staWs ++ [wState, s.name, wOpen] ++ s.rows.flatMap rowWs ++ [wShut] from by rw [app_succ hts]; unfold staWs; simp only [List.append_assoc]]; exact (tO))
   ·
    replace hc4 := hs_ hc4
    obtain rfl : q = k.states.length := by omega
    rw [List.take_length]
    refine g_exit ?_
    refine ge_then_exit ?_
    refine ge_then_exit ?_
    refine ge_block_exit ?_
    refine ge_then ?_
    refine g_region ?_
    refine gl_v rfl (o_move rfl) ?_
    first | refine gl_n rfl (o_buildS1 rfl rfl rfl) ?_ | refine gl_n rfl (o_buildS1A rfl rfl rfl rfl) ?_ | refine gl_n rfl (o_buildS rfl rfl rfl rfl) ?_
    rintro _ _ ⟨b104, rfl, rfl⟩
    refine gl_c rfl (o_call rfl (pt1 (xs ++ k.cases.flatMap casWs ++ k.states.flatMap staWs) ba bc b104 (wShut) (by first | exact hx | exact hx.more hne _ | (simp only [List.append_assoc]; exact hx.more hne _)) (fun e => absurd e (by first | exact hne | exact ne_app hne _ | (simp only [List.append_assoc]; exact ne_app hne _))) (by simp only [wl_app, wl_cons, wl_nil, List.length_cons, List.length_nil] at *; omega)) pA) ?_
    rintro _ R ⟨_, ⟨a105, c105, rfl, rfl⟩, rfl⟩
    try simp only [List.cons_append, List.nil_append]
    refine gl_v rfl (o_assign rfl) ?_
    refine gl_nil ?_
    refine ge_block ?_
    refine ge_then ?_
    refine g_region ?_
    refine gl_v rfl (o_move rfl) ?_
    refine gl_v rfl (o_addR ((j + 1 : Nat) : Int) (by rw [wr_i64 (by omega)]; omega) rfl rfl) ?_
    refine gl_v rfl (o_assign rfl) ?_
    refine gl_nil ?_
    refine ge_round (j + 1, a105, c105) ⟨show j + 1 ≤ K.length by omega, by show OKJ (prgWs (K.take (j + 1))); rw [show prgWs (K.take (j + 1)) = xs ++ k.cases.flatMap casWs ++ k.states.flatMap staWs ++ [wShut] from by rw [show prgWs (K.take (j + 1)) = prgWs (K.take j) ++ kndWs k from flatT_succ hk, ← hxt]; unfold kndWs; simp only [List.append_assoc]]; exact (by first | exact hx | exact hx.more hne _ | (simp only [List.append_assoc]; exact hx.more hne _))⟩ (by show K.length - (j + 1) < K.length - j; omega) (by dsimp only; rw [show prgWs (K.take (j + 1)) = xs ++ k.cases.flatMap casWs ++ k.states.flatMap staWs ++ [wShut] from by rw [show prgWs (K.take (j + 1)) = prgWs (K.take j) ++ kndWs k from flatT_succ hk, ← hxt]; unfold kndWs; simp only [List.append_assoc]]; exact (Keep.cons rfl (Keep.cons rfl (Keep.cons rfl (Keep.nil))))) (by dsimp only; rw [show prgWs (K.take (j + 1)) = xs ++ k.cases.flatMap casWs ++ k.states.flatMap staWs ++ [wShut] from by rw [show prgWs (K.take (j + 1)) = prgWs (K.take j) ++ kndWs k from flatT_succ hk, ← hxt]; unfold kndWs; simp only [List.append_assoc]]; exact (tO))
 ·
  replace hc1 := hs_ hc1
  obtain rfl : j = K.length := by omega
  rw [List.take_length]
  refine g_exit ?_
  refine ge_then_exit ?_
  refine ge_then_exit ?_
  refine ge_block_exit ?_
  refine ge_then ?_
  refine g_seq ?_
  refine g_region ?_
  refine gl_v rfl (o_move rfl) ?_
  refine gl_v rfl (o_bstr (joinS (prgWs K)) rfl rfl rfl) ?_
  refine gl_v rfl (o_assign rfl) ?_
  refine gl_nil ?_
  refine ge_then ?_
  refine g_ret ?_
  refine ret1 (.inl rfl) rfl rfl _ (⟨rfl, rfl⟩) (tO)

end Go.Proofs.YtgkjnilckmminaaGreatDoor.L
