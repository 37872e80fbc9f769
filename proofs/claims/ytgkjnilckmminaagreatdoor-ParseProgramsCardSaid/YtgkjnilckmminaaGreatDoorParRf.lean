/-
  Parse: the reference's reader of kinds. Own work, printed in part by a program of its own.
-/
import Derived.Test.YtgkjnilckmminaaGreatDoorParRe
set_option linter.unusedSimpArgs false
set_option linter.unusedVariables false
set_option linter.unusedSectionVars false
namespace Go.Proofs.YtgkjnilckmminaaGreatDoor.L
open Go.L Go.L.Lx Go.L.Pg Go.L.Pa
theorem wordR_at {i : Nat} {w : By} (h : dirs[i]? = some w) : wordR ((i + 1 : Nat) : Int) = w := by
  have hi : i < 4 := (List.getElem?_eq_some_iff.1 h).1
  rcases (show i = 0 ∨ i = 1 ∨ i = 2 ∨ i = 3 by omega) with rfl | rfl | rfl | rfl <;> exact Option.some.inj h
theorem word_len {s : By} {σ : Sg} (h : wordB s σ = true) : σ.1.tail.length + 1 = σ.1.length := by
  obtain ⟨-, h2⟩ := wordB_inv h
  cases hs : σ.1 with
  | nil => rw [hs] at h2; cases h2
  | cons t T => rfl
theorem lt_and {σ σ' : Sg} (h : σ'.1.length + 1 ≤ σ.1.length) : (σ'.2 = false → σ'.1.length < σ.1.length) ∧ σ'.1.length ≤ σ.1.length := ⟨fun _ => by omega, by omega⟩
theorem rp_stasE {f : Nat} {S : List Sta} {σ : Sg} (hf : σ.2 = false → σ.1.length < f) (hw : wordB wState σ = false) : outP σ S = runP (stasP f S) σ := by
  cases hb : σ.2 with
  | true => exact op_bad_rp hb
  | false =>
    have h1 := hf hb
    obtain ⟨g, rfl⟩ : ∃ g, f = g + 1 := ⟨f - 1, by omega⟩
    exact rp_stas0 hw
theorem rp_casesE {f : Nat} {C : List Cas} {T : List Tk} (hf : T.length < f) (hc : wordB wCase (T, false) = false) (hw : wordB wElse (T, false) = false) : outP (T, false) C = runP (casesP f C) (T, false) := by
  obtain ⟨g, rfl⟩ : ∃ g, f = g + 1 := ⟨f - 1, by omega⟩
  exact rp_cases0 hc hw
theorem rp_rowsE {f : Nat} {R : List Row} {T : List Tk} (hf : T.length < f) (hw : wordB wShut (T, false) = true) : outP (T.tail, false) R = runP (rowsP f R) (T, false) := by
  obtain ⟨g, rfl⟩ : ∃ g, f = g + 1 := ⟨f - 1, by omega⟩
  exact rp_rows1 hw
theorem must_good {s : By} {σ : Sg} (h : (mustS s σ).2 = false) : σ.2 = false := by
  cases h2 : σ.2 with
  | false => rfl
  | true => rw [must_bad _ h2] at h; cases h

set_option maxRecDepth 8000 in
set_option maxHeartbeats 3000000 in
theorem kindR_spec (p : Nat) (la : Option Addr) (lc : Nat) (L : List Tk) (hL : L.length ≤ 16384) (hTB : TB L) (σ : Sg) (hs : Suf σ.1 L) : FnS Tryz.prog 27 [ptr p 0] [txt p la lc L (σ), tksA la lc L] (fun u Bs => ∃ w τ, u = .agg (kndC w).toArray ∧ Bs = [kndA w, txt p la lc L (τ), tksA la lc L] ∧ outP τ (Knd.strip w) = runP kndP σ) := by
 refine fn_body Tryz.func27 rfl rfl rfl ?_
 intro W0 R
 simp only [List.zipIdx_cons, List.zipIdx_nil, List.map_cons, List.map_nil, Nat.zero_add, Nat.reduceAdd, List.cons_append, List.nil_append]
 refine g_seq ?_
 refine g_region ?_
 refine gl_n rfl (o_alloc) ?_
 rintro _ _ ⟨b2, rfl, rfl⟩
 refine gl_nil ?_
 refine ge_then ?_
 refine g_seq ?_
 refine g_region ?_
 refine gl_v rfl (o_move rfl) ?_
 refine gl_c rfl (o_call rfl (one_spec p la lc L hL 1 (σ) (hs)) pA) ?_
 rintro _ R ⟨_, ⟨rfl, rfl⟩, rfl⟩
 try simp only [List.cons_append, List.nil_append]
 first | refine gl_v rfl (o_field rfl rfl) ?_ | refine gl_v rfl (o_fieldA rfl rfl) ?_
 refine gl_v rfl (o_build rfl rfl) ?_
 refine gl_n rfl (o_alloc) ?_
 rintro _ _ ⟨b3, rfl, rfl⟩
 first | refine gl_u (o_storeSA rfl rfl rfl rfl (by simp; omega) (by simp)) ?_ | refine gl_u (o_storeA rfl rfl rfl rfl rfl) ?_
 refine gl_nil ?_
 refine ge_then ?_
 refine g_seq ?_
 refine g_region ?_
 refine gl_v rfl (o_move rfl) ?_
 refine gl_c rfl (o_call rfl (mustR_spec p la lc L hL (oneS 1 σ) (wOpen) ((sv_one 1 σ).trans hs)) pA) ?_
 rintro _ R ⟨_, ⟨rfl, rfl⟩, rfl⟩
 try simp only [List.cons_append, List.nil_append]
 obtain ⟨σ2, h2⟩ : ∃ x, mustS wOpen (oneS 1 σ) = x := ⟨_, rfl⟩
 have hs2 : Suf σ2.1 L := h2 ▸ (sv_must wOpen (oneS 1 σ)).trans ((sv_one 1 σ).trans hs)
 rw [h2]
 refine gl_nil ?_
 refine ge_then ?_
 refine g_cut (fun act wo => ∃ (lim wi : Int) (τ : Sg), outP τ (lim, wi) = runP limP σ2 ∧ Suf τ.1 L ∧ HasSl Tryz.f27.ntmps [(3, ptr b3 0), (2, ptr b2 0), (0, ptr p 0)] act ∧ St W0 (cel b3 51 [S (oneT 1 σ).text, I64 lim, I64 wi, .slice none 0 0, .slice none 0 0] :: cel b2 51 (kndC ⟨[], 0, 0, none, 0, [], none, 0, []⟩) :: txt p la lc L (τ) :: tksA la lc L :: R) wo) ?_ ?_
 ·
  refine g_seq ?_
  refine g_region ?_
  refine gl_v rfl (o_move rfl) ?_
  refine gl_c rfl (o_call rfl (word_spec p la lc L hL (σ2) (wLimit) (hs2)) pA) ?_
  rintro _ R ⟨_, ⟨rfl, rfl⟩, rfl⟩
  try simp only [List.cons_append, List.nil_append]
  refine gl_nil ?_
  refine ge_then ?_
  refine g_cond rfl (fun hc1 => ?_) (fun hc1 => ?_)
  ·
   replace hc1 := hs_ hc1
   have hw : wordB (wLimit) (σ2) = true := by simpa using hc1
   rw [wordS_T hw]
   refine g_seq ?_
   refine g_region ?_
   refine gl_v rfl (o_move rfl) ?_
   refine gl_c rfl (o_call rfl (one_spec p la lc L hL 2 ((σ2.1.tail, σ2.2)) ((Suf.tail _).trans hs2)) pA) ?_
   rintro _ R ⟨_, ⟨rfl, rfl⟩, rfl⟩
   try simp only [List.cons_append, List.nil_append]
   first | refine gl_v rfl (o_field rfl rfl) ?_ | refine gl_v rfl (o_fieldA rfl rfl) ?_
   first | refine gl_v rfl (o_fldS rfl) ?_ | refine gl_v rfl (o_fld rfl) ?_
   first | refine gl_u (o_store rfl rfl rfl rfl) ?_ | refine gl_u (o_storeS rfl rfl rfl (by first | assumption | omega | simp)) ?_
   refine gl_nil ?_
   refine ge_then ?_
   refine g_seq ?_
   refine g_region ?_
   refine gl_v rfl (o_move rfl) ?_
   refine gl_c rfl (o_call rfl (mustR_spec p la lc L hL (oneS 2 (σ2.1.tail, σ2.2)) (wIn) ((sv_one 2 _).trans ((Suf.tail _).trans hs2))) pA) ?_
   rintro _ R ⟨_, ⟨rfl, rfl⟩, rfl⟩
   try simp only [List.cons_append, List.nil_append]
   refine gl_nil ?_
   refine ge_then ?_
   refine g_seq ?_
   refine g_region ?_
   refine gl_v rfl (o_move rfl) ?_
   refine gl_c rfl (o_call rfl (one_spec p la lc L hL 2 (mustS wIn (oneS 2 (σ2.1.tail, σ2.2))) ((sv_must wIn _).trans ((sv_one 2 _).trans ((Suf.tail _).trans hs2)))) pA) ?_
   rintro _ R ⟨_, ⟨rfl, rfl⟩, rfl⟩
   try simp only [List.cons_append, List.nil_append]
   first | refine gl_v rfl (o_field rfl rfl) ?_ | refine gl_v rfl (o_fieldA rfl rfl) ?_
   first | refine gl_v rfl (o_fldS rfl) ?_ | refine gl_v rfl (o_fld rfl) ?_
   first | refine gl_u (o_store rfl rfl rfl rfl) ?_ | refine gl_u (o_storeS rfl rfl rfl (by first | assumption | omega | simp)) ?_
   refine gl_nil ?_
   refine ge_then ?_
   refine g_region ?_
   refine gl_v rfl (o_move rfl) ?_
   refine gl_c rfl (o_call rfl (mustR_spec p la lc L hL (oneS 2 (mustS wIn (oneS 2 (σ2.1.tail, σ2.2)))) (wSemi) ((sv_one 2 _).trans ((sv_must wIn _).trans ((sv_one 2 _).trans ((Suf.tail _).trans hs2))))) pA) ?_
   rintro _ R ⟨_, ⟨rfl, rfl⟩, rfl⟩
   try simp only [List.cons_append, List.nil_append]
   refine gl_nil ?_
   exact fun act wo hsl st => ⟨((oneT 2 (σ2.1.tail, σ2.2)).n : Int), ((oneT 2 (mustS wIn (oneS 2 (σ2.1.tail, σ2.2)))).n : Int), mustS wSemi (oneS 2 (mustS wIn (oneS 2 (σ2.1.tail, σ2.2)))), rp_lim1 hw, (sv_must wSemi _).trans ((sv_one 2 _).trans ((sv_must wIn _).trans ((sv_one 2 _).trans ((Suf.tail _).trans hs2)))), hsl.keep (Keep.cons rfl (Keep.cons rfl (Keep.cons rfl (Keep.nil)))), st.imp (tO)⟩
  ·
   replace hc1 := hs_ hc1
   have hw : wordB (wLimit) (σ2) = false := by simpa using hc1
   rw [wordS_F hw]
   refine g_skip ?_
   exact fun act wo hsl st => ⟨0, 1, σ2, rp_lim0 hw, hs2, hsl.keep (Keep.cons rfl (Keep.cons rfl (Keep.cons rfl (Keep.nil)))), st.imp (tO)⟩
 ·
  rintro act wo ⟨lim, wi, τ, hlim, hτ, hsl, st⟩
  refine g_of ?_ hsl st
  clear hsl st act wo
  refine g_cut (fun act wo => ∃ (C : List Cas) (ρ : Sg) (ca : Option Addr) (cc : Nat), outP ρ C = runP (fun T => casesP (T.length + 1) [] T) τ ∧ Suf ρ.1 L ∧ (∀ x ∈ C, ok63 x.reason.length) ∧ C.length ≤ 16385 ∧ HasSl Tryz.f27.ntmps [(3, ptr b3 0), (2, ptr b2 0), (0, ptr p 0)] act ∧ St W0 (own (.slice ca C.length cc) 78 2 C.length (C.flatMap casC) :: cel b3 51 [S (oneT 1 σ).text, I64 lim, I64 wi, .slice ca C.length cc, .slice none 0 0] :: cel b2 51 (kndC ⟨[], 0, 0, none, 0, [], none, 0, []⟩) :: txt p la lc L (ρ) :: tksA la lc L :: R) wo) ?_ ?_
  ·
   refine g_block ?_
   refine g_loop (ι := List Cas × Sg × Option Addr × Nat) (fun x => ((∃ f, (x.2.1.2 = false → x.2.1.1.length < f) ∧ runP (casesP f x.1) x.2.1 = runP (fun T => casesP (T.length + 1) [] T) (τ)) ∧ x.1.length + x.2.1.1.length ≤ 16384 + (if x.2.1.2 then 1 else 0) ∧ Suf x.2.1.1 L) ∧ ∀ y ∈ x.1, ok63 y.reason.length) (fun x => [(3, ptr b3 0), (2, ptr b2 0), (0, ptr p 0)]) (fun x => own (.slice x.2.2.1 x.1.length x.2.2.2) 78 2 x.1.length (x.1.flatMap casC) :: cel b3 51 [S (oneT 1 σ).text, I64 lim, I64 wi, .slice x.2.2.1 x.1.length x.2.2.2, .slice none 0 0] :: cel b2 51 (kndC ⟨[], 0, 0, none, 0, [], none, 0, []⟩) :: txt p la lc L (x.2.1) :: tksA la lc L :: R) (fun x => mS x.2.1) ([], τ, none, 0) (⟨⟨⟨_, fun _ => Nat.lt_succ_self _, rfl⟩, by have := hτ.1; show 0 + τ.1.length ≤ _; omega, hτ⟩, fun y hy => by cases hy⟩) (Keep.cons rfl (Keep.cons rfl (Keep.cons rfl (Keep.nil)))) (fun h s => (tO) h (own_nil0 (e := 78) (sz := 2) h s)) ?_
   rintro ⟨C, ρ, ca, cc⟩ ⟨⟨⟨fC, hfC, hEC⟩, hlenC, hρ⟩, hrs⟩
   replace hfC : ρ.2 = false → ρ.1.length < fC := hfC
   replace hEC : runP (casesP fC C) ρ = runP (fun T => casesP (T.length + 1) [] T) (τ) := hEC
   replace hlenC : C.length + ρ.1.length ≤ 16384 + (if ρ.2 then 1 else 0) := hlenC
   replace hρ : Suf ρ.1 L := hρ
   have hnC : C.length ≤ 16385 := by have := sb_le ρ.2; omega
   replace hrs : ∀ y ∈ C, ok63 y.reason.length := hrs
   dsimp only
   refine g_seq ?_
   refine g_seq ?_
   obtain ⟨TT, rb⟩ := ρ
   cases rb
   ·
    refine g_region ?_
    refine gl_v rfl (o_move rfl) ?_
    refine gl_v rfl (o_nil rfl) ?_
    first | refine gl_v rfl (o_fldS rfl) ?_ | refine gl_v rfl (o_fld rfl) ?_
    refine gl_v rfl (o_is (c := false) (by rfl) (o_load rfl rfl)) ?_
    refine gl_v rfl (o_is (c := true) (by rfl) (o_not rfl)) ?_
    refine gl_nil ?_
    refine ge_then ?_
    refine g_cond_true rfl ?_
    refine g_skip ?_
    refine ge_then ?_
    refine g_block ?_
    refine g_seq ?_
    refine g_region ?_
    refine gl_v rfl (o_assign rfl) ?_
    refine gl_nil ?_
    refine ge_then ?_
    refine g_cut (fun act wo => ∃ (rs : By) (ρ1 : Sg), (∀ (f : Nat) (d : Int) (ρ3 : Sg), outP ρ3 d = runP dirP ρ1 → runP (casesP f (C ++ [⟨rs, d⟩])) ρ3 = runP (casesP (f + 1) C) (TT, false)) ∧ Suf ρ1.1 L ∧ ok63 rs.length ∧ ρ1.1.length + 1 ≤ TT.length ∧ HasSl Tryz.f27.ntmps [(4, S rs), (3, ptr b3 0), (2, ptr b2 0), (0, ptr p 0)] act ∧ St W0 (own (.slice ca C.length cc) 78 2 C.length (C.flatMap casC) :: cel b3 51 [S (oneT 1 σ).text, I64 lim, I64 wi, .slice ca C.length cc, .slice none 0 0] :: cel b2 51 (kndC ⟨[], 0, 0, none, 0, [], none, 0, []⟩) :: txt p la lc L (ρ1) :: tksA la lc L :: R) wo) ?_ ?_
    ·
     refine g_seq ?_
     refine g_region ?_
     refine gl_v rfl (o_move rfl) ?_
     refine gl_c rfl (o_call rfl (word_spec p la lc L hL ((TT, false)) (wCase) (hρ)) pA) ?_
     rintro _ R ⟨_, ⟨rfl, rfl⟩, rfl⟩
     try simp only [List.cons_append, List.nil_append]
     refine gl_nil ?_
     refine ge_then ?_
     refine g_cond rfl (fun hc2 => ?_) (fun hc2 => ?_)
     ·
      replace hc2 := hs_ hc2
      have hwc : wordB (wCase) ((TT, false)) = true := by simpa using hc2
      rw [wordS_T hwc]
      refine g_region ?_
      refine gl_v rfl (o_move rfl) ?_
      refine gl_c rfl (o_call rfl (one_spec p la lc L hL 1 ((TT.tail, false)) ((Suf.tail _).trans hρ)) pA) ?_
      rintro _ R ⟨_, ⟨rfl, rfl⟩, rfl⟩
      try simp only [List.cons_append, List.nil_append]
      first | refine gl_v rfl (o_field rfl rfl) ?_ | refine gl_v rfl (o_fieldA rfl rfl) ?_
      refine gl_v rfl (o_assign rfl) ?_
      refine gl_nil ?_
      exact fun act wo hsl st => ⟨(oneT 1 (TT.tail, false)).text, oneS 1 (TT.tail, false), fun f d ρ3 h => rp_case hwc h, (sv_one 1 _).trans ((Suf.tail _).trans hρ), one_ok hTB 1 ((Suf.tail _).trans hρ), by have h8 := (sv_one 1 (TT.tail, false)).1; have h9 : TT.tail.length + 1 = TT.length := word_len hwc; dsimp only at h8; omega, hsl.keep (Keep.cons rfl (Keep.cons rfl (Keep.cons rfl (Keep.cons rfl (Keep.nil))))), st.imp (tO)⟩
     ·
      replace hc2 := hs_ hc2
      have hwc : wordB (wCase) ((TT, false)) = false := by simpa using hc2
      rw [wordS_F hwc]
      refine g_seq ?_
      refine g_region ?_
      refine gl_v rfl (o_move rfl) ?_
      refine gl_c rfl (o_call rfl (word_spec p la lc L hL ((TT, false)) (wElse) (hρ)) pA) ?_
      rintro _ R ⟨_, ⟨rfl, rfl⟩, rfl⟩
      try simp only [List.cons_append, List.nil_append]
      refine gl_v rfl (o_not rfl) ?_
      refine gl_nil ?_
      refine ge_then ?_
      refine g_cond rfl (fun hc3 => ?_) (fun hc3 => ?_)
      ·
       replace hc3 := hs_ hc3
       have hwe : wordB (wElse) ((TT, false)) = false := by simpa using hc3
       rw [wordS_F hwe]
       refine g_exit ?_
       refine ge_then_exit ?_
       refine ge_block_pass rfl ?_
       refine ge_then_exit ?_
       refine ge_block_exit ?_
       exact fun act wo hsl st => ⟨C, (TT, false), ca, cc, by rw [← hEC]; exact rp_casesE (hfC rfl) hwc hwe, hρ, hrs, hnC, hsl.keep (Keep.cons rfl (Keep.cons rfl (Keep.cons rfl (Keep.nil)))), st.imp (tO)⟩
      ·
       replace hc3 := hs_ hc3
       have hwe : wordB (wElse) ((TT, false)) = true := by simpa using hc3
       rw [wordS_T hwe]
       refine g_skip ?_
       exact fun act wo hsl st => ⟨[], (TT.tail, false), fun f d ρ3 h => rp_else hwc hwe h, (Suf.tail _).trans hρ, (by show 0 ≤ 140737488351232; decide), by have h9 : TT.tail.length + 1 = TT.length := word_len hwe; show TT.tail.length + 1 ≤ TT.length; omega, hsl.keep (Keep.cons rfl (Keep.cons rfl (Keep.cons rfl (Keep.cons rfl (Keep.nil))))), st.imp (tO)⟩
    ·
     rintro act wo ⟨rs, ρ1, hstep, hs1, hrsl, hl1, hsl, st⟩
     refine g_of ?_ hsl st
     clear hsl st act wo
     refine g_seq ?_
     refine g_region ?_
     refine gl_v rfl (o_assign rfl) ?_
     refine gl_nil ?_
     refine ge_then ?_
     refine g_cut (fun act wo => ∃ (d : Int) (ρ2 : Sg), outP (mustS wSemi (ρ2.1, (ρ2.2 || decide (d = 0)))) d = runP dirP ρ1 ∧ Suf ρ2.1 ρ1.1 ∧ HasSl Tryz.f27.ntmps [(5, I64 d), (4, S rs), (3, ptr b3 0), (2, ptr b2 0), (0, ptr p 0)] act ∧ St W0 (own (.slice ca C.length cc) 78 2 C.length (C.flatMap casC) :: cel b3 51 [S (oneT 1 σ).text, I64 lim, I64 wi, .slice ca C.length cc, .slice none 0 0] :: cel b2 51 (kndC ⟨[], 0, 0, none, 0, [], none, 0, []⟩) :: txt p la lc L (ρ2) :: tksA la lc L :: R) wo) ?_ ?_
     ·
      refine g_seq ?_
      refine g_region ?_
      refine gl_v rfl (o_assign rfl) ?_
      refine gl_nil ?_
      refine ge_then ?_
      refine g_block ?_
      refine g_loop (ι := Nat × Int × Sg) (fun x => x.1 ≤ 4 ∧ ((x.2.1 = 0 ∧ ρ1 = x.2.2 ∧ runP (dirG (dirs.drop x.1) x.1) ρ1 = runP dirP ρ1) ∨ (1 ≤ x.2.1 ∧ x.2.1 ≤ 4 ∧ x.2.2.2 = false ∧ Suf x.2.2.1 ρ1.1 ∧ outP (mustS wSemi x.2.2) x.2.1 = runP dirP ρ1))) (fun x => [(6, I64 ((x.1 + 1 : Nat) : Int)), (5, I64 x.2.1), (4, S rs), (3, ptr b3 0), (2, ptr b2 0), (0, ptr p 0)]) (fun x => own (.slice ca C.length cc) 78 2 C.length (C.flatMap casC) :: cel b3 51 [S (oneT 1 σ).text, I64 lim, I64 wi, .slice ca C.length cc, .slice none 0 0] :: cel b2 51 (kndC ⟨[], 0, 0, none, 0, [], none, 0, []⟩) :: txt p la lc L (x.2.2) :: tksA la lc L :: R) (fun x => 4 - x.1) (0, 0, ρ1) (⟨Nat.zero_le _, .inl ⟨rfl, rfl, rfl⟩⟩) (Keep.cons rfl (Keep.cons rfl (Keep.cons rfl (Keep.cons rfl (Keep.cons rfl (Keep.cons rfl (Keep.nil))))))) (tO) ?_
      rintro ⟨i, d, ρ⟩ ⟨hi, hD⟩
      replace hi : i ≤ 4 := hi
      replace hD : (d = 0 ∧ ρ1 = ρ ∧ runP (dirG (dirs.drop i) i) ρ1 = runP dirP ρ1) ∨ (1 ≤ d ∧ d ≤ 4 ∧ ρ.2 = false ∧ Suf ρ.1 ρ1.1 ∧ outP (mustS wSemi ρ) d = runP dirP ρ1) := hD
      dsimp only
      refine g_seq ?_
      refine g_seq ?_
      rcases hD with ⟨hd0, hρe, hD⟩ | ⟨hd1, hd4, hb, hsf, hD⟩
      ·
       subst hd0
       subst hρe
       refine g_region ?_
       refine gl_v rfl (o_move rfl) ?_
       refine gl_v rfl (o_leq rfl rfl) ?_
       refine gl_v rfl (o_move rfl) ?_
       refine gl_g rfl rfl (fun hc4 => ?_) (fun hc4 => ?_) rfl
       ·
        have hc4' := hc4
        replace hc4' := hs_ hc4'
        refine gl_v rfl (o_move rfl) ?_
        refine gl_gT rfl rfl hc4 ?_
        refine gl_v rfl (o_is (c := true) (by rfl) (o_eql rfl rfl)) ?_
        refine gl_v rfl (o_pickT hc4 rfl rfl) ?_
        refine gl_nil ?_
        refine ge_then ?_
        refine g_cond_true rfl ?_
        refine g_skip ?_
        refine ge_then ?_
        refine g_seq ?_
        refine g_block ?_
        refine g_seq ?_
        obtain ⟨wd, hdw⟩ : ∃ w, dirs[i]? = some w := ⟨_, List.getElem?_eq_getElem (show i < dirs.length by show i < 4; omega)⟩
        refine g_region ?_
        refine gl_v rfl (o_move rfl) ?_
        refine gl_v rfl (o_move rfl) ?_
        refine gl_c rfl (o_call rfl (WordR_spec ((i + 1 : Nat) : Int)) pA) ?_
        rintro _ R ⟨_, ⟨rfl, rfl⟩, rfl⟩
        try simp only [List.cons_append, List.nil_append]
        rw [wordR_at hdw]
        refine gl_c rfl (o_call rfl (word_spec p la lc L hL (ρ1) (wd) (hs1)) pA) ?_
        rintro _ R ⟨_, ⟨rfl, rfl⟩, rfl⟩
        try simp only [List.cons_append, List.nil_append]
        refine gl_nil ?_
        refine ge_then ?_
        refine g_cond rfl (fun hc5 => ?_) (fun hc5 => ?_)
        ·
         replace hc5 := hs_ hc5
         have hwd : wordB (wd) (ρ1) = true := by simpa using hc5
         rw [wordS_T hwd]
         refine g_region ?_
         refine gl_v rfl (o_move rfl) ?_
         refine gl_v rfl (o_assign rfl) ?_
         refine gl_nil ?_
         refine ge_block ?_
         refine ge_then ?_
         refine g_region ?_
         refine gl_v rfl (o_move rfl) ?_
         refine gl_v rfl (o_addR (((i + 1) + 1 : Nat) : Int) (by rw [wr_i64 (by omega)]; omega) rfl rfl) ?_
         refine gl_v rfl (o_assign rfl) ?_
         refine gl_nil ?_
         refine ge_round (i + 1, ((i + 1 : Nat) : Int), (ρ1.1.tail, ρ1.2)) ⟨show i + 1 ≤ 4 by omega, .inr ⟨by show (1 : Int) ≤ ((i + 1 : Nat) : Int); omega, by show ((i + 1 : Nat) : Int) ≤ 4; omega, (wordB_inv hwd).1, Suf.tail _, (rp_dir hdw hwd).trans hD⟩⟩ (by show 4 - (i + 1) < 4 - i; omega) (Keep.cons rfl (Keep.cons rfl (Keep.cons rfl (Keep.cons rfl (Keep.cons rfl (Keep.cons rfl (Keep.nil))))))) (tO)
        ·
         replace hc5 := hs_ hc5
         have hwd : wordB (wd) (ρ1) = false := by simpa using hc5
         rw [wordS_F hwd]
         refine g_skip ?_
         refine ge_block ?_
         refine ge_then ?_
         refine g_region ?_
         refine gl_v rfl (o_move rfl) ?_
         refine gl_v rfl (o_addR (((i + 1) + 1 : Nat) : Int) (by rw [wr_i64 (by omega)]; omega) rfl rfl) ?_
         refine gl_v rfl (o_assign rfl) ?_
         refine gl_nil ?_
         refine ge_round (i + 1, 0, ρ1) ⟨show i + 1 ≤ 4 by omega, .inl ⟨rfl, rfl, (rp_dir0 hdw hwd).trans hD⟩⟩ (by show 4 - (i + 1) < 4 - i; omega) (Keep.cons rfl (Keep.cons rfl (Keep.cons rfl (Keep.cons rfl (Keep.cons rfl (Keep.cons rfl (Keep.nil))))))) (tO)
       ·
        have hc4' := hc4
        replace hc4' := hs_ hc4'
        simp only [putO]
        refine gl_gF rfl rfl hc4 rfl ?_
        refine gl_v rfl (o_pickF hc4 rfl rfl) ?_
        refine gl_nil ?_
        refine ge_then ?_
        refine g_cond_false rfl ?_
        refine g_exit ?_
        refine ge_then_exit ?_
        refine ge_then_exit ?_
        refine ge_block_exit ?_
        exact fun act wo hsl st => ⟨0, ρ1, by rw [show (ρ1.2 || decide ((0 : Int) = 0)) = true by simp]; obtain rfl : i = 4 := (by omega); exact rp_dirN.trans hD, Suf.refl _, hsl.keep (Keep.cons rfl (Keep.cons rfl (Keep.cons rfl (Keep.cons rfl (Keep.cons rfl (Keep.nil)))))), st.imp (tO)⟩
      ·
       refine g_region ?_
       refine gl_v rfl (o_move rfl) ?_
       refine gl_v rfl (o_leq rfl rfl) ?_
       refine gl_v rfl (o_move rfl) ?_
       refine gl_g rfl rfl (fun hc6 => ?_) (fun hc6 => ?_) rfl
       ·
        have hc6' := hc6
        replace hc6' := hs_ hc6'
        refine gl_v rfl (o_move rfl) ?_
        refine gl_gT rfl rfl hc6 ?_
        refine gl_v rfl (o_is (c := false) (by exact decide_eq_false (by omega)) (o_eql rfl rfl)) ?_
        refine gl_v rfl (o_pickT hc6 rfl rfl) ?_
        refine gl_nil ?_
        refine ge_then ?_
        refine g_cond_false rfl ?_
        refine g_exit ?_
        refine ge_then_exit ?_
        refine ge_then_exit ?_
        refine ge_block_exit ?_
        exact fun act wo hsl st => ⟨d, ρ, by rw [show (ρ.2 || decide (d = 0)) = ρ.2 from by rw [decide_eq_false (by omega), Bool.or_false]]; exact hD, hsf, hsl.keep (Keep.cons rfl (Keep.cons rfl (Keep.cons rfl (Keep.cons rfl (Keep.cons rfl (Keep.nil)))))), st.imp (tO)⟩
       ·
        have hc6' := hc6
        replace hc6' := hs_ hc6'
        simp only [putO]
        refine gl_gF rfl rfl hc6 rfl ?_
        refine gl_v rfl (o_pickF hc6 rfl rfl) ?_
        refine gl_nil ?_
        refine ge_then ?_
        refine g_cond_false rfl ?_
        refine g_exit ?_
        refine ge_then_exit ?_
        refine ge_then_exit ?_
        refine ge_block_exit ?_
        exact fun act wo hsl st => ⟨d, ρ, by rw [show (ρ.2 || decide (d = 0)) = ρ.2 from by rw [decide_eq_false (by omega), Bool.or_false]]; exact hD, hsf, hsl.keep (Keep.cons rfl (Keep.cons rfl (Keep.cons rfl (Keep.cons rfl (Keep.cons rfl (Keep.nil)))))), st.imp (tO)⟩
     ·
      rintro act wo ⟨d, ρ2, hD, hρ2, hsl, st⟩
      refine g_of ?_ hsl st
      clear hsl st act wo
      refine g_seq ?_
      obtain ⟨UU, b2⟩ := ρ2
      cases b2
      ·
       refine g_region ?_
       refine gl_v rfl (o_move rfl) ?_
       refine gl_v rfl (o_move rfl) ?_
       refine gl_v rfl (o_nil rfl) ?_
       first | refine gl_v rfl (o_fldS rfl) ?_ | refine gl_v rfl (o_fld rfl) ?_
       refine gl_v rfl (o_is (c := false) (by rfl) (o_load rfl rfl)) ?_
       refine gl_v rfl (o_move rfl) ?_
       refine gl_gT rfl rfl rfl ?_
       refine gl_v rfl (o_move rfl) ?_
       refine gl_gT rfl rfl rfl ?_
       refine gl_v rfl (o_eql rfl rfl) ?_
       refine gl_v rfl (o_pickF rfl rfl rfl) ?_
       refine gl_v rfl (o_nil rfl) ?_
       first | refine gl_v rfl (o_fldS rfl) ?_ | refine gl_v rfl (o_fld rfl) ?_
       first | refine gl_u (o_store rfl rfl rfl rfl) ?_ | refine gl_u (o_storeS rfl rfl rfl (by first | assumption | omega | simp)) ?_
       refine gl_nil ?_
       refine ge_then ?_
       refine g_seq ?_
       refine g_region ?_
       refine gl_v rfl (o_move rfl) ?_
       refine gl_c rfl (o_call rfl (mustR_spec p la lc L hL ((UU, decide (d = 0))) (wSemi) (hρ2.trans hs1)) pA) ?_
       rintro _ R ⟨_, ⟨rfl, rfl⟩, rfl⟩
       try simp only [List.cons_append, List.nil_append]
       refine gl_nil ?_
       refine ge_then ?_
       refine g_region ?_
       first | refine gl_v rfl (o_fldS rfl) ?_ | refine gl_v rfl (o_fld rfl) ?_
       first | refine gl_v rfl (o_load rfl rfl) ?_ | refine gl_v rfl (o_loadS rfl rfl) ?_ | refine gl_v rfl (o_loadC rfl) ?_
       refine gl_v rfl (o_move rfl) ?_
       refine gl_v rfl (o_move rfl) ?_
       refine gl_v rfl (o_build rfl rfl) ?_
       first | refine gl_n rfl (o_buildS1 rfl rfl rfl) ?_ | refine gl_n rfl (o_buildS1A rfl rfl rfl rfl) ?_ | refine gl_n rfl (o_buildS rfl rfl rfl rfl) ?_
       rintro _ _ ⟨b72, rfl, rfl⟩
       refine gl_n rfl (o_append (news := casC ⟨rs, d⟩) rfl rfl pA rfl rfl rfl (by omega) (by unfold maxLen; omega)) ?_
       rintro _ _ ⟨a73, c73, rfl, rfl⟩
       rw [len_snoc C (⟨rs, d⟩ : Cas), flat_snoc' casC C (⟨rs, d⟩ : Cas)]
       first | refine gl_v rfl (o_fldS rfl) ?_ | refine gl_v rfl (o_fld rfl) ?_
       first | refine gl_u (o_store rfl rfl rfl rfl) ?_ | refine gl_u (o_storeS rfl rfl rfl (by first | assumption | omega | simp)) ?_
       refine gl_nil ?_
       refine ge_block ?_
       have hf1 : TT.length < fC := hfC rfl
       obtain ⟨fC, rfl⟩ : ∃ g, fC = g + 1 := ⟨fC - 1, by omega⟩
       have hq2 : Suf (mustS wSemi (UU, decide (d = 0))).1 L := (sv_must wSemi (UU, decide (d = 0))).trans (hρ2.trans hs1)
       have hq3 : (mustS wSemi (UU, decide (d = 0))).1.length + 1 ≤ (TT, false).1.length := by have h8 := (sv_must wSemi (UU, decide (d = 0))).1; have h9 := hρ2.1; dsimp only at h8 h9 ⊢; omega
       refine ge_round (C ++ [⟨rs, d⟩], mustS wSemi (UU, decide (d = 0)), a73, c73) ⟨⟨⟨fC, fun h => by dsimp only at hq3; show (mustS wSemi (UU, decide (d = 0))).1.length < fC; omega, by rw [← hEC]; exact hstep fC d _ hD⟩, by rw [List.length_append, List.length_singleton]; exact cnt_ok (σ := (TT, false)) rfl (lt_and hq3) hlenC, hq2⟩, snoc_all hrs hrsl⟩ (mS_lt (σ := (TT, false)) rfl (lt_and hq3)) (Keep.cons rfl (Keep.cons rfl (Keep.cons rfl (Keep.nil)))) (tO)
      ·
       refine g_region ?_
       refine gl_v rfl (o_move rfl) ?_
       refine gl_v rfl (o_move rfl) ?_
       refine gl_v rfl (o_nil rfl) ?_
       first | refine gl_v rfl (o_fldS rfl) ?_ | refine gl_v rfl (o_fld rfl) ?_
       refine gl_v rfl (o_is (c := true) (by rfl) (o_load rfl rfl)) ?_
       refine gl_v rfl (o_move rfl) ?_
       refine gl_gF rfl rfl rfl rfl ?_
       refine gl_gF rfl rfl rfl rfl ?_
       refine gl_v rfl (o_pickT rfl rfl rfl) ?_
       refine gl_v rfl (o_nil rfl) ?_
       first | refine gl_v rfl (o_fldS rfl) ?_ | refine gl_v rfl (o_fld rfl) ?_
       first | refine gl_u (o_store rfl rfl rfl rfl) ?_ | refine gl_u (o_storeS rfl rfl rfl (by first | assumption | omega | simp)) ?_
       refine gl_nil ?_
       refine ge_then ?_
       refine g_seq ?_
       refine g_region ?_
       refine gl_v rfl (o_move rfl) ?_
       refine gl_c rfl (o_call rfl (mustR_spec p la lc L hL ((UU, true)) (wSemi) (hρ2.trans hs1)) pA) ?_
       rintro _ R ⟨_, ⟨rfl, rfl⟩, rfl⟩
       try simp only [List.cons_append, List.nil_append]
       refine gl_nil ?_
       refine ge_then ?_
       refine g_region ?_
       first | refine gl_v rfl (o_fldS rfl) ?_ | refine gl_v rfl (o_fld rfl) ?_
       first | refine gl_v rfl (o_load rfl rfl) ?_ | refine gl_v rfl (o_loadS rfl rfl) ?_ | refine gl_v rfl (o_loadC rfl) ?_
       refine gl_v rfl (o_move rfl) ?_
       refine gl_v rfl (o_move rfl) ?_
       refine gl_v rfl (o_build rfl rfl) ?_
       first | refine gl_n rfl (o_buildS1 rfl rfl rfl) ?_ | refine gl_n rfl (o_buildS1A rfl rfl rfl rfl) ?_ | refine gl_n rfl (o_buildS rfl rfl rfl rfl) ?_
       rintro _ _ ⟨b72, rfl, rfl⟩
       refine gl_n rfl (o_append (news := casC ⟨rs, d⟩) rfl rfl pA rfl rfl rfl (by omega) (by unfold maxLen; omega)) ?_
       rintro _ _ ⟨a73, c73, rfl, rfl⟩
       rw [len_snoc C (⟨rs, d⟩ : Cas), flat_snoc' casC C (⟨rs, d⟩ : Cas)]
       first | refine gl_v rfl (o_fldS rfl) ?_ | refine gl_v rfl (o_fld rfl) ?_
       first | refine gl_u (o_store rfl rfl rfl rfl) ?_ | refine gl_u (o_storeS rfl rfl rfl (by first | assumption | omega | simp)) ?_
       refine gl_nil ?_
       refine ge_block ?_
       have hf1 : TT.length < fC := hfC rfl
       obtain ⟨fC, rfl⟩ : ∃ g, fC = g + 1 := ⟨fC - 1, by omega⟩
       have hq2 : Suf (mustS wSemi (UU, true)).1 L := (sv_must wSemi (UU, true)).trans (hρ2.trans hs1)
       have hq3 : (mustS wSemi (UU, true)).1.length + 1 ≤ (TT, false).1.length := by have h8 := (sv_must wSemi (UU, true)).1; have h9 := hρ2.1; dsimp only at h8 h9 ⊢; omega
       refine ge_round (C ++ [⟨rs, d⟩], mustS wSemi (UU, true), a73, c73) ⟨⟨⟨fC, fun h => by dsimp only at hq3; show (mustS wSemi (UU, true)).1.length < fC; omega, by rw [← hEC]; exact hstep fC d _ hD⟩, by rw [List.length_append, List.length_singleton]; exact cnt_ok (σ := (TT, false)) rfl (lt_and hq3) hlenC, hq2⟩, snoc_all hrs hrsl⟩ (mS_lt (σ := (TT, false)) rfl (lt_and hq3)) (Keep.cons rfl (Keep.cons rfl (Keep.cons rfl (Keep.nil)))) (tO)
   ·
    refine g_region ?_
    refine gl_v rfl (o_move rfl) ?_
    refine gl_v rfl (o_nil rfl) ?_
    first | refine gl_v rfl (o_fldS rfl) ?_ | refine gl_v rfl (o_fld rfl) ?_
    refine gl_v rfl (o_is (c := true) (by rfl) (o_load rfl rfl)) ?_
    refine gl_v rfl (o_is (c := false) (by rfl) (o_not rfl)) ?_
    refine gl_nil ?_
    refine ge_then ?_
    refine g_cond_false rfl ?_
    refine g_exit ?_
    refine ge_then_exit ?_
    refine ge_then_exit ?_
    refine ge_block_exit ?_
    exact fun act wo hsl st => ⟨C, (TT, true), ca, cc, by rw [← hEC]; exact op_bad_rp rfl, hρ, hrs, hnC, hsl.keep (Keep.cons rfl (Keep.cons rfl (Keep.cons rfl (Keep.nil)))), st.imp (tO)⟩
  ·
   rintro act wo ⟨C, ρc, ca, cc, hC, hρc, hrs, hnC, hsl, st⟩
   refine g_of ?_ hsl st
   clear hsl st act wo
   refine g_seq ?_
   refine g_block ?_
   refine g_loop (ι := List Sta × Sg × Option Addr × Nat) (fun x => (∃ f, (x.2.1.2 = false → x.2.1.1.length < f) ∧ runP (stasP f (x.1.map Sta.strip)) x.2.1 = runP (fun T => stasP (T.length + 1) [] T) (ρc)) ∧ x.1.length + x.2.1.1.length ≤ 16384 + (if x.2.1.2 then 1 else 0) ∧ Suf x.2.1.1 L) (fun x => [(3, ptr b3 0), (2, ptr b2 0), (0, ptr p 0)]) (fun x => own (.slice x.2.2.1 x.1.length x.2.2.2) 54 2 x.1.length (x.1.flatMap staC) :: stasA x.1 :: cel b3 51 [S (oneT 1 σ).text, I64 lim, I64 wi, .slice ca C.length cc, .slice x.2.2.1 x.1.length x.2.2.2] :: own (.slice ca C.length cc) 78 2 C.length (C.flatMap casC) :: cel b2 51 (kndC ⟨[], 0, 0, none, 0, [], none, 0, []⟩) :: txt p la lc L (x.2.1) :: tksA la lc L :: R) (fun x => mS x.2.1) ([], ρc, none, 0) (⟨⟨_, fun _ => Nat.lt_succ_self _, rfl⟩, by have := hρc.1; show 0 + ρc.1.length ≤ _; omega, hρc⟩) (Keep.cons rfl (Keep.cons rfl (Keep.cons rfl (Keep.nil)))) (fun h s => (tO) h (own_nil0 (e := 54) (sz := 2) h (sat_nil (A := stasA []) (fun _ h => by cases h) h s))) ?_
   rintro ⟨Sx, ρ, sa, sc⟩ ⟨⟨fSx, hfSx, hESx⟩, hlenSx, hρ⟩
   replace hfSx : ρ.2 = false → ρ.1.length < fSx := hfSx
   replace hESx : runP (stasP fSx (Sx.map Sta.strip)) ρ = runP (fun T => stasP (T.length + 1) [] T) (ρc) := hESx
   replace hlenSx : Sx.length + ρ.1.length ≤ 16384 + (if ρ.2 then 1 else 0) := hlenSx
   replace hρ : Suf ρ.1 L := hρ
   have hnSx : Sx.length ≤ 16385 := by have := sb_le ρ.2; omega
   dsimp only
   refine g_seq ?_
   refine g_seq ?_
   refine g_region ?_
   refine gl_v rfl (o_move rfl) ?_
   refine gl_c rfl (o_call rfl (word_spec p la lc L hL (ρ) (wState) (hρ)) pA) ?_
   rintro _ R ⟨_, ⟨rfl, rfl⟩, rfl⟩
   try simp only [List.cons_append, List.nil_append]
   refine gl_nil ?_
   refine ge_then ?_
   refine g_cond rfl (fun hc7 => ?_) (fun hc7 => ?_)
   ·
    replace hc7 := hs_ hc7
    have hws : wordB (wState) (ρ) = true := by simpa using hc7
    rw [wordS_T hws]
    refine g_skip ?_
    refine ge_then ?_
    refine g_block ?_
    refine g_seq ?_
    refine g_region ?_
    refine gl_v rfl (o_move rfl) ?_
    refine gl_c rfl (o_call rfl (one_spec p la lc L hL 1 ((ρ.1.tail, ρ.2)) ((Suf.tail _).trans hρ)) pA) ?_
    rintro _ R ⟨_, ⟨rfl, rfl⟩, rfl⟩
    try simp only [List.cons_append, List.nil_append]
    first | refine gl_v rfl (o_field rfl rfl) ?_ | refine gl_v rfl (o_fieldA rfl rfl) ?_
    refine gl_v rfl (o_build rfl rfl) ?_
    refine gl_n rfl (o_alloc) ?_
    rintro _ _ ⟨b7, rfl, rfl⟩
    first | refine gl_u (o_storeSA rfl rfl rfl rfl (by simp; omega) (by simp)) ?_ | refine gl_u (o_storeA rfl rfl rfl rfl rfl) ?_
    refine gl_nil ?_
    refine ge_then ?_
    refine g_seq ?_
    refine g_region ?_
    refine gl_v rfl (o_move rfl) ?_
    refine gl_c rfl (o_call rfl (mustR_spec p la lc L hL (oneS 1 (ρ.1.tail, ρ.2)) (wOpen) ((sv_one 1 _).trans ((Suf.tail _).trans hρ))) pA) ?_
    rintro _ R ⟨_, ⟨rfl, rfl⟩, rfl⟩
    try simp only [List.cons_append, List.nil_append]
    refine gl_nil ?_
    refine ge_then ?_
    refine g_seq ?_
    refine g_block ?_
    refine g_loop (ι := List Row × Sg × Option Addr × Nat) (fun x => ((∃ f, (x.2.1.2 = false → x.2.1.1.length < f) ∧ runP (rowsP f (x.1.map Row.strip)) x.2.1 = runP (fun T => rowsP (T.length + 1) [] T) (mustS wOpen (oneS 1 (ρ.1.tail, ρ.2)))) ∧ x.1.length + x.2.1.1.length ≤ 16384 + (if x.2.1.2 then 1 else 0) ∧ Suf x.2.1.1 L) ∧ x.2.1.1.length + 1 ≤ ρ.1.length) (fun x => [(7, ptr b7 0), (3, ptr b3 0), (2, ptr b2 0), (0, ptr p 0)]) (fun x => own (.slice x.2.2.1 x.1.length x.2.2.2) 57 4 x.1.length (x.1.flatMap rowC) :: rowsA x.1 :: cel b7 54 [S (oneT 1 (ρ.1.tail, ρ.2)).text, .slice x.2.2.1 x.1.length x.2.2.2] :: own (.slice sa Sx.length sc) 54 2 Sx.length (Sx.flatMap staC) :: stasA Sx :: cel b3 51 [S (oneT 1 σ).text, I64 lim, I64 wi, .slice ca C.length cc, .slice sa Sx.length sc] :: own (.slice ca C.length cc) 78 2 C.length (C.flatMap casC) :: cel b2 51 (kndC ⟨[], 0, 0, none, 0, [], none, 0, []⟩) :: txt p la lc L (x.2.1) :: tksA la lc L :: R) (fun x => mS x.2.1) ([], mustS wOpen (oneS 1 (ρ.1.tail, ρ.2)), none, 0) (⟨⟨⟨_, fun _ => Nat.lt_succ_self _, rfl⟩, by have := ((sv_must wOpen (oneS 1 (ρ.1.tail, ρ.2))).trans ((sv_one 1 _).trans ((Suf.tail _).trans hρ))).1; show 0 + (mustS wOpen (oneS 1 (ρ.1.tail, ρ.2))).1.length ≤ _; omega, (sv_must wOpen _).trans ((sv_one 1 _).trans ((Suf.tail _).trans hρ))⟩, by have h8 := ((sv_must wOpen (oneS 1 (ρ.1.tail, ρ.2))).trans (sv_one 1 _)).1; have h9 := word_len hws; dsimp only at h8 ⊢; omega⟩) (Keep.cons rfl (Keep.cons rfl (Keep.cons rfl (Keep.cons rfl (Keep.nil))))) (fun h s => (tO) h (own_nil0 (e := 57) (sz := 4) h (sat_nil (A := rowsA []) (fun _ h => by cases h) h s))) ?_
    rintro ⟨Rw, μ, ra, rc⟩ ⟨⟨⟨fRw, hfRw, hERw⟩, hlenRw, hμ⟩, hlt⟩
    replace hfRw : μ.2 = false → μ.1.length < fRw := hfRw
    replace hERw : runP (rowsP fRw (Rw.map Row.strip)) μ = runP (fun T => rowsP (T.length + 1) [] T) (mustS wOpen (oneS 1 (ρ.1.tail, ρ.2))) := hERw
    replace hlenRw : Rw.length + μ.1.length ≤ 16384 + (if μ.2 then 1 else 0) := hlenRw
    replace hμ : Suf μ.1 L := hμ
    have hnRw : Rw.length ≤ 16385 := by have := sb_le μ.2; omega
    replace hlt : μ.1.length + 1 ≤ ρ.1.length := hlt
    dsimp only
    refine g_seq ?_
    refine g_seq ?_
    obtain ⟨UU, rb⟩ := μ
    cases rb
    ·
     refine g_region ?_
     refine gl_v rfl (o_move rfl) ?_
     refine gl_v rfl (o_nil rfl) ?_
     first | refine gl_v rfl (o_fldS rfl) ?_ | refine gl_v rfl (o_fld rfl) ?_
     refine gl_v rfl (o_is (c := false) (by rfl) (o_load rfl rfl)) ?_
     refine gl_v rfl (o_is (c := true) (by rfl) (o_not rfl)) ?_
     refine gl_v rfl (o_move rfl) ?_
     refine gl_gT rfl rfl rfl ?_
     refine gl_v rfl (o_move rfl) ?_
     refine gl_gT rfl rfl rfl ?_
     refine gl_c rfl (o_call rfl (word_spec p la lc L hL ((UU, false)) (wShut) (hμ)) pA) ?_
     rintro _ R ⟨_, ⟨rfl, rfl⟩, rfl⟩
     try simp only [List.cons_append, List.nil_append]
     refine gl_gT rfl rfl rfl ?_
     refine gl_v rfl (o_not rfl) ?_
     refine gl_v rfl (o_pickT rfl rfl rfl) ?_
     refine gl_nil ?_
     refine ge_then ?_
     refine g_cond rfl (fun hc8 => ?_) (fun hc8 => ?_)
     ·
      replace hc8 := hs_ hc8
      have hwr : wordB (wShut) ((UU, false)) = false := by simpa using hc8
      rw [wordS_F hwr]
      refine g_skip ?_
      refine ge_then ?_
      refine g_block ?_
      refine g_draw [3, 4, 5, 7] [3, 4] [(0, .stab), (1, .stab), (2, .loc), (3, .eff), (4, .eff), (5, .eff), (6, .loc), (7, .eff)] [cel b7 54 [S (oneT 1 (ρ.1.tail, ρ.2)).text, .slice ra Rw.length rc]] mixed (by kernel_rfl) ?_
      first | refine go_vs rfl .none rfl (o_fldS rfl) (tO) ?_ | refine go_vs rfl .none rfl (o_fld rfl) (tO) ?_
      first | refine go_vs rfl .none rfl (o_load rfl rfl) (tO) ?_ | refine go_vs rfl .none rfl (o_loadS rfl rfl) (tO) ?_ | refine go_vs rfl .none rfl (o_loadC rfl) (tO) ?_
      refine go_v rfl .none rfl (o_move rfl) ?_
      refine go_c rfl .none rfl (o_call rfl (rowR_spec p la lc L hL hTB (UU, false) hμ) pA) ?_
      rintro _ R ⟨_, ⟨w, ν, rfl, rfl, hout⟩, rfl⟩
      try simp only [List.cons_append, List.nil_append]
      refine ⟨(fun _ => (tO)), ?_⟩
      first | refine go_n rfl .none rfl (o_buildS1 rfl rfl rfl) ?_ | refine go_n rfl .none rfl (o_buildS1A rfl rfl rfl rfl) ?_ | refine go_n rfl .none rfl (o_buildS rfl rfl rfl rfl) ?_
      rintro _ _ ⟨b97, rfl, rfl⟩
      refine ⟨(fun _ => (tO)), ?_⟩
      refine go_n rfl .none rfl (o_append rfl rfl pA rfl rfl rfl (by omega) (by unfold maxLen; omega)) ?_
      rintro _ _ ⟨a98, c98, rfl, rfl⟩
      rw [len_snoc Rw w, flat_snoc' rowC Rw w]
      refine ⟨(fun hG => absurd hG (by decide)), ?_⟩
      first | refine go_v rfl .none rfl (o_fldS rfl) ?_ | refine go_v rfl .none rfl (o_fld rfl) ?_
      first | refine go_u rfl .none (o_store rfl rfl rfl rfl) (fun hG => absurd hG (by decide)) ?_ | refine go_u rfl .none (o_storeS rfl rfl rfl (by first | assumption | omega | simp)) (fun hG => absurd hG (by decide)) ?_
      refine go_nil ?_
      refine ge_block ?_
      have hf1 : UU.length < fRw := hfRw rfl
      obtain ⟨fRw, rfl⟩ : ∃ g, fRw = g + 1 := ⟨fRw - 1, by omega⟩
      have hq1 := lt_of' lv_row lt_row hout rfl
      refine ge_imp (fun h s => rows_push (r := w) (R := Rw) h (Part.to (m := [rowA w, rowsA Rw]) pA s)) ?_
      refine ge_round (Rw ++ [w], ν, a98, c98) ⟨⟨⟨fRw, fun h => by have h8 := hq1.1 h; dsimp only at h8 ⊢; omega, by rw [← hERw, List.map_append]; exact rp_rows rfl (wordB_no hwr rfl) hout⟩, by rw [List.length_append, List.length_singleton]; exact cnt_ok (σ := (UU, false)) rfl hq1 hlenRw, (sv_of lv_row hout).trans hμ⟩, by have h8 := hq1.2; dsimp only at h8 hlt ⊢; omega⟩ (mS_lt (σ := (UU, false)) rfl hq1) (Keep.cons rfl (Keep.cons rfl (Keep.cons rfl (Keep.cons rfl (Keep.nil))))) (tO)
     ·
      replace hc8 := hs_ hc8
      have hwr : wordB (wShut) ((UU, false)) = true := by simpa using hc8
      rw [wordS_T hwr]
      refine g_exit ?_
      refine ge_then_exit ?_
      refine ge_then_exit ?_
      refine ge_block_exit ?_
      refine ge_then ?_
      refine g_region ?_
      first | refine gl_v rfl (o_fldS rfl) ?_ | refine gl_v rfl (o_fld rfl) ?_
      first | refine gl_v rfl (o_load rfl rfl) ?_ | refine gl_v rfl (o_loadS rfl rfl) ?_ | refine gl_v rfl (o_loadC rfl) ?_
      first | refine gl_v rfl (o_loadSA rfl rfl rfl) ?_ | refine gl_v rfl (o_loadA rfl rfl rfl) ?_
      first | refine gl_n rfl (o_buildS1 rfl rfl rfl) ?_ | refine gl_n rfl (o_buildS1A rfl rfl rfl rfl) ?_ | refine gl_n rfl (o_buildS rfl rfl rfl rfl) ?_
      rintro _ _ ⟨b103, rfl, rfl⟩
      refine gl_n rfl (o_append (news := staC (⟨(oneT 1 (ρ.1.tail, ρ.2)).text, ra, rc, Rw⟩ : Sta)) rfl rfl pA rfl rfl rfl (by omega) (by unfold maxLen; omega)) ?_
      rintro _ _ ⟨a104, c104, rfl, rfl⟩
      rw [len_snoc Sx (⟨(oneT 1 (ρ.1.tail, ρ.2)).text, ra, rc, Rw⟩ : Sta), flat_snoc' staC Sx (⟨(oneT 1 (ρ.1.tail, ρ.2)).text, ra, rc, Rw⟩ : Sta)]
      first | refine gl_v rfl (o_fldS rfl) ?_ | refine gl_v rfl (o_fld rfl) ?_
      first | refine gl_u (o_store rfl rfl rfl rfl) ?_ | refine gl_u (o_storeS rfl rfl rfl (by first | assumption | omega | simp)) ?_
      refine gl_nil ?_
      refine ge_block ?_
      have hR : outP (UU.tail, false) (Rw.map Row.strip) = runP (fun T => rowsP (T.length + 1) [] T) (mustS wOpen (oneS 1 (ρ.1.tail, ρ.2))) := by rw [← hERw]; exact rp_rowsE (hfRw rfl) hwr
      have hb9 := (wordB_inv hws).1
      have hf1 : ρ.1.length < fSx := hfSx hb9
      obtain ⟨fSx, rfl⟩ : ∃ g, fSx = g + 1 := ⟨fSx - 1, by omega⟩
      have hq2 : Suf (UU.tail, false).1 L := (Suf.tail _).trans hμ
      have hq3 : (UU.tail, false).1.length + 1 ≤ ρ.1.length := by have h8 := (Suf.tail UU).1; dsimp only at hlt ⊢; omega
      refine ge_imp (fun h s => stas_push (r := (⟨(oneT 1 (ρ.1.tail, ρ.2)).text, ra, rc, Rw⟩ : Sta)) (R := Sx) h (mk_sta2 (e := 57) (one_ok hTB 1 ((Suf.tail _).trans hρ)) (by omega) h (Part.to (m := [own (.slice ra Rw.length rc) 57 4 Rw.length (Rw.flatMap rowC), rowsA Rw, stasA Sx]) pA s))) ?_
      refine ge_round (Sx ++ [(⟨(oneT 1 (ρ.1.tail, ρ.2)).text, ra, rc, Rw⟩ : Sta)], (UU.tail, false), a104, c104) ⟨⟨fSx, fun h => by show (UU.tail, false).1.length < fSx; omega, by rw [← hESx, List.map_append]; exact rp_stas hws (rp_sta hR)⟩, by rw [List.length_append, List.length_singleton]; exact cnt_ok (σ := ρ) hb9 (lt_and hq3) hlenSx, hq2⟩ (mS_lt (σ := ρ) hb9 (lt_and hq3)) (Keep.cons rfl (Keep.cons rfl (Keep.cons rfl (Keep.nil)))) (tO)
    ·
     refine g_region ?_
     refine gl_v rfl (o_move rfl) ?_
     refine gl_v rfl (o_nil rfl) ?_
     first | refine gl_v rfl (o_fldS rfl) ?_ | refine gl_v rfl (o_fld rfl) ?_
     refine gl_v rfl (o_is (c := true) (by rfl) (o_load rfl rfl)) ?_
     refine gl_v rfl (o_is (c := false) (by rfl) (o_not rfl)) ?_
     refine gl_v rfl (o_move rfl) ?_
     refine gl_gF rfl rfl rfl rfl ?_
     refine gl_gF rfl rfl rfl rfl ?_
     refine gl_gF rfl rfl rfl rfl ?_
     refine gl_v rfl (o_pickF rfl rfl rfl) ?_
     refine gl_nil ?_
     refine ge_then ?_
     refine g_cond_false rfl ?_
     refine g_exit ?_
     refine ge_then_exit ?_
     refine ge_then_exit ?_
     refine ge_block_exit ?_
     refine ge_then ?_
     refine g_region ?_
     first | refine gl_v rfl (o_fldS rfl) ?_ | refine gl_v rfl (o_fld rfl) ?_
     first | refine gl_v rfl (o_load rfl rfl) ?_ | refine gl_v rfl (o_loadS rfl rfl) ?_ | refine gl_v rfl (o_loadC rfl) ?_
     first | refine gl_v rfl (o_loadSA rfl rfl rfl) ?_ | refine gl_v rfl (o_loadA rfl rfl rfl) ?_
     first | refine gl_n rfl (o_buildS1 rfl rfl rfl) ?_ | refine gl_n rfl (o_buildS1A rfl rfl rfl rfl) ?_ | refine gl_n rfl (o_buildS rfl rfl rfl rfl) ?_
     rintro _ _ ⟨b103, rfl, rfl⟩
     refine gl_n rfl (o_append (news := staC (⟨(oneT 1 (ρ.1.tail, ρ.2)).text, ra, rc, Rw⟩ : Sta)) rfl rfl pA rfl rfl rfl (by omega) (by unfold maxLen; omega)) ?_
     rintro _ _ ⟨a104, c104, rfl, rfl⟩
     rw [len_snoc Sx (⟨(oneT 1 (ρ.1.tail, ρ.2)).text, ra, rc, Rw⟩ : Sta), flat_snoc' staC Sx (⟨(oneT 1 (ρ.1.tail, ρ.2)).text, ra, rc, Rw⟩ : Sta)]
     first | refine gl_v rfl (o_fldS rfl) ?_ | refine gl_v rfl (o_fld rfl) ?_
     first | refine gl_u (o_store rfl rfl rfl rfl) ?_ | refine gl_u (o_storeS rfl rfl rfl (by first | assumption | omega | simp)) ?_
     refine gl_nil ?_
     refine ge_block ?_
     have hR : outP (UU, true) (Rw.map Row.strip) = runP (fun T => rowsP (T.length + 1) [] T) (mustS wOpen (oneS 1 (ρ.1.tail, ρ.2))) := by rw [← hERw]; exact op_bad_rp rfl
     have hb9 := (wordB_inv hws).1
     have hf1 : ρ.1.length < fSx := hfSx hb9
     obtain ⟨fSx, rfl⟩ : ∃ g, fSx = g + 1 := ⟨fSx - 1, by omega⟩
     have hq2 : Suf (UU, true).1 L := hμ
     have hq3 : (UU, true).1.length + 1 ≤ ρ.1.length := by exact hlt
     refine ge_imp (fun h s => stas_push (r := (⟨(oneT 1 (ρ.1.tail, ρ.2)).text, ra, rc, Rw⟩ : Sta)) (R := Sx) h (mk_sta2 (e := 57) (one_ok hTB 1 ((Suf.tail _).trans hρ)) (by omega) h (Part.to (m := [own (.slice ra Rw.length rc) 57 4 Rw.length (Rw.flatMap rowC), rowsA Rw, stasA Sx]) pA s))) ?_
     refine ge_round (Sx ++ [(⟨(oneT 1 (ρ.1.tail, ρ.2)).text, ra, rc, Rw⟩ : Sta)], (UU, true), a104, c104) ⟨⟨fSx, fun h => by show (UU, true).1.length < fSx; omega, by rw [← hESx, List.map_append]; exact rp_stas hws (rp_sta hR)⟩, by rw [List.length_append, List.length_singleton]; exact cnt_ok (σ := ρ) hb9 (lt_and hq3) hlenSx, hq2⟩ (mS_lt (σ := ρ) hb9 (lt_and hq3)) (Keep.cons rfl (Keep.cons rfl (Keep.cons rfl (Keep.nil)))) (tO)
   ·
    replace hc7 := hs_ hc7
    have hws : wordB (wState) (ρ) = false := by simpa using hc7
    rw [wordS_F hws]
    refine g_exit ?_
    refine ge_then_exit ?_
    refine ge_then_exit ?_
    refine ge_block_exit ?_
    refine ge_then ?_
    refine g_seq ?_
    refine g_region ?_
    refine gl_v rfl (o_move rfl) ?_
    refine gl_c rfl (o_call rfl (mustR_spec p la lc L hL (ρ) (wShut) (hρ)) pA) ?_
    rintro _ R ⟨_, ⟨rfl, rfl⟩, rfl⟩
    try simp only [List.cons_append, List.nil_append]
    refine gl_nil ?_
    refine ge_then ?_
    refine g_seq ?_
    refine g_region ?_
    first | refine gl_v rfl (o_loadSA rfl rfl rfl) ?_ | refine gl_v rfl (o_loadA rfl rfl rfl) ?_
    first | refine gl_u (o_storeSA rfl rfl rfl rfl (by simp; omega) (by simp)) ?_ | refine gl_u (o_storeA rfl rfl rfl rfl rfl) ?_
    refine gl_nil ?_
    refine ge_then ?_
    refine g_ret ?_
    refine ret1c (.inl rfl) rfl rfl rfl rfl [kndA ⟨(oneT 1 σ).text, lim, wi, ca, cc, C, sa, sc, Sx⟩, txt p la lc L (mustS wShut ρ), tksA la lc L] (⟨_, mustS wShut ρ, rfl, rfl, rp_knd rfl (by rw [h2]; exact hlim) hC (by rw [← hESx]; exact rp_stasE hfSx hws)⟩) (fun h s => mk_knd2 (e := 78) (e2 := 54) (one_ok hTB 1 hs) (by omega) (by omega) hrs h ((tO) h s))

end Go.Proofs.YtgkjnilckmminaaGreatDoor.L
