/-
  Script: Read and Line. Own work, printed in part by a program of its own.
-/
import Derived.Test.YtcglaiacohkaeaaDoorScrW
set_option linter.unusedSimpArgs false
set_option linter.unusedVariables false
set_option linter.unusedSectionVars false
namespace Go.Proofs.YtcglaiacohkaeaaDoor.L
open Go.L Go.L.Lx Go.L.Pa Go.L.Sc
theorem ret2ct {P : Program} {W0 : World} {n : Nat} {sl : Slots} {As R : List Assn} {fn : Func} {post : Value → List Assn → Prop} {e : Exit} (he : e = .ret ∨ e = .normal) {t b off sz q : Nat} {T te : TypeId} {l vs : List Value} {fz : Nat × Nat} {y : Value} {u : Obj → List Assn} [i : TAgg P T sz] [j : Owns b As (.cells l.toArray te fz) u] (hf : fn.results = #[.cell t T, .tmp q]) (h1 : slk sl t = some (ptr b off)) (h2 : slk sl q = some y) (hv : (l.drop off).take sz = vs) (hl : vs.length = sz) (Bs : List Assn) (hp : post (.tuple #[.agg vs.toArray, y]) Bs) (hA : ∀ h, Sat As h → Sat (Bs ++ R) h) :
    GE W0 n sl As (FQ P W0 fn post R e) :=
  fq_ret he (fun a w hs s => by
    obtain ⟨dd, g1, g2⟩ := i.out
    obtain ⟨inf, g3, g4⟩ := i.size
    have hb := s.heap (b := b)
    have hc := run_loadCells_list (P := P) w ⟨b, off, none⟩ vs (fun k v hk => by
      rw [← hv] at hk
      have := take_get hk
      rw [cell_add]; simp [World.cell?, hb, this])
    rw [hl] at hc
    simp [results, hf, hs.val _ _ h1, hs.val _ _ h2, asAddr, loadVar, rA1 g1 g2, rS g3, g4, hc]) Bs hp hA

theorem rdo_cel {b : Nat} {e : TypeId} {ws : List By} {R : List Assn} : ∀ h, Sat (cel b e (wsC ws) :: R) h → Sat (rdo (some ⟨b, 0, none⟩) ws.length ws.length (wsC ws) :: R) h := fun _ => Sat.head fun g hh => by
  refine ⟨.inr ⟨b, 0, none, ws.length, rfl, fun _ => rfl, fun j x hx => ⟨rfl, (wsC ws).toArray, e, (0, 0), hh, by simpa using hx⟩⟩, Nat.le_refl _⟩

set_option maxRecDepth 8000 in
set_option maxHeartbeats 2000000 in
theorem Read_spec {W : World} (hG : Gok W) (hm : ∃ m, W.cell? ⟨Tryd.spTm_ren.g 1, 0, none⟩ = some (.int .i64 m)) (l : By) (hl : l.length ≤ 4294967280) : FnS Tryd.prog 11 [S l] [base W] (fun u Bs => u = (match readE l with | some e => Value.tuple #[.agg (entC e).toArray, I64 0] | none => Value.tuple #[.agg (entC ent0).toArray, I64 60]) ∧ Bs = [base W]) := by
 refine fn_body Tryd.func11 rfl rfl rfl ?_
 intro W0 R
 simp only [List.zipIdx_cons, List.zipIdx_nil, List.map_cons, List.map_nil, Nat.zero_add, Nat.reduceAdd, List.cons_append, List.nil_append]
 obtain ⟨w0, ws, hsp⟩ := split_cons (c := 32) (l := l)
 have hsm0 : small (w0 :: ws, false) := fun w hw => by have := split_wlen (c := 32) l w (by rw [hsp]; exact hw); omega
 have hsm : small (ws, false) := fun w hw => hsm0 w (List.mem_cons_of_mem _ hw)
 refine g_seq ?_
 refine g_region ?_
 refine gl_n rfl (o_alloc) ?_
 rintro _ _ ⟨b2, rfl, rfl⟩
 refine gl_v rfl (o_assign rfl) ?_
 refine gl_nil ?_
 refine ge_then ?_
 refine g_seq ?_
 refine g_region ?_
 refine gl_v rfl (o_move rfl) ?_
 refine gl_c rfl (o_call rfl (Split_spec hm l 32 (by omega)) pA) ?_
 rintro _ R ⟨_, ⟨bq, rfl, rfl⟩, rfl⟩
 try simp only [List.cons_append, List.nil_append]
 rw [hsp]
 refine gl_v rfl (o_build rfl rfl) ?_
 refine gl_n rfl (o_boxA rfl) ?_
 rintro _ _ ⟨b10, rfl, rfl⟩
 refine gl_n rfl (o_alloc) ?_
 rintro _ _ ⟨b4, rfl, rfl⟩
 first | refine gl_u (o_store rfl rfl rfl rfl) ?_ | refine gl_u (o_storeS rfl rfl rfl (by first | assumption | omega | simp)) ?_
 refine gl_nil ?_
 refine ge_then ?_
 refine g_seq ?_
 refine g_region ?_
 refine gl_v rfl (o_func rfl rfl) ?_
 refine gl_v rfl (o_assign rfl) ?_
 refine gl_nil ?_
 refine ge_then ?_
 refine g_seq ?_
 refine g_region ?_
 refine gl_n rfl (o_alloc) ?_
 rintro _ _ ⟨b6, rfl, rfl⟩
 refine gl_nil ?_
 refine ge_then ?_
 refine g_cut (fun act wo => ∃ (e : Ent) (ω : Om), readE l = (if doneB ω = true then some e else none) ∧ HasSl Tryd.f11.ntmps [(6, ptr b6 0), (4, ptr b4 0), (2, ptr b2 0)] act ∧ St W0 (cel b6 23 (entC (e)) :: wrd b10 ω :: cel b4 62 [ptr b10 0] :: cel b2 23 (entC ent0) :: base W :: R) wo) ?_ ?_
 ·
  refine g_seq ?_
  refine g_imp (fun h s => wrd_close (p := b10) (ω := (w0 :: ws, false)) (some ⟨bq, 0, none⟩) (w0 :: ws).length (As := cel b10 66 [.slice (some ⟨bq, 0, none⟩) (w0 :: ws).length (w0 :: ws).length, .bool false] :: cel bq 9 (wsC (w0 :: ws)) :: _) (fun h s => Sat.tail (fun h s => rdo_cel (ws := w0 :: ws) h s) s) h (Part.to (m := [cel b10 66 [.slice (some ⟨bq, 0, none⟩) (w0 :: ws).length (w0 :: ws).length, .bool false], cel bq 9 (wsC (w0 :: ws))]) pA s)) ?_
  try simp only [List.append_eq, List.nil_append, List.cons_append]
  refine g_region ?_
  first | refine gl_v rfl (o_load rfl rfl) ?_ | refine gl_v rfl (o_loadS rfl rfl) ?_ | refine gl_v rfl (o_loadC rfl) ?_
  refine gl_c rfl (o_call rfl (take_spec b10 (w0 :: ws, false)) pA) ?_
  rintro _ R ⟨_, ⟨rfl, rfl⟩, rfl⟩
  try simp only [List.cons_append, List.nil_append]
  rw [show takeS (w0 :: ws, false) = (ws, false) by unfold takeS; simp, show takeV (w0 :: ws, false) = w0 from rfl]
  refine gl_nil ?_
  refine ge_then ?_
  refine g_block ?_
  refine g_seq ?_
  refine g_region ?_
  refine gl_v rfl (o_eqls rfl rfl) ?_
  refine gl_v rfl (o_assign rfl) ?_
  refine gl_nil ?_
  refine ge_then ?_
  refine g_cond rfl (fun hc1 => ?_) (fun hc1 => ?_)
  ·
   replace hc1 := hs_ hc1
   have hk9 : w0 = [119, 111, 114, 107] := by simpa using hc1
   refine g_seq ?_
   refine g_region ?_
   refine gl_v rfl (o_move rfl) ?_
   refine gl_c rfl (o_callV rfl rfl (read1_spec hG b4 b10 ((ws, false)) (hsm)) pA) ?_
   rintro _ R ⟨_, ⟨rfl, rfl⟩, rfl⟩
   try simp only [List.cons_append, List.nil_append]
   refine gl_v rfl (o_build rfl rfl) ?_
   first | refine gl_u (o_storeSA rfl rfl rfl rfl (by simp; omega) (by simp)) ?_ | refine gl_u (o_storeA rfl rfl rfl rfl rfl) ?_
   refine gl_nil ?_
   refine ge_then ?_
   refine g_region ?_
   refine gl_v rfl (o_move rfl) ?_
   refine gl_c rfl (o_callV rfl rfl (read1_spec hG b4 b10 (numS 0 65535 ((ws, false))) (small_num hsm)) pA) ?_
   rintro _ R ⟨_, ⟨rfl, rfl⟩, rfl⟩
   try simp only [List.cons_append, List.nil_append]
   first | refine gl_v rfl (o_fldS rfl) ?_ | refine gl_v rfl (o_fld rfl) ?_
   first | refine gl_u (o_store rfl rfl rfl rfl) ?_ | refine gl_u (o_storeS rfl rfl rfl (by first | assumption | omega | simp)) ?_
   refine gl_nil ?_
   refine ge_block ?_
   exact fun act wo hsl st => ⟨(runE [97, 110] { ent0 with kind := 1 } (ws, false)).1, (runE [97, 110] { ent0 with kind := 1 } (ws, false)).2, readE_run hsp (show kindE w0 = 1 by rw [hk9]; rfl) (by decide), hsl.keep (Keep.cons rfl (Keep.cons rfl (Keep.cons rfl (Keep.nil)))), st.imp (tO)⟩
  ·
   replace hc1 := hs_ hc1
   have nq1 : ¬ w0 = [119, 111, 114, 107] := by simpa using hc1
   refine g_seq ?_
   refine g_region ?_
   refine gl_v rfl (o_eqls rfl rfl) ?_
   refine gl_v rfl (o_assign rfl) ?_
   refine gl_nil ?_
   refine ge_then ?_
   refine g_cond rfl (fun hc2 => ?_) (fun hc2 => ?_)
   ·
    replace hc2 := hs_ hc2
    have hk9 : w0 = [104, 97, 110, 100] := by simpa using hc2
    refine g_region ?_
    refine gl_v rfl (o_move rfl) ?_
    refine gl_c rfl (o_callV rfl rfl (read1_spec hG b4 b10 ((ws, false)) (hsm)) pA) ?_
    rintro _ R ⟨_, ⟨rfl, rfl⟩, rfl⟩
    try simp only [List.cons_append, List.nil_append]
    refine gl_v rfl (o_build rfl rfl) ?_
    first | refine gl_u (o_storeSA rfl rfl rfl rfl (by simp; omega) (by simp)) ?_ | refine gl_u (o_storeA rfl rfl rfl rfl rfl) ?_
    refine gl_nil ?_
    refine ge_block ?_
    exact fun act wo hsl st => ⟨(runE [97] { ent0 with kind := 2 } (ws, false)).1, (runE [97] { ent0 with kind := 2 } (ws, false)).2, readE_run hsp (show kindE w0 = 2 by rw [hk9]; rfl) (by decide), hsl.keep (Keep.cons rfl (Keep.cons rfl (Keep.cons rfl (Keep.nil)))), st.imp (tO)⟩
   ·
    replace hc2 := hs_ hc2
    have nq2 : ¬ w0 = [104, 97, 110, 100] := by simpa using hc2
    refine g_seq ?_
    refine g_region ?_
    refine gl_v rfl (o_eqls rfl rfl) ?_
    refine gl_v rfl (o_assign rfl) ?_
    refine gl_nil ?_
    refine ge_then ?_
    refine g_cond rfl (fun hc3 => ?_) (fun hc3 => ?_)
    ·
     replace hc3 := hs_ hc3
     have hk9 : w0 = [99, 108, 111, 99, 107] := by simpa using hc3
     refine g_region ?_
     first | refine gl_v rfl (o_fldS rfl) ?_ | refine gl_v rfl (o_fld rfl) ?_
     first | refine gl_u (o_store rfl rfl rfl rfl) ?_ | refine gl_u (o_storeS rfl rfl rfl (by first | assumption | omega | simp)) ?_
     refine gl_nil ?_
     refine ge_block ?_
     exact fun act wo hsl st => ⟨(runE [] { ent0 with kind := 3 } (ws, false)).1, (runE [] { ent0 with kind := 3 } (ws, false)).2, readE_run hsp (show kindE w0 = 3 by rw [hk9]; rfl) (by decide), hsl.keep (Keep.cons rfl (Keep.cons rfl (Keep.cons rfl (Keep.nil)))), st.imp (tO)⟩
    ·
     replace hc3 := hs_ hc3
     have nq3 : ¬ w0 = [99, 108, 111, 99, 107] := by simpa using hc3
     refine g_seq ?_
     refine g_region ?_
     refine gl_v rfl (o_eqls rfl rfl) ?_
     refine gl_v rfl (o_assign rfl) ?_
     refine gl_nil ?_
     refine ge_then ?_
     refine g_cond rfl (fun hc4 => ?_) (fun hc4 => ?_)
     ·
      replace hc4 := hs_ hc4
      have hk9 : w0 = [116, 105, 99, 107] := by simpa using hc4
      refine g_region ?_
      first | refine gl_v rfl (o_fldS rfl) ?_ | refine gl_v rfl (o_fld rfl) ?_
      first | refine gl_u (o_store rfl rfl rfl rfl) ?_ | refine gl_u (o_storeS rfl rfl rfl (by first | assumption | omega | simp)) ?_
      refine gl_nil ?_
      refine ge_block ?_
      exact fun act wo hsl st => ⟨(runE [] { ent0 with kind := 6 } (ws, false)).1, (runE [] { ent0 with kind := 6 } (ws, false)).2, readE_run hsp (show kindE w0 = 6 by rw [hk9]; rfl) (by decide), hsl.keep (Keep.cons rfl (Keep.cons rfl (Keep.cons rfl (Keep.nil)))), st.imp (tO)⟩
     ·
      replace hc4 := hs_ hc4
      have nq4 : ¬ w0 = [116, 105, 99, 107] := by simpa using hc4
      refine g_seq ?_
      refine g_region ?_
      refine gl_v rfl (o_eqls rfl rfl) ?_
      refine gl_v rfl (o_assign rfl) ?_
      refine gl_nil ?_
      refine ge_then ?_
      refine g_cond rfl (fun hc5 => ?_) (fun hc5 => ?_)
      ·
       replace hc5 := hs_ hc5
       have hk9 : w0 = [116, 101, 108, 108] := by simpa using hc5
       refine g_seq ?_
       refine g_region ?_
       refine gl_v rfl (o_move rfl) ?_
       refine gl_c rfl (o_callV rfl rfl (read1_spec hG b4 b10 ((ws, false)) (hsm)) pA) ?_
       rintro _ R ⟨_, ⟨rfl, rfl⟩, rfl⟩
       try simp only [List.cons_append, List.nil_append]
       refine gl_v rfl (o_build rfl rfl) ?_
       first | refine gl_u (o_storeSA rfl rfl rfl rfl (by simp; omega) (by simp)) ?_ | refine gl_u (o_storeA rfl rfl rfl rfl rfl) ?_
       refine gl_nil ?_
       refine ge_then ?_
       refine g_seq ?_
       refine g_region ?_
       refine gl_v rfl (o_move rfl) ?_
       refine gl_c rfl (o_callV rfl rfl (read1_spec hG b4 b10 (numS 0 65535 ((ws, false))) (small_num hsm)) pA) ?_
       rintro _ R ⟨_, ⟨rfl, rfl⟩, rfl⟩
       try simp only [List.cons_append, List.nil_append]
       first | refine gl_v rfl (o_fldS rfl) ?_ | refine gl_v rfl (o_fld rfl) ?_
       first | refine gl_u (o_store rfl rfl rfl rfl) ?_ | refine gl_u (o_storeS rfl rfl rfl (by first | assumption | omega | simp)) ?_
       refine gl_nil ?_
       refine ge_then ?_
       refine g_seq ?_
       refine g_region ?_
       first | refine gl_v rfl (o_load rfl rfl) ?_ | refine gl_v rfl (o_loadS rfl rfl) ?_ | refine gl_v rfl (o_loadC rfl) ?_
       refine gl_c rfl (o_call rfl (name0_spec b10 (numS 0 65535 (numS 0 65535 ((ws, false)))) (small_take (small_num (small_num hsm)))) pA) ?_
       rintro _ R ⟨_, ⟨rfl, rfl⟩, rfl⟩
       try simp only [List.cons_append, List.nil_append]
       first | refine gl_v rfl (o_fldS rfl) ?_ | refine gl_v rfl (o_fld rfl) ?_
       first | refine gl_u (o_store rfl rfl rfl rfl) ?_ | refine gl_u (o_storeS rfl rfl rfl (by first | assumption | omega | simp)) ?_
       refine gl_nil ?_
       refine ge_then ?_
       refine g_region ?_
       refine gl_v rfl (o_move rfl) ?_
       refine gl_c rfl (o_callV rfl rfl (read1_spec hG b4 b10 (nameS (numS 0 65535 (numS 0 65535 ((ws, false))))) (small_name (small_num (small_num hsm)))) pA) ?_
       rintro _ R ⟨_, ⟨rfl, rfl⟩, rfl⟩
       try simp only [List.cons_append, List.nil_append]
       first | refine gl_v rfl (o_fldS rfl) ?_ | refine gl_v rfl (o_fld rfl) ?_
       first | refine gl_u (o_store rfl rfl rfl rfl) ?_ | refine gl_u (o_storeS rfl rfl rfl (by first | assumption | omega | simp)) ?_
       refine gl_nil ?_
       refine ge_block ?_
       exact fun act wo hsl st => ⟨(runE [97, 98, 116, 110] { ent0 with kind := 4 } (ws, false)).1, (runE [97, 98, 116, 110] { ent0 with kind := 4 } (ws, false)).2, readE_run hsp (show kindE w0 = 4 by rw [hk9]; rfl) (by decide), hsl.keep (Keep.cons rfl (Keep.cons rfl (Keep.cons rfl (Keep.nil)))), st.imp (tO)⟩
      ·
       replace hc5 := hs_ hc5
       have nq5 : ¬ w0 = [116, 101, 108, 108] := by simpa using hc5
       refine g_seq ?_
       refine g_region ?_
       refine gl_v rfl (o_eqls rfl rfl) ?_
       refine gl_v rfl (o_assign rfl) ?_
       refine gl_nil ?_
       refine ge_then ?_
       refine g_cond rfl (fun hc6 => ?_) (fun hc6 => ?_)
       ·
        replace hc6 := hs_ hc6
        have hk9 : w0 = [115, 116, 111, 112] := by simpa using hc6
        refine g_seq ?_
        refine g_region ?_
        refine gl_v rfl (o_move rfl) ?_
        refine gl_c rfl (o_callV rfl rfl (read1_spec hG b4 b10 ((ws, false)) (hsm)) pA) ?_
        rintro _ R ⟨_, ⟨rfl, rfl⟩, rfl⟩
        try simp only [List.cons_append, List.nil_append]
        refine gl_v rfl (o_build rfl rfl) ?_
        first | refine gl_u (o_storeSA rfl rfl rfl rfl (by simp; omega) (by simp)) ?_ | refine gl_u (o_storeA rfl rfl rfl rfl rfl) ?_
        refine gl_nil ?_
        refine ge_then ?_
        refine g_region ?_
        refine gl_v rfl (o_move rfl) ?_
        refine gl_c rfl (o_callV rfl rfl (read1_spec hG b4 b10 (numS 0 65535 ((ws, false))) (small_num hsm)) pA) ?_
        rintro _ R ⟨_, ⟨rfl, rfl⟩, rfl⟩
        try simp only [List.cons_append, List.nil_append]
        first | refine gl_v rfl (o_fldS rfl) ?_ | refine gl_v rfl (o_fld rfl) ?_
        first | refine gl_u (o_store rfl rfl rfl rfl) ?_ | refine gl_u (o_storeS rfl rfl rfl (by first | assumption | omega | simp)) ?_
        refine gl_nil ?_
        refine ge_block ?_
        exact fun act wo hsl st => ⟨(runE [97, 98] { ent0 with kind := 5 } (ws, false)).1, (runE [97, 98] { ent0 with kind := 5 } (ws, false)).2, readE_run hsp (show kindE w0 = 5 by rw [hk9]; rfl) (by decide), hsl.keep (Keep.cons rfl (Keep.cons rfl (Keep.cons rfl (Keep.nil)))), st.imp (tO)⟩
       ·
        replace hc6 := hs_ hc6
        have nq6 : ¬ w0 = [115, 116, 111, 112] := by simpa using hc6
        refine g_seq ?_
        refine g_region ?_
        refine gl_v rfl (o_eqls rfl rfl) ?_
        refine gl_v rfl (o_assign rfl) ?_
        refine gl_nil ?_
        refine ge_then ?_
        refine g_cond rfl (fun hc7 => ?_) (fun hc7 => ?_)
        ·
         replace hc7 := hs_ hc7
         have hk9 : w0 = [115, 104, 117, 116] := by simpa using hc7
         refine g_region ?_
         refine gl_v rfl (o_move rfl) ?_
         refine gl_c rfl (o_callV rfl rfl (read1_spec hG b4 b10 ((ws, false)) (hsm)) pA) ?_
         rintro _ R ⟨_, ⟨rfl, rfl⟩, rfl⟩
         try simp only [List.cons_append, List.nil_append]
         refine gl_v rfl (o_build rfl rfl) ?_
         first | refine gl_u (o_storeSA rfl rfl rfl rfl (by simp; omega) (by simp)) ?_ | refine gl_u (o_storeA rfl rfl rfl rfl rfl) ?_
         refine gl_nil ?_
         refine ge_block ?_
         exact fun act wo hsl st => ⟨(runE [97] { ent0 with kind := 7 } (ws, false)).1, (runE [97] { ent0 with kind := 7 } (ws, false)).2, readE_run hsp (show kindE w0 = 7 by rw [hk9]; rfl) (by decide), hsl.keep (Keep.cons rfl (Keep.cons rfl (Keep.cons rfl (Keep.nil)))), st.imp (tO)⟩
        ·
         replace hc7 := hs_ hc7
         have nq7 : ¬ w0 = [115, 104, 117, 116] := by simpa using hc7
         refine g_imp (fun h s => Sel.to (A := wrd b10 (ws, false)) sE s) ?_
         refine g_open .head ?_
         rintro ⟨a, c⟩ -
         simp only [List.cons_append, List.nil_append]
         refine g_region ?_
         first | refine gl_v rfl (o_load rfl rfl) ?_ | refine gl_v rfl (o_loadS rfl rfl) ?_ | refine gl_v rfl (o_loadC rfl) ?_
         refine gl_v rfl (o_nil rfl) ?_
         first | refine gl_v rfl (o_fldS rfl) ?_ | refine gl_v rfl (o_fld rfl) ?_
         first | refine gl_u (o_store rfl rfl rfl rfl) ?_ | refine gl_u (o_storeS rfl rfl rfl (by first | assumption | omega | simp)) ?_
         refine gl_nil ?_
         refine ge_block ?_
         exact fun act wo hsl st => ⟨ent0, (ws, true), by rw [readE_no hsp (by unfold kindE; rw [if_neg nq1, if_neg nq2, if_neg nq3, if_neg nq5, if_neg nq6, if_neg nq4, if_neg nq7])]; rfl, hsl.keep (Keep.cons rfl (Keep.cons rfl (Keep.cons rfl (Keep.nil)))), st.imp (fun h s => Sat.tail (fun h s => wrd_close (p := b10) (ω := (ws, true)) a c (fun h s => s) h s) ((tO) h s))⟩
 ·
  rintro act wo ⟨e, ω, hR, hsl, st⟩
  refine g_of ?_ hsl st
  clear hsl st act wo
  refine g_seq ?_
  refine g_seq ?_
  refine g_region ?_
  first | refine gl_v rfl (o_load rfl rfl) ?_ | refine gl_v rfl (o_loadS rfl rfl) ?_ | refine gl_v rfl (o_loadC rfl) ?_
  refine gl_c rfl (o_call rfl (done_spec b10 ω) pA) ?_
  rintro _ R ⟨_, ⟨rfl, rfl⟩, rfl⟩
  try simp only [List.cons_append, List.nil_append]
  refine gl_v rfl (o_not rfl) ?_
  refine gl_nil ?_
  refine ge_then ?_
  refine g_cond rfl (fun hc8 => ?_) (fun hc8 => ?_)
  ·
   replace hc8 := hs_ hc8
   have hd : doneB ω = false := by simpa using hc8
   rw [hd, if_neg (by decide)] at hR
   refine g_seq ?_
   refine g_region ?_
   refine gl_v rfl (o_build rfl rfl) ?_
   first | refine gl_u (o_storeSA rfl rfl rfl rfl (by simp; omega) (by simp)) ?_ | refine gl_u (o_storeA rfl rfl rfl rfl rfl) ?_
   refine gl_v rfl (o_assign rfl) ?_
   refine gl_nil ?_
   refine ge_then ?_
   refine g_ret ?_
   refine ge_then_ret ?_
   refine ret2ct (.inl rfl) rfl rfl rfl rfl rfl [base W] ⟨by rw [hR]; rfl, rfl⟩ (tO)
  ·
   replace hc8 := hs_ hc8
   have hd : doneB ω = true := by simpa using hc8
   rw [hd, if_pos rfl] at hR
   refine g_skip ?_
   refine ge_then ?_
   refine g_seq ?_
   refine g_region ?_
   first | refine gl_v rfl (o_loadSA rfl rfl rfl) ?_ | refine gl_v rfl (o_loadA rfl rfl rfl) ?_
   first | refine gl_u (o_storeSA rfl rfl rfl rfl (by simp; omega) (by simp)) ?_ | refine gl_u (o_storeA rfl rfl rfl rfl rfl) ?_
   refine gl_v rfl (o_assign rfl) ?_
   refine gl_nil ?_
   refine ge_then ?_
   refine g_ret ?_
   refine ret2ct (.inl rfl) rfl rfl rfl rfl rfl [base W] ⟨by rw [hR]; rfl, rfl⟩ (tO)

theorem dec_len (n : Nat) : ∀ k, n < 10 ^ (k + 1) → (dec n).length ≤ k + 1 := by
  induction n using Nat.strongRecOn with
  | _ n ih =>
    intro k h
    rw [dec]
    split
    · simp
    · rename_i h10
      rw [List.length_append, List.length_singleton]
      cases k with
      | zero => simp at h; omega
      | succ k =>
        have := ih (n / 10) (by omega) k (by rw [Nat.pow_succ] at h; omega)
        omega
theorem itoa_len {n : Int} (h : -9223372036854775808 ≤ n ∧ n ≤ 9223372036854775807) : (itoaB n).length ≤ 20 := by
  unfold itoaB; split
  · have := dec_len n.natAbs 18 (by omega)
    simp only [List.length_cons]; omega
  · have := dec_len n.toNat 18 (by omega); omega
theorem flatEq_ent (x y : Ent) : flatEq (entC x) (entC y) = decide (x = y) := by
  cases x; cases y
  rw [Bool.eq_iff_iff, decide_eq_true_eq]
  simp [flatEq, entC, S_toList, and_assoc]
structure EntR (e : Ent) : Prop where
  a : -9223372036854775808 ≤ e.a ∧ e.a ≤ 9223372036854775807
  b : -9223372036854775808 ≤ e.b ∧ e.b ≤ 9223372036854775807
  n : -9223372036854775808 ≤ e.n ∧ e.n ≤ 9223372036854775807
  tag : e.tag.length ≤ 1048576
theorem cand_at {e : Ent} {k : Int} (h : e.kind = k) : candE e = joinC 32 ((formE k).1 :: (formE k).2.map (fieldE e)) := by unfold candE; rw [h]

set_option maxRecDepth 8000 in
set_option maxHeartbeats 2000000 in
theorem Line_none {W : World} (hG : Gok W) (hm : ∃ m, W.cell? ⟨Tryd.spTm_ren.g 1, 0, none⟩ = some (.int .i64 m)) (e : Ent) (hr : EntR e) (hrd : readE (candE e) = none) : FnS Tryd.prog 9 [.agg (entC e).toArray] [base W] (fun u Bs => u = (match lineE e with | some s => Value.tuple #[S s, I64 0] | none => Value.tuple #[S [], I64 1]) ∧ Bs = [base W]) := by
 refine fn_body Tryd.func9 rfl rfl rfl ?_
 intro W0 R
 simp only [List.zipIdx_cons, List.zipIdx_nil, List.map_cons, List.map_nil, Nat.zero_add, Nat.reduceAdd, List.cons_append, List.nil_append]
 have la := itoa_len hr.a
 have lb := itoa_len hr.b
 have ln := itoa_len hr.n
 have lt := hr.tag
 have hkm : (entC e).length = 5 := rfl
 refine g_seq ?_
 refine g_region ?_
 refine gl_n rfl (o_boxA rfl) ?_
 rintro _ _ ⟨b1, rfl, rfl⟩
 refine gl_v rfl (o_assign rfl) ?_
 refine gl_v rfl (o_assign rfl) ?_
 refine gl_nil ?_
 refine ge_then ?_
 refine g_seq ?_
 refine g_region ?_
 refine gl_v rfl (o_assign rfl) ?_
 refine gl_nil ?_
 refine ge_then ?_
 refine g_cut (fun act wo => (candE e).length ≤ 4000000100 ∧ HasSl Tryd.f9.ntmps [(4, S (candE e)), (1, ptr b1 0)] act ∧ St W0 (cel b1 23 (entC e) :: base W :: R) wo) ?_ ?_
 ·
  refine g_seq ?_
  refine g_draw [2, 5, 8] [2, 5] [(0, .loc), (1, .loc), (3, .stab), (4, .stab), (6, .stab), (7, .stab), (2, .eff), (5, .eff), (8, .eff), (9, .loc), (10, .loc), (11, .loc)] [cel b1 23 (entC e), base W] mixed (by kernel_rfl) ?_
  first | refine go_v rfl .none rfl (o_fldS rfl) ?_ | refine go_v rfl .none rfl (o_fld rfl) ?_
  first | refine go_v rfl .none rfl (o_load rfl rfl) ?_ | refine go_v rfl .none rfl (o_loadS rfl rfl) ?_ | refine go_v rfl .none rfl (o_loadC rfl) ?_
  first | refine go_vs rfl .none rfl (o_fldS rfl) (tO) ?_ | refine go_vs rfl .none rfl (o_fld rfl) (tO) ?_
  first | refine go_vs rfl .none rfl (o_load rfl rfl) (tO) ?_ | refine go_vs rfl .none rfl (o_loadS rfl rfl) (tO) ?_ | refine go_vs rfl .none rfl (o_loadC rfl) (tO) ?_
  first | refine go_vs rfl .none rfl (o_fldS rfl) (tO) ?_ | refine go_vs rfl .none rfl (o_fld rfl) (tO) ?_
  first | refine go_vs rfl .none rfl (o_load rfl rfl) (tO) ?_ | refine go_vs rfl .none rfl (o_loadS rfl rfl) (tO) ?_ | refine go_vs rfl .none rfl (o_loadC rfl) (tO) ?_
  refine go_c rfl .none rfl (o_call rfl (Itoa_spec hG e.a hr.a.1 hr.a.2) pA) ?_
  rintro _ R ⟨_, ⟨rfl, rfl⟩, rfl⟩
  try simp only [List.cons_append, List.nil_append]
  refine ⟨(fun _ => (tO)), ?_⟩
  refine go_c rfl .none rfl (o_call rfl (Itoa_spec hG e.b hr.b.1 hr.b.2) pA) ?_
  rintro _ R ⟨_, ⟨rfl, rfl⟩, rfl⟩
  try simp only [List.cons_append, List.nil_append]
  refine ⟨(fun _ => (tO)), ?_⟩
  refine go_c rfl .none rfl (o_call rfl (Itoa_spec hG e.n hr.n.1 hr.n.2) pA) ?_
  rintro _ R ⟨_, ⟨rfl, rfl⟩, rfl⟩
  try simp only [List.cons_append, List.nil_append]
  refine ⟨(fun hG => absurd hG (by decide)), ?_⟩
  refine go_v rfl .none rfl (o_assign rfl) ?_
  refine go_v rfl .none rfl (o_assign rfl) ?_
  refine go_v rfl .none rfl (o_assign rfl) ?_
  refine go_nil ?_
  refine ge_then ?_
  refine g_seq ?_
  refine g_region ?_
  first | refine gl_v rfl (o_fldS rfl) ?_ | refine gl_v rfl (o_fld rfl) ?_
  first | refine gl_v rfl (o_load rfl rfl) ?_ | refine gl_v rfl (o_loadS rfl rfl) ?_ | refine gl_v rfl (o_loadC rfl) ?_
  refine gl_nil ?_
  refine ge_then ?_
  refine g_block ?_
  refine g_seq ?_
  refine g_region ?_
  refine gl_v rfl (o_eql rfl rfl) ?_
  refine gl_v rfl (o_assign rfl) ?_
  refine gl_nil ?_
  refine ge_then ?_
  refine g_cond rfl (fun hc1 => ?_) (fun hc1 => ?_)
  ·
   replace hc1 := hs_ hc1
   have hcd : candE e = [119, 111, 114, 107, 32] ++ itoaB e.a ++ [32] ++ itoaB e.n := by rw [cand_at (k := 1) (by omega)]; simp [formE, fieldE, joinC]
   have hcl : (candE e).length ≤ 4000000100 := by rw [hcd]; simp only [List.length_append, List.length_cons, List.length_nil]; omega
   refine g_region ?_
   refine gl_v rfl (o_move rfl) ?_
   refine gl_v rfl (o_adds rfl rfl (by simp only [List.length_append, List.length_cons, List.length_nil]; omega)) ?_
   refine gl_v rfl (o_adds rfl rfl (by simp only [List.length_append, List.length_cons, List.length_nil]; omega)) ?_
   refine gl_v rfl (o_move rfl) ?_
   refine gl_v rfl (o_adds rfl rfl (by simp only [List.length_append, List.length_cons, List.length_nil]; omega)) ?_
   refine gl_v rfl (o_assign rfl) ?_
   refine gl_nil ?_
   refine ge_block ?_
   exact fun act wo hsl st => ⟨hcl, hsl.keep (by rw [hcd]; exact Keep.cons rfl (Keep.cons rfl Keep.nil)), st.imp (tO)⟩
  ·
   replace hc1 := hs_ hc1
   refine g_seq ?_
   refine g_region ?_
   refine gl_v rfl (o_eql rfl rfl) ?_
   refine gl_v rfl (o_assign rfl) ?_
   refine gl_nil ?_
   refine ge_then ?_
   refine g_cond rfl (fun hc2 => ?_) (fun hc2 => ?_)
   ·
    replace hc2 := hs_ hc2
    have hcd : candE e = [104, 97, 110, 100, 32] ++ itoaB e.a := by rw [cand_at (k := 2) (by omega)]; simp [formE, fieldE, joinC]
    have hcl : (candE e).length ≤ 4000000100 := by rw [hcd]; simp only [List.length_append, List.length_cons, List.length_nil]; omega
    refine g_region ?_
    refine gl_v rfl (o_move rfl) ?_
    refine gl_v rfl (o_adds rfl rfl (by simp only [List.length_append, List.length_cons, List.length_nil]; omega)) ?_
    refine gl_v rfl (o_assign rfl) ?_
    refine gl_nil ?_
    refine ge_block ?_
    exact fun act wo hsl st => ⟨hcl, hsl.keep (by rw [hcd]; exact Keep.cons rfl (Keep.cons rfl Keep.nil)), st.imp (tO)⟩
   ·
    replace hc2 := hs_ hc2
    refine g_seq ?_
    refine g_region ?_
    refine gl_v rfl (o_eql rfl rfl) ?_
    refine gl_v rfl (o_assign rfl) ?_
    refine gl_nil ?_
    refine ge_then ?_
    refine g_cond rfl (fun hc3 => ?_) (fun hc3 => ?_)
    ·
     replace hc3 := hs_ hc3
     have hcd : candE e = [99, 108, 111, 99, 107] := by rw [cand_at (k := 3) (by omega)]; simp [formE, fieldE, joinC]
     have hcl : (candE e).length ≤ 4000000100 := by rw [hcd]; simp only [List.length_append, List.length_cons, List.length_nil]; omega
     refine g_region ?_
     refine gl_v rfl (o_assign rfl) ?_
     refine gl_nil ?_
     refine ge_block ?_
     exact fun act wo hsl st => ⟨hcl, hsl.keep (by rw [hcd]; exact Keep.cons rfl (Keep.cons rfl Keep.nil)), st.imp (tO)⟩
    ·
     replace hc3 := hs_ hc3
     refine g_seq ?_
     refine g_region ?_
     refine gl_v rfl (o_eql rfl rfl) ?_
     refine gl_v rfl (o_assign rfl) ?_
     refine gl_nil ?_
     refine ge_then ?_
     refine g_cond rfl (fun hc4 => ?_) (fun hc4 => ?_)
     ·
      replace hc4 := hs_ hc4
      have hcd : candE e = [116, 101, 108, 108, 32] ++ itoaB e.a ++ [32] ++ itoaB e.b ++ [32] ++ e.tag ++ [32] ++ itoaB e.n := by rw [cand_at (k := 4) (by omega)]; simp [formE, fieldE, joinC]
      have hcl : (candE e).length ≤ 4000000100 := by rw [hcd]; simp only [List.length_append, List.length_cons, List.length_nil]; omega
      refine g_region ?_
      refine gl_v rfl (o_move rfl) ?_
      refine gl_v rfl (o_adds rfl rfl (by simp only [List.length_append, List.length_cons, List.length_nil]; omega)) ?_
      refine gl_v rfl (o_adds rfl rfl (by simp only [List.length_append, List.length_cons, List.length_nil]; omega)) ?_
      refine gl_v rfl (o_move rfl) ?_
      refine gl_v rfl (o_adds rfl rfl (by simp only [List.length_append, List.length_cons, List.length_nil]; omega)) ?_
      refine gl_v rfl (o_adds rfl rfl (by simp only [List.length_append, List.length_cons, List.length_nil]; omega)) ?_
      first | refine gl_v rfl (o_fldS rfl) ?_ | refine gl_v rfl (o_fld rfl) ?_
      first | refine gl_v rfl (o_load rfl rfl) ?_ | refine gl_v rfl (o_loadS rfl rfl) ?_ | refine gl_v rfl (o_loadC rfl) ?_
      refine gl_v rfl (o_adds rfl rfl (by simp only [List.length_append, List.length_cons, List.length_nil]; omega)) ?_
      refine gl_v rfl (o_adds rfl rfl (by simp only [List.length_append, List.length_cons, List.length_nil]; omega)) ?_
      refine gl_v rfl (o_move rfl) ?_
      refine gl_v rfl (o_adds rfl rfl (by simp only [List.length_append, List.length_cons, List.length_nil]; omega)) ?_
      refine gl_v rfl (o_assign rfl) ?_
      refine gl_nil ?_
      refine ge_block ?_
      exact fun act wo hsl st => ⟨hcl, hsl.keep (by rw [hcd]; exact Keep.cons rfl (Keep.cons rfl Keep.nil)), st.imp (tO)⟩
     ·
      replace hc4 := hs_ hc4
      refine g_seq ?_
      refine g_region ?_
      refine gl_v rfl (o_eql rfl rfl) ?_
      refine gl_v rfl (o_assign rfl) ?_
      refine gl_nil ?_
      refine ge_then ?_
      refine g_cond rfl (fun hc5 => ?_) (fun hc5 => ?_)
      ·
       replace hc5 := hs_ hc5
       have hcd : candE e = [115, 116, 111, 112, 32] ++ itoaB e.a ++ [32] ++ itoaB e.b := by rw [cand_at (k := 5) (by omega)]; simp [formE, fieldE, joinC]
       have hcl : (candE e).length ≤ 4000000100 := by rw [hcd]; simp only [List.length_append, List.length_cons, List.length_nil]; omega
       refine g_region ?_
       refine gl_v rfl (o_move rfl) ?_
       refine gl_v rfl (o_adds rfl rfl (by simp only [List.length_append, List.length_cons, List.length_nil]; omega)) ?_
       refine gl_v rfl (o_adds rfl rfl (by simp only [List.length_append, List.length_cons, List.length_nil]; omega)) ?_
       refine gl_v rfl (o_move rfl) ?_
       refine gl_v rfl (o_adds rfl rfl (by simp only [List.length_append, List.length_cons, List.length_nil]; omega)) ?_
       refine gl_v rfl (o_assign rfl) ?_
       refine gl_nil ?_
       refine ge_block ?_
       exact fun act wo hsl st => ⟨hcl, hsl.keep (by rw [hcd]; exact Keep.cons rfl (Keep.cons rfl Keep.nil)), st.imp (tO)⟩
      ·
       replace hc5 := hs_ hc5
       refine g_seq ?_
       refine g_region ?_
       refine gl_v rfl (o_eql rfl rfl) ?_
       refine gl_v rfl (o_assign rfl) ?_
       refine gl_nil ?_
       refine ge_then ?_
       refine g_cond rfl (fun hc6 => ?_) (fun hc6 => ?_)
       ·
        replace hc6 := hs_ hc6
        have hcd : candE e = [116, 105, 99, 107] := by rw [cand_at (k := 6) (by omega)]; simp [formE, fieldE, joinC]
        have hcl : (candE e).length ≤ 4000000100 := by rw [hcd]; simp only [List.length_append, List.length_cons, List.length_nil]; omega
        refine g_region ?_
        refine gl_v rfl (o_assign rfl) ?_
        refine gl_nil ?_
        refine ge_block ?_
        exact fun act wo hsl st => ⟨hcl, hsl.keep (by rw [hcd]; exact Keep.cons rfl (Keep.cons rfl Keep.nil)), st.imp (tO)⟩
       ·
        replace hc6 := hs_ hc6
        refine g_seq ?_
        refine g_region ?_
        refine gl_v rfl (o_eql rfl rfl) ?_
        refine gl_v rfl (o_assign rfl) ?_
        refine gl_nil ?_
        refine ge_then ?_
        refine g_cond rfl (fun hc7 => ?_) (fun hc7 => ?_)
        ·
         replace hc7 := hs_ hc7
         have hcd : candE e = [115, 104, 117, 116, 32] ++ itoaB e.a := by rw [cand_at (k := 7) (by omega)]; simp [formE, fieldE, joinC]
         have hcl : (candE e).length ≤ 4000000100 := by rw [hcd]; simp only [List.length_append, List.length_cons, List.length_nil]; omega
         refine g_region ?_
         refine gl_v rfl (o_move rfl) ?_
         refine gl_v rfl (o_adds rfl rfl (by simp only [List.length_append, List.length_cons, List.length_nil]; omega)) ?_
         refine gl_v rfl (o_assign rfl) ?_
         refine gl_nil ?_
         refine ge_block ?_
         exact fun act wo hsl st => ⟨hcl, hsl.keep (by rw [hcd]; exact Keep.cons rfl (Keep.cons rfl Keep.nil)), st.imp (tO)⟩
        ·
         replace hc7 := hs_ hc7
         have hcd : candE e = [] := by unfold candE; rw [form_no (by omega)]; rfl
         have hcl : (candE e).length ≤ 4000000100 := by rw [hcd]; exact Nat.zero_le _
         refine g_skip ?_
         refine ge_block ?_
         exact fun act wo hsl st => ⟨hcl, hsl.keep (by rw [hcd]; exact Keep.cons rfl (Keep.cons rfl Keep.nil)), st.imp (tO)⟩
 ·
  rintro act wo ⟨hcl, hsl, st⟩
  refine g_of ?_ hsl st
  clear hsl st act wo
  refine g_seq ?_
  refine g_seq ?_
  refine g_region ?_
  refine gl_v rfl (o_move rfl) ?_
  refine gl_c rfl (o_call rfl (Read_spec hG hm (candE e) (by omega)) pA) ?_
  rintro _ R ⟨_, ⟨rfl, rfl⟩, rfl⟩
  try simp only [List.cons_append, List.nil_append]
  rw [hrd]; dsimp only
  refine gl_v rfl (o_move rfl) ?_
  refine gl_v rfl (o_extract rfl rfl) ?_
  refine gl_v rfl (o_extract rfl rfl) ?_
  refine gl_n rfl (o_alloc) ?_
  rintro _ _ ⟨b8, rfl, rfl⟩
  first | refine gl_u (o_storeSA rfl rfl rfl rfl (by simp; omega) (by simp)) ?_ | refine gl_u (o_storeA rfl rfl rfl rfl rfl) ?_
  refine gl_v rfl (o_assign rfl) ?_
  refine gl_nil ?_
  refine ge_then ?_
  refine g_seq ?_
  refine g_region ?_
  refine gl_v rfl (o_move rfl) ?_
  refine gl_v rfl (o_is (c := true) (by rfl) (o_neq rfl rfl)) ?_
  refine gl_v rfl (o_move rfl) ?_
  refine gl_gF rfl rfl rfl rfl ?_
  refine gl_gF rfl rfl rfl rfl ?_
  refine gl_gF rfl rfl rfl rfl ?_
  refine gl_v rfl (o_pickT rfl rfl rfl) ?_
  refine gl_nil ?_
  refine ge_then ?_
  refine g_cond_true rfl ?_
  refine g_seq ?_
  refine g_region ?_
  refine gl_v rfl (o_assign rfl) ?_
  refine gl_v rfl (o_assign rfl) ?_
  refine gl_nil ?_
  refine ge_then ?_
  refine g_ret ?_
  refine ge_then_ret ?_
  refine ret2 (.inl rfl) rfl rfl rfl [base W] (⟨by unfold lineE; rw [hrd, if_neg (by simp)], rfl⟩) (tO)

set_option maxRecDepth 8000 in
set_option maxHeartbeats 2000000 in
theorem Line_ne {W : World} (hG : Gok W) (hm : ∃ m, W.cell? ⟨Tryd.spTm_ren.g 1, 0, none⟩ = some (.int .i64 m)) (e : Ent) (hr : EntR e) (e' : Ent) (hrd : readE (candE e) = some e') (hne : ¬ e' = e) : FnS Tryd.prog 9 [.agg (entC e).toArray] [base W] (fun u Bs => u = (match lineE e with | some s => Value.tuple #[S s, I64 0] | none => Value.tuple #[S [], I64 1]) ∧ Bs = [base W]) := by
 refine fn_body Tryd.func9 rfl rfl rfl ?_
 intro W0 R
 simp only [List.zipIdx_cons, List.zipIdx_nil, List.map_cons, List.map_nil, Nat.zero_add, Nat.reduceAdd, List.cons_append, List.nil_append]
 have la := itoa_len hr.a
 have lb := itoa_len hr.b
 have ln := itoa_len hr.n
 have lt := hr.tag
 have hkm : (entC e).length = 5 := rfl
 refine g_seq ?_
 refine g_region ?_
 refine gl_n rfl (o_boxA rfl) ?_
 rintro _ _ ⟨b1, rfl, rfl⟩
 refine gl_v rfl (o_assign rfl) ?_
 refine gl_v rfl (o_assign rfl) ?_
 refine gl_nil ?_
 refine ge_then ?_
 refine g_seq ?_
 refine g_region ?_
 refine gl_v rfl (o_assign rfl) ?_
 refine gl_nil ?_
 refine ge_then ?_
 refine g_cut (fun act wo => (candE e).length ≤ 4000000100 ∧ HasSl Tryd.f9.ntmps [(4, S (candE e)), (1, ptr b1 0)] act ∧ St W0 (cel b1 23 (entC e) :: base W :: R) wo) ?_ ?_
 ·
  refine g_seq ?_
  refine g_draw [2, 5, 8] [2, 5] [(0, .loc), (1, .loc), (3, .stab), (4, .stab), (6, .stab), (7, .stab), (2, .eff), (5, .eff), (8, .eff), (9, .loc), (10, .loc), (11, .loc)] [cel b1 23 (entC e), base W] mixed (by kernel_rfl) ?_
  first | refine go_v rfl .none rfl (o_fldS rfl) ?_ | refine go_v rfl .none rfl (o_fld rfl) ?_
  first | refine go_v rfl .none rfl (o_load rfl rfl) ?_ | refine go_v rfl .none rfl (o_loadS rfl rfl) ?_ | refine go_v rfl .none rfl (o_loadC rfl) ?_
  first | refine go_vs rfl .none rfl (o_fldS rfl) (tO) ?_ | refine go_vs rfl .none rfl (o_fld rfl) (tO) ?_
  first | refine go_vs rfl .none rfl (o_load rfl rfl) (tO) ?_ | refine go_vs rfl .none rfl (o_loadS rfl rfl) (tO) ?_ | refine go_vs rfl .none rfl (o_loadC rfl) (tO) ?_
  first | refine go_vs rfl .none rfl (o_fldS rfl) (tO) ?_ | refine go_vs rfl .none rfl (o_fld rfl) (tO) ?_
  first | refine go_vs rfl .none rfl (o_load rfl rfl) (tO) ?_ | refine go_vs rfl .none rfl (o_loadS rfl rfl) (tO) ?_ | refine go_vs rfl .none rfl (o_loadC rfl) (tO) ?_
  refine go_c rfl .none rfl (o_call rfl (Itoa_spec hG e.a hr.a.1 hr.a.2) pA) ?_
  rintro _ R ⟨_, ⟨rfl, rfl⟩, rfl⟩
  try simp only [List.cons_append, List.nil_append]
  refine ⟨(fun _ => (tO)), ?_⟩
  refine go_c rfl .none rfl (o_call rfl (Itoa_spec hG e.b hr.b.1 hr.b.2) pA) ?_
  rintro _ R ⟨_, ⟨rfl, rfl⟩, rfl⟩
  try simp only [List.cons_append, List.nil_append]
  refine ⟨(fun _ => (tO)), ?_⟩
  refine go_c rfl .none rfl (o_call rfl (Itoa_spec hG e.n hr.n.1 hr.n.2) pA) ?_
  rintro _ R ⟨_, ⟨rfl, rfl⟩, rfl⟩
  try simp only [List.cons_append, List.nil_append]
  refine ⟨(fun hG => absurd hG (by decide)), ?_⟩
  refine go_v rfl .none rfl (o_assign rfl) ?_
  refine go_v rfl .none rfl (o_assign rfl) ?_
  refine go_v rfl .none rfl (o_assign rfl) ?_
  refine go_nil ?_
  refine ge_then ?_
  refine g_seq ?_
  refine g_region ?_
  first | refine gl_v rfl (o_fldS rfl) ?_ | refine gl_v rfl (o_fld rfl) ?_
  first | refine gl_v rfl (o_load rfl rfl) ?_ | refine gl_v rfl (o_loadS rfl rfl) ?_ | refine gl_v rfl (o_loadC rfl) ?_
  refine gl_nil ?_
  refine ge_then ?_
  refine g_block ?_
  refine g_seq ?_
  refine g_region ?_
  refine gl_v rfl (o_eql rfl rfl) ?_
  refine gl_v rfl (o_assign rfl) ?_
  refine gl_nil ?_
  refine ge_then ?_
  refine g_cond rfl (fun hc1 => ?_) (fun hc1 => ?_)
  ·
   replace hc1 := hs_ hc1
   have hcd : candE e = [119, 111, 114, 107, 32] ++ itoaB e.a ++ [32] ++ itoaB e.n := by rw [cand_at (k := 1) (by omega)]; simp [formE, fieldE, joinC]
   have hcl : (candE e).length ≤ 4000000100 := by rw [hcd]; simp only [List.length_append, List.length_cons, List.length_nil]; omega
   refine g_region ?_
   refine gl_v rfl (o_move rfl) ?_
   refine gl_v rfl (o_adds rfl rfl (by simp only [List.length_append, List.length_cons, List.length_nil]; omega)) ?_
   refine gl_v rfl (o_adds rfl rfl (by simp only [List.length_append, List.length_cons, List.length_nil]; omega)) ?_
   refine gl_v rfl (o_move rfl) ?_
   refine gl_v rfl (o_adds rfl rfl (by simp only [List.length_append, List.length_cons, List.length_nil]; omega)) ?_
   refine gl_v rfl (o_assign rfl) ?_
   refine gl_nil ?_
   refine ge_block ?_
   exact fun act wo hsl st => ⟨hcl, hsl.keep (by rw [hcd]; exact Keep.cons rfl (Keep.cons rfl Keep.nil)), st.imp (tO)⟩
  ·
   replace hc1 := hs_ hc1
   refine g_seq ?_
   refine g_region ?_
   refine gl_v rfl (o_eql rfl rfl) ?_
   refine gl_v rfl (o_assign rfl) ?_
   refine gl_nil ?_
   refine ge_then ?_
   refine g_cond rfl (fun hc2 => ?_) (fun hc2 => ?_)
   ·
    replace hc2 := hs_ hc2
    have hcd : candE e = [104, 97, 110, 100, 32] ++ itoaB e.a := by rw [cand_at (k := 2) (by omega)]; simp [formE, fieldE, joinC]
    have hcl : (candE e).length ≤ 4000000100 := by rw [hcd]; simp only [List.length_append, List.length_cons, List.length_nil]; omega
    refine g_region ?_
    refine gl_v rfl (o_move rfl) ?_
    refine gl_v rfl (o_adds rfl rfl (by simp only [List.length_append, List.length_cons, List.length_nil]; omega)) ?_
    refine gl_v rfl (o_assign rfl) ?_
    refine gl_nil ?_
    refine ge_block ?_
    exact fun act wo hsl st => ⟨hcl, hsl.keep (by rw [hcd]; exact Keep.cons rfl (Keep.cons rfl Keep.nil)), st.imp (tO)⟩
   ·
    replace hc2 := hs_ hc2
    refine g_seq ?_
    refine g_region ?_
    refine gl_v rfl (o_eql rfl rfl) ?_
    refine gl_v rfl (o_assign rfl) ?_
    refine gl_nil ?_
    refine ge_then ?_
    refine g_cond rfl (fun hc3 => ?_) (fun hc3 => ?_)
    ·
     replace hc3 := hs_ hc3
     have hcd : candE e = [99, 108, 111, 99, 107] := by rw [cand_at (k := 3) (by omega)]; simp [formE, fieldE, joinC]
     have hcl : (candE e).length ≤ 4000000100 := by rw [hcd]; simp only [List.length_append, List.length_cons, List.length_nil]; omega
     refine g_region ?_
     refine gl_v rfl (o_assign rfl) ?_
     refine gl_nil ?_
     refine ge_block ?_
     exact fun act wo hsl st => ⟨hcl, hsl.keep (by rw [hcd]; exact Keep.cons rfl (Keep.cons rfl Keep.nil)), st.imp (tO)⟩
    ·
     replace hc3 := hs_ hc3
     refine g_seq ?_
     refine g_region ?_
     refine gl_v rfl (o_eql rfl rfl) ?_
     refine gl_v rfl (o_assign rfl) ?_
     refine gl_nil ?_
     refine ge_then ?_
     refine g_cond rfl (fun hc4 => ?_) (fun hc4 => ?_)
     ·
      replace hc4 := hs_ hc4
      have hcd : candE e = [116, 101, 108, 108, 32] ++ itoaB e.a ++ [32] ++ itoaB e.b ++ [32] ++ e.tag ++ [32] ++ itoaB e.n := by rw [cand_at (k := 4) (by omega)]; simp [formE, fieldE, joinC]
      have hcl : (candE e).length ≤ 4000000100 := by rw [hcd]; simp only [List.length_append, List.length_cons, List.length_nil]; omega
      refine g_region ?_
      refine gl_v rfl (o_move rfl) ?_
      refine gl_v rfl (o_adds rfl rfl (by simp only [List.length_append, List.length_cons, List.length_nil]; omega)) ?_
      refine gl_v rfl (o_adds rfl rfl (by simp only [List.length_append, List.length_cons, List.length_nil]; omega)) ?_
      refine gl_v rfl (o_move rfl) ?_
      refine gl_v rfl (o_adds rfl rfl (by simp only [List.length_append, List.length_cons, List.length_nil]; omega)) ?_
      refine gl_v rfl (o_adds rfl rfl (by simp only [List.length_append, List.length_cons, List.length_nil]; omega)) ?_
      first | refine gl_v rfl (o_fldS rfl) ?_ | refine gl_v rfl (o_fld rfl) ?_
      first | refine gl_v rfl (o_load rfl rfl) ?_ | refine gl_v rfl (o_loadS rfl rfl) ?_ | refine gl_v rfl (o_loadC rfl) ?_
      refine gl_v rfl (o_adds rfl rfl (by simp only [List.length_append, List.length_cons, List.length_nil]; omega)) ?_
      refine gl_v rfl (o_adds rfl rfl (by simp only [List.length_append, List.length_cons, List.length_nil]; omega)) ?_
      refine gl_v rfl (o_move rfl) ?_
      refine gl_v rfl (o_adds rfl rfl (by simp only [List.length_append, List.length_cons, List.length_nil]; omega)) ?_
      refine gl_v rfl (o_assign rfl) ?_
      refine gl_nil ?_
      refine ge_block ?_
      exact fun act wo hsl st => ⟨hcl, hsl.keep (by rw [hcd]; exact Keep.cons rfl (Keep.cons rfl Keep.nil)), st.imp (tO)⟩
     ·
      replace hc4 := hs_ hc4
      refine g_seq ?_
      refine g_region ?_
      refine gl_v rfl (o_eql rfl rfl) ?_
      refine gl_v rfl (o_assign rfl) ?_
      refine gl_nil ?_
      refine ge_then ?_
      refine g_cond rfl (fun hc5 => ?_) (fun hc5 => ?_)
      ·
       replace hc5 := hs_ hc5
       have hcd : candE e = [115, 116, 111, 112, 32] ++ itoaB e.a ++ [32] ++ itoaB e.b := by rw [cand_at (k := 5) (by omega)]; simp [formE, fieldE, joinC]
       have hcl : (candE e).length ≤ 4000000100 := by rw [hcd]; simp only [List.length_append, List.length_cons, List.length_nil]; omega
       refine g_region ?_
       refine gl_v rfl (o_move rfl) ?_
       refine gl_v rfl (o_adds rfl rfl (by simp only [List.length_append, List.length_cons, List.length_nil]; omega)) ?_
       refine gl_v rfl (o_adds rfl rfl (by simp only [List.length_append, List.length_cons, List.length_nil]; omega)) ?_
       refine gl_v rfl (o_move rfl) ?_
       refine gl_v rfl (o_adds rfl rfl (by simp only [List.length_append, List.length_cons, List.length_nil]; omega)) ?_
       refine gl_v rfl (o_assign rfl) ?_
       refine gl_nil ?_
       refine ge_block ?_
       exact fun act wo hsl st => ⟨hcl, hsl.keep (by rw [hcd]; exact Keep.cons rfl (Keep.cons rfl Keep.nil)), st.imp (tO)⟩
      ·
       replace hc5 := hs_ hc5
       refine g_seq ?_
       refine g_region ?_
       refine gl_v rfl (o_eql rfl rfl) ?_
       refine gl_v rfl (o_assign rfl) ?_
       refine gl_nil ?_
       refine ge_then ?_
       refine g_cond rfl (fun hc6 => ?_) (fun hc6 => ?_)
       ·
        replace hc6 := hs_ hc6
        have hcd : candE e = [116, 105, 99, 107] := by rw [cand_at (k := 6) (by omega)]; simp [formE, fieldE, joinC]
        have hcl : (candE e).length ≤ 4000000100 := by rw [hcd]; simp only [List.length_append, List.length_cons, List.length_nil]; omega
        refine g_region ?_
        refine gl_v rfl (o_assign rfl) ?_
        refine gl_nil ?_
        refine ge_block ?_
        exact fun act wo hsl st => ⟨hcl, hsl.keep (by rw [hcd]; exact Keep.cons rfl (Keep.cons rfl Keep.nil)), st.imp (tO)⟩
       ·
        replace hc6 := hs_ hc6
        refine g_seq ?_
        refine g_region ?_
        refine gl_v rfl (o_eql rfl rfl) ?_
        refine gl_v rfl (o_assign rfl) ?_
        refine gl_nil ?_
        refine ge_then ?_
        refine g_cond rfl (fun hc7 => ?_) (fun hc7 => ?_)
        ·
         replace hc7 := hs_ hc7
         have hcd : candE e = [115, 104, 117, 116, 32] ++ itoaB e.a := by rw [cand_at (k := 7) (by omega)]; simp [formE, fieldE, joinC]
         have hcl : (candE e).length ≤ 4000000100 := by rw [hcd]; simp only [List.length_append, List.length_cons, List.length_nil]; omega
         refine g_region ?_
         refine gl_v rfl (o_move rfl) ?_
         refine gl_v rfl (o_adds rfl rfl (by simp only [List.length_append, List.length_cons, List.length_nil]; omega)) ?_
         refine gl_v rfl (o_assign rfl) ?_
         refine gl_nil ?_
         refine ge_block ?_
         exact fun act wo hsl st => ⟨hcl, hsl.keep (by rw [hcd]; exact Keep.cons rfl (Keep.cons rfl Keep.nil)), st.imp (tO)⟩
        ·
         replace hc7 := hs_ hc7
         have hcd : candE e = [] := by unfold candE; rw [form_no (by omega)]; rfl
         have hcl : (candE e).length ≤ 4000000100 := by rw [hcd]; exact Nat.zero_le _
         refine g_skip ?_
         refine ge_block ?_
         exact fun act wo hsl st => ⟨hcl, hsl.keep (by rw [hcd]; exact Keep.cons rfl (Keep.cons rfl Keep.nil)), st.imp (tO)⟩
 ·
  rintro act wo ⟨hcl, hsl, st⟩
  refine g_of ?_ hsl st
  clear hsl st act wo
  refine g_seq ?_
  refine g_seq ?_
  refine g_region ?_
  refine gl_v rfl (o_move rfl) ?_
  refine gl_c rfl (o_call rfl (Read_spec hG hm (candE e) (by omega)) pA) ?_
  rintro _ R ⟨_, ⟨rfl, rfl⟩, rfl⟩
  try simp only [List.cons_append, List.nil_append]
  rw [hrd]; dsimp only
  refine gl_v rfl (o_move rfl) ?_
  refine gl_v rfl (o_extract rfl rfl) ?_
  refine gl_v rfl (o_extract rfl rfl) ?_
  refine gl_n rfl (o_alloc) ?_
  rintro _ _ ⟨b8, rfl, rfl⟩
  first | refine gl_u (o_storeSA rfl rfl rfl rfl (by simp; omega) (by simp)) ?_ | refine gl_u (o_storeA rfl rfl rfl rfl rfl) ?_
  refine gl_v rfl (o_assign rfl) ?_
  refine gl_nil ?_
  refine ge_then ?_
  refine g_seq ?_
  refine g_region ?_
  refine gl_v rfl (o_move rfl) ?_
  refine gl_v rfl (o_is (c := false) (by rfl) (o_neq rfl rfl)) ?_
  refine gl_v rfl (o_move rfl) ?_
  refine gl_gT rfl rfl rfl ?_
  first | refine gl_v rfl (o_loadSA rfl rfl rfl) ?_ | refine gl_v rfl (o_loadA rfl rfl rfl) ?_
  refine gl_gT rfl rfl rfl ?_
  first | refine gl_v rfl (o_loadSA rfl rfl rfl) ?_ | refine gl_v rfl (o_loadA rfl rfl rfl) ?_
  refine gl_gT rfl rfl rfl ?_
  refine gl_v rfl (o_is (c := true) (by show (!flatEq (entC e') (entC e)) = true; rw [flatEq_ent, decide_eq_false hne]; rfl) (o_neqA rfl rfl rfl rfl)) ?_
  refine gl_v rfl (o_pickF rfl rfl rfl) ?_
  refine gl_nil ?_
  refine ge_then ?_
  refine g_cond_true rfl ?_
  refine g_seq ?_
  refine g_region ?_
  refine gl_v rfl (o_assign rfl) ?_
  refine gl_v rfl (o_assign rfl) ?_
  refine gl_nil ?_
  refine ge_then ?_
  refine g_ret ?_
  refine ge_then_ret ?_
  refine ret2 (.inl rfl) rfl rfl rfl [base W] (⟨by unfold lineE; rw [hrd, if_neg (by simpa using hne)], rfl⟩) (tO)

set_option maxRecDepth 8000 in
set_option maxHeartbeats 2000000 in
theorem Line_some {W : World} (hG : Gok W) (hm : ∃ m, W.cell? ⟨Tryd.spTm_ren.g 1, 0, none⟩ = some (.int .i64 m)) (e : Ent) (hr : EntR e) (hrd : readE (candE e) = some e) : FnS Tryd.prog 9 [.agg (entC e).toArray] [base W] (fun u Bs => u = (match lineE e with | some s => Value.tuple #[S s, I64 0] | none => Value.tuple #[S [], I64 1]) ∧ Bs = [base W]) := by
 refine fn_body Tryd.func9 rfl rfl rfl ?_
 intro W0 R
 simp only [List.zipIdx_cons, List.zipIdx_nil, List.map_cons, List.map_nil, Nat.zero_add, Nat.reduceAdd, List.cons_append, List.nil_append]
 have la := itoa_len hr.a
 have lb := itoa_len hr.b
 have ln := itoa_len hr.n
 have lt := hr.tag
 have hkm : (entC e).length = 5 := rfl
 refine g_seq ?_
 refine g_region ?_
 refine gl_n rfl (o_boxA rfl) ?_
 rintro _ _ ⟨b1, rfl, rfl⟩
 refine gl_v rfl (o_assign rfl) ?_
 refine gl_v rfl (o_assign rfl) ?_
 refine gl_nil ?_
 refine ge_then ?_
 refine g_seq ?_
 refine g_region ?_
 refine gl_v rfl (o_assign rfl) ?_
 refine gl_nil ?_
 refine ge_then ?_
 refine g_cut (fun act wo => (candE e).length ≤ 4000000100 ∧ HasSl Tryd.f9.ntmps [(4, S (candE e)), (1, ptr b1 0)] act ∧ St W0 (cel b1 23 (entC e) :: base W :: R) wo) ?_ ?_
 ·
  refine g_seq ?_
  refine g_draw [2, 5, 8] [2, 5] [(0, .loc), (1, .loc), (3, .stab), (4, .stab), (6, .stab), (7, .stab), (2, .eff), (5, .eff), (8, .eff), (9, .loc), (10, .loc), (11, .loc)] [cel b1 23 (entC e), base W] mixed (by kernel_rfl) ?_
  first | refine go_v rfl .none rfl (o_fldS rfl) ?_ | refine go_v rfl .none rfl (o_fld rfl) ?_
  first | refine go_v rfl .none rfl (o_load rfl rfl) ?_ | refine go_v rfl .none rfl (o_loadS rfl rfl) ?_ | refine go_v rfl .none rfl (o_loadC rfl) ?_
  first | refine go_vs rfl .none rfl (o_fldS rfl) (tO) ?_ | refine go_vs rfl .none rfl (o_fld rfl) (tO) ?_
  first | refine go_vs rfl .none rfl (o_load rfl rfl) (tO) ?_ | refine go_vs rfl .none rfl (o_loadS rfl rfl) (tO) ?_ | refine go_vs rfl .none rfl (o_loadC rfl) (tO) ?_
  first | refine go_vs rfl .none rfl (o_fldS rfl) (tO) ?_ | refine go_vs rfl .none rfl (o_fld rfl) (tO) ?_
  first | refine go_vs rfl .none rfl (o_load rfl rfl) (tO) ?_ | refine go_vs rfl .none rfl (o_loadS rfl rfl) (tO) ?_ | refine go_vs rfl .none rfl (o_loadC rfl) (tO) ?_
  refine go_c rfl .none rfl (o_call rfl (Itoa_spec hG e.a hr.a.1 hr.a.2) pA) ?_
  rintro _ R ⟨_, ⟨rfl, rfl⟩, rfl⟩
  try simp only [List.cons_append, List.nil_append]
  refine ⟨(fun _ => (tO)), ?_⟩
  refine go_c rfl .none rfl (o_call rfl (Itoa_spec hG e.b hr.b.1 hr.b.2) pA) ?_
  rintro _ R ⟨_, ⟨rfl, rfl⟩, rfl⟩
  try simp only [List.cons_append, List.nil_append]
  refine ⟨(fun _ => (tO)), ?_⟩
  refine go_c rfl .none rfl (o_call rfl (Itoa_spec hG e.n hr.n.1 hr.n.2) pA) ?_
  rintro _ R ⟨_, ⟨rfl, rfl⟩, rfl⟩
  try simp only [List.cons_append, List.nil_append]
  refine ⟨(fun hG => absurd hG (by decide)), ?_⟩
  refine go_v rfl .none rfl (o_assign rfl) ?_
  refine go_v rfl .none rfl (o_assign rfl) ?_
  refine go_v rfl .none rfl (o_assign rfl) ?_
  refine go_nil ?_
  refine ge_then ?_
  refine g_seq ?_
  refine g_region ?_
  first | refine gl_v rfl (o_fldS rfl) ?_ | refine gl_v rfl (o_fld rfl) ?_
  first | refine gl_v rfl (o_load rfl rfl) ?_ | refine gl_v rfl (o_loadS rfl rfl) ?_ | refine gl_v rfl (o_loadC rfl) ?_
  refine gl_nil ?_
  refine ge_then ?_
  refine g_block ?_
  refine g_seq ?_
  refine g_region ?_
  refine gl_v rfl (o_eql rfl rfl) ?_
  refine gl_v rfl (o_assign rfl) ?_
  refine gl_nil ?_
  refine ge_then ?_
  refine g_cond rfl (fun hc1 => ?_) (fun hc1 => ?_)
  ·
   replace hc1 := hs_ hc1
   have hcd : candE e = [119, 111, 114, 107, 32] ++ itoaB e.a ++ [32] ++ itoaB e.n := by rw [cand_at (k := 1) (by omega)]; simp [formE, fieldE, joinC]
   have hcl : (candE e).length ≤ 4000000100 := by rw [hcd]; simp only [List.length_append, List.length_cons, List.length_nil]; omega
   refine g_region ?_
   refine gl_v rfl (o_move rfl) ?_
   refine gl_v rfl (o_adds rfl rfl (by simp only [List.length_append, List.length_cons, List.length_nil]; omega)) ?_
   refine gl_v rfl (o_adds rfl rfl (by simp only [List.length_append, List.length_cons, List.length_nil]; omega)) ?_
   refine gl_v rfl (o_move rfl) ?_
   refine gl_v rfl (o_adds rfl rfl (by simp only [List.length_append, List.length_cons, List.length_nil]; omega)) ?_
   refine gl_v rfl (o_assign rfl) ?_
   refine gl_nil ?_
   refine ge_block ?_
   exact fun act wo hsl st => ⟨hcl, hsl.keep (by rw [hcd]; exact Keep.cons rfl (Keep.cons rfl Keep.nil)), st.imp (tO)⟩
  ·
   replace hc1 := hs_ hc1
   refine g_seq ?_
   refine g_region ?_
   refine gl_v rfl (o_eql rfl rfl) ?_
   refine gl_v rfl (o_assign rfl) ?_
   refine gl_nil ?_
   refine ge_then ?_
   refine g_cond rfl (fun hc2 => ?_) (fun hc2 => ?_)
   ·
    replace hc2 := hs_ hc2
    have hcd : candE e = [104, 97, 110, 100, 32] ++ itoaB e.a := by rw [cand_at (k := 2) (by omega)]; simp [formE, fieldE, joinC]
    have hcl : (candE e).length ≤ 4000000100 := by rw [hcd]; simp only [List.length_append, List.length_cons, List.length_nil]; omega
    refine g_region ?_
    refine gl_v rfl (o_move rfl) ?_
    refine gl_v rfl (o_adds rfl rfl (by simp only [List.length_append, List.length_cons, List.length_nil]; omega)) ?_
    refine gl_v rfl (o_assign rfl) ?_
    refine gl_nil ?_
    refine ge_block ?_
    exact fun act wo hsl st => ⟨hcl, hsl.keep (by rw [hcd]; exact Keep.cons rfl (Keep.cons rfl Keep.nil)), st.imp (tO)⟩
   ·
    replace hc2 := hs_ hc2
    refine g_seq ?_
    refine g_region ?_
    refine gl_v rfl (o_eql rfl rfl) ?_
    refine gl_v rfl (o_assign rfl) ?_
    refine gl_nil ?_
    refine ge_then ?_
    refine g_cond rfl (fun hc3 => ?_) (fun hc3 => ?_)
    ·
     replace hc3 := hs_ hc3
     have hcd : candE e = [99, 108, 111, 99, 107] := by rw [cand_at (k := 3) (by omega)]; simp [formE, fieldE, joinC]
     have hcl : (candE e).length ≤ 4000000100 := by rw [hcd]; simp only [List.length_append, List.length_cons, List.length_nil]; omega
     refine g_region ?_
     refine gl_v rfl (o_assign rfl) ?_
     refine gl_nil ?_
     refine ge_block ?_
     exact fun act wo hsl st => ⟨hcl, hsl.keep (by rw [hcd]; exact Keep.cons rfl (Keep.cons rfl Keep.nil)), st.imp (tO)⟩
    ·
     replace hc3 := hs_ hc3
     refine g_seq ?_
     refine g_region ?_
     refine gl_v rfl (o_eql rfl rfl) ?_
     refine gl_v rfl (o_assign rfl) ?_
     refine gl_nil ?_
     refine ge_then ?_
     refine g_cond rfl (fun hc4 => ?_) (fun hc4 => ?_)
     ·
      replace hc4 := hs_ hc4
      have hcd : candE e = [116, 101, 108, 108, 32] ++ itoaB e.a ++ [32] ++ itoaB e.b ++ [32] ++ e.tag ++ [32] ++ itoaB e.n := by rw [cand_at (k := 4) (by omega)]; simp [formE, fieldE, joinC]
      have hcl : (candE e).length ≤ 4000000100 := by rw [hcd]; simp only [List.length_append, List.length_cons, List.length_nil]; omega
      refine g_region ?_
      refine gl_v rfl (o_move rfl) ?_
      refine gl_v rfl (o_adds rfl rfl (by simp only [List.length_append, List.length_cons, List.length_nil]; omega)) ?_
      refine gl_v rfl (o_adds rfl rfl (by simp only [List.length_append, List.length_cons, List.length_nil]; omega)) ?_
      refine gl_v rfl (o_move rfl) ?_
      refine gl_v rfl (o_adds rfl rfl (by simp only [List.length_append, List.length_cons, List.length_nil]; omega)) ?_
      refine gl_v rfl (o_adds rfl rfl (by simp only [List.length_append, List.length_cons, List.length_nil]; omega)) ?_
      first | refine gl_v rfl (o_fldS rfl) ?_ | refine gl_v rfl (o_fld rfl) ?_
      first | refine gl_v rfl (o_load rfl rfl) ?_ | refine gl_v rfl (o_loadS rfl rfl) ?_ | refine gl_v rfl (o_loadC rfl) ?_
      refine gl_v rfl (o_adds rfl rfl (by simp only [List.length_append, List.length_cons, List.length_nil]; omega)) ?_
      refine gl_v rfl (o_adds rfl rfl (by simp only [List.length_append, List.length_cons, List.length_nil]; omega)) ?_
      refine gl_v rfl (o_move rfl) ?_
      refine gl_v rfl (o_adds rfl rfl (by simp only [List.length_append, List.length_cons, List.length_nil]; omega)) ?_
      refine gl_v rfl (o_assign rfl) ?_
      refine gl_nil ?_
      refine ge_block ?_
      exact fun act wo hsl st => ⟨hcl, hsl.keep (by rw [hcd]; exact Keep.cons rfl (Keep.cons rfl Keep.nil)), st.imp (tO)⟩
     ·
      replace hc4 := hs_ hc4
      refine g_seq ?_
      refine g_region ?_
      refine gl_v rfl (o_eql rfl rfl) ?_
      refine gl_v rfl (o_assign rfl) ?_
      refine gl_nil ?_
      refine ge_then ?_
      refine g_cond rfl (fun hc5 => ?_) (fun hc5 => ?_)
      ·
       replace hc5 := hs_ hc5
       have hcd : candE e = [115, 116, 111, 112, 32] ++ itoaB e.a ++ [32] ++ itoaB e.b := by rw [cand_at (k := 5) (by omega)]; simp [formE, fieldE, joinC]
       have hcl : (candE e).length ≤ 4000000100 := by rw [hcd]; simp only [List.length_append, List.length_cons, List.length_nil]; omega
       refine g_region ?_
       refine gl_v rfl (o_move rfl) ?_
       refine gl_v rfl (o_adds rfl rfl (by simp only [List.length_append, List.length_cons, List.length_nil]; omega)) ?_
       refine gl_v rfl (o_adds rfl rfl (by simp only [List.length_append, List.length_cons, List.length_nil]; omega)) ?_
       refine gl_v rfl (o_move rfl) ?_
       refine gl_v rfl (o_adds rfl rfl (by simp only [List.length_append, List.length_cons, List.length_nil]; omega)) ?_
       refine gl_v rfl (o_assign rfl) ?_
       refine gl_nil ?_
       refine ge_block ?_
       exact fun act wo hsl st => ⟨hcl, hsl.keep (by rw [hcd]; exact Keep.cons rfl (Keep.cons rfl Keep.nil)), st.imp (tO)⟩
      ·
       replace hc5 := hs_ hc5
       refine g_seq ?_
       refine g_region ?_
       refine gl_v rfl (o_eql rfl rfl) ?_
       refine gl_v rfl (o_assign rfl) ?_
       refine gl_nil ?_
       refine ge_then ?_
       refine g_cond rfl (fun hc6 => ?_) (fun hc6 => ?_)
       ·
        replace hc6 := hs_ hc6
        have hcd : candE e = [116, 105, 99, 107] := by rw [cand_at (k := 6) (by omega)]; simp [formE, fieldE, joinC]
        have hcl : (candE e).length ≤ 4000000100 := by rw [hcd]; simp only [List.length_append, List.length_cons, List.length_nil]; omega
        refine g_region ?_
        refine gl_v rfl (o_assign rfl) ?_
        refine gl_nil ?_
        refine ge_block ?_
        exact fun act wo hsl st => ⟨hcl, hsl.keep (by rw [hcd]; exact Keep.cons rfl (Keep.cons rfl Keep.nil)), st.imp (tO)⟩
       ·
        replace hc6 := hs_ hc6
        refine g_seq ?_
        refine g_region ?_
        refine gl_v rfl (o_eql rfl rfl) ?_
        refine gl_v rfl (o_assign rfl) ?_
        refine gl_nil ?_
        refine ge_then ?_
        refine g_cond rfl (fun hc7 => ?_) (fun hc7 => ?_)
        ·
         replace hc7 := hs_ hc7
         have hcd : candE e = [115, 104, 117, 116, 32] ++ itoaB e.a := by rw [cand_at (k := 7) (by omega)]; simp [formE, fieldE, joinC]
         have hcl : (candE e).length ≤ 4000000100 := by rw [hcd]; simp only [List.length_append, List.length_cons, List.length_nil]; omega
         refine g_region ?_
         refine gl_v rfl (o_move rfl) ?_
         refine gl_v rfl (o_adds rfl rfl (by simp only [List.length_append, List.length_cons, List.length_nil]; omega)) ?_
         refine gl_v rfl (o_assign rfl) ?_
         refine gl_nil ?_
         refine ge_block ?_
         exact fun act wo hsl st => ⟨hcl, hsl.keep (by rw [hcd]; exact Keep.cons rfl (Keep.cons rfl Keep.nil)), st.imp (tO)⟩
        ·
         replace hc7 := hs_ hc7
         have hcd : candE e = [] := by unfold candE; rw [form_no (by omega)]; rfl
         have hcl : (candE e).length ≤ 4000000100 := by rw [hcd]; exact Nat.zero_le _
         refine g_skip ?_
         refine ge_block ?_
         exact fun act wo hsl st => ⟨hcl, hsl.keep (by rw [hcd]; exact Keep.cons rfl (Keep.cons rfl Keep.nil)), st.imp (tO)⟩
 ·
  rintro act wo ⟨hcl, hsl, st⟩
  refine g_of ?_ hsl st
  clear hsl st act wo
  refine g_seq ?_
  refine g_seq ?_
  refine g_region ?_
  refine gl_v rfl (o_move rfl) ?_
  refine gl_c rfl (o_call rfl (Read_spec hG hm (candE e) (by omega)) pA) ?_
  rintro _ R ⟨_, ⟨rfl, rfl⟩, rfl⟩
  try simp only [List.cons_append, List.nil_append]
  rw [hrd]; dsimp only
  refine gl_v rfl (o_move rfl) ?_
  refine gl_v rfl (o_extract rfl rfl) ?_
  refine gl_v rfl (o_extract rfl rfl) ?_
  refine gl_n rfl (o_alloc) ?_
  rintro _ _ ⟨b8, rfl, rfl⟩
  first | refine gl_u (o_storeSA rfl rfl rfl rfl (by simp; omega) (by simp)) ?_ | refine gl_u (o_storeA rfl rfl rfl rfl rfl) ?_
  refine gl_v rfl (o_assign rfl) ?_
  refine gl_nil ?_
  refine ge_then ?_
  refine g_seq ?_
  refine g_region ?_
  refine gl_v rfl (o_move rfl) ?_
  refine gl_v rfl (o_is (c := false) (by rfl) (o_neq rfl rfl)) ?_
  refine gl_v rfl (o_move rfl) ?_
  refine gl_gT rfl rfl rfl ?_
  first | refine gl_v rfl (o_loadSA rfl rfl rfl) ?_ | refine gl_v rfl (o_loadA rfl rfl rfl) ?_
  refine gl_gT rfl rfl rfl ?_
  first | refine gl_v rfl (o_loadSA rfl rfl rfl) ?_ | refine gl_v rfl (o_loadA rfl rfl rfl) ?_
  refine gl_gT rfl rfl rfl ?_
  refine gl_v rfl (o_is (c := false) (by show (!flatEq (entC e) (entC e)) = false; rw [flatEq_ent, decide_eq_true rfl]; rfl) (o_neqA rfl rfl rfl rfl)) ?_
  refine gl_v rfl (o_pickF rfl rfl rfl) ?_
  refine gl_nil ?_
  refine ge_then ?_
  refine g_cond_false rfl ?_
  refine g_skip ?_
  refine ge_then ?_
  refine g_seq ?_
  refine g_region ?_
  refine gl_v rfl (o_move rfl) ?_
  refine gl_v rfl (o_assign rfl) ?_
  refine gl_v rfl (o_assign rfl) ?_
  refine gl_nil ?_
  refine ge_then ?_
  refine g_ret ?_
  refine ret2 (.inl rfl) rfl rfl rfl [base W] (⟨by unfold lineE; rw [hrd, if_pos rfl], rfl⟩) (tO)

theorem Line_spec {W : World} (hG : Gok W) (hm : ∃ m, W.cell? ⟨Tryd.spTm_ren.g 1, 0, none⟩ = some (.int .i64 m)) (e : Ent) (hr : EntR e) : FnS Tryd.prog 9 [.agg (entC e).toArray] [base W] (fun u Bs => u = (match lineE e with | some s => Value.tuple #[S s, I64 0] | none => Value.tuple #[S [], I64 1]) ∧ Bs = [base W]) := by
  cases hrd : readE (candE e) with
  | none => exact Line_none hG hm e hr hrd
  | some e' =>
    by_cases h : e' = e
    · rw [h] at hrd; exact Line_some hG hm e hr hrd
    · exact Line_ne hG hm e hr e' hrd h

end Go.Proofs.YtcglaiacohkaeaaDoor.L
