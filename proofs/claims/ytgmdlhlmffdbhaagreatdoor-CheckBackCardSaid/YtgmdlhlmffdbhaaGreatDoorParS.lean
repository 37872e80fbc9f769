/-
  Parse: effects, rows, states, kinds. Own work, printed in part by a program of its own.
-/
import Derived.Test.YtgmdlhlmffdbhaaGreatDoorParR
set_option linter.unusedSimpArgs false
set_option linter.unusedVariables false
set_option linter.unusedSectionVars false
namespace Go.Proofs.YtgmdlhlmffdbhaaGreatDoor.L
open Go.L Go.L.Lx Go.L.Pg Go.L.Pa
def vbC (q : By × By) : List Value := [S q.1, S q.2]
theorem vbC_len (q : By × By) : (vbC q).length = 2 := rfl

set_option maxRecDepth 8000 in
set_option maxHeartbeats 1000000 in
theorem verbs_spec : FnS Tryz.prog 99 [] [] (fun u Bs => u = .agg (VB.flatMap vbC).toArray ∧ Bs = []) := by
 refine fn_body Tryz.func99 rfl rfl rfl ?_
 intro W0 R
 simp only [List.zipIdx_cons, List.zipIdx_nil, List.map_cons, List.map_nil, Nat.zero_add, Nat.reduceAdd, List.cons_append, List.nil_append]
 refine g_seq ?_
 refine g_region ?_
 refine gl_n rfl (o_alloc) ?_
 rintro _ _ ⟨b0, rfl, rfl⟩
 refine gl_nil ?_
 refine ge_then ?_
 refine g_seq ?_
 refine g_region ?_
 refine gl_v rfl (o_build rfl rfl) ?_
 refine gl_v rfl (o_build rfl rfl) ?_
 refine gl_v rfl (o_build rfl rfl) ?_
 refine gl_v rfl (o_build rfl rfl) ?_
 refine gl_v rfl (o_build rfl rfl) ?_
 refine gl_v rfl (o_build rfl rfl) ?_
 refine gl_v rfl (o_build rfl rfl) ?_
 refine gl_v rfl (o_build rfl rfl) ?_
 refine gl_v rfl (o_build rfl rfl) ?_
 refine gl_v rfl (o_build rfl rfl) ?_
 refine gl_v rfl (o_build rfl rfl) ?_
 refine gl_v rfl (o_build rfl rfl) ?_
 refine gl_v rfl (o_buildArr rfl rfl) ?_
 first | refine gl_u (o_storeSA rfl rfl rfl rfl (by simp; omega) (by simp)) ?_ | refine gl_u (o_storeA rfl rfl rfl rfl rfl) ?_
 refine gl_nil ?_
 refine ge_then ?_
 refine g_ret ?_
 refine ret1c (.inl rfl) rfl rfl rfl rfl _ (⟨rfl, rfl⟩) (tO)

set_option maxRecDepth 8000 in
set_option maxHeartbeats 1000000 in
theorem part_spec (p b n : Nat) (c : UInt8) (e : Eff) (T : List Tk) : FnX Tryz.prog 125 [ptr p 0, ptr b 0, .int .i32 (c.toNat : Int)] [rdr p T n, cel b 38 (effC e)] (fun u Bs => u = .tuple #[] ∧ ∃ e' r, partP c e T = .ok e' r ∧ Bs = [rdr p r n, cel b 38 (effC e')]) (pxP (partP c e T) n) := by
 refine fnx_body Tryz.func125 rfl rfl rfl ?_
 intro W0 R
 simp only [List.zipIdx_cons, List.zipIdx_nil, List.map_cons, List.map_nil, Nat.zero_add, Nat.reduceAdd, List.cons_append, List.nil_append]
 refine g_seq ?_
 refine g_region ?_
 refine gl_v rfl (o_move rfl) ?_
 refine gl_nil ?_
 refine ge_then ?_
 refine g_block ?_
 refine g_seq ?_
 refine g_region ?_
 refine gl_v rfl (o_eql rfl rfl) ?_
 refine gl_v rfl (o_assign rfl) ?_
 refine gl_nil ?_
 refine ge_then ?_
 refine g_cond rfl (fun hc1 => ?_) (fun hc1 => ?_)
 ·
  replace hc1 := hs_ hc1
  refine g_region ?_
  refine gl_v rfl (o_move rfl) ?_
  refine gl_v rfl (o_move rfl) ?_
  refine gl_cx rfl (o_callX rfl (name_spec _ _ _) pA) ?_ ?_
  ·
   rintro ch _ ⟨_, ⟨rx, bx, hbad, rfl, rfl⟩, rfl⟩
   try simp only [List.cons_append, List.nil_append]
   exact ge_px (P := Tryz.prog) (fn := Tryz.f125) _ ⟨rx, bx, by unfold partP; (first | rw [if_pos (by omega)] | rw [if_neg (by omega), if_pos (by omega)] | rw [if_neg (by omega), if_neg (by omega), if_pos (by omega)] | rw [if_neg (by omega), if_neg (by omega), if_neg (by omega), if_pos (by omega)] | rw [if_neg (by omega), if_neg (by omega), if_neg (by omega), if_neg (by omega), if_pos (by omega)] | rw [if_neg (by omega), if_neg (by omega), if_neg (by omega), if_neg (by omega), if_neg (by omega)]); rw [hbad]; rfl, rfl, rfl⟩ (tO)
  rintro _ R ⟨_, ⟨s, r, hs, rfl, rfl⟩, rfl⟩
  try simp only [List.cons_append, List.nil_append]
  refine gl_v rfl (o_nil rfl) ?_
  first | refine gl_v rfl (o_fldS rfl) ?_ | refine gl_v rfl (o_fld rfl) ?_
  first | refine gl_u (o_store rfl rfl rfl rfl) ?_ | refine gl_u (o_storeS rfl rfl rfl (by first | assumption | omega | simp)) ?_
  refine gl_nil ?_
  refine ge_block ?_
  refine ge_x (.inr rfl) ?_
  refine ret0 (.inr rfl) rfl [rdr p r n, cel b 38 (effC { e with ref := s })] (⟨rfl, _, r, by unfold partP; (first | rw [if_pos (by omega)] | rw [if_neg (by omega), if_pos (by omega)] | rw [if_neg (by omega), if_neg (by omega), if_pos (by omega)] | rw [if_neg (by omega), if_neg (by omega), if_neg (by omega), if_pos (by omega)] | rw [if_neg (by omega), if_neg (by omega), if_neg (by omega), if_neg (by omega), if_pos (by omega)] | rw [if_neg (by omega), if_neg (by omega), if_neg (by omega), if_neg (by omega), if_neg (by omega)]); rw [hs]; rfl, rfl⟩) (tO)
 ·
  replace hc1 := hs_ hc1
  refine g_seq ?_
  refine g_region ?_
  refine gl_v rfl (o_eql rfl rfl) ?_
  refine gl_v rfl (o_assign rfl) ?_
  refine gl_nil ?_
  refine ge_then ?_
  refine g_cond rfl (fun hc2 => ?_) (fun hc2 => ?_)
  ·
   replace hc2 := hs_ hc2
   refine g_region ?_
   refine gl_v rfl (o_move rfl) ?_
   refine gl_v rfl (o_move rfl) ?_
   refine gl_cx rfl (o_callX rfl (name_spec _ _ _) pA) ?_ ?_
   ·
    rintro ch _ ⟨_, ⟨rx, bx, hbad, rfl, rfl⟩, rfl⟩
    try simp only [List.cons_append, List.nil_append]
    exact ge_px (P := Tryz.prog) (fn := Tryz.f125) _ ⟨rx, bx, by unfold partP; (first | rw [if_pos (by omega)] | rw [if_neg (by omega), if_pos (by omega)] | rw [if_neg (by omega), if_neg (by omega), if_pos (by omega)] | rw [if_neg (by omega), if_neg (by omega), if_neg (by omega), if_pos (by omega)] | rw [if_neg (by omega), if_neg (by omega), if_neg (by omega), if_neg (by omega), if_pos (by omega)] | rw [if_neg (by omega), if_neg (by omega), if_neg (by omega), if_neg (by omega), if_neg (by omega)]); rw [hbad]; rfl, rfl, rfl⟩ (tO)
   rintro _ R ⟨_, ⟨s, r, hs, rfl, rfl⟩, rfl⟩
   try simp only [List.cons_append, List.nil_append]
   refine gl_v rfl (o_nil rfl) ?_
   first | refine gl_v rfl (o_fldS rfl) ?_ | refine gl_v rfl (o_fld rfl) ?_
   first | refine gl_u (o_store rfl rfl rfl rfl) ?_ | refine gl_u (o_storeS rfl rfl rfl (by first | assumption | omega | simp)) ?_
   refine gl_nil ?_
   refine ge_block ?_
   refine ge_x (.inr rfl) ?_
   refine ret0 (.inr rfl) rfl [rdr p r n, cel b 38 (effC { e with slot := s })] (⟨rfl, _, r, by unfold partP; (first | rw [if_pos (by omega)] | rw [if_neg (by omega), if_pos (by omega)] | rw [if_neg (by omega), if_neg (by omega), if_pos (by omega)] | rw [if_neg (by omega), if_neg (by omega), if_neg (by omega), if_pos (by omega)] | rw [if_neg (by omega), if_neg (by omega), if_neg (by omega), if_neg (by omega), if_pos (by omega)] | rw [if_neg (by omega), if_neg (by omega), if_neg (by omega), if_neg (by omega), if_neg (by omega)]); rw [hs]; rfl, rfl⟩) (tO)
  ·
   replace hc2 := hs_ hc2
   refine g_seq ?_
   refine g_region ?_
   refine gl_v rfl (o_eql rfl rfl) ?_
   refine gl_v rfl (o_assign rfl) ?_
   refine gl_nil ?_
   refine ge_then ?_
   refine g_cond rfl (fun hc3 => ?_) (fun hc3 => ?_)
   ·
    replace hc3 := hs_ hc3
    refine g_region ?_
    refine gl_v rfl (o_move rfl) ?_
    refine gl_v rfl (o_move rfl) ?_
    refine gl_cx rfl (o_callX rfl (name_spec _ _ _) pA) ?_ ?_
    ·
     rintro ch _ ⟨_, ⟨rx, bx, hbad, rfl, rfl⟩, rfl⟩
     try simp only [List.cons_append, List.nil_append]
     exact ge_px (P := Tryz.prog) (fn := Tryz.f125) _ ⟨rx, bx, by unfold partP; (first | rw [if_pos (by omega)] | rw [if_neg (by omega), if_pos (by omega)] | rw [if_neg (by omega), if_neg (by omega), if_pos (by omega)] | rw [if_neg (by omega), if_neg (by omega), if_neg (by omega), if_pos (by omega)] | rw [if_neg (by omega), if_neg (by omega), if_neg (by omega), if_neg (by omega), if_pos (by omega)] | rw [if_neg (by omega), if_neg (by omega), if_neg (by omega), if_neg (by omega), if_neg (by omega)]); rw [hbad]; rfl, rfl, rfl⟩ (tO)
    rintro _ R ⟨_, ⟨s, r, hs, rfl, rfl⟩, rfl⟩
    try simp only [List.cons_append, List.nil_append]
    refine gl_v rfl (o_nil rfl) ?_
    first | refine gl_v rfl (o_fldS rfl) ?_ | refine gl_v rfl (o_fld rfl) ?_
    first | refine gl_u (o_store rfl rfl rfl rfl) ?_ | refine gl_u (o_storeS rfl rfl rfl (by first | assumption | omega | simp)) ?_
    refine gl_nil ?_
    refine ge_block ?_
    refine ge_x (.inr rfl) ?_
    refine ret0 (.inr rfl) rfl [rdr p r n, cel b 38 (effC { e with name := s })] (⟨rfl, _, r, by unfold partP; (first | rw [if_pos (by omega)] | rw [if_neg (by omega), if_pos (by omega)] | rw [if_neg (by omega), if_neg (by omega), if_pos (by omega)] | rw [if_neg (by omega), if_neg (by omega), if_neg (by omega), if_pos (by omega)] | rw [if_neg (by omega), if_neg (by omega), if_neg (by omega), if_neg (by omega), if_pos (by omega)] | rw [if_neg (by omega), if_neg (by omega), if_neg (by omega), if_neg (by omega), if_neg (by omega)]); rw [hs]; rfl, rfl⟩) (tO)
   ·
    replace hc3 := hs_ hc3
    refine g_seq ?_
    refine g_region ?_
    refine gl_v rfl (o_eql rfl rfl) ?_
    refine gl_v rfl (o_assign rfl) ?_
    refine gl_nil ?_
    refine ge_then ?_
    refine g_cond rfl (fun hc4 => ?_) (fun hc4 => ?_)
    ·
     replace hc4 := hs_ hc4
     refine g_region ?_
     refine gl_v rfl (o_move rfl) ?_
     refine gl_v rfl (o_move rfl) ?_
     refine gl_cx rfl (o_callX rfl (number_spec _ _ _) pA) ?_ ?_
     ·
      rintro ch _ ⟨_, ⟨rx, bx, hbad, rfl, rfl⟩, rfl⟩
      try simp only [List.cons_append, List.nil_append]
      exact ge_px (P := Tryz.prog) (fn := Tryz.f125) _ ⟨rx, bx, by unfold partP; (first | rw [if_pos (by omega)] | rw [if_neg (by omega), if_pos (by omega)] | rw [if_neg (by omega), if_neg (by omega), if_pos (by omega)] | rw [if_neg (by omega), if_neg (by omega), if_neg (by omega), if_pos (by omega)] | rw [if_neg (by omega), if_neg (by omega), if_neg (by omega), if_neg (by omega), if_pos (by omega)] | rw [if_neg (by omega), if_neg (by omega), if_neg (by omega), if_neg (by omega), if_neg (by omega)]); rw [hbad]; rfl, rfl, rfl⟩ (tO)
     rintro _ R ⟨_, ⟨s, r, hs, rfl, rfl⟩, rfl⟩
     try simp only [List.cons_append, List.nil_append]
     refine gl_v rfl (o_nil rfl) ?_
     first | refine gl_v rfl (o_fldS rfl) ?_ | refine gl_v rfl (o_fld rfl) ?_
     first | refine gl_u (o_store rfl rfl rfl rfl) ?_ | refine gl_u (o_storeS rfl rfl rfl (by first | assumption | omega | simp)) ?_
     refine gl_nil ?_
     refine ge_block ?_
     refine ge_x (.inr rfl) ?_
     refine ret0 (.inr rfl) rfl [rdr p r n, cel b 38 (effC { e with delay := s })] (⟨rfl, _, r, by unfold partP; (first | rw [if_pos (by omega)] | rw [if_neg (by omega), if_pos (by omega)] | rw [if_neg (by omega), if_neg (by omega), if_pos (by omega)] | rw [if_neg (by omega), if_neg (by omega), if_neg (by omega), if_pos (by omega)] | rw [if_neg (by omega), if_neg (by omega), if_neg (by omega), if_neg (by omega), if_pos (by omega)] | rw [if_neg (by omega), if_neg (by omega), if_neg (by omega), if_neg (by omega), if_neg (by omega)]); rw [hs]; rfl, rfl⟩) (tO)
    ·
     replace hc4 := hs_ hc4
     refine g_seq ?_
     refine g_region ?_
     refine gl_v rfl (o_eql rfl rfl) ?_
     refine gl_v rfl (o_assign rfl) ?_
     refine gl_nil ?_
     refine ge_then ?_
     refine g_cond rfl (fun hc5 => ?_) (fun hc5 => ?_)
     ·
      replace hc5 := hs_ hc5
      refine g_block ?_
      refine g_seq ?_
      refine g_region ?_
      refine gl_v rfl (o_move rfl) ?_
      refine gl_c rfl (o_call rfl (maybe_spec _ _ _ _) pA) ?_
      rintro _ R ⟨_, ⟨rfl, rfl⟩, rfl⟩
      try simp only [List.cons_append, List.nil_append]
      refine gl_v rfl (o_assign rfl) ?_
      refine gl_nil ?_
      refine ge_then ?_
      refine g_cond rfl (fun hc6 => ?_) (fun hc6 => ?_)
      ·
       replace hc6 := hs_ hc6
       have hk : isW wKeep T = true := hc6
       rw [hk]
       simp only [if_true]
       refine g_skip ?_
       refine ge_block ?_
       refine ge_block ?_
       refine ge_x (.inr rfl) ?_
       refine ret0 (.inr rfl) rfl [rdr p T.tail n, cel b 38 (effC e)] (⟨rfl, _, T.tail, by unfold partP; (first | rw [if_pos (by omega)] | rw [if_neg (by omega), if_pos (by omega)] | rw [if_neg (by omega), if_neg (by omega), if_pos (by omega)] | rw [if_neg (by omega), if_neg (by omega), if_neg (by omega), if_pos (by omega)] | rw [if_neg (by omega), if_neg (by omega), if_neg (by omega), if_neg (by omega), if_pos (by omega)] | rw [if_neg (by omega), if_neg (by omega), if_neg (by omega), if_neg (by omega), if_neg (by omega)]); unfold valP; rw [hk, if_pos rfl], rfl⟩) (tO)
      ·
       replace hc6 := hs_ hc6
       have hk : isW wKeep T = false := hc6
       rw [hk]
       simp only [Bool.false_eq_true, if_false]
       refine g_seq ?_
       refine g_region ?_
       refine gl_v rfl (o_move rfl) ?_
       refine gl_c rfl (o_call rfl (maybe_spec _ _ _ _) pA) ?_
       rintro _ R ⟨_, ⟨rfl, rfl⟩, rfl⟩
       try simp only [List.cons_append, List.nil_append]
       refine gl_v rfl (o_assign rfl) ?_
       refine gl_nil ?_
       refine ge_then ?_
       refine g_cond rfl (fun hc7 => ?_) (fun hc7 => ?_)
       ·
        replace hc7 := hs_ hc7
        have hl : isW wLess T = true := hc7
        rw [hl]
        simp only [if_true]
        refine g_region ?_
        refine gl_v rfl (o_move rfl) ?_
        refine gl_v rfl (o_nil rfl) ?_
        first | refine gl_v rfl (o_fldS rfl) ?_ | refine gl_v rfl (o_fld rfl) ?_
        first | refine gl_u (o_store rfl rfl rfl rfl) ?_ | refine gl_u (o_storeS rfl rfl rfl (by first | assumption | omega | simp)) ?_
        refine gl_nil ?_
        refine ge_block ?_
        refine ge_block ?_
        refine ge_x (.inr rfl) ?_
        refine ret0 (.inr rfl) rfl [rdr p T.tail n, cel b 38 (effC { e with value := 1 })] (⟨rfl, _, T.tail, by unfold partP; (first | rw [if_pos (by omega)] | rw [if_neg (by omega), if_pos (by omega)] | rw [if_neg (by omega), if_neg (by omega), if_pos (by omega)] | rw [if_neg (by omega), if_neg (by omega), if_neg (by omega), if_pos (by omega)] | rw [if_neg (by omega), if_neg (by omega), if_neg (by omega), if_neg (by omega), if_pos (by omega)] | rw [if_neg (by omega), if_neg (by omega), if_neg (by omega), if_neg (by omega), if_neg (by omega)]); unfold valP; rw [hk, if_neg (by decide), hl, if_pos rfl], rfl⟩) (tO)
       ·
        replace hc7 := hs_ hc7
        have hl : isW wLess T = false := hc7
        rw [hl]
        simp only [Bool.false_eq_true, if_false]
        refine g_region ?_
        refine gl_v rfl (o_move rfl) ?_
        refine gl_v rfl (o_move rfl) ?_
        refine gl_v rfl (o_move rfl) ?_
        refine gl_cx rfl (o_callX rfl (number_spec _ _ _) pA) ?_ ?_
        ·
         rintro ch _ ⟨_, ⟨rx, bx, hbad, rfl, rfl⟩, rfl⟩
         try simp only [List.cons_append, List.nil_append]
         exact ge_px (P := Tryz.prog) (fn := Tryz.f125) _ ⟨rx, bx, by unfold partP; (first | rw [if_pos (by omega)] | rw [if_neg (by omega), if_pos (by omega)] | rw [if_neg (by omega), if_neg (by omega), if_pos (by omega)] | rw [if_neg (by omega), if_neg (by omega), if_neg (by omega), if_pos (by omega)] | rw [if_neg (by omega), if_neg (by omega), if_neg (by omega), if_neg (by omega), if_pos (by omega)] | rw [if_neg (by omega), if_neg (by omega), if_neg (by omega), if_neg (by omega), if_neg (by omega)]); unfold valP; rw [hk, if_neg (by decide), hl, if_neg (by decide), hbad]; rfl, rfl, rfl⟩ (tO)
        rintro _ R ⟨_, ⟨s, r, hs, rfl, rfl⟩, rfl⟩
        try simp only [List.cons_append, List.nil_append]
        refine gl_v rfl (o_nil rfl) ?_
        first | refine gl_v rfl (o_fldS rfl) ?_ | refine gl_v rfl (o_fld rfl) ?_
        first | refine gl_u (o_store rfl rfl rfl rfl) ?_ | refine gl_u (o_storeS rfl rfl rfl (by first | assumption | omega | simp)) ?_
        refine gl_v rfl (o_nil rfl) ?_
        first | refine gl_v rfl (o_fldS rfl) ?_ | refine gl_v rfl (o_fld rfl) ?_
        first | refine gl_u (o_store rfl rfl rfl rfl) ?_ | refine gl_u (o_storeS rfl rfl rfl (by first | assumption | omega | simp)) ?_
        refine gl_nil ?_
        refine ge_block ?_
        refine ge_block ?_
        refine ge_x (.inr rfl) ?_
        refine ret0 (.inr rfl) rfl [rdr p r n, cel b 38 (effC { e with value := 2, n := s })] (⟨rfl, _, r, by unfold partP; (first | rw [if_pos (by omega)] | rw [if_neg (by omega), if_pos (by omega)] | rw [if_neg (by omega), if_neg (by omega), if_pos (by omega)] | rw [if_neg (by omega), if_neg (by omega), if_neg (by omega), if_pos (by omega)] | rw [if_neg (by omega), if_neg (by omega), if_neg (by omega), if_neg (by omega), if_pos (by omega)] | rw [if_neg (by omega), if_neg (by omega), if_neg (by omega), if_neg (by omega), if_neg (by omega)]); unfold valP; rw [hk, if_neg (by decide), hl, if_neg (by decide), hs]; rfl, rfl⟩) (tO)
     ·
      replace hc5 := hs_ hc5
      refine g_skip ?_
      refine ge_block ?_
      refine ge_x (.inr rfl) ?_
      refine ret0 (.inr rfl) rfl [rdr p T n, cel b 38 (effC e)] (⟨rfl, _, T, by unfold partP; (first | rw [if_pos (by omega)] | rw [if_neg (by omega), if_pos (by omega)] | rw [if_neg (by omega), if_neg (by omega), if_pos (by omega)] | rw [if_neg (by omega), if_neg (by omega), if_neg (by omega), if_pos (by omega)] | rw [if_neg (by omega), if_neg (by omega), if_neg (by omega), if_neg (by omega), if_pos (by omega)] | rw [if_neg (by omega), if_neg (by omega), if_neg (by omega), if_neg (by omega), if_neg (by omega)]), rfl⟩) (tO)

set_option maxRecDepth 8000 in
set_option maxHeartbeats 1000000 in
theorem effect_spec (p n : Nat) (T : List Tk) : FnX Tryz.prog 106 [ptr p 0] [rdr p T n] (fun u Bs => ∃ e r, effP T = .ok e r ∧ u = .agg (effC e).toArray ∧ Bs = [rdr p r n]) (pxP (effP T) n) := by
 refine fnx_body Tryz.func106 rfl rfl rfl ?_
 intro W0 R
 simp only [List.zipIdx_cons, List.zipIdx_nil, List.map_cons, List.map_nil, Nat.zero_add, Nat.reduceAdd, List.cons_append, List.nil_append]
 refine g_seq ?_
 refine g_region ?_
 refine gl_n rfl (o_alloc) ?_
 rintro _ _ ⟨b2, rfl, rfl⟩
 refine gl_nil ?_
 refine ge_then ?_
 refine g_seq ?_
 refine g_region ?_
 refine gl_c rfl (o_call rfl (verbs_spec) pA) ?_
 rintro _ R ⟨_, ⟨rfl, rfl⟩, rfl⟩
 try simp only [List.cons_append, List.nil_append]
 refine gl_n rfl (o_alloc) ?_
 rintro _ _ ⟨b3, rfl, rfl⟩
 first | refine gl_u (o_storeSA rfl rfl rfl rfl (by simp; omega) (by simp)) ?_ | refine gl_u (o_storeA rfl rfl rfl rfl rfl) ?_
 refine gl_nil ?_
 refine ge_then ?_
 refine g_seq ?_
 refine g_seq ?_
 refine g_region ?_
 first | refine gl_v rfl (o_loadSA rfl rfl rfl) ?_ | refine gl_v rfl (o_loadA rfl rfl rfl) ?_
 refine gl_v rfl (o_move rfl) ?_
 refine gl_nil ?_
 refine ge_then ?_
 refine g_block ?_
 refine g_loop (ι := Nat) (fun x => x ≤ 12 ∧ effG (VB.drop x) x T = effP T) (fun x => [(11, I64 x), (10, .agg (VB.flatMap vbC).toArray), (2, ptr b2 0), (0, ptr p 0)]) (fun x => rdr p T n :: cel b2 38 (effC e0) :: R) (fun x => 12 - x) 0 (⟨by decide, rfl⟩) (Keep.cons rfl (Keep.cons rfl (Keep.cons rfl (Keep.cons rfl (Keep.nil))))) (tO) ?_
 rintro i ⟨hi, hX⟩
 replace hi : i ≤ 12 := hi
 refine g_seq ?_
 refine g_region ?_
 refine gl_v rfl (o_lss rfl rfl) ?_
 refine gl_nil ?_
 refine ge_then ?_
 refine g_seq ?_
 refine g_cond rfl (fun hc1 => ?_) (fun hc1 => ?_)
 ·
  replace hc1 := hs_ hc1
  have hi1 : i < 12 := by omega
  obtain ⟨⟨w, ps⟩, hwj⟩ : ∃ w, VB[i]? = some w := ⟨_, List.getElem?_eq_getElem (show i < VB.length by rw [VB_len]; exact hi1)⟩
  have hdr := drop_at' hwj
  have hasc := VB_ascii _ (List.mem_of_getElem? hwj)
  simp only at hasc
  refine g_skip ?_
  refine ge_then ?_
  refine g_seq ?_
  refine g_block ?_
  refine g_seq ?_
  refine g_region ?_
  refine gl_v rfl (o_move rfl) ?_
  refine gl_v rfl (o_indexA (us := vbC (w, ps)) Tryz.underlying175 rfl rfl hi1 (flat_take vbC 2 vbC_len hwj)) ?_
  refine gl_n rfl (o_alloc) ?_
  rintro _ _ ⟨b5, rfl, rfl⟩
  refine gl_v rfl (o_assign rfl) ?_
  first | refine gl_u (o_storeSA rfl rfl rfl rfl (by simp; omega) (by simp)) ?_ | refine gl_u (o_storeA rfl rfl rfl rfl rfl) ?_
  refine gl_nil ?_
  refine ge_then ?_
  refine g_seq ?_
  refine g_seq ?_
  refine g_region ?_
  refine gl_v rfl (o_move rfl) ?_
  first | refine gl_v rfl (o_fldS rfl) ?_ | refine gl_v rfl (o_fld rfl) ?_
  first | refine gl_v rfl (o_load rfl rfl) ?_ | refine gl_v rfl (o_loadS rfl rfl) ?_ | refine gl_v rfl (o_loadC rfl) ?_
  refine gl_c rfl (o_call rfl (maybe_spec _ _ _ _) pA) ?_
  rintro _ R ⟨_, ⟨rfl, rfl⟩, rfl⟩
  try simp only [List.cons_append, List.nil_append]
  refine gl_v rfl (o_not rfl) ?_
  refine gl_nil ?_
  refine ge_then ?_
  refine g_cond rfl (fun hc2 => ?_) (fun hc2 => ?_)
  ·
   replace hc2 := hs_ hc2
   have hc2 : isW w T = false := by simpa using hc2
   rw [hc2]
   simp only [Bool.false_eq_true, if_false]
   refine g_exit ?_
   refine ge_then_exit ?_
   refine ge_block_exit ?_
   refine ge_then ?_
   refine g_region ?_
   refine gl_v rfl (o_addR ((i + 1 : Nat) : Int) (by rw [wr_i64 (by omega)]; omega) rfl rfl) ?_
   refine gl_v rfl (o_move rfl) ?_
   refine gl_nil ?_
   refine ge_round (i + 1) ⟨by show i + 1 ≤ 12; omega, by rw [← hX, hdr]; show _ = (if isW w T then _ else effG (VB.drop (i + 1)) (i + 1) T); rw [hc2, if_neg (by decide)]⟩ (by show 12 - (i + 1) < 12 - i; omega) (Keep.cons rfl (Keep.cons rfl (Keep.cons rfl (Keep.cons rfl (Keep.nil))))) (tO)
  ·
   replace hc2 := hs_ hc2
   have hc2 : isW w T = true := by simpa using hc2
   rw [hc2]
   simp only [if_true]
   have hEq : effP T = partsP ps { e0 with do' := ((i + 1 : Nat) : Int) } T.tail := by rw [← hX, hdr]; show (if isW w T then _ else _) = _; rw [hc2, if_pos rfl]
   refine g_skip ?_
   refine ge_then ?_
   refine g_seq ?_
   refine g_region ?_
   refine gl_v rfl (o_move rfl) ?_
   refine gl_v rfl (o_addR ((i + 1 : Nat) : Int) (by rw [wr_i64 (by omega)]; omega) rfl rfl) ?_
   refine gl_v rfl (o_build rfl rfl) ?_
   refine gl_n rfl (o_alloc) ?_
   rintro _ _ ⟨b6, rfl, rfl⟩
   first | refine gl_u (o_storeSA rfl rfl rfl rfl (by simp; omega) (by simp)) ?_ | refine gl_u (o_storeA rfl rfl rfl rfl rfl) ?_
   refine gl_nil ?_
   refine ge_then ?_
   refine g_seq ?_
   refine g_seq ?_
   refine g_region ?_
   first | refine gl_v rfl (o_fldS rfl) ?_ | refine gl_v rfl (o_fld rfl) ?_
   first | refine gl_v rfl (o_load rfl rfl) ?_ | refine gl_v rfl (o_loadS rfl rfl) ?_ | refine gl_v rfl (o_loadC rfl) ?_
   refine gl_n rfl (o_range rfl) ?_
   rintro _ _ ⟨b25, rfl, rfl⟩
   refine gl_nil ?_
   refine ge_then ?_
   refine g_block ?_
   refine g_loop (ι := Nat × Eff × List Tk) (fun x => x.1 ≤ ps.length ∧ partsP (ps.drop x.1) x.2.1 x.2.2 = partsP ps { e0 with do' := ((i + 1 : Nat) : Int) } T.tail) (fun x => [(25, ptr b25 0), (6, ptr b6 0), (2, ptr b2 0), (0, ptr p 0)]) (fun x => itr b25 ps x.1 :: cel b6 38 (effC x.2.1) :: rdr p x.2.2 n :: cel b2 38 (effC e0) :: R) (fun x => ps.length - x.1) (0, { e0 with do' := ((i + 1 : Nat) : Int) }, T.tail) (⟨Nat.zero_le _, rfl⟩) (Keep.cons rfl (Keep.cons rfl (Keep.cons rfl (Keep.cons rfl (Keep.nil))))) (tO) ?_
   rintro ⟨k, e, X⟩ ⟨hk, hP⟩
   replace hk : k ≤ ps.length := hk
   replace hP : partsP (ps.drop k) e X = partsP ps { e0 with do' := ((i + 1 : Nat) : Int) } T.tail := hP
   dsimp only
   refine g_seq ?_
   rcases Nat.lt_or_ge k ps.length with hk1 | hk1
   ·
    obtain ⟨c, hkc⟩ : ∃ c, ps[k]? = some c := ⟨_, List.getElem?_eq_getElem hk1⟩
    have h8 := hasc c (List.mem_of_getElem? hkc)
    refine g_region ?_
    refine gl_n rfl (o_next rfl sE hkc h8) ?_
    rintro _ _ ⟨rfl, rfl⟩
    refine gl_v rfl (o_extract (v := .bool true) rfl rfl) ?_
    refine gl_nil ?_
    refine ge_then ?_
    refine g_seq ?_
    refine g_cond_true rfl ?_
    refine g_skip ?_
    refine ge_then ?_
    refine g_block ?_
    refine g_seq ?_
    refine g_region ?_
    refine gl_v rfl (o_extract rfl rfl) ?_
    refine gl_v rfl (o_assign rfl) ?_
    refine gl_nil ?_
    refine ge_then ?_
    refine g_region ?_
    refine gl_v rfl (o_move rfl) ?_
    refine gl_v rfl (o_move rfl) ?_
    refine gl_cx rfl (o_callX rfl (part_spec p b6 n c e X) pA) ?_ ?_
    ·
     rintro ch _ ⟨_, ⟨rx, bx, hbad, rfl, rfl⟩, rfl⟩
     try simp only [List.cons_append, List.nil_append]
     exact ge_px (P := Tryz.prog) (fn := Tryz.f106) _ ⟨rx, bx, by rw [hEq, ← hP, drop_at' hkc]; show (partP c e X).bind (partsP (ps.drop (k + 1))) = _; rw [hbad]; rfl, rfl, rfl⟩ (tO)
    rintro _ R ⟨_, ⟨rfl, e', r, he, rfl⟩, rfl⟩
    try simp only [List.cons_append, List.nil_append]
    refine gl_nil ?_
    refine ge_block ?_
    refine ge_round (k + 1, e', r) ⟨by show k + 1 ≤ ps.length; omega, by rw [← hP, drop_at' hkc]; show _ = (partP c e X).bind (partsP (ps.drop (k + 1))); rw [he]; rfl⟩ (by show ps.length - (k + 1) < ps.length - k; omega) (Keep.cons rfl (Keep.cons rfl (Keep.cons rfl (Keep.cons rfl (Keep.nil))))) (tO)
   ·
    obtain rfl : k = ps.length := by omega
    rw [List.drop_length] at hP
    refine g_region ?_
    refine gl_v rfl (o_nextE rfl sE) ?_
    refine gl_v rfl (o_extract (v := .bool false) rfl rfl) ?_
    refine gl_nil ?_
    refine ge_then ?_
    refine g_seq ?_
    refine g_cond_false rfl ?_
    refine g_exit ?_
    refine ge_then_exit ?_
    refine ge_then_exit ?_
    refine ge_block_exit ?_
    refine ge_then ?_
    refine g_seq ?_
    refine g_region ?_
    first | refine gl_v rfl (o_loadSA rfl rfl rfl) ?_ | refine gl_v rfl (o_loadA rfl rfl rfl) ?_
    first | refine gl_u (o_storeSA rfl rfl rfl rfl (by simp; omega) (by simp)) ?_ | refine gl_u (o_storeA rfl rfl rfl rfl rfl) ?_
    refine gl_nil ?_
    refine ge_then ?_
    refine g_ret ?_
    refine ge_block_ret ?_
    refine ge_then_ret ?_
    refine ge_then_ret ?_
    refine ge_block_ret ?_
    refine ge_then_ret ?_
    refine ge_x (.inl rfl) ?_
    refine ret1c (.inl rfl) rfl rfl rfl rfl [rdr p X n] (⟨e, X, by rw [hEq, ← hP]; rfl, rfl, rfl⟩) (tO)
 ·
  replace hc1 := hs_ hc1
  obtain rfl : i = 12 := by omega
  refine g_exit ?_
  refine ge_then_exit ?_
  refine ge_then_exit ?_
  refine ge_block_exit ?_
  refine ge_then ?_
  refine g_seq ?_
  refine g_region ?_
  refine gl_v rfl (o_move rfl) ?_
  refine gl_cx rfl (o_callX rfl (fail_spec _ _ _) pA) ?_ ?_
  ·
   rintro ch _ ⟨_, ⟨rx, bx, hbad, rfl, rfl⟩, rfl⟩
   try simp only [List.cons_append, List.nil_append]
   exact ge_px (P := Tryz.prog) (fn := Tryz.f106) _ ⟨rx, bx, by rw [← hX]; cases hbad; rfl, rfl, rfl⟩ (tO)
  rintro _ _ ⟨_, hdead, _⟩
  exact hdead.elim

theorem list_cases (T : List Tk) : T = [] ∨ ∃ t T', T = t :: T' := by cases T with | nil => exact .inl rfl | cons t T => exact .inr ⟨t, T, rfl⟩
theorem flat_snoc' {α : Type} (f : α → List Value) (l : List α) (x : α) : l.flatMap f ++ f x = (l ++ [x]).flatMap f := by simp
theorem len_snoc {α : Type} (l : List α) (x : α) : l.length + 1 = (l ++ [x]).length := by simp
theorem suf_len {r T : List Tk} (h : Suf r T) : r.length ≤ T.length := h.1
theorem lv_of {α : Type} {T r : List Tk} {p : PR α} {a : α} (h : Lv T p) (e : p = .ok a r) : Suf r T := by rw [e] at h; exact h
theorem lt_of {α : Type} {T r : List Tk} {p : PR α} {a : α} (h : Go.L.Pa.Lt T p) (e : p = .ok a r) : r.length < T.length := by rw [e] at h; exact h
theorem al_of {α : Type} {Q : α → Prop} {r : List Tk} {p : PR α} {a : α} (h : Al Q p) (e : p = .ok a r) : Q a ∧ TB r := by rw [e] at h; exact h

set_option maxRecDepth 8000 in
set_option maxHeartbeats 2000000 in
theorem row_spec (p n : Nat) (T : List Tk) (hTB : TB T) (hTl : T.length ≤ 16384) : FnX Tryz.prog 86 [ptr p 0] [rdr p T n] (fun u Bs => ∃ w r, rowP T = .ok (Row.strip w) r ∧ u = .agg (rowC w).toArray ∧ Bs = [rowA w, rdr p r n]) (pxP (rowP T) n) := by
 refine fnx_body Tryz.func86 rfl rfl rfl ?_
 intro W0 R
 simp only [List.zipIdx_cons, List.zipIdx_nil, List.map_cons, List.map_nil, Nat.zero_add, Nat.reduceAdd, List.cons_append, List.nil_append]
 refine g_seq ?_
 refine g_region ?_
 refine gl_n rfl (o_alloc) ?_
 rintro _ _ ⟨b2, rfl, rfl⟩
 refine gl_nil ?_
 refine ge_then ?_
 refine g_seq ?_
 refine g_region ?_
 refine gl_n rfl (o_alloc) ?_
 rintro _ _ ⟨b3, rfl, rfl⟩
 refine gl_nil ?_
 refine ge_then ?_
 refine g_cut (fun act wo => ∃ (tag : By) (only : Bool) (nn : Int) (X : List Tk), rowP T = rowX (⟨tag, only, nn, none, 0, []⟩ : Row) X ∧ Suf X T ∧ ok63 tag.length ∧ HasSl Tryz.f86.ntmps [(3, ptr b3 0), (2, ptr b2 0), (0, ptr p 0)] act ∧ St W0 (rdr p X n :: cel b3 83 [S tag, .bool only, I64 nn, .slice none 0 0] :: cel b2 83 (rowC r0) :: R) wo) ?_ ?_
 ·
  refine g_seq ?_
  refine g_region ?_
  refine gl_v rfl (o_move rfl) ?_
  refine gl_c rfl (o_call rfl (maybe_spec _ _ _ _) pA) ?_
  rintro _ R ⟨_, ⟨rfl, rfl⟩, rfl⟩
  try simp only [List.cons_append, List.nil_append]
  refine gl_v rfl (o_not rfl) ?_
  refine gl_nil ?_
  refine ge_then ?_
  refine g_cond rfl (fun hc1 => ?_) (fun hc1 => ?_)
  ·
   replace hc1 := hs_ hc1
   have hany : isW wAny T = false := by simpa using hc1
   rw [hany]
   simp only [Bool.false_eq_true, if_false]
   refine g_seq ?_
   refine g_region ?_
   refine gl_v rfl (o_move rfl) ?_
   first | refine gl_n rfl (o_buildS1 rfl rfl rfl) ?_ | refine gl_n rfl (o_buildS1A rfl rfl rfl rfl) ?_ | refine gl_n rfl (o_buildS rfl rfl rfl rfl) ?_
   rintro _ _ ⟨b8, rfl, rfl⟩
   refine gl_cx rfl (o_callX rfl (must1 p wOn b8 (T) n) pA) ?_ ?_
   ·
    rintro ch _ ⟨_, ⟨rx, bx, hbad, rfl, rfl⟩, rfl⟩
    try simp only [List.cons_append, List.nil_append]
    exact ge_px (P := Tryz.prog) (fn := Tryz.f86) _ ⟨rx, bx, by unfold rowP; rw [hany, if_neg (by decide), hbad]; rfl, rfl, rfl⟩ (tO)
   rintro _ R ⟨_, ⟨rfl, r1, hr1, rfl⟩, rfl⟩
   try simp only [List.cons_append, List.nil_append]
   refine gl_nil ?_
   refine ge_then ?_
   refine g_seq ?_
   refine g_region ?_
   refine gl_v rfl (o_move rfl) ?_
   refine gl_cx rfl (o_callX rfl (name_spec p n r1) pA) ?_ ?_
   ·
    rintro ch _ ⟨_, ⟨rx, bx, hbad, rfl, rfl⟩, rfl⟩
    try simp only [List.cons_append, List.nil_append]
    exact ge_px (P := Tryz.prog) (fn := Tryz.f86) _ ⟨rx, bx, by unfold rowP; rw [hany, if_neg (by decide), hr1]; show (nameP r1).bind rowN = _; rw [hbad]; rfl, rfl, rfl⟩ (tO)
   rintro _ R ⟨_, ⟨s, r2, hs, rfl, rfl⟩, rfl⟩
   try simp only [List.cons_append, List.nil_append]
   first | refine gl_v rfl (o_fldS rfl) ?_ | refine gl_v rfl (o_fld rfl) ?_
   first | refine gl_u (o_store rfl rfl rfl rfl) ?_ | refine gl_u (o_storeS rfl rfl rfl (by first | assumption | omega | simp)) ?_
   refine gl_nil ?_
   refine ge_then ?_
   refine g_seq ?_
   rcases list_cases r2 with rfl | ⟨t, X, rfl⟩
   ·
    refine g_imp (fun h s => Sel.to (A := rdr p [] n) sE s) ?_
    refine g_open .head ?_
    rintro ⟨ta, tc⟩ -
    simp only [List.cons_append, List.nil_append]
    refine g_region ?_
    refine gl_v rfl (o_move rfl) ?_
    refine gl_v rfl (o_nil rfl) ?_
    first | refine gl_v rfl (o_fldS rfl) ?_ | refine gl_v rfl (o_fld rfl) ?_
    first | refine gl_v rfl (o_load rfl rfl) ?_ | refine gl_v rfl (o_loadS rfl rfl) ?_ | refine gl_v rfl (o_loadC rfl) ?_
    first | refine gl_v rfl (o_len rfl) ?_ | refine gl_v rfl (o_lenL rfl) ?_
    refine gl_v rfl (o_is (c := false) (by rfl) (o_gtr rfl rfl)) ?_
    refine gl_v rfl (o_move rfl) ?_
    refine gl_gF rfl rfl rfl rfl ?_
    refine gl_gF rfl rfl rfl rfl ?_
    refine gl_gF rfl rfl rfl rfl ?_
    refine gl_gF rfl rfl rfl rfl ?_
    refine gl_gF rfl rfl rfl rfl ?_
    refine gl_gF rfl rfl rfl rfl ?_
    refine gl_gF rfl rfl rfl rfl ?_
    refine gl_gF rfl rfl rfl rfl ?_
    refine gl_v rfl (o_pickF rfl rfl rfl) ?_
    refine gl_nil ?_
    refine ge_imp (rdr_shut (T := []) ta tc sE sE) ?_
    refine ge_then ?_
    refine g_cond_false rfl ?_
    refine g_skip ?_
    exact fun act wo hsl st => ⟨s, false, 0, [], by unfold rowP; rw [hany, if_neg (by decide), hr1]; show (nameP r1).bind rowN = _; rw [hs]; rfl, (lv_of (lv_name r1) hs).trans (lv_of (lv_must _ T) hr1), (al_of (al_name (hTB.suf (lv_of (lv_must _ T) hr1))) hs).1, hsl.keep (Keep.cons rfl (Keep.cons rfl (Keep.cons rfl (Keep.nil)))), st.imp (tO)⟩
   ·
    refine g_imp (fun h s => Sel.to (A := rdr p (t :: X) n) sE s) ?_
    refine g_open .head ?_
    rintro ⟨ta, tc⟩ -
    simp only [List.cons_append, List.nil_append]
    refine g_region ?_
    refine gl_v rfl (o_move rfl) ?_
    refine gl_v rfl (o_nil rfl) ?_
    first | refine gl_v rfl (o_fldS rfl) ?_ | refine gl_v rfl (o_fld rfl) ?_
    first | refine gl_v rfl (o_load rfl rfl) ?_ | refine gl_v rfl (o_loadS rfl rfl) ?_ | refine gl_v rfl (o_loadC rfl) ?_
    first | refine gl_v rfl (o_len rfl) ?_ | refine gl_v rfl (o_lenL rfl) ?_
    refine gl_v rfl (o_is (c := true) (by exact decide_eq_true (by simp)) (o_gtr rfl rfl)) ?_
    refine gl_v rfl (o_move rfl) ?_
    refine gl_gT rfl rfl rfl ?_
    refine gl_v rfl (o_move rfl) ?_
    refine gl_gT rfl rfl rfl ?_
    refine gl_v rfl (o_nil rfl) ?_
    refine gl_gT rfl rfl rfl ?_
    first | refine gl_v rfl (o_fldS rfl) ?_ | refine gl_v rfl (o_fld rfl) ?_
    refine gl_gT rfl rfl rfl ?_
    first | refine gl_v rfl (o_load rfl rfl) ?_ | refine gl_v rfl (o_loadS rfl rfl) ?_ | refine gl_v rfl (o_loadC rfl) ?_
    refine gl_gT rfl rfl rfl ?_
    refine gl_v rfl (o_idxS (j := 0) rfl rfl (show 0 < (t :: X).length from Nat.succ_pos _)) ?_
    refine gl_gT rfl rfl rfl ?_
    first | refine gl_v rfl (o_fldS rfl) ?_ | refine gl_v rfl (o_fld rfl) ?_
    refine gl_gT rfl rfl rfl ?_
    refine gl_v rfl (o_loadS rfl (show ((t :: X).flatMap tkC)[0 * 4 + 0]? = some (I64 t.kind) from rfl)) ?_
    refine gl_gT rfl rfl rfl ?_
    refine gl_v rfl (o_eql rfl rfl) ?_
    refine gl_v rfl (o_pickT rfl rfl rfl) ?_
    refine gl_nil ?_
    refine ge_imp (rdr_shut (T := t :: X) ta tc sE sE) ?_
    refine ge_then ?_
    refine g_cond rfl (fun hc2 => ?_) (fun hc2 => ?_)
    ·
     replace hc2 := hs_ hc2
     have hk : t.kind = 2 := by omega
     refine g_region ?_
     refine gl_v rfl (o_move rfl) ?_
     refine gl_cx rfl (o_callX rfl (number_spec p n (t :: X)) pA) ?_ ?_
     ·
      rintro ch _ ⟨_, ⟨rx, bx, hbad, rfl, rfl⟩, rfl⟩
      try simp only [List.cons_append, List.nil_append]
      exact ge_px (P := Tryz.prog) (fn := Tryz.f86) _ ⟨rx, bx, by unfold rowP; rw [hany, if_neg (by decide), hr1]; show (nameP r1).bind rowN = _; rw [hs]; show rowN s (t :: X) = _; unfold rowN; rw [show headNum (t :: X) = true from decide_eq_true hk, if_pos rfl, hbad]; rfl, rfl, rfl⟩ (tO)
     rintro _ R ⟨_, ⟨nn, r3, hn3, rfl, rfl⟩, rfl⟩
     try simp only [List.cons_append, List.nil_append]
     first | refine gl_v rfl (o_fldS rfl) ?_ | refine gl_v rfl (o_fld rfl) ?_
     first | refine gl_u (o_store rfl rfl rfl rfl) ?_ | refine gl_u (o_storeS rfl rfl rfl (by first | assumption | omega | simp)) ?_
     first | refine gl_v rfl (o_fldS rfl) ?_ | refine gl_v rfl (o_fld rfl) ?_
     first | refine gl_u (o_store rfl rfl rfl rfl) ?_ | refine gl_u (o_storeS rfl rfl rfl (by first | assumption | omega | simp)) ?_
     refine gl_nil ?_
     exact fun act wo hsl st => ⟨s, true, nn, r3, by unfold rowP; rw [hany, if_neg (by decide), hr1]; show (nameP r1).bind rowN = _; rw [hs]; show rowN s (t :: X) = _; unfold rowN; rw [show headNum (t :: X) = true from decide_eq_true hk, if_pos rfl, hn3]; rfl, (lv_of (lv_num _) hn3).trans ((lv_of (lv_name r1) hs).trans (lv_of (lv_must _ T) hr1)), (al_of (al_name (hTB.suf (lv_of (lv_must _ T) hr1))) hs).1, hsl.keep (Keep.cons rfl (Keep.cons rfl (Keep.cons rfl (Keep.nil)))), st.imp (tO)⟩
    ·
     replace hc2 := hs_ hc2
     have hk : ¬ t.kind = 2 := by omega
     refine g_skip ?_
     exact fun act wo hsl st => ⟨s, false, 0, t :: X, by unfold rowP; rw [hany, if_neg (by decide), hr1]; show (nameP r1).bind rowN = _; rw [hs]; show rowN s (t :: X) = _; unfold rowN; rw [show headNum (t :: X) = false from decide_eq_false hk, if_neg (by decide)]; rfl, (lv_of (lv_name r1) hs).trans (lv_of (lv_must _ T) hr1), (al_of (al_name (hTB.suf (lv_of (lv_must _ T) hr1))) hs).1, hsl.keep (Keep.cons rfl (Keep.cons rfl (Keep.cons rfl (Keep.nil)))), st.imp (tO)⟩
  ·
   replace hc1 := hs_ hc1
   have hany : isW wAny T = true := by simpa using hc1
   rw [hany]
   simp only [if_true]
   refine g_skip ?_
   exact fun act wo hsl st => ⟨[], false, 0, T.tail, by unfold rowP; rw [hany, if_pos rfl]; rfl, .tail T, (by show 0 ≤ 140737488351232; decide), hsl.keep (Keep.cons rfl (Keep.cons rfl (Keep.cons rfl (Keep.nil)))), st.imp (tO)⟩
 ·
  rintro act wo ⟨tag, only, nn, X, hrow, hsX, htag, hsl, st⟩
  refine g_of ?_ hsl st
  clear hsl st act wo
  refine g_seq ?_
  refine g_region ?_
  refine gl_v rfl (o_move rfl) ?_
  first | refine gl_n rfl (o_buildS1 rfl rfl rfl) ?_ | refine gl_n rfl (o_buildS1A rfl rfl rfl rfl) ?_ | refine gl_n rfl (o_buildS rfl rfl rfl rfl) ?_
  rintro _ _ ⟨b34, rfl, rfl⟩
  refine gl_cx rfl (o_callX rfl (must1 p wOpen b34 (X) n) pA) ?_ ?_
  ·
   rintro ch _ ⟨_, ⟨rx, bx, hbad, rfl, rfl⟩, rfl⟩
   try simp only [List.cons_append, List.nil_append]
   exact ge_px (P := Tryz.prog) (fn := Tryz.f86) _ ⟨rx, bx, by rw [hrow]; unfold rowX; rw [hbad]; rfl, rfl, rfl⟩ (tO)
  rintro _ R ⟨_, ⟨rfl, X1, hX1, rfl⟩, rfl⟩
  try simp only [List.cons_append, List.nil_append]
  have hRE : rowP T = (effsP (X1.length + 1) [] X1).bind (fun es r' => .ok ⟨tag, only, nn, none, 0, es⟩ r') := by rw [hrow]; unfold rowX; rw [hX1]; rfl
  have hs1 := hsX.trans (.refl _)
  have hsX1 : Suf X1 T := (lv_of (lv_must [wOpen] X) hX1).trans hsX
  have hl1 := hsX1.1
  refine gl_nil ?_
  refine ge_then ?_
  refine g_seq ?_
  refine g_block ?_
  refine g_loop (ι := List Eff × List Tk × Option Addr × Nat) (fun x => (∃ f, x.2.1.length < f ∧ effsP f x.1 x.2.1 = effsP (X1.length + 1) [] X1) ∧ x.1.length + x.2.1.length ≤ X1.length ∧ Suf x.2.1 T ∧ ∀ e ∈ x.1, EffOk e) (fun x => [(3, ptr b3 0), (2, ptr b2 0), (0, ptr p 0)]) (fun x => rdr p x.2.1 n :: own (.slice x.2.2.1 x.1.length x.2.2.2) 38 7 x.1.length (x.1.flatMap effC) :: cel b3 83 [S tag, .bool only, I64 nn, .slice x.2.2.1 x.1.length x.2.2.2] :: cel b2 83 (rowC r0) :: R) (fun x => x.2.1.length) ([], X1, none, 0) (⟨⟨_, Nat.lt_succ_self _, rfl⟩, by simp, hsX1, fun e he => by cases he⟩) (Keep.cons rfl (Keep.cons rfl (Keep.cons rfl (Keep.nil)))) (fun h s => (tO) h (own_nil0 (e := 38) (sz := 7) h s)) ?_
  rintro ⟨es, X, ea, ec⟩ ⟨⟨f, hf, hE⟩, hlen, hsX, heo⟩
  replace hf : X.length < f := hf
  replace hE : effsP f es X = effsP (X1.length + 1) [] X1 := hE
  replace hlen : es.length + X.length ≤ X1.length := hlen
  replace hsX : Suf X T := hsX
  replace heo : ∀ e ∈ es, EffOk e := heo
  obtain ⟨f, rfl⟩ : ∃ g, f = g + 1 := ⟨f - 1, by omega⟩
  dsimp only
  refine g_seq ?_
  refine g_seq ?_
  refine g_region ?_
  refine gl_v rfl (o_move rfl) ?_
  refine gl_c rfl (o_call rfl (maybe_spec _ _ _ _) pA) ?_
  rintro _ R ⟨_, ⟨rfl, rfl⟩, rfl⟩
  try simp only [List.cons_append, List.nil_append]
  refine gl_v rfl (o_not rfl) ?_
  refine gl_nil ?_
  refine ge_then ?_
  refine g_cond rfl (fun hc3 => ?_) (fun hc3 => ?_)
  ·
   replace hc3 := hs_ hc3
   have hsh : isW wShut X = false := by simpa using hc3
   rw [hsh]
   simp only [Bool.false_eq_true, if_false]
   refine g_skip ?_
   refine ge_then ?_
   refine g_block ?_
   refine g_seq ?_
   refine DX.g_draw (fun ch Bs => ∃ L, pxP (rowP T) n ch L ∧ Bs = L ++ R) [3, 4, 5, 7] [3, 4] [(0, .stab), (1, .stab), (2, .loc), (3, .eff), (4, .eff), (5, .eff), (6, .loc), (7, .eff)] [cel b3 83 [S tag, .bool only, I64 nn, .slice ea es.length ec]] mixed (by kernel_rfl) (fun ch Bs a w hpx hd sx => ?_) ?_
   · obtain ⟨L, hL, rfl⟩ := hpx; exact px_fq (P := Tryz.prog) (fn := Tryz.f86) L hL (fun _ h => h) hd sx
   first | refine DX.go_vs rfl .none rfl (o_fldS rfl) (tO) ?_ | refine DX.go_vs rfl .none rfl (o_fld rfl) (tO) ?_
   first | refine DX.go_vs rfl .none rfl (o_load rfl rfl) (tO) ?_ | refine DX.go_vs rfl .none rfl (o_loadS rfl rfl) (tO) ?_ | refine DX.go_vs rfl .none rfl (o_loadC rfl) (tO) ?_
   refine DX.go_v rfl .none rfl (o_move rfl) ?_
   refine DX.go_cx rfl .none rfl (o_callX rfl (effect_spec p n X) pA) (fun a hs => hs.dfr) ?_ ?_
   ·
    rintro ch _ wx ⟨_, ⟨rx, bx, hbad, rfl, rfl⟩, rfl⟩ sx
    exact ⟨_, ⟨_, ⟨rx, bx, by rw [hRE, ← hE]; show PR.bind (if isW wShut X then _ else _) _ = _; rw [hsh, if_neg (by decide), hbad]; rfl, rfl, rfl⟩, rfl⟩, sx.imp (tO)⟩
   rintro _ R ⟨_, ⟨e, r, he, rfl, rfl⟩, rfl⟩
   try simp only [List.cons_append, List.nil_append]
   refine ⟨(fun _ => (tO)), ?_⟩
   first | refine DX.go_n rfl .none rfl (o_buildS1 rfl rfl rfl) ?_ | refine DX.go_n rfl .none rfl (o_buildS1A rfl rfl rfl rfl) ?_ | refine DX.go_n rfl .none rfl (o_buildS rfl rfl rfl rfl) ?_
   rintro _ _ ⟨b43, rfl, rfl⟩
   refine ⟨(fun _ => (tO)), ?_⟩
   refine DX.go_n rfl .none rfl (o_append rfl rfl pA rfl rfl rfl (by omega) (by unfold maxLen; omega)) ?_
   rintro _ _ ⟨a44, c44, rfl, rfl⟩
   rw [len_snoc es e, flat_snoc' effC es e]
   refine ⟨(fun hG => absurd hG (by decide)), ?_⟩
   first | refine DX.go_v rfl .none rfl (o_fldS rfl) ?_ | refine DX.go_v rfl .none rfl (o_fld rfl) ?_
   first | refine DX.go_u rfl .none (o_store rfl rfl rfl rfl) (fun hG => absurd hG (by decide)) ?_ | refine DX.go_u rfl .none (o_storeS rfl rfl rfl (by first | assumption | omega | simp)) (fun hG => absurd hG (by decide)) ?_
   refine DX.go_nil0 ?_
   refine ge_then ?_
   refine g_region ?_
   refine gl_v rfl (o_move rfl) ?_
   first | refine gl_n rfl (o_buildS1 rfl rfl rfl) ?_ | refine gl_n rfl (o_buildS1A rfl rfl rfl rfl) ?_ | refine gl_n rfl (o_buildS rfl rfl rfl rfl) ?_
   rintro _ _ ⟨b47, rfl, rfl⟩
   refine gl_cx rfl (o_callX rfl (must1 p wSemi b47 (r) n) pA) ?_ ?_
   ·
    rintro ch _ ⟨_, ⟨rx, bx, hbad, rfl, rfl⟩, rfl⟩
    try simp only [List.cons_append, List.nil_append]
    exact ge_px (P := Tryz.prog) (fn := Tryz.f86) _ ⟨rx, bx, by rw [hRE, ← hE]; show PR.bind (if isW wShut X then _ else _) _ = _; rw [hsh, if_neg (by decide), he]; show PR.bind (PR.bind (mustP [wSemi] r) _) _ = _; rw [hbad]; rfl, rfl, rfl⟩ (tO)
   rintro _ R ⟨_, ⟨rfl, r4, hr4, rfl⟩, rfl⟩
   try simp only [List.cons_append, List.nil_append]
   refine gl_nil ?_
   refine ge_block ?_
   have hq1 := lt_of (lt_eff X) he
   have hq2 := lv_of (lv_must [wSemi] r) hr4
   have hq3 := hq2.1
   refine ge_round (es ++ [e], r4, a44, c44) ⟨⟨f, by show r4.length < f; omega, by rw [← hE]; show _ = (if isW wShut X then _ else _); rw [hsh, if_neg (by decide), he]; show _ = PR.bind (mustP [wSemi] r) _; rw [hr4]; rfl⟩, by show (es ++ [e]).length + r4.length ≤ X1.length; rw [List.length_append, List.length_singleton]; omega, hq2.trans ((lv_of (lv_eff X) he).trans hsX), fun x hx => by
     rcases List.mem_append.1 hx with hx | hx
     · exact heo x hx
     · rw [List.mem_singleton.1 hx]; exact (al_of (al_eff (hTB.suf hsX)) he).1⟩ (by show r4.length < X.length; omega) (Keep.cons rfl (Keep.cons rfl (Keep.cons rfl (Keep.nil)))) (tO)
  ·
   replace hc3 := hs_ hc3
   have hsh : isW wShut X = true := by simpa using hc3
   rw [hsh]
   simp only [if_true]
   refine g_exit ?_
   refine ge_then_exit ?_
   refine ge_then_exit ?_
   refine ge_block_exit ?_
   refine ge_then ?_
   refine g_seq ?_
   refine g_region ?_
   first | refine gl_v rfl (o_loadSA rfl rfl rfl) ?_ | refine gl_v rfl (o_loadA rfl rfl rfl) ?_
   first | refine gl_u (o_storeSA rfl rfl rfl rfl (by simp; omega) (by simp)) ?_ | refine gl_u (o_storeA rfl rfl rfl rfl rfl) ?_
   refine gl_nil ?_
   refine ge_then ?_
   refine g_ret ?_
   refine ge_x (.inl rfl) ?_
   refine ret1c (.inl rfl) rfl rfl rfl rfl [rowA ⟨tag, only, nn, ea, ec, es⟩, rdr p X.tail n] (⟨_, X.tail, by rw [hRE, ← hE]; show PR.bind (if isW wShut X then _ else _) _ = _; rw [hsh, if_pos rfl]; rfl, rfl, rfl⟩) (fun h s => mk_row (e := 38) htag (by omega) heo h ((tO) h s))

set_option maxRecDepth 8000 in
set_option maxHeartbeats 2000000 in
theorem state_spec (p n : Nat) (T : List Tk) (hTB : TB T) (hTl : T.length ≤ 16384) : FnX Tryz.prog 61 [ptr p 0] [rdr p T n] (fun u Bs => ∃ w r, staP T = .ok (Sta.strip w) r ∧ u = .agg (staC w).toArray ∧ Bs = [staA w, rdr p r n]) (pxP (staP T) n) := by
 refine fnx_body Tryz.func61 rfl rfl rfl ?_
 intro W0 R
 simp only [List.zipIdx_cons, List.zipIdx_nil, List.map_cons, List.map_nil, Nat.zero_add, Nat.reduceAdd, List.cons_append, List.nil_append]
 refine g_seq ?_
 refine g_region ?_
 refine gl_n rfl (o_alloc) ?_
 rintro _ _ ⟨b2, rfl, rfl⟩
 refine gl_nil ?_
 refine ge_then ?_
 refine g_seq ?_
 refine g_region ?_
 refine gl_v rfl (o_move rfl) ?_
 refine gl_cx rfl (o_callX rfl (name_spec p n T) pA) ?_ ?_
 ·
  rintro ch _ ⟨_, ⟨rx, bx, hbad, rfl, rfl⟩, rfl⟩
  try simp only [List.cons_append, List.nil_append]
  exact ge_px (P := Tryz.prog) (fn := Tryz.f61) _ ⟨rx, bx, by unfold staP; rw [hbad]; rfl, rfl, rfl⟩ (tO)
 rintro _ R ⟨_, ⟨s, r1, hs, rfl, rfl⟩, rfl⟩
 try simp only [List.cons_append, List.nil_append]
 refine gl_v rfl (o_build rfl rfl) ?_
 refine gl_n rfl (o_alloc) ?_
 rintro _ _ ⟨b3, rfl, rfl⟩
 first | refine gl_u (o_storeSA rfl rfl rfl rfl (by simp; omega) (by simp)) ?_ | refine gl_u (o_storeA rfl rfl rfl rfl rfl) ?_
 refine gl_nil ?_
 refine ge_then ?_
 refine g_seq ?_
 refine g_region ?_
 refine gl_v rfl (o_move rfl) ?_
 first | refine gl_n rfl (o_buildS1 rfl rfl rfl) ?_ | refine gl_n rfl (o_buildS1A rfl rfl rfl rfl) ?_ | refine gl_n rfl (o_buildS rfl rfl rfl rfl) ?_
 rintro _ _ ⟨b8, rfl, rfl⟩
 refine gl_cx rfl (o_callX rfl (must1 p wOpen b8 (r1) n) pA) ?_ ?_
 ·
  rintro ch _ ⟨_, ⟨rx, bx, hbad, rfl, rfl⟩, rfl⟩
  try simp only [List.cons_append, List.nil_append]
  exact ge_px (P := Tryz.prog) (fn := Tryz.f61) _ ⟨rx, bx, by unfold staP; rw [hs, bind_ok, hbad]; rfl, rfl, rfl⟩ (tO)
 rintro _ R ⟨_, ⟨rfl, X1, hX1, rfl⟩, rfl⟩
 try simp only [List.cons_append, List.nil_append]
 have hRE : staP T = (rowsP (X1.length + 1) [] X1).bind (fun R r' => .ok ⟨s, none, 0, R⟩ r') := by unfold staP; rw [hs, bind_ok, hX1]; rfl
 have hsX1 : Suf X1 T := (lv_of (lv_must [wOpen] r1) hX1).trans (lv_of (lv_name T) hs)
 have hl1 := hsX1.1
 have hsl := (al_of (al_name hTB) hs).1
 refine gl_nil ?_
 refine ge_then ?_
 refine g_seq ?_
 refine g_block ?_
 refine g_loop (ι := List Row × List Tk × Option Addr × Nat) (fun x => (∃ f, x.2.1.length < f ∧ rowsP f (x.1.map Row.strip) x.2.1 = rowsP (X1.length + 1) [] X1) ∧ x.1.length + x.2.1.length ≤ X1.length ∧ Suf x.2.1 T) (fun x => [(3, ptr b3 0), (2, ptr b2 0), (0, ptr p 0)]) (fun x => rdr p x.2.1 n :: own (.slice x.2.2.1 x.1.length x.2.2.2) 83 4 x.1.length (x.1.flatMap rowC) :: rowsA x.1 :: cel b3 79 [S s, .slice x.2.2.1 x.1.length x.2.2.2] :: cel b2 79 [S [], .slice none 0 0] :: R) (fun x => x.2.1.length) ([], X1, none, 0) (⟨⟨_, Nat.lt_succ_self _, rfl⟩, by simp, hsX1⟩) (Keep.cons rfl (Keep.cons rfl (Keep.cons rfl (Keep.nil)))) (fun h s => (tO) h (own_nil0 (e := 83) (sz := 4) h (sat_nil (A := rowsA []) (fun r hr => by cases hr) h s))) ?_
 rintro ⟨Rw, X, ea, ec⟩ ⟨⟨f, hf, hE⟩, hlen, hsX⟩
 replace hf : X.length < f := hf
 replace hE : rowsP f (Rw.map Row.strip) X = rowsP (X1.length + 1) [] X1 := hE
 replace hlen : Rw.length + X.length ≤ X1.length := hlen
 replace hsX : Suf X T := hsX
 obtain ⟨f, rfl⟩ : ∃ g, f = g + 1 := ⟨f - 1, by omega⟩
 dsimp only
 refine g_seq ?_
 refine g_seq ?_
 refine g_region ?_
 refine gl_v rfl (o_move rfl) ?_
 refine gl_c rfl (o_call rfl (maybe_spec _ _ _ _) pA) ?_
 rintro _ R ⟨_, ⟨rfl, rfl⟩, rfl⟩
 try simp only [List.cons_append, List.nil_append]
 refine gl_v rfl (o_not rfl) ?_
 refine gl_nil ?_
 refine ge_then ?_
 refine g_cond rfl (fun hc1 => ?_) (fun hc1 => ?_)
 ·
  replace hc1 := hs_ hc1
  have hsh : isW wShut X = false := by simpa using hc1
  rw [hsh]
  simp only [Bool.false_eq_true, if_false]
  refine g_skip ?_
  refine ge_then ?_
  refine g_block ?_
  refine DX.g_draw (fun ch Bs => ∃ L, pxP (staP T) n ch L ∧ Bs = L ++ R) [3, 4, 5, 7] [3, 4] [(0, .stab), (1, .stab), (2, .loc), (3, .eff), (4, .eff), (5, .eff), (6, .loc), (7, .eff)] [cel b3 79 [S s, .slice ea Rw.length ec]] mixed (by kernel_rfl) (fun ch Bs a w hpx hd sx => ?_) ?_
  · obtain ⟨L, hL, rfl⟩ := hpx; exact px_fq (P := Tryz.prog) (fn := Tryz.f61) L hL (fun _ h => h) hd sx
  first | refine DX.go_vs rfl .none rfl (o_fldS rfl) (tO) ?_ | refine DX.go_vs rfl .none rfl (o_fld rfl) (tO) ?_
  first | refine DX.go_vs rfl .none rfl (o_load rfl rfl) (tO) ?_ | refine DX.go_vs rfl .none rfl (o_loadS rfl rfl) (tO) ?_ | refine DX.go_vs rfl .none rfl (o_loadC rfl) (tO) ?_
  refine DX.go_v rfl .none rfl (o_move rfl) ?_
  refine DX.go_cx rfl .none rfl (o_callX rfl (row_spec p n X (hTB.suf hsX) (by have := hsX.1; omega)) pA) (fun a hs => hs.dfr) ?_ ?_
  ·
   rintro ch _ wx ⟨_, ⟨rx, bx, hbad, rfl, rfl⟩, rfl⟩ sx
   exact ⟨_, ⟨_, ⟨rx, bx, by rw [hRE, ← hE]; show PR.bind (if isW wShut X then _ else _) _ = _; rw [hsh, if_neg (by decide), hbad]; rfl, rfl, rfl⟩, rfl⟩, sx.imp (tO)⟩
  rintro _ R ⟨_, ⟨w, r, hw, rfl, rfl⟩, rfl⟩
  try simp only [List.cons_append, List.nil_append]
  refine ⟨(fun _ => (tO)), ?_⟩
  first | refine DX.go_n rfl .none rfl (o_buildS1 rfl rfl rfl) ?_ | refine DX.go_n rfl .none rfl (o_buildS1A rfl rfl rfl rfl) ?_ | refine DX.go_n rfl .none rfl (o_buildS rfl rfl rfl rfl) ?_
  rintro _ _ ⟨b17, rfl, rfl⟩
  refine ⟨(fun _ => (tO)), ?_⟩
  refine DX.go_n rfl .none rfl (o_append rfl rfl pA rfl rfl rfl (by omega) (by unfold maxLen; omega)) ?_
  rintro _ _ ⟨a18, c18, rfl, rfl⟩
  rw [len_snoc Rw w, flat_snoc' rowC Rw w]
  refine ⟨(fun hG => absurd hG (by decide)), ?_⟩
  first | refine DX.go_v rfl .none rfl (o_fldS rfl) ?_ | refine DX.go_v rfl .none rfl (o_fld rfl) ?_
  first | refine DX.go_u rfl .none (o_store rfl rfl rfl rfl) (fun hG => absurd hG (by decide)) ?_ | refine DX.go_u rfl .none (o_storeS rfl rfl rfl (by first | assumption | omega | simp)) (fun hG => absurd hG (by decide)) ?_
  refine DX.go_nil0 ?_
  refine ge_imp (fun h s => rows_push (r := w) (R := Rw) h (Part.to (m := [rowA w, rowsA Rw]) pA s)) ?_
  refine ge_block ?_
  have hq1 := lt_of (lt_row X) hw
  refine ge_round (Rw ++ [w], r, a18, c18) ⟨⟨f, by show r.length < f; omega, by rw [← hE, List.map_append]; show _ = (if isW wShut X then _ else _); rw [hsh, if_neg (by decide), hw]; rfl⟩, by show (Rw ++ [w]).length + r.length ≤ X1.length; rw [List.length_append, List.length_singleton]; omega, (lv_of (lv_row X) hw).trans hsX⟩ (by show r.length < X.length; omega) (Keep.cons rfl (Keep.cons rfl (Keep.cons rfl (Keep.nil)))) (tO)
 ·
  replace hc1 := hs_ hc1
  have hsh : isW wShut X = true := by simpa using hc1
  rw [hsh]
  simp only [if_true]
  refine g_exit ?_
  refine ge_then_exit ?_
  refine ge_then_exit ?_
  refine ge_block_exit ?_
  refine ge_then ?_
  refine g_seq ?_
  refine g_region ?_
  first | refine gl_v rfl (o_loadSA rfl rfl rfl) ?_ | refine gl_v rfl (o_loadA rfl rfl rfl) ?_
  first | refine gl_u (o_storeSA rfl rfl rfl rfl (by simp; omega) (by simp)) ?_ | refine gl_u (o_storeA rfl rfl rfl rfl rfl) ?_
  refine gl_nil ?_
  refine ge_then ?_
  refine g_ret ?_
  refine ge_x (.inl rfl) ?_
  refine ret1c (.inl rfl) rfl rfl rfl rfl [staA ⟨s, ea, ec, Rw⟩, rdr p X.tail n] (⟨_, X.tail, by rw [hRE, ← hE]; show PR.bind (if isW wShut X then _ else _) _ = _; rw [hsh, if_pos rfl]; rfl, rfl, rfl⟩) (fun h s => mk_sta (e := 83) hsl (by omega) h ((tO) h s))

set_option maxRecDepth 8000 in
set_option maxHeartbeats 4000000 in
theorem kind_spec (p n : Nat) (T : List Tk) (hTB : TB T) (hTl : T.length ≤ 16384) : FnX Tryz.prog 24 [ptr p 0] [rdr p T n] (fun u Bs => ∃ w r, kndP T = .ok (Knd.strip w) r ∧ u = .agg (kndC w).toArray ∧ Bs = [kndA w, rdr p r n]) (pxP (kndP T) n) := by
 refine fnx_body Tryz.func24 rfl rfl rfl ?_
 intro W0 R
 simp only [List.zipIdx_cons, List.zipIdx_nil, List.map_cons, List.map_nil, Nat.zero_add, Nat.reduceAdd, List.cons_append, List.nil_append]
 refine g_seq ?_
 refine g_region ?_
 refine gl_n rfl (o_alloc) ?_
 rintro _ _ ⟨b2, rfl, rfl⟩
 refine gl_nil ?_
 refine ge_then ?_
 refine g_seq ?_
 refine g_region ?_
 refine gl_v rfl (o_move rfl) ?_
 refine gl_cx rfl (o_callX rfl (name_spec p n T) pA) ?_ ?_
 ·
  rintro ch _ ⟨_, ⟨rx, bx, hbad, rfl, rfl⟩, rfl⟩
  try simp only [List.cons_append, List.nil_append]
  exact ge_px (P := Tryz.prog) (fn := Tryz.f24) _ ⟨rx, bx, by unfold kndP; rw [hbad]; rfl, rfl, rfl⟩ (tO)
 rintro _ R ⟨_, ⟨s, r1, hs, rfl, rfl⟩, rfl⟩
 try simp only [List.cons_append, List.nil_append]
 refine gl_v rfl (o_build rfl rfl) ?_
 refine gl_n rfl (o_alloc) ?_
 rintro _ _ ⟨b3, rfl, rfl⟩
 first | refine gl_u (o_storeSA rfl rfl rfl rfl (by simp; omega) (by simp)) ?_ | refine gl_u (o_storeA rfl rfl rfl rfl rfl) ?_
 refine gl_nil ?_
 refine ge_then ?_
 refine g_seq ?_
 refine g_region ?_
 refine gl_v rfl (o_move rfl) ?_
 first | refine gl_n rfl (o_buildS1 rfl rfl rfl) ?_ | refine gl_n rfl (o_buildS1A rfl rfl rfl rfl) ?_ | refine gl_n rfl (o_buildS rfl rfl rfl rfl) ?_
 rintro _ _ ⟨b9, rfl, rfl⟩
 refine gl_cx rfl (o_callX rfl (must1 p wOpen b9 (r1) n) pA) ?_ ?_
 ·
  rintro ch _ ⟨_, ⟨rx, bx, hbad, rfl, rfl⟩, rfl⟩
  try simp only [List.cons_append, List.nil_append]
  exact ge_px (P := Tryz.prog) (fn := Tryz.f24) _ ⟨rx, bx, by unfold kndP; rw [hs, bind_ok, hbad]; rfl, rfl, rfl⟩ (tO)
 rintro _ R ⟨_, ⟨rfl, X0, hX0, rfl⟩, rfl⟩
 try simp only [List.cons_append, List.nil_append]
 have hRE : kndP T = (limP X0).bind (fun ab r3 => (casesP (r3.length + 1) [] r3).bind fun C r4 => (stasP (r4.length + 1) [] r4).bind fun S r5 => (mustP [wShut] r5).bind fun _ r6 => .ok ⟨s, ab.1, ab.2, none, 0, C, none, 0, S⟩ r6) := by unfold kndP; rw [hs, bind_ok, hX0]; rfl
 have hsX0 : Suf X0 T := (lv_of (lv_must [wOpen] r1) hX0).trans (lv_of (lv_name T) hs)
 have hsl := (al_of (al_name hTB) hs).1
 refine gl_nil ?_
 refine ge_then ?_
 refine g_cut (fun act wo => ∃ (lim wi : Int) (X1 : List Tk), limP X0 = .ok (lim, wi) X1 ∧ Suf X1 T ∧ HasSl Tryz.f24.ntmps [(3, ptr b3 0), (2, ptr b2 0), (0, ptr p 0)] act ∧ St W0 (rdr p X1 n :: cel b3 57 [S s, I64 lim, I64 wi, .slice none 0 0, .slice none 0 0] :: cel b2 57 [S [], I64 0, I64 0, .slice none 0 0, .slice none 0 0] :: R) wo) ?_ ?_
 ·
  refine g_seq ?_
  refine g_region ?_
  refine gl_v rfl (o_move rfl) ?_
  refine gl_c rfl (o_call rfl (maybe_spec _ _ _ _) pA) ?_
  rintro _ R ⟨_, ⟨rfl, rfl⟩, rfl⟩
  try simp only [List.cons_append, List.nil_append]
  refine gl_nil ?_
  refine ge_then ?_
  refine g_cond rfl (fun hc1 => ?_) (fun hc1 => ?_)
  ·
   replace hc1 := hs_ hc1
   have hwLimit : isW wLimit X0 = true := hc1
   rw [hwLimit]
   simp only [if_true]
   refine g_seq ?_
   refine g_region ?_
   refine gl_v rfl (o_move rfl) ?_
   refine gl_cx rfl (o_callX rfl (number_spec p n X0.tail) pA) ?_ ?_
   ·
    rintro ch _ ⟨_, ⟨rx, bx, hbad, rfl, rfl⟩, rfl⟩
    try simp only [List.cons_append, List.nil_append]
    exact ge_px (P := Tryz.prog) (fn := Tryz.f24) _ ⟨rx, bx, by rw [hRE]; unfold limP; rw [hwLimit, if_pos rfl, hbad]; rfl, rfl, rfl⟩ (tO)
   rintro _ R ⟨_, ⟨lim, r3, h3, rfl, rfl⟩, rfl⟩
   try simp only [List.cons_append, List.nil_append]
   first | refine gl_v rfl (o_fldS rfl) ?_ | refine gl_v rfl (o_fld rfl) ?_
   first | refine gl_u (o_store rfl rfl rfl rfl) ?_ | refine gl_u (o_storeS rfl rfl rfl (by first | assumption | omega | simp)) ?_
   refine gl_nil ?_
   refine ge_then ?_
   refine g_seq ?_
   refine g_region ?_
   refine gl_v rfl (o_move rfl) ?_
   first | refine gl_n rfl (o_buildS1 rfl rfl rfl) ?_ | refine gl_n rfl (o_buildS1A rfl rfl rfl rfl) ?_ | refine gl_n rfl (o_buildS rfl rfl rfl rfl) ?_
   rintro _ _ ⟨b17, rfl, rfl⟩
   refine gl_cx rfl (o_callX rfl (must1 p wIn b17 (r3) n) pA) ?_ ?_
   ·
    rintro ch _ ⟨_, ⟨rx, bx, hbad, rfl, rfl⟩, rfl⟩
    try simp only [List.cons_append, List.nil_append]
    exact ge_px (P := Tryz.prog) (fn := Tryz.f24) _ ⟨rx, bx, by rw [hRE]; unfold limP; rw [hwLimit, if_pos rfl, h3, bind_ok, hbad]; rfl, rfl, rfl⟩ (tO)
   rintro _ R ⟨_, ⟨rfl, r4, hr4, rfl⟩, rfl⟩
   try simp only [List.cons_append, List.nil_append]
   refine gl_nil ?_
   refine ge_then ?_
   refine g_seq ?_
   refine g_region ?_
   refine gl_v rfl (o_move rfl) ?_
   refine gl_cx rfl (o_callX rfl (number_spec p n r4) pA) ?_ ?_
   ·
    rintro ch _ ⟨_, ⟨rx, bx, hbad, rfl, rfl⟩, rfl⟩
    try simp only [List.cons_append, List.nil_append]
    exact ge_px (P := Tryz.prog) (fn := Tryz.f24) _ ⟨rx, bx, by rw [hRE]; unfold limP; rw [hwLimit, if_pos rfl, h3, bind_ok, hr4, bind_ok, hbad]; rfl, rfl, rfl⟩ (tO)
   rintro _ R ⟨_, ⟨wi, r5, h5, rfl, rfl⟩, rfl⟩
   try simp only [List.cons_append, List.nil_append]
   first | refine gl_v rfl (o_fldS rfl) ?_ | refine gl_v rfl (o_fld rfl) ?_
   first | refine gl_u (o_store rfl rfl rfl rfl) ?_ | refine gl_u (o_storeS rfl rfl rfl (by first | assumption | omega | simp)) ?_
   refine gl_nil ?_
   refine ge_then ?_
   refine g_region ?_
   refine gl_v rfl (o_move rfl) ?_
   first | refine gl_n rfl (o_buildS1 rfl rfl rfl) ?_ | refine gl_n rfl (o_buildS1A rfl rfl rfl rfl) ?_ | refine gl_n rfl (o_buildS rfl rfl rfl rfl) ?_
   rintro _ _ ⟨b23, rfl, rfl⟩
   refine gl_cx rfl (o_callX rfl (must1 p wSemi b23 (r5) n) pA) ?_ ?_
   ·
    rintro ch _ ⟨_, ⟨rx, bx, hbad, rfl, rfl⟩, rfl⟩
    try simp only [List.cons_append, List.nil_append]
    exact ge_px (P := Tryz.prog) (fn := Tryz.f24) _ ⟨rx, bx, by rw [hRE]; unfold limP; rw [hwLimit, if_pos rfl, h3, bind_ok, hr4, bind_ok, h5, bind_ok, hbad]; rfl, rfl, rfl⟩ (tO)
   rintro _ R ⟨_, ⟨rfl, r6, hr6, rfl⟩, rfl⟩
   try simp only [List.cons_append, List.nil_append]
   refine gl_nil ?_
   exact fun act wo hsl st => ⟨lim, wi, r6, by unfold limP; rw [hwLimit, if_pos rfl, h3, bind_ok, hr4, bind_ok, h5, bind_ok, hr6]; rfl, (lv_of (lv_must _ _) hr6).trans ((lv_of (lv_num _) h5).trans ((lv_of (lv_must _ _) hr4).trans ((lv_of (lv_num _) h3).trans ((Suf.tail X0).trans hsX0)))), hsl.keep (Keep.cons rfl (Keep.cons rfl (Keep.cons rfl (Keep.nil)))), st.imp (tO)⟩
  ·
   replace hc1 := hs_ hc1
   have hwLimit : isW wLimit X0 = false := hc1
   rw [hwLimit]
   simp only [Bool.false_eq_true, if_false]
   refine g_skip ?_
   exact fun act wo hsl st => ⟨0, 1, X0, by unfold limP; rw [hwLimit, if_neg (by decide)], hsX0, hsl.keep (Keep.cons rfl (Keep.cons rfl (Keep.cons rfl (Keep.nil)))), st.imp (tO)⟩
 ·
  rintro act wo ⟨lim, wi, X1, hlim, hsX1, hsl, st⟩
  refine g_of ?_ hsl st
  clear hsl st act wo
  have hCE : kndP T = (casesP (X1.length + 1) [] X1).bind (fun C r4 => (stasP (r4.length + 1) [] r4).bind fun S r5 => (mustP [wShut] r5).bind fun _ r6 => .ok ⟨s, lim, wi, none, 0, C, none, 0, S⟩ r6 : List Cas → List Tk → PR Knd) := by rw [hRE, hlim]; rfl
  have hl1 := hsX1.1
  refine g_cut (fun act wo => ∃ (Cs : List Cas) (X2 : List Tk) (ca : Option Addr) (cc : Nat), casesP (X1.length + 1) [] X1 = .ok Cs X2 ∧ Cs.length ≤ 16384 ∧ Suf X2 T ∧ (∀ e ∈ Cs, ok63 e.reason.length) ∧ HasSl Tryz.f24.ntmps [(3, ptr b3 0), (2, ptr b2 0), (0, ptr p 0)] act ∧ St W0 (rdr p X2 n :: own (.slice ca Cs.length cc) 75 2 Cs.length (Cs.flatMap casC) :: cel b3 57 [S s, I64 lim, I64 wi, .slice ca Cs.length cc, .slice none ([] : List Sta).length 0] :: cel b2 57 [S [], I64 0, I64 0, .slice none 0 0, .slice none 0 0] :: R) wo) ?_ ?_
  ·
   refine g_block ?_
   refine g_loop (ι := List Cas × List Tk × Option Addr × Nat) (fun x => (∃ f, x.2.1.length < f ∧ casesP f x.1 x.2.1 = casesP (X1.length + 1) [] X1) ∧ x.1.length + x.2.1.length ≤ X1.length ∧ Suf x.2.1 T ∧ ∀ e ∈ x.1, ok63 e.reason.length) (fun x => [(3, ptr b3 0), (2, ptr b2 0), (0, ptr p 0)]) (fun x => rdr p x.2.1 n :: own (.slice x.2.2.1 x.1.length x.2.2.2) 75 2 x.1.length (x.1.flatMap casC) :: cel b3 57 [S s, I64 lim, I64 wi, .slice x.2.2.1 x.1.length x.2.2.2, .slice none ([] : List Sta).length 0] :: cel b2 57 [S [], I64 0, I64 0, .slice none 0 0, .slice none 0 0] :: R) (fun x => x.2.1.length) ([], X1, none, 0) (⟨⟨_, Nat.lt_succ_self _, rfl⟩, by simp, hsX1, fun e he => by cases he⟩) (Keep.cons rfl (Keep.cons rfl (Keep.cons rfl (Keep.nil)))) (fun h s => (tO) h (own_nil0 (e := 75) (sz := 2) h s)) ?_
   rintro ⟨Cs, X, ca, cc⟩ ⟨⟨f, hf, hE⟩, hlen, hsX, hco⟩
   replace hf : X.length < f := hf
   replace hE : casesP f Cs X = casesP (X1.length + 1) [] X1 := hE
   replace hlen : Cs.length + X.length ≤ X1.length := hlen
   replace hsX : Suf X T := hsX
   replace hco : ∀ e ∈ Cs, ok63 e.reason.length := hco
   obtain ⟨f, rfl⟩ : ∃ g, f = g + 1 := ⟨f - 1, by omega⟩
   dsimp only
   refine g_block ?_
   refine g_seq ?_
   refine g_block ?_
   refine g_seq ?_
   refine g_region ?_
   refine gl_v rfl (o_move rfl) ?_
   refine gl_c rfl (o_call rfl (maybe_spec _ _ _ _) pA) ?_
   rintro _ R ⟨_, ⟨rfl, rfl⟩, rfl⟩
   try simp only [List.cons_append, List.nil_append]
   refine gl_v rfl (o_assign rfl) ?_
   refine gl_nil ?_
   refine ge_then ?_
   refine g_cond rfl (fun hc2 => ?_) (fun hc2 => ?_)
   ·
    replace hc2 := hs_ hc2
    have hwCase : isW wCase X = true := hc2
    rw [hwCase]
    simp only [if_true]
    refine g_seq ?_
    refine g_region ?_
    refine gl_v rfl (o_move rfl) ?_
    refine gl_cx rfl (o_callX rfl (name_spec p n X.tail) pA) ?_ ?_
    ·
     rintro ch _ ⟨_, ⟨rx, bx, hbad, rfl, rfl⟩, rfl⟩
     try simp only [List.cons_append, List.nil_append]
     exact ge_px (P := Tryz.prog) (fn := Tryz.f24) _ ⟨rx, bx, by rw [hCE, ← hE]; show PR.bind (if isW wCase X then _ else if isW wElse X then _ else _) _ = _; rw [hwCase, if_pos rfl]; rw [hbad]; rfl, rfl, rfl⟩ (tO)
    rintro _ R ⟨_, ⟨nm, r, hnm, rfl, rfl⟩, rfl⟩
    try simp only [List.cons_append, List.nil_append]
    refine gl_v rfl (o_build rfl rfl) ?_
    refine gl_n rfl (o_alloc) ?_
    rintro _ _ ⟨b4, rfl, rfl⟩
    first | refine gl_u (o_storeSA rfl rfl rfl rfl (by simp; omega) (by simp)) ?_ | refine gl_u (o_storeA rfl rfl rfl rfl rfl) ?_
    refine gl_nil ?_
    refine ge_then ?_
    refine g_seq ?_
    refine g_region ?_
    refine gl_v rfl (o_move rfl) ?_
    refine gl_cx rfl (o_callX rfl (dir_spec p n r) pA) ?_ ?_
    ·
     rintro ch _ ⟨_, ⟨rx, bx, hbad, rfl, rfl⟩, rfl⟩
     try simp only [List.cons_append, List.nil_append]
     exact ge_px (P := Tryz.prog) (fn := Tryz.f24) _ ⟨rx, bx, by rw [hCE, ← hE]; show PR.bind (if isW wCase X then _ else if isW wElse X then _ else _) _ = _; rw [hwCase, if_pos rfl]; rw [hnm]; show PR.bind (PR.bind (dirP r) _) _ = _; rw [hbad]; rfl, rfl, rfl⟩ (tO)
    rintro _ R ⟨_, ⟨d, r2, hd, rfl, rfl⟩, rfl⟩
    try simp only [List.cons_append, List.nil_append]
    first | refine gl_v rfl (o_fldS rfl) ?_ | refine gl_v rfl (o_fld rfl) ?_
    first | refine gl_u (o_store rfl rfl rfl rfl) ?_ | refine gl_u (o_storeS rfl rfl rfl (by first | assumption | omega | simp)) ?_
    refine gl_nil ?_
    refine ge_then ?_
    refine g_seq ?_
    refine g_region ?_
    first | refine gl_v rfl (o_fldS rfl) ?_ | refine gl_v rfl (o_fld rfl) ?_
    first | refine gl_v rfl (o_load rfl rfl) ?_ | refine gl_v rfl (o_loadS rfl rfl) ?_ | refine gl_v rfl (o_loadC rfl) ?_
    first | refine gl_v rfl (o_loadSA rfl rfl rfl) ?_ | refine gl_v rfl (o_loadA rfl rfl rfl) ?_
    first | refine gl_n rfl (o_buildS1 rfl rfl rfl) ?_ | refine gl_n rfl (o_buildS1A rfl rfl rfl rfl) ?_ | refine gl_n rfl (o_buildS rfl rfl rfl rfl) ?_
    rintro _ _ ⟨b37, rfl, rfl⟩
    refine gl_n rfl (o_append (news := casC ⟨nm, d⟩) rfl rfl pA rfl rfl rfl (by omega) (by unfold maxLen; omega)) ?_
    rintro _ _ ⟨a38, c38, rfl, rfl⟩
    rw [len_snoc Cs ⟨nm, d⟩, flat_snoc' casC Cs ⟨nm, d⟩]
    first | refine gl_v rfl (o_fldS rfl) ?_ | refine gl_v rfl (o_fld rfl) ?_
    first | refine gl_u (o_store rfl rfl rfl rfl) ?_ | refine gl_u (o_storeS rfl rfl rfl (by first | assumption | omega | simp)) ?_
    refine gl_nil ?_
    refine ge_then ?_
    refine g_exit ?_
    refine ge_block_pass rfl ?_
    refine ge_then_exit ?_
    refine ge_block_exit ?_
    have hq0 := isW_ne hwCase
    have hq1 := lv_of (lv_name X.tail) hnm
    have hq2 := lv_of (lv_dir r) hd
    have hq3 := hq1.1
    have hq4 := hq2.1
    refine ge_round (Cs ++ [⟨nm, d⟩], r2, a38, c38) ⟨⟨f, by show r2.length < f; omega, by rw [← hE]; show _ = (if isW wCase X then _ else _); rw [hwCase, if_pos rfl, hnm]; show _ = PR.bind (dirP r) _; rw [hd]; rfl⟩, by show (Cs ++ [_]).length + r2.length ≤ X1.length; rw [List.length_append, List.length_singleton]; omega, hq2.trans (hq1.trans ((Suf.tail X).trans hsX)), fun x hx => by
      rcases List.mem_append.1 hx with hx | hx
      · exact hco x hx
      · rw [List.mem_singleton.1 hx]; exact (al_of (al_name (hTB.suf ((Suf.tail X).trans hsX))) hnm).1⟩ (by show r2.length < X.length; omega) (Keep.cons rfl (Keep.cons rfl (Keep.cons rfl (Keep.nil)))) (tO)
   ·
    replace hc2 := hs_ hc2
    have hwCase : isW wCase X = false := hc2
    rw [hwCase]
    simp only [Bool.false_eq_true, if_false]
    refine g_seq ?_
    refine g_region ?_
    refine gl_v rfl (o_move rfl) ?_
    refine gl_c rfl (o_call rfl (maybe_spec _ _ _ _) pA) ?_
    rintro _ R ⟨_, ⟨rfl, rfl⟩, rfl⟩
    try simp only [List.cons_append, List.nil_append]
    refine gl_v rfl (o_assign rfl) ?_
    refine gl_nil ?_
    refine ge_then ?_
    refine g_cond rfl (fun hc3 => ?_) (fun hc3 => ?_)
    ·
     replace hc3 := hs_ hc3
     have hwElse : isW wElse X = true := hc3
     rw [hwElse]
     simp only [if_true]
     refine g_seq ?_
     refine DX.g_draw (fun ch Bs => ∃ L, pxP (kndP T) n ch L ∧ Bs = L ++ R) [3, 5, 6, 8] [3, 5] [(0, .stab), (1, .stab), (2, .loc), (3, .eff), (4, .loc), (5, .eff), (6, .eff), (7, .loc), (8, .eff)] [cel b3 57 [S s, I64 lim, I64 wi, .slice ca Cs.length cc, .slice none ([] : List Sta).length 0]] mixed (by kernel_rfl) (fun ch Bs a w hpx hd sx => ?_) ?_
     · obtain ⟨L, hL, rfl⟩ := hpx; exact px_fq (P := Tryz.prog) (fn := Tryz.f24) L hL (fun _ h => h) hd sx
     first | refine DX.go_vs rfl .none rfl (o_fldS rfl) (tO) ?_ | refine DX.go_vs rfl .none rfl (o_fld rfl) (tO) ?_
     first | refine DX.go_vs rfl .none rfl (o_load rfl rfl) (tO) ?_ | refine DX.go_vs rfl .none rfl (o_loadS rfl rfl) (tO) ?_ | refine DX.go_vs rfl .none rfl (o_loadC rfl) (tO) ?_
     refine DX.go_v rfl .none rfl (o_move rfl) ?_
     refine DX.go_cx rfl .none rfl (o_callX rfl (dir_spec p n X.tail) pA) (fun a hs => hs.dfr) ?_ ?_
     ·
      rintro ch _ wx ⟨_, ⟨rx, bx, hbad, rfl, rfl⟩, rfl⟩ sx
      exact ⟨_, ⟨_, ⟨rx, bx, by rw [hCE, ← hE]; show PR.bind (if isW wCase X then _ else if isW wElse X then _ else _) _ = _; rw [hwCase, if_neg (by decide)]; rw [hwElse, if_pos rfl, hbad]; rfl, rfl, rfl⟩, rfl⟩, sx.imp (tO)⟩
     rintro _ R ⟨_, ⟨d, r2, hd, rfl, rfl⟩, rfl⟩
     try simp only [List.cons_append, List.nil_append]
     refine ⟨(fun _ => (tO)), ?_⟩
     refine DX.go_v rfl .none rfl (o_build rfl rfl) ?_
     first | refine DX.go_n rfl .none rfl (o_buildS1 rfl rfl rfl) ?_ | refine DX.go_n rfl .none rfl (o_buildS1A rfl rfl rfl rfl) ?_ | refine DX.go_n rfl .none rfl (o_buildS rfl rfl rfl rfl) ?_
     rintro _ _ ⟨b48, rfl, rfl⟩
     refine ⟨(fun _ => (tO)), ?_⟩
     refine DX.go_n rfl .none rfl (o_append (news := casC ⟨[], d⟩) rfl rfl pA rfl rfl rfl (by omega) (by unfold maxLen; omega)) ?_
     rintro _ _ ⟨a49, c49, rfl, rfl⟩
     rw [len_snoc Cs ⟨[], d⟩, flat_snoc' casC Cs ⟨[], d⟩]
     refine ⟨(fun hG => absurd hG (by decide)), ?_⟩
     first | refine DX.go_v rfl .none rfl (o_fldS rfl) ?_ | refine DX.go_v rfl .none rfl (o_fld rfl) ?_
     first | refine DX.go_u rfl .none (o_store rfl rfl rfl rfl) (fun hG => absurd hG (by decide)) ?_ | refine DX.go_u rfl .none (o_storeS rfl rfl rfl (by first | assumption | omega | simp)) (fun hG => absurd hG (by decide)) ?_
     refine DX.go_nil0 ?_
     refine ge_then ?_
     refine g_exit ?_
     refine ge_block_pass rfl ?_
     refine ge_then_exit ?_
     refine ge_block_exit ?_
     have hq0 := isW_ne hwElse
     have hq2 := lv_of (lv_dir X.tail) hd
     have hq4 := hq2.1
     refine ge_round (Cs ++ [⟨[], d⟩], r2, a49, c49) ⟨⟨f, by show r2.length < f; omega, by rw [← hE]; show _ = (if isW wCase X then _ else _); rw [hwCase, if_neg (by decide)]; show _ = (if isW wElse X then _ else _); rw [hwElse, if_pos rfl, hd]; rfl⟩, by show (Cs ++ [_]).length + r2.length ≤ X1.length; rw [List.length_append, List.length_singleton]; omega, hq2.trans ((Suf.tail X).trans hsX), fun x hx => by
       rcases List.mem_append.1 hx with hx | hx
       · exact hco x hx
       · rw [List.mem_singleton.1 hx]; show 0 ≤ 140737488351232; decide⟩ (by show r2.length < X.length; omega) (Keep.cons rfl (Keep.cons rfl (Keep.cons rfl (Keep.nil)))) (tO)
    ·
     replace hc3 := hs_ hc3
     have hwElse : isW wElse X = false := hc3
     rw [hwElse]
     simp only [Bool.false_eq_true, if_false]
     refine g_skip ?_
     refine ge_block ?_
     refine ge_then ?_
     refine g_exit ?_
     refine ge_block_pass rfl ?_
     refine ge_then_exit ?_
     refine ge_block_exit ?_
     exact fun act wo hsl st => ⟨Cs, X, ca, cc, by rw [← hE]; show (if isW wCase X then _ else _) = _; rw [hwCase, if_neg (by decide)]; show (if isW wElse X then _ else _) = _; rw [hwElse, if_neg (by decide)], by omega, hsX, hco, hsl.keep (Keep.cons rfl (Keep.cons rfl (Keep.cons rfl (Keep.nil)))), st.imp (tO)⟩
  ·
   rintro act wo ⟨Cs, X2, ca, cc, hcas, hcl, hsX2, hco, hsl, st⟩
   refine g_of ?_ hsl st
   clear hsl st act wo
   have hSE : kndP T = (stasP (X2.length + 1) [] X2).bind (fun S r5 => (mustP [wShut] r5).bind fun _ r6 => .ok ⟨s, lim, wi, none, 0, Cs, none, 0, S⟩ r6 : List Sta → List Tk → PR Knd) := by rw [hCE, hcas]; rfl
   have hl2 := hsX2.1
   refine g_seq ?_
   refine g_block ?_
   refine g_loop (ι := List Sta × List Tk × Option Addr × Nat) (fun x => (∃ f, x.2.1.length < f ∧ stasP f (x.1.map Sta.strip) x.2.1 = stasP (X2.length + 1) [] X2) ∧ x.1.length + x.2.1.length ≤ X2.length ∧ Suf x.2.1 T) (fun x => [(3, ptr b3 0), (2, ptr b2 0), (0, ptr p 0)]) (fun x => rdr p x.2.1 n :: own (.slice x.2.2.1 x.1.length x.2.2.2) 79 2 x.1.length (x.1.flatMap staC) :: stasA x.1 :: own (.slice ca Cs.length cc) 75 2 Cs.length (Cs.flatMap casC) :: cel b3 57 [S s, I64 lim, I64 wi, .slice ca Cs.length cc, .slice x.2.2.1 x.1.length x.2.2.2] :: cel b2 57 [S [], I64 0, I64 0, .slice none 0 0, .slice none 0 0] :: R) (fun x => x.2.1.length) ([], X2, none, 0) (⟨⟨_, Nat.lt_succ_self _, rfl⟩, by simp, hsX2⟩) (Keep.cons rfl (Keep.cons rfl (Keep.cons rfl (Keep.nil)))) (fun h s => (tO) h (own_nil0 (e := 79) (sz := 2) h (sat_nil (A := stasA []) (fun r hr => by cases hr) h s))) ?_
   rintro ⟨Ss, X, sa, sc⟩ ⟨⟨f, hf, hE⟩, hlen, hsX⟩
   replace hf : X.length < f := hf
   replace hE : stasP f (Ss.map Sta.strip) X = stasP (X2.length + 1) [] X2 := hE
   replace hlen : Ss.length + X.length ≤ X2.length := hlen
   replace hsX : Suf X T := hsX
   obtain ⟨f, rfl⟩ : ∃ g, f = g + 1 := ⟨f - 1, by omega⟩
   dsimp only
   refine g_seq ?_
   refine g_seq ?_
   refine g_region ?_
   refine gl_v rfl (o_move rfl) ?_
   refine gl_c rfl (o_call rfl (maybe_spec _ _ _ _) pA) ?_
   rintro _ R ⟨_, ⟨rfl, rfl⟩, rfl⟩
   try simp only [List.cons_append, List.nil_append]
   refine gl_nil ?_
   refine ge_then ?_
   refine g_cond rfl (fun hc4 => ?_) (fun hc4 => ?_)
   ·
    replace hc4 := hs_ hc4
    have hwState : isW wState X = true := hc4
    rw [hwState]
    simp only [if_true]
    refine g_skip ?_
    refine ge_then ?_
    refine g_block ?_
    refine DX.g_draw (fun ch Bs => ∃ L, pxP (kndP T) n ch L ∧ Bs = L ++ R) [3, 4, 5, 7] [3, 4] [(0, .stab), (1, .stab), (2, .loc), (3, .eff), (4, .eff), (5, .eff), (6, .loc), (7, .eff)] [cel b3 57 [S s, I64 lim, I64 wi, .slice ca Cs.length cc, .slice sa Ss.length sc]] mixed (by kernel_rfl) (fun ch Bs a w hpx hd sx => ?_) ?_
    · obtain ⟨L, hL, rfl⟩ := hpx; exact px_fq (P := Tryz.prog) (fn := Tryz.f24) L hL (fun _ h => h) hd sx
    first | refine DX.go_vs rfl .none rfl (o_fldS rfl) (tO) ?_ | refine DX.go_vs rfl .none rfl (o_fld rfl) (tO) ?_
    first | refine DX.go_vs rfl .none rfl (o_load rfl rfl) (tO) ?_ | refine DX.go_vs rfl .none rfl (o_loadS rfl rfl) (tO) ?_ | refine DX.go_vs rfl .none rfl (o_loadC rfl) (tO) ?_
    refine DX.go_v rfl .none rfl (o_move rfl) ?_
    refine DX.go_cx rfl .none rfl (o_callX rfl (state_spec p n X.tail (hTB.suf ((Suf.tail X).trans hsX)) (by have := ((Suf.tail X).trans hsX).1; omega)) pA) (fun a hs => hs.dfr) ?_ ?_
    ·
     rintro ch _ wx ⟨_, ⟨rx, bx, hbad, rfl, rfl⟩, rfl⟩ sx
     exact ⟨_, ⟨_, ⟨rx, bx, by rw [hSE, ← hE]; show PR.bind (if isW wState X then _ else _) _ = _; rw [hwState, if_pos rfl, hbad]; rfl, rfl, rfl⟩, rfl⟩, sx.imp (tO)⟩
    rintro _ R ⟨_, ⟨w, r, hw, rfl, rfl⟩, rfl⟩
    try simp only [List.cons_append, List.nil_append]
    refine ⟨(fun _ => (tO)), ?_⟩
    first | refine DX.go_n rfl .none rfl (o_buildS1 rfl rfl rfl) ?_ | refine DX.go_n rfl .none rfl (o_buildS1A rfl rfl rfl rfl) ?_ | refine DX.go_n rfl .none rfl (o_buildS rfl rfl rfl rfl) ?_
    rintro _ _ ⟨b57, rfl, rfl⟩
    refine ⟨(fun _ => (tO)), ?_⟩
    refine DX.go_n rfl .none rfl (o_append rfl rfl pA rfl rfl rfl (by omega) (by unfold maxLen; omega)) ?_
    rintro _ _ ⟨a58, c58, rfl, rfl⟩
    rw [len_snoc Ss w, flat_snoc' staC Ss w]
    refine ⟨(fun hG => absurd hG (by decide)), ?_⟩
    first | refine DX.go_v rfl .none rfl (o_fldS rfl) ?_ | refine DX.go_v rfl .none rfl (o_fld rfl) ?_
    first | refine DX.go_u rfl .none (o_store rfl rfl rfl rfl) (fun hG => absurd hG (by decide)) ?_ | refine DX.go_u rfl .none (o_storeS rfl rfl rfl (by first | assumption | omega | simp)) (fun hG => absurd hG (by decide)) ?_
    refine DX.go_nil0 ?_
    refine ge_imp (fun h s => stas_push (r := w) (R := Ss) h (Part.to (m := [staA w, stasA Ss]) pA s)) ?_
    refine ge_block ?_
    have hq0 := isW_ne hwState
    have hq1 := lv_of (lv_sta X.tail) hw
    have hq2 := hq1.1
    refine ge_round (Ss ++ [w], r, a58, c58) ⟨⟨f, by show r.length < f; omega, by rw [← hE, List.map_append]; show _ = (if isW wState X then _ else _); rw [hwState, if_pos rfl, hw]; rfl⟩, by show (Ss ++ [w]).length + r.length ≤ X2.length; rw [List.length_append, List.length_singleton]; omega, hq1.trans ((Suf.tail X).trans hsX)⟩ (by show r.length < X.length; omega) (Keep.cons rfl (Keep.cons rfl (Keep.cons rfl (Keep.nil)))) (tO)
   ·
    replace hc4 := hs_ hc4
    have hwState : isW wState X = false := hc4
    rw [hwState]
    simp only [Bool.false_eq_true, if_false]
    refine g_exit ?_
    refine ge_then_exit ?_
    refine ge_then_exit ?_
    refine ge_block_exit ?_
    refine ge_then ?_
    refine g_seq ?_
    refine g_region ?_
    refine gl_v rfl (o_move rfl) ?_
    first | refine gl_n rfl (o_buildS1 rfl rfl rfl) ?_ | refine gl_n rfl (o_buildS1A rfl rfl rfl rfl) ?_ | refine gl_n rfl (o_buildS rfl rfl rfl rfl) ?_
    rintro _ _ ⟨b61, rfl, rfl⟩
    refine gl_cx rfl (o_callX rfl (must1 p wShut b61 (X) n) pA) ?_ ?_
    ·
     rintro ch _ ⟨_, ⟨rx, bx, hbad, rfl, rfl⟩, rfl⟩
     try simp only [List.cons_append, List.nil_append]
     exact ge_px (P := Tryz.prog) (fn := Tryz.f24) _ ⟨rx, bx, by rw [hSE, ← hE]; show PR.bind (if isW wState X then _ else _) _ = _; rw [hwState, if_neg (by decide)]; show PR.bind (mustP [wShut] X) _ = _; rw [hbad]; rfl, rfl, rfl⟩ (tO)
    rintro _ R ⟨_, ⟨rfl, r7, hr7, rfl⟩, rfl⟩
    try simp only [List.cons_append, List.nil_append]
    refine gl_nil ?_
    refine ge_then ?_
    refine g_seq ?_
    refine g_region ?_
    first | refine gl_v rfl (o_loadSA rfl rfl rfl) ?_ | refine gl_v rfl (o_loadA rfl rfl rfl) ?_
    first | refine gl_u (o_storeSA rfl rfl rfl rfl (by simp; omega) (by simp)) ?_ | refine gl_u (o_storeA rfl rfl rfl rfl rfl) ?_
    refine gl_nil ?_
    refine ge_then ?_
    refine g_ret ?_
    refine ge_x (.inl rfl) ?_
    refine ret1c (.inl rfl) rfl rfl rfl rfl [kndA ⟨s, lim, wi, ca, cc, Cs, sa, sc, Ss⟩, rdr p r7 n] (⟨_, r7, by rw [hSE, ← hE]; show PR.bind (if isW wState X then _ else _) _ = _; rw [hwState, if_neg (by decide)]; show PR.bind (mustP [wShut] X) _ = _; rw [hr7]; rfl, rfl, rfl⟩) (fun h s => mk_knd (e := 75) (e2 := 79) hsl hcl (by omega) hco h ((tO) h s))

end Go.Proofs.YtgmdlhlmffdbhaaGreatDoor.L
