/-
  PostHeld and PostShuts. Own work, printed in part by a program of its own.
-/
import Derived.Test.YtkpgcdhepfgfaaaPostJ
import Derived.Test.YtkpgcdhepfgfaaaPostQ
namespace Go.Proofs.Ytkpgcdhepfgfaaa.L
open Go.L Go.L.Ring Go.L.Post
theorem OIi {pc : Nat} {v : Int} (h : pc ≤ 15) (hv : In64p v) : OI (ini pc v) := OI_ini h hv
theorem POput {nt : Bool} {v : Int} (hv : In64p v) : POI ⟨.put nt (ini 0 v), 0, 0⟩ := fun _ => ⟨⟨OI_ini (by decide) hv, rfl⟩, rfl⟩
theorem POof {r : Bool} {pc : Nat} (h : pc ≤ 15) : POI ⟨.of r (ini pc 0), 0, 0⟩ := fun _ => ⟨⟨OI_ini h (by decide), rfl⟩, rfl⟩
theorem POset {v : Int} (hv : In64p v) : POI ⟨.set v, 0, 0⟩ := fun _ => ⟨hv, rfl⟩
theorem POsto {h : Bool} : POI ⟨.sto h, 0, 0⟩ := fun _ => ⟨trivial, rfl⟩
theorem POgone : POI ⟨.gone, 0, 0⟩ := fun _ => ⟨trivial, rfl⟩
theorem POask {v : Int} (hv : In64p v) : POI ⟨.ask v, 0, 0⟩ := fun _ => ⟨hv, rfl⟩

set_option maxRecDepth 8000 in
theorem Peek_spec (p : Nat) (L : List Int) (t : Int) (i : Nat) (hi : i < L.length) : FnS Try.prog 18 [ptr p 0, I64 i] [memA p L t] (fun u Bs => u = U64 (L.getD i 0) ∧ Bs = [memA p L t]) := by
  refine fn_body Try.func18 rfl rfl rfl ?_
  intro W0 R
  simp only [List.zipIdx_cons, List.zipIdx_nil, List.map_cons, List.map_nil, Nat.zero_add, Nat.reduceAdd, List.cons_append, List.nil_append]
  refine g_open (by repeat (first | exact .head | apply Sel.tail)) ?_
  rintro ⟨a, c⟩ -
  simp only [List.cons_append, List.nil_append]
  refine g_seq ?_
  refine g_region ?_
  refine gl_v rfl (o_assign rfl) ?_
  refine gl_nil ?_
  refine ge_then ?_
  refine g_seq ?_
  refine g_seq ?_
  refine g_region ?_
  refine gl_v rfl (o_move rfl) ?_
  refine gl_v rfl (o_lss rfl rfl) ?_
  refine gl_v rfl (o_move rfl) ?_
  refine gl_gT rfl rfl (by simp; try omega) ?_
  refine gl_v rfl (o_move rfl) ?_
  refine gl_gT rfl rfl (by simp; try omega) ?_
  refine gl_v rfl (o_move rfl) ?_
  refine gl_gT rfl rfl (by simp; try omega) ?_
  refine gl_v rfl (o_nil rfl) ?_
  refine gl_gT rfl rfl (by simp; try omega) ?_
  first | refine gl_v rfl (o_fldS rfl) ?_ | refine gl_v rfl (o_fld rfl) ?_
  refine gl_gT rfl rfl (by simp; try omega) ?_
  first | refine gl_v rfl (o_load rfl rfl) ?_ | refine gl_v rfl (o_loadS rfl rfl) ?_ | refine gl_v rfl (o_loadC rfl) ?_
  refine gl_gT rfl rfl (by simp; try omega) ?_
  first | refine gl_v rfl (o_len rfl) ?_ | refine gl_v rfl (o_lenL rfl) ?_
  refine gl_gT rfl rfl (by simp; try omega) ?_
  refine gl_v rfl (o_geq rfl rfl) ?_
  refine gl_v rfl (o_pickF (by simp; try omega) rfl rfl) ?_
  refine gl_nil ?_
  refine ge_then ?_
  refine g_cond_false (by simp [opv, slk]; try omega) ?_
  refine g_skip ?_
  refine ge_then ?_
  refine g_seq ?_
  refine g_region ?_
  refine gl_v rfl (o_move rfl) ?_
  refine gl_v rfl (o_nil rfl) ?_
  first | refine gl_v rfl (o_fldS rfl) ?_ | refine gl_v rfl (o_fld rfl) ?_
  first | refine gl_v rfl (o_load rfl rfl) ?_ | refine gl_v rfl (o_loadS rfl rfl) ?_ | refine gl_v rfl (o_loadC rfl) ?_
  refine gl_v rfl (o_move rfl) ?_
  refine gl_v rfl (o_idxS (j := i) rfl rfl (by omega)) ?_
  refine gl_v rfl (o_loadS rfl (map_at (f := U64) (d := 0) hi)) ?_
  refine gl_v rfl (o_assign rfl) ?_
  refine gl_nil ?_
  refine ge_then ?_
  refine g_ret ?_
  refine ret1 (.inl rfl) rfl rfl [memA p L t] (⟨rfl, rfl⟩) (mem_close a c rfl rfl (To.sat (by repeat (first | exact .nil | exact .done .refl | (apply To.cons; · (repeat (first | exact .head | apply Sel.tail))) | exact .done (by repeat (first | exact .refl | apply Drop.skip))))))

theorem Peek_env (X : BX) (B : PB) (L : List Int) (t : Int) (i : Nat) (hi : i < L.length) : FnS Try.prog 18 [ptr X.m 0, I64 i] [envA X B L t] (fun u Bs => u = U64 (L.getD i 0) ∧ Bs = [envA X B L t]) :=
  fns_ex fun x _ => fns_eq (Peek_spec X.m L t i hi) (by repeat (first | exact .nil | (apply Part.cons; · (repeat (first | exact .head | apply Sel.tail))))) (fun R => by simp only [List.cons_append, List.nil_append]; exact env_close (To.sat (by repeat (first | exact .nil | exact .done .refl | (apply To.cons; · (repeat (first | exact .head | apply Sel.tail))) | exact .done (by repeat (first | exact .refl | apply Drop.skip))))))

set_option maxRecDepth 8000 in
theorem held_spec (mails : Nat) (hm : mails ≤ 255) (note : Int) (hv : In64p note) (late : Bool) : FnS Try.prog 5 [.int .u8 mails, U64 note, .bool late] [] (fun u Bs => u = .bool true ∧ Bs = []) := by
  refine fn_body Try.func5 rfl rfl rfl ?_
  intro W0 R
  simp only [List.zipIdx_cons, List.zipIdx_nil, List.map_cons, List.map_nil, Nat.zero_add, Nat.reduceAdd, List.cons_append, List.nil_append]
  obtain ⟨n, hn⟩ : ∃ n, n = mails % 8 := ⟨_, rfl⟩
  have hn8 : n < 8 := by omega
  refine g_seq ?_
  refine g_region ?_
  refine gl_v rfl (o_assign rfl) ?_
  refine gl_nil ?_
  refine ge_then ?_
  refine g_seq ?_
  refine g_seq ?_
  refine g_region ?_
  refine gl_c rfl (o_call rfl (palive_spec) (by repeat (first | exact .nil | (apply Part.cons; · (repeat (first | exact .head | apply Sel.tail)))))) ?_
  rintro _ R ⟨_, ⟨rfl, rfl⟩, rfl⟩
  try simp only [List.cons_append, List.nil_append]
  refine gl_v rfl (o_not rfl) ?_
  refine gl_nil ?_
  refine ge_then ?_
  refine g_cond_false (rfl) ?_
  refine g_skip ?_
  refine ge_then ?_
  refine g_seq ?_
  refine g_region ?_
  refine gl_c rfl (o_call rfl (pmade_spec 8 4 (by decide) (by decide)) (by repeat (first | exact .nil | (apply Part.cons; · (repeat (first | exact .head | apply Sel.tail)))))) ?_
  rintro _ R ⟨_, ⟨X, t0, rfl, rfl⟩, rfl⟩
  try simp only [List.cons_append, List.nil_append]
  change GL _ _ _ _ _ _ (envA X HB (hl 0 0 0 0 0 0 0 0) t0 :: _) _
  refine gl_v rfl (o_move rfl) ?_
  refine gl_v rfl (o_extract rfl rfl) ?_
  refine gl_v rfl (o_extract rfl rfl) ?_
  refine gl_v rfl (o_assign rfl) ?_
  refine gl_v rfl (o_assign rfl) ?_
  refine gl_nil ?_
  refine ge_then ?_
  refine g_seq ?_
  refine g_seq ?_
  refine g_region ?_
  refine gl_v rfl (o_move rfl) ?_
  first | refine gl_v rfl (o_eqlPn rfl rfl) ?_ | refine gl_v rfl (o_eqlnn rfl rfl) ?_
  refine gl_nil ?_
  refine ge_then ?_
  refine g_cond_false (rfl) ?_
  refine g_skip ?_
  refine ge_then ?_
  refine g_seq ?_
  refine g_region ?_
  refine gl_v rfl (o_move rfl) ?_
  refine gl_c rfl (o_call rfl (fns_env (Settle_t X HB)) (by repeat (first | exact .nil | (apply Part.cons; · (repeat (first | exact .head | apply Sel.tail)))))) ?_
  rintro _ R ⟨_, ⟨p0, rfl, rfl⟩, rfl⟩
  try simp only [List.cons_append, List.nil_append]
  refine gl_c rfl (o_call rfl (pdone_spec X HB p0 (hl 0 0 0 0 0 0 0 0) _ ⟨.sto true, 0, 0⟩ bL_PI (hl_LI (by decide) (by omega) (by decide) (by decide) (by decide) (by decide) (by decide) (by decide)) (POsto) 3 (hl 3 0 0 0 0 0 0 0) _ h_settle) (by repeat (first | exact .nil | (apply Part.cons; · (repeat (first | exact .head | apply Sel.tail)))))) ?_
  rintro _ R ⟨_, ⟨t', rfl, rfl⟩, rfl⟩
  try simp only [List.cons_append, List.nil_append]
  refine gl_v rfl (o_move rfl) ?_
  refine gl_v rfl (o_extract rfl rfl) ?_
  refine gl_v rfl (o_extract rfl rfl) ?_
  refine gl_v rfl (o_extract rfl rfl) ?_
  refine gl_v rfl (o_assign rfl) ?_
  refine gl_v rfl (o_assign rfl) ?_
  refine gl_v rfl (o_assign rfl) ?_
  refine gl_nil ?_
  refine ge_then ?_
  refine g_seq ?_
  refine g_region ?_
  refine gl_v rfl (o_move rfl) ?_
  refine gl_v rfl (o_convR (mails : Int) (wr_i64 (by omega)) rfl) ?_
  refine gl_v rfl (o_remR (n : Int) ((tmodn mails 8).trans (by rw [hn])) rfl rfl (by decide)) ?_
  refine gl_v rfl (o_assign rfl) ?_
  refine gl_nil ?_
  refine ge_then ?_
  refine g_seq ?_
  refine g_seq ?_
  refine g_region ?_
  refine gl_v rfl (o_assign rfl) ?_
  refine gl_nil ?_
  refine ge_then ?_
  refine g_block ?_
  refine g_loop (ι := Nat × Int) (fun x => x.1 ≤ n) (fun x => [(13, I64 x.1), (12, I64 n), (9, I64 4), (8, ptr X.m 0), (7, ptr X.bx 0), (1, U64 note), (2, .bool late)]) (fun x => envA X HB (hl 3 x.1 0 0 0 0 0 0) x.2 :: R) (fun x => n - x.1) (0, t') (Nat.zero_le _) (Keep.cons rfl (Keep.cons rfl (Keep.cons rfl (Keep.cons rfl (Keep.cons rfl (Keep.cons rfl (Keep.cons rfl (Keep.nil)))))))) (To.sat (by repeat (first | exact .nil | exact .done .refl | (apply To.cons; · (repeat (first | exact .head | apply Sel.tail))) | exact .done (by repeat (first | exact .refl | apply Drop.skip))))) ?_
  rintro ⟨i, t⟩ hi
  have hi : i ≤ n := hi
  dsimp only
  refine g_seq ?_
  refine g_seq ?_
  refine g_region ?_
  refine gl_v rfl (o_move rfl) ?_
  refine gl_v rfl (o_move rfl) ?_
  refine gl_v rfl (o_lss rfl rfl) ?_
  refine gl_nil ?_
  refine ge_then ?_
  refine g_cond rfl (fun hc1 => ?_) (fun hc1 => ?_)
  ·
    first | replace hc1 := of_decide_eq_true hc1 | replace hc1 := lt_f hc1 | replace hc1 := le_f hc1 | replace hc1 := dec_f hc1 | replace hc1 := nlt_t hc1 | replace hc1 := nle_t hc1 | replace hc1 := ndec_t hc1 | replace hc1 := ndec_f hc1 | replace hc1 := nn_t hc1 | replace hc1 := nn_f hc1 | skip
    refine g_skip ?_
    refine ge_then ?_
    refine g_seq ?_
    refine g_block ?_
    refine g_seq ?_
    refine g_region ?_
    refine gl_v rfl (o_move rfl) ?_
    refine gl_v rfl (o_move rfl) ?_
    refine gl_v rfl (o_convR (i : Int) (wr_u64 (by omega)) rfl) ?_
    refine gl_c rfl (o_call rfl (fns_env (bTell_spec X HB (i : Int))) (by repeat (first | exact .nil | (apply Part.cons; · (repeat (first | exact .head | apply Sel.tail)))))) ?_
    rintro _ R ⟨_, ⟨p1, rfl, rfl⟩, rfl⟩
    try simp only [List.cons_append, List.nil_append]
    refine gl_c rfl (o_call rfl (pdone_spec X HB p1 (hl 3 i 0 0 0 0 0 0) _ ⟨.put false (ini 0 i), 0, 0⟩ bL_PI (hl_LI (by decide) (by omega) (by decide) (by decide) (by decide) (by decide) (by decide) (by decide)) (POput (by omega)) 6 (hl 3 (i + 1) 0 0 0 0 0 0) _ (h_tell (by omega))) (by repeat (first | exact .nil | (apply Part.cons; · (repeat (first | exact .head | apply Sel.tail)))))) ?_
    rintro _ R ⟨_, ⟨t', rfl, rfl⟩, rfl⟩
    try simp only [List.cons_append, List.nil_append]
    refine gl_v rfl (o_move rfl) ?_
    refine gl_v rfl (o_extract rfl rfl) ?_
    refine gl_v rfl (o_extract rfl rfl) ?_
    refine gl_v rfl (o_extract rfl rfl) ?_
    refine gl_v rfl (o_assign rfl) ?_
    refine gl_v rfl (o_assign rfl) ?_
    refine gl_v rfl (o_assign rfl) ?_
    refine gl_nil ?_
    refine ge_then ?_
    refine g_seq ?_
    refine g_region ?_
    refine gl_v rfl (o_move rfl) ?_
    refine gl_v rfl (o_neq rfl rfl) ?_
    refine gl_nil ?_
    refine ge_then ?_
    refine g_cond_false (rfl) ?_
    refine g_skip ?_
    refine ge_block ?_
    refine ge_then ?_
    refine g_region ?_
    refine gl_v rfl (o_move rfl) ?_
    refine gl_v rfl (o_addR ((i + 1 : Nat) : Int) (by rw [wr_i64 (by omega)]; omega) rfl rfl) ?_
    refine gl_v rfl (o_assign rfl) ?_
    refine gl_nil ?_
    refine ge_round (i + 1, t') (show i + 1 ≤ n by omega) (by show n - (i + 1) < n - i; omega) (Keep.cons rfl (Keep.cons rfl (Keep.cons rfl (Keep.cons rfl (Keep.cons rfl (Keep.cons rfl (Keep.cons rfl (Keep.nil)))))))) (To.sat (by repeat (first | exact .nil | exact .done .refl | (apply To.cons; · (repeat (first | exact .head | apply Sel.tail))) | exact .done (by repeat (first | exact .refl | apply Drop.skip)))))
  ·
    first | replace hc1 := of_decide_eq_true hc1 | replace hc1 := lt_f hc1 | replace hc1 := le_f hc1 | replace hc1 := dec_f hc1 | replace hc1 := nlt_t hc1 | replace hc1 := nle_t hc1 | replace hc1 := ndec_t hc1 | replace hc1 := ndec_f hc1 | replace hc1 := nn_t hc1 | replace hc1 := nn_f hc1 | skip
    obtain rfl : n = i := by omega
    refine g_exit ?_
    refine ge_then_exit ?_
    refine ge_then_exit ?_
    refine ge_block_exit ?_
    refine ge_then ?_
    refine g_seq ?_
    refine g_region ?_
    refine gl_v rfl (o_move rfl) ?_
    refine gl_v rfl (o_move rfl) ?_
    refine gl_c rfl (o_call rfl (fns_env (bPush_spec X HB note)) (by repeat (first | exact .nil | (apply Part.cons; · (repeat (first | exact .head | apply Sel.tail)))))) ?_
    rintro _ R ⟨_, ⟨p2, rfl, rfl⟩, rfl⟩
    try simp only [List.cons_append, List.nil_append]
    refine gl_c rfl (o_call rfl (pdone_spec X HB p2 (hl 3 n 0 0 0 0 0 0) _ ⟨.put true (ini 0 note), 0, 0⟩ bL_PI (hl_LI (by decide) (by omega) (by decide) (by decide) (by decide) (by decide) (by decide) (by decide)) (POput hv) 7 (hl 1 n 1 0 1 0 note 0) _ (h_push1 hn8 note)) (by repeat (first | exact .nil | (apply Part.cons; · (repeat (first | exact .head | apply Sel.tail)))))) ?_
    rintro _ R ⟨_, ⟨t', rfl, rfl⟩, rfl⟩
    try simp only [List.cons_append, List.nil_append]
    refine gl_v rfl (o_move rfl) ?_
    refine gl_v rfl (o_extract rfl rfl) ?_
    refine gl_v rfl (o_extract rfl rfl) ?_
    refine gl_v rfl (o_extract rfl rfl) ?_
    refine gl_v rfl (o_assign rfl) ?_
    refine gl_v rfl (o_assign rfl) ?_
    refine gl_v rfl (o_assign rfl) ?_
    refine gl_nil ?_
    refine ge_then ?_
    refine g_seq ?_
    refine g_region ?_
    refine gl_v rfl (o_move rfl) ?_
    refine gl_v rfl (o_move rfl) ?_
    refine gl_c rfl (o_call rfl (fns_env (bPush_spec X HB note)) (by repeat (first | exact .nil | (apply Part.cons; · (repeat (first | exact .head | apply Sel.tail)))))) ?_
    rintro _ R ⟨_, ⟨p3, rfl, rfl⟩, rfl⟩
    try simp only [List.cons_append, List.nil_append]
    refine gl_c rfl (o_call rfl (pdone_spec X HB p3 (hl 1 n 1 0 1 0 note 0) _ ⟨.put true (ini 0 note), 0, 0⟩ bL_PI (hl_LI (by decide) (by omega) (by decide) (by decide) (by decide) (by decide) hv (by decide)) (POput hv) 6 (hl 1 n 2 0 1 1 note note) _ (h_push2 hn8 note)) (by repeat (first | exact .nil | (apply Part.cons; · (repeat (first | exact .head | apply Sel.tail)))))) ?_
    rintro _ R ⟨_, ⟨t', rfl, rfl⟩, rfl⟩
    try simp only [List.cons_append, List.nil_append]
    refine gl_v rfl (o_move rfl) ?_
    refine gl_v rfl (o_extract rfl rfl) ?_
    refine gl_v rfl (o_extract rfl rfl) ?_
    refine gl_v rfl (o_extract rfl rfl) ?_
    refine gl_v rfl (o_assign rfl) ?_
    refine gl_v rfl (o_assign rfl) ?_
    refine gl_v rfl (o_assign rfl) ?_
    refine gl_nil ?_
    refine ge_then ?_
    refine g_seq ?_
    refine g_seq ?_
    refine g_region ?_
    refine gl_v rfl (o_move rfl) ?_
    refine gl_v rfl (o_neq rfl rfl) ?_
    refine gl_v rfl (o_move rfl) ?_
    refine gl_gT rfl rfl rfl ?_
    refine gl_v rfl (o_move rfl) ?_
    refine gl_gT rfl rfl rfl ?_
    refine gl_v rfl (o_neq rfl rfl) ?_
    refine gl_v rfl (o_pickF rfl rfl rfl) ?_
    refine gl_v rfl (o_move rfl) ?_
    refine gl_gT rfl rfl rfl ?_
    refine gl_v rfl (o_move rfl) ?_
    refine gl_gT rfl rfl rfl ?_
    refine gl_v rfl (o_neq rfl rfl) ?_
    refine gl_v rfl (o_pickF rfl rfl rfl) ?_
    refine gl_v rfl (o_move rfl) ?_
    refine gl_gT rfl rfl rfl ?_
    refine gl_v rfl (o_move rfl) ?_
    refine gl_gT rfl rfl rfl ?_
    refine gl_c rfl (o_call rfl (Peek_env X HB (hl 1 n 2 0 1 1 note note) _ 0 (show 0 < 30 by decide)) (by repeat (first | exact .nil | (apply Part.cons; · (repeat (first | exact .head | apply Sel.tail)))))) ?_
    rintro _ R ⟨_, ⟨rfl, rfl⟩, rfl⟩
    try simp only [List.cons_append, List.nil_append]
    refine gl_gT rfl rfl rfl ?_
    refine gl_v rfl (o_neq rfl rfl) ?_
    refine gl_v rfl (o_pickF rfl rfl rfl) ?_
    refine gl_nil ?_
    refine ge_then ?_
    refine g_cond_false (rfl) ?_
    refine g_skip ?_
    refine ge_then ?_
    refine g_seq ?_
    refine g_region ?_
    refine gl_v rfl (o_move rfl) ?_
    refine gl_c rfl (o_call rfl (fns_env (bBegin_spec X HB)) (by repeat (first | exact .nil | (apply Part.cons; · (repeat (first | exact .head | apply Sel.tail)))))) ?_
    rintro _ R ⟨_, ⟨p4, rfl, rfl⟩, rfl⟩
    try simp only [List.cons_append, List.nil_append]
    refine gl_c rfl (o_call rfl (pdone_spec X HB p4 (hl 1 n 2 0 1 1 note note) _ ⟨.set 2, 0, 0⟩ bL_PI (hl_LI (by decide) (by omega) (by decide) (by decide) (by decide) (by decide) hv hv) (POset (by decide)) 1 (hl 2 n 2 0 1 1 note note) _ (h_begin hn8 note)) (by repeat (first | exact .nil | (apply Part.cons; · (repeat (first | exact .head | apply Sel.tail)))))) ?_
    rintro _ R ⟨_, ⟨t', rfl, rfl⟩, rfl⟩
    try simp only [List.cons_append, List.nil_append]
    refine gl_nil ?_
    refine ge_then ?_
    refine g_seq ?_
    refine g_region ?_
    refine gl_v rfl (o_move rfl) ?_
    refine gl_c rfl (o_call rfl (fns_env (bNote_spec X HB)) (by repeat (first | exact .nil | (apply Part.cons; · (repeat (first | exact .head | apply Sel.tail)))))) ?_
    rintro _ R ⟨_, ⟨p5, rfl, rfl⟩, rfl⟩
    try simp only [List.cons_append, List.nil_append]
    refine gl_c rfl (o_call rfl (pdone_spec X HB p5 (hl 2 n 2 0 1 1 note note) _ ⟨.of true (ini 5 0), 0, 0⟩ bL_PI (hl_LI (by decide) (by omega) (by decide) (by decide) (by decide) (by decide) hv hv) (POof (by decide)) 5 (hl 2 n 2 1 2 1 note note) _ (h_note1 hn8 note)) (by repeat (first | exact .nil | (apply Part.cons; · (repeat (first | exact .head | apply Sel.tail)))))) ?_
    rintro _ R ⟨_, ⟨t', rfl, rfl⟩, rfl⟩
    try simp only [List.cons_append, List.nil_append]
    refine gl_v rfl (o_move rfl) ?_
    refine gl_v rfl (o_extract rfl rfl) ?_
    refine gl_v rfl (o_extract rfl rfl) ?_
    refine gl_v rfl (o_extract rfl rfl) ?_
    refine gl_v rfl (o_assign rfl) ?_
    refine gl_v rfl (o_assign rfl) ?_
    refine gl_v rfl (o_assign rfl) ?_
    refine gl_nil ?_
    refine ge_then ?_
    refine g_seq ?_
    refine g_seq ?_
    refine g_region ?_
    refine gl_v rfl (o_move rfl) ?_
    refine gl_v rfl (o_neq rfl rfl) ?_
    refine gl_v rfl (o_move rfl) ?_
    refine gl_gT rfl rfl rfl ?_
    refine gl_v rfl (o_move rfl) ?_
    refine gl_gT rfl rfl rfl ?_
    refine gl_v rfl (o_move rfl) ?_
    refine gl_gT rfl rfl rfl ?_
    refine gl_v rfl (o_neq rfl rfl) ?_
    refine gl_v rfl (o_pickF rfl rfl rfl) ?_
    refine gl_nil ?_
    refine ge_then ?_
    refine g_cond_false (by simp [opv, slk]) ?_
    refine g_skip ?_
    refine ge_then ?_
    refine g_seq ?_
    refine g_seq ?_
    refine g_region ?_
    refine gl_v rfl (o_move rfl) ?_
    refine gl_nil ?_
    refine ge_then ?_
    refine g_cond rfl (fun hc2 => ?_) (fun hc2 => ?_)
    ·
      first | replace hc2 := of_decide_eq_true hc2 | replace hc2 := lt_f hc2 | replace hc2 := le_f hc2 | replace hc2 := dec_f hc2 | replace hc2 := nlt_t hc2 | replace hc2 := nle_t hc2 | replace hc2 := ndec_t hc2 | replace hc2 := ndec_f hc2 | replace hc2 := nn_t hc2 | replace hc2 := nn_f hc2 | skip
      refine g_seq ?_
      refine g_region ?_
      refine gl_v rfl (o_move rfl) ?_
      refine gl_c rfl (o_call rfl (fns_env (Settle_t X HB)) (by repeat (first | exact .nil | (apply Part.cons; · (repeat (first | exact .head | apply Sel.tail)))))) ?_
      rintro _ R ⟨_, ⟨p6, rfl, rfl⟩, rfl⟩
      try simp only [List.cons_append, List.nil_append]
      refine gl_c rfl (o_call rfl (pdone_spec X HB p6 (hl 2 n 2 1 2 1 note note) _ ⟨.sto true, 0, 0⟩ bL_PI (hl_LI (by decide) (by omega) (by decide) (by decide) (by decide) (by decide) hv hv) (POsto) 4 (hl 1 n 2 1 2 1 note note) _ (h_late hn8 note)) (by repeat (first | exact .nil | (apply Part.cons; · (repeat (first | exact .head | apply Sel.tail)))))) ?_
      rintro _ R ⟨_, ⟨t', rfl, rfl⟩, rfl⟩
      try simp only [List.cons_append, List.nil_append]
      refine gl_v rfl (o_move rfl) ?_
      refine gl_v rfl (o_extract rfl rfl) ?_
      refine gl_v rfl (o_extract rfl rfl) ?_
      refine gl_v rfl (o_extract rfl rfl) ?_
      refine gl_v rfl (o_assign rfl) ?_
      refine gl_v rfl (o_assign rfl) ?_
      refine gl_v rfl (o_assign rfl) ?_
      refine gl_nil ?_
      refine ge_then ?_
      refine g_seq ?_
      refine g_region ?_
      refine gl_v rfl (o_move rfl) ?_
      refine gl_v rfl (o_eql rfl rfl) ?_
      refine gl_v rfl (o_assign rfl) ?_
      refine gl_nil ?_
      refine ge_then ?_
      refine g_ret ?_
      refine ge_then_ret ?_
      refine ret1 (.inl rfl) rfl rfl _ (⟨by first | rfl | (split <;> simp at * <;> omega) | (simp; omega), rfl⟩) (To.sat (by repeat (first | exact .nil | exact .done .refl | (apply To.cons; · (repeat (first | exact .head | apply Sel.tail))) | exact .done (by repeat (first | exact .refl | apply Drop.skip)))))
    ·
      first | replace hc2 := of_decide_eq_true hc2 | replace hc2 := lt_f hc2 | replace hc2 := le_f hc2 | replace hc2 := dec_f hc2 | replace hc2 := nlt_t hc2 | replace hc2 := nle_t hc2 | replace hc2 := ndec_t hc2 | replace hc2 := ndec_f hc2 | replace hc2 := nn_t hc2 | replace hc2 := nn_f hc2 | skip
      refine g_skip ?_
      refine ge_then ?_
      refine g_seq ?_
      refine g_region ?_
      refine gl_v rfl (o_move rfl) ?_
      refine gl_c rfl (o_call rfl (fns_env (bNote_spec X HB)) (by repeat (first | exact .nil | (apply Part.cons; · (repeat (first | exact .head | apply Sel.tail)))))) ?_
      rintro _ R ⟨_, ⟨p7, rfl, rfl⟩, rfl⟩
      try simp only [List.cons_append, List.nil_append]
      refine gl_c rfl (o_call rfl (pdone_spec X HB p7 (hl 2 n 2 1 2 1 note note) _ ⟨.of true (ini 5 0), 0, 0⟩ bL_PI (hl_LI (by decide) (by omega) (by decide) (by decide) (by decide) (by decide) hv hv) (POof (by decide)) 5 (hl 2 n 2 2 2 2 note note) _ (h_note2 hn8 note)) (by repeat (first | exact .nil | (apply Part.cons; · (repeat (first | exact .head | apply Sel.tail)))))) ?_
      rintro _ R ⟨_, ⟨t', rfl, rfl⟩, rfl⟩
      try simp only [List.cons_append, List.nil_append]
      refine gl_nil ?_
      refine ge_then ?_
      refine g_seq ?_
      obtain ⟨kE, LE, phE, hE⟩ := h_end hn8 note
      refine g_region ?_
      refine gl_v rfl (o_move rfl) ?_
      refine gl_c rfl (o_call rfl (fns_env (Settle_f X HB)) (by repeat (first | exact .nil | (apply Part.cons; · (repeat (first | exact .head | apply Sel.tail)))))) ?_
      rintro _ R ⟨_, ⟨p8, rfl, rfl⟩, rfl⟩
      try simp only [List.cons_append, List.nil_append]
      refine gl_c rfl (o_call rfl (pdone_spec X HB p8 (hl 2 n 2 2 2 2 note note) _ ⟨.sto false, 0, 0⟩ bL_PI (hl_LI (by decide) (by omega) (by decide) (by decide) (by decide) (by decide) hv hv) (POsto) kE (LE) _ hE) (by repeat (first | exact .nil | (apply Part.cons; · (repeat (first | exact .head | apply Sel.tail)))))) ?_
      rintro _ R ⟨_, ⟨t', rfl, rfl⟩, rfl⟩
      try simp only [List.cons_append, List.nil_append]
      refine gl_v rfl (o_move rfl) ?_
      refine gl_v rfl (o_extract rfl rfl) ?_
      refine gl_v rfl (o_extract rfl rfl) ?_
      refine gl_v rfl (o_extract rfl rfl) ?_
      refine gl_v rfl (o_assign rfl) ?_
      refine gl_v rfl (o_assign rfl) ?_
      refine gl_v rfl (o_assign rfl) ?_
      refine gl_nil ?_
      refine ge_then ?_
      refine g_seq ?_
      refine g_region ?_
      refine gl_v rfl (o_move rfl) ?_
      refine gl_v rfl (o_eql rfl rfl) ?_
      refine gl_v rfl (o_move rfl) ?_
      refine gl_g rfl rfl (fun hc3 => ?_) (fun hc3 => ?_) rfl
      ·
        have hc3' := hc3
        first | replace hc3' := of_decide_eq_true hc3' | replace hc3' := lt_f hc3' | replace hc3' := le_f hc3' | replace hc3' := dec_f hc3' | replace hc3' := nlt_t hc3' | replace hc3' := nle_t hc3' | replace hc3' := ndec_t hc3' | replace hc3' := ndec_f hc3' | replace hc3' := nn_t hc3' | replace hc3' := nn_f hc3' | skip
        refine gl_v rfl (o_move rfl) ?_
        refine gl_gT rfl rfl hc3 ?_
        refine gl_v rfl (o_eql rfl rfl) ?_
        refine gl_v rfl (o_pickT hc3 rfl rfl) ?_
        refine gl_v rfl (o_move rfl) ?_
        refine gl_g rfl rfl (fun hc4 => ?_) (fun hc4 => ?_) rfl
        ·
          have hc4' := hc4
          first | replace hc4' := of_decide_eq_true hc4' | replace hc4' := lt_f hc4' | replace hc4' := le_f hc4' | replace hc4' := dec_f hc4' | replace hc4' := nlt_t hc4' | replace hc4' := nle_t hc4' | replace hc4' := ndec_t hc4' | replace hc4' := ndec_f hc4' | replace hc4' := nn_t hc4' | replace hc4' := nn_f hc4' | skip
          refine gl_v rfl (o_move rfl) ?_
          refine gl_gT rfl rfl hc4 ?_
          refine gl_v rfl (o_gtr rfl rfl) ?_
          refine gl_gT rfl rfl hc4 ?_
          refine gl_v rfl (o_move rfl) ?_
          refine gl_g rfl rfl (fun hc5 => ?_) (fun hc5 => ?_) rfl
          ·
            have hc5' := hc5
            first | replace hc5' := of_decide_eq_true hc5' | replace hc5' := lt_f hc5' | replace hc5' := le_f hc5' | replace hc5' := dec_f hc5' | replace hc5' := nlt_t hc5' | replace hc5' := nle_t hc5' | replace hc5' := ndec_t hc5' | replace hc5' := ndec_f hc5' | replace hc5' := nn_t hc5' | replace hc5' := nn_f hc5' | skip
            refine gl_v rfl (o_move rfl) ?_
            refine gl_gT rfl rfl hc5 ?_
            refine gl_v rfl (o_eql rfl rfl) ?_
            refine gl_gT rfl rfl hc4 ?_
            refine gl_v rfl (o_pickT hc5 rfl rfl) ?_
            refine gl_v rfl (o_pickF hc4 rfl rfl) ?_
            refine gl_v rfl (o_assign rfl) ?_
            refine gl_nil ?_
            refine ge_then ?_
            refine g_ret ?_
            refine ret1 (.inl rfl) rfl rfl _ (⟨by first | rfl | (split <;> simp at * <;> omega) | (simp; omega), rfl⟩) (To.sat (by repeat (first | exact .nil | exact .done .refl | (apply To.cons; · (repeat (first | exact .head | apply Sel.tail))) | exact .done (by repeat (first | exact .refl | apply Drop.skip)))))
          ·
            have hc5' := hc5
            first | replace hc5' := of_decide_eq_true hc5' | replace hc5' := lt_f hc5' | replace hc5' := le_f hc5' | replace hc5' := dec_f hc5' | replace hc5' := nlt_t hc5' | replace hc5' := nle_t hc5' | replace hc5' := ndec_t hc5' | replace hc5' := ndec_f hc5' | replace hc5' := nn_t hc5' | replace hc5' := nn_f hc5' | skip
            simp only [putO]
            refine gl_gF rfl rfl hc5 rfl ?_
            refine gl_gT rfl rfl hc4 ?_
            refine gl_v rfl (o_pickF hc5 rfl rfl) ?_
            refine gl_v rfl (o_pickF hc4 rfl rfl) ?_
            refine gl_v rfl (o_assign rfl) ?_
            refine gl_nil ?_
            refine ge_then ?_
            refine g_ret ?_
            refine ret1 (.inl rfl) rfl rfl _ (⟨by first | rfl | (split <;> simp at * <;> omega) | (simp; omega), rfl⟩) (To.sat (by repeat (first | exact .nil | exact .done .refl | (apply To.cons; · (repeat (first | exact .head | apply Sel.tail))) | exact .done (by repeat (first | exact .refl | apply Drop.skip)))))
        ·
          have hc4' := hc4
          first | replace hc4' := of_decide_eq_true hc4' | replace hc4' := lt_f hc4' | replace hc4' := le_f hc4' | replace hc4' := dec_f hc4' | replace hc4' := nlt_t hc4' | replace hc4' := nle_t hc4' | replace hc4' := ndec_t hc4' | replace hc4' := ndec_f hc4' | replace hc4' := nn_t hc4' | replace hc4' := nn_f hc4' | skip
          simp only [putO]
          refine gl_gF rfl rfl hc4 rfl ?_
          refine gl_gF rfl rfl hc4 rfl ?_
          refine gl_gU rfl rfl rfl ?_
          refine gl_gU rfl rfl rfl ?_
          refine gl_gF rfl rfl hc4 rfl ?_
          refine gl_v rfl (o_pickT hc4 rfl rfl) ?_
          refine gl_v rfl (o_assign rfl) ?_
          refine gl_nil ?_
          refine ge_then ?_
          refine g_ret ?_
          refine ret1 (.inl rfl) rfl rfl _ (⟨by first | rfl | (split <;> simp at * <;> omega) | (simp; omega), rfl⟩) (To.sat (by repeat (first | exact .nil | exact .done .refl | (apply To.cons; · (repeat (first | exact .head | apply Sel.tail))) | exact .done (by repeat (first | exact .refl | apply Drop.skip)))))
      ·
        have hc3' := hc3
        first | replace hc3' := of_decide_eq_true hc3' | replace hc3' := lt_f hc3' | replace hc3' := le_f hc3' | replace hc3' := dec_f hc3' | replace hc3' := nlt_t hc3' | replace hc3' := nle_t hc3' | replace hc3' := ndec_t hc3' | replace hc3' := ndec_f hc3' | replace hc3' := nn_t hc3' | replace hc3' := nn_f hc3' | skip
        simp only [putO]
        refine gl_gF rfl rfl hc3 rfl ?_
        refine gl_v rfl (o_pickF hc3 rfl rfl) ?_
        refine gl_v rfl (o_move rfl) ?_
        refine gl_gT rfl rfl rfl ?_
        refine gl_v rfl (o_move rfl) ?_
        refine gl_gT rfl rfl rfl ?_
        refine gl_v rfl (o_gtr rfl rfl) ?_
        refine gl_gT rfl rfl rfl ?_
        refine gl_v rfl (o_move rfl) ?_
        refine gl_g rfl rfl (fun hc6 => ?_) (fun hc6 => ?_) rfl
        ·
          have hc6' := hc6
          first | replace hc6' := of_decide_eq_true hc6' | replace hc6' := lt_f hc6' | replace hc6' := le_f hc6' | replace hc6' := dec_f hc6' | replace hc6' := nlt_t hc6' | replace hc6' := nle_t hc6' | replace hc6' := ndec_t hc6' | replace hc6' := ndec_f hc6' | replace hc6' := nn_t hc6' | replace hc6' := nn_f hc6' | skip
          refine gl_v rfl (o_move rfl) ?_
          refine gl_gT rfl rfl hc6 ?_
          refine gl_v rfl (o_eql rfl rfl) ?_
          refine gl_gT rfl rfl rfl ?_
          refine gl_v rfl (o_pickT hc6 rfl rfl) ?_
          refine gl_v rfl (o_pickF rfl rfl rfl) ?_
          refine gl_v rfl (o_assign rfl) ?_
          refine gl_nil ?_
          refine ge_then ?_
          refine g_ret ?_
          refine ret1 (.inl rfl) rfl rfl _ (⟨by first | rfl | (split <;> simp at * <;> omega) | (simp; omega), rfl⟩) (To.sat (by repeat (first | exact .nil | exact .done .refl | (apply To.cons; · (repeat (first | exact .head | apply Sel.tail))) | exact .done (by repeat (first | exact .refl | apply Drop.skip)))))
        ·
          have hc6' := hc6
          first | replace hc6' := of_decide_eq_true hc6' | replace hc6' := lt_f hc6' | replace hc6' := le_f hc6' | replace hc6' := dec_f hc6' | replace hc6' := nlt_t hc6' | replace hc6' := nle_t hc6' | replace hc6' := ndec_t hc6' | replace hc6' := ndec_f hc6' | replace hc6' := nn_t hc6' | replace hc6' := nn_f hc6' | skip
          simp only [putO]
          refine gl_gF rfl rfl hc6 rfl ?_
          refine gl_gT rfl rfl rfl ?_
          refine gl_v rfl (o_pickF hc6 rfl rfl) ?_
          refine gl_v rfl (o_pickF rfl rfl rfl) ?_
          refine gl_v rfl (o_assign rfl) ?_
          refine gl_nil ?_
          refine ge_then ?_
          refine g_ret ?_
          refine ret1 (.inl rfl) rfl rfl _ (⟨by first | rfl | (split <;> simp at * <;> omega) | (simp; omega), rfl⟩) (To.sat (by repeat (first | exact .nil | exact .done .refl | (apply To.cons; · (repeat (first | exact .head | apply Sel.tail))) | exact .done (by repeat (first | exact .refl | apply Drop.skip)))))

set_option maxRecDepth 8000 in
theorem shuts_spec (a : Option Addr) (c : Nat) (vs : List Int) (hvs : ∀ x ∈ vs, 0 ≤ x ∧ x ≤ 18446744073709551615) (hm : vs.length ≤ 9223372036854775807) (late : Int) (hl : In64p late) (A : Assn) [RdA (.slice a vs.length c) A vs.length (vs.map U64)] : FnS Try.prog 7 [.slice a vs.length c, U64 late] [A]
      (fun u Bs => u = .bool true ∧ Bs = [A]) := by
  refine fn_body Try.func7 rfl rfl rfl ?_
  intro W0 R
  simp only [List.zipIdx_cons, List.zipIdx_nil, List.map_cons, List.map_nil, Nat.zero_add, Nat.reduceAdd, List.cons_append, List.nil_append]
  obtain ⟨n, hn⟩ : ∃ n, n = min vs.length 8 := ⟨_, rfl⟩
  have hn8 : n ≤ 8 := by omega
  have hnv : n ≤ vs.length := by omega
  have hvk : ∀ k, k < n → In64p (vs.getD k 0) := fun k hk => by rw [List.getD_eq_getElem?_getD, List.getElem?_eq_getElem (by omega)]; exact hvs _ (List.getElem_mem _)
  refine g_seq ?_
  refine g_region ?_
  refine gl_v rfl (o_assign rfl) ?_
  refine gl_nil ?_
  refine ge_then ?_
  refine g_seq ?_
  refine g_seq ?_
  refine g_region ?_
  refine gl_c rfl (o_call rfl (palive_spec) (by repeat (first | exact .nil | (apply Part.cons; · (repeat (first | exact .head | apply Sel.tail)))))) ?_
  rintro _ R ⟨_, ⟨rfl, rfl⟩, rfl⟩
  try simp only [List.cons_append, List.nil_append]
  refine gl_v rfl (o_not rfl) ?_
  refine gl_nil ?_
  refine ge_then ?_
  refine g_cond_false (rfl) ?_
  refine g_skip ?_
  refine ge_then ?_
  refine g_seq ?_
  refine g_region ?_
  refine gl_c rfl (o_call rfl (pmade_spec 8 4 (by decide) (by decide)) (by repeat (first | exact .nil | (apply Part.cons; · (repeat (first | exact .head | apply Sel.tail)))))) ?_
  rintro _ R ⟨_, ⟨X, t0, rfl, rfl⟩, rfl⟩
  try simp only [List.cons_append, List.nil_append]
  change GL _ _ _ _ _ _ (envA X HB (sl 0 (fun k => vs.getD k 0) 0 0 0 0 0 0) t0 :: _) _
  refine gl_v rfl (o_move rfl) ?_
  refine gl_v rfl (o_extract rfl rfl) ?_
  refine gl_v rfl (o_extract rfl rfl) ?_
  refine gl_v rfl (o_assign rfl) ?_
  refine gl_v rfl (o_assign rfl) ?_
  refine gl_nil ?_
  refine ge_then ?_
  refine g_seq ?_
  refine g_seq ?_
  refine g_region ?_
  refine gl_v rfl (o_move rfl) ?_
  first | refine gl_v rfl (o_eqlPn rfl rfl) ?_ | refine gl_v rfl (o_eqlnn rfl rfl) ?_
  refine gl_nil ?_
  refine ge_then ?_
  refine g_cond_false (rfl) ?_
  refine g_skip ?_
  refine ge_then ?_
  refine g_seq ?_
  refine g_region ?_
  refine gl_v rfl (o_move rfl) ?_
  first | refine gl_v rfl (o_len rfl) ?_ | refine gl_v rfl (o_lenL rfl) ?_
  refine gl_v rfl (o_min (n : Int) (by split <;> omega) rfl rfl) ?_
  refine gl_v rfl (o_assign rfl) ?_
  refine gl_nil ?_
  refine ge_then ?_
  refine g_seq ?_
  refine g_seq ?_
  refine g_region ?_
  refine gl_v rfl (o_assign rfl) ?_
  refine gl_nil ?_
  refine ge_then ?_
  refine g_block ?_
  refine g_loop (ι := Nat × Int) (fun x => x.1 ≤ n) (fun x => [(8, I64 x.1), (7, I64 n), (6, ptr X.m 0), (5, ptr X.bx 0), (0, .slice a vs.length c), (1, U64 late)]) (fun x => envA X HB (sl (if x.1 = 0 then 0 else 1) (fun k => vs.getD k 0) x.1 0 0 0 0 0) x.2 :: A :: R) (fun x => n - x.1) (0, t0) (Nat.zero_le _) (Keep.cons rfl (Keep.cons rfl (Keep.cons rfl (Keep.cons rfl (Keep.cons rfl (Keep.cons rfl (Keep.nil))))))) (To.sat (by repeat (first | exact .nil | exact .done .refl | (apply To.cons; · (repeat (first | exact .head | apply Sel.tail))) | exact .done (by repeat (first | exact .refl | apply Drop.skip))))) ?_
  rintro ⟨i, t⟩ hi
  have hi : i ≤ n := hi
  dsimp only
  refine g_seq ?_
  refine g_seq ?_
  refine g_region ?_
  refine gl_v rfl (o_move rfl) ?_
  refine gl_v rfl (o_move rfl) ?_
  refine gl_v rfl (o_lss rfl rfl) ?_
  refine gl_nil ?_
  refine ge_then ?_
  refine g_cond rfl (fun hc1 => ?_) (fun hc1 => ?_)
  ·
    first | replace hc1 := of_decide_eq_true hc1 | replace hc1 := lt_f hc1 | replace hc1 := le_f hc1 | replace hc1 := dec_f hc1 | replace hc1 := nlt_t hc1 | replace hc1 := nle_t hc1 | replace hc1 := ndec_t hc1 | replace hc1 := ndec_f hc1 | replace hc1 := nn_t hc1 | replace hc1 := nn_f hc1 | skip
    refine g_skip ?_
    refine ge_then ?_
    refine g_seq ?_
    refine g_block ?_
    obtain ⟨kT, poT, hT⟩ := s_tell (fun k => vs.getD k 0) (show i < 8 by omega)
    refine g_region ?_
    refine gl_v rfl (o_move rfl) ?_
    refine gl_v rfl (o_move rfl) ?_
    refine gl_v rfl (o_move rfl) ?_
    refine gl_v rfl (o_idxS rfl rfl (by first | assumption | omega)) ?_
    refine gl_v rfl (o_loadS rfl (map_at (f := U64) (d := 0) (show i < vs.length by omega))) ?_
    refine gl_c rfl (o_call rfl (fns_env (bTell_spec X HB (vs.getD i 0))) (by repeat (first | exact .nil | (apply Part.cons; · (repeat (first | exact .head | apply Sel.tail)))))) ?_
    rintro _ R ⟨_, ⟨p1, rfl, rfl⟩, rfl⟩
    try simp only [List.cons_append, List.nil_append]
    refine gl_c rfl (o_call rfl (pdone_spec X HB p1 (sl (if i = 0 then 0 else 1) (fun k => vs.getD k 0) i 0 0 0 0 0) _ ⟨.put false (ini 0 (vs.getD i 0)), 0, 0⟩ bL_PI (sl_LI (by (try split) <;> decide) (by omega) (by omega) (fun k hk => hvk k (by omega)) (by decide) (by decide) (by decide) (by decide)) (POput (hvk i (by omega))) kT (sl (if i + 1 = 0 then 0 else 1) (fun k => vs.getD k 0) (i + 1) 0 0 0 0 0) poT hT) (by repeat (first | exact .nil | (apply Part.cons; · (repeat (first | exact .head | apply Sel.tail)))))) ?_
    rintro _ R ⟨_, ⟨t', rfl, rfl⟩, rfl⟩
    try simp only [List.cons_append, List.nil_append]
    refine gl_nil ?_
    refine ge_block ?_
    refine ge_then ?_
    refine g_region ?_
    refine gl_v rfl (o_move rfl) ?_
    refine gl_v rfl (o_addR _ (by first | exact wr_i64 (by omega) | rfl) rfl rfl) ?_
    refine gl_v rfl (o_assign rfl) ?_
    refine gl_nil ?_
    refine ge_round (i + 1, t') (show i + 1 ≤ n by omega) (by show n - (i + 1) < n - i; omega) (Keep.cons rfl (Keep.cons rfl (Keep.cons rfl (Keep.cons rfl (Keep.cons rfl (Keep.cons rfl (Keep.nil))))))) (To.sat (by repeat (first | exact .nil | exact .done .refl | (apply To.cons; · (repeat (first | exact .head | apply Sel.tail))) | exact .done (by repeat (first | exact .refl | apply Drop.skip)))))
  ·
    first | replace hc1 := of_decide_eq_true hc1 | replace hc1 := lt_f hc1 | replace hc1 := le_f hc1 | replace hc1 := dec_f hc1 | replace hc1 := nlt_t hc1 | replace hc1 := nle_t hc1 | replace hc1 := ndec_t hc1 | replace hc1 := ndec_f hc1 | replace hc1 := nn_t hc1 | replace hc1 := nn_f hc1 | skip
    obtain rfl : n = i := by omega
    refine g_exit ?_
    refine ge_then_exit ?_
    refine ge_then_exit ?_
    refine ge_block_exit ?_
    refine ge_then ?_
    refine g_seq ?_
    refine g_region ?_
    refine gl_v rfl (o_move rfl) ?_
    refine gl_c rfl (o_call rfl (fns_env (bBegin_spec X HB)) (by repeat (first | exact .nil | (apply Part.cons; · (repeat (first | exact .head | apply Sel.tail)))))) ?_
    rintro _ R ⟨_, ⟨p2, rfl, rfl⟩, rfl⟩
    try simp only [List.cons_append, List.nil_append]
    refine gl_c rfl (o_call rfl (pdone_spec X HB p2 (sl (if n = 0 then 0 else 1) (fun k => vs.getD k 0) n 0 0 0 0 0) _ ⟨.set 2, 0, 0⟩ bL_PI (sl_LI (by (try split) <;> decide) (by omega) (by omega) (fun k hk => hvk k (by omega)) (by decide) (by decide) (by decide) (by decide)) (POset (by decide)) 1 (sl 2 (fun k => vs.getD k 0) n 0 0 0 0 0) _ (s_begin (fun k => vs.getD k 0) hn8)) (by repeat (first | exact .nil | (apply Part.cons; · (repeat (first | exact .head | apply Sel.tail)))))) ?_
    rintro _ R ⟨_, ⟨t', rfl, rfl⟩, rfl⟩
    try simp only [List.cons_append, List.nil_append]
    refine gl_nil ?_
    refine ge_then ?_
    refine g_seq ?_
    refine g_region ?_
    refine gl_v rfl (o_move rfl) ?_
    refine gl_c rfl (o_call rfl (fns_env (bGone_spec X HB)) (by repeat (first | exact .nil | (apply Part.cons; · (repeat (first | exact .head | apply Sel.tail)))))) ?_
    rintro _ R ⟨_, ⟨p3, rfl, rfl⟩, rfl⟩
    try simp only [List.cons_append, List.nil_append]
    refine gl_c rfl (o_call rfl (pdone_spec X HB p3 (sl 2 (fun k => vs.getD k 0) n 0 0 0 0 0) _ ⟨.gone, 0, 0⟩ bL_PI (sl_LI (by (try split) <;> decide) (by omega) (by omega) (fun k hk => hvk k (by omega)) (by decide) (by decide) (by decide) (by decide)) (POgone) 1 (sl 2 (fun k => vs.getD k 0) n 0 0 0 0 0) _ (s_gone (fun k => vs.getD k 0) hn8)) (by repeat (first | exact .nil | (apply Part.cons; · (repeat (first | exact .head | apply Sel.tail)))))) ?_
    rintro _ R ⟨_, ⟨t', rfl, rfl⟩, rfl⟩
    try simp only [List.cons_append, List.nil_append]
    refine gl_v rfl (o_move rfl) ?_
    refine gl_v rfl (o_extract rfl rfl) ?_
    refine gl_v rfl (o_extract rfl rfl) ?_
    refine gl_v rfl (o_extract rfl rfl) ?_
    refine gl_v rfl (o_assign rfl) ?_
    refine gl_v rfl (o_assign rfl) ?_
    refine gl_v rfl (o_assign rfl) ?_
    refine gl_nil ?_
    refine ge_then ?_
    refine g_seq ?_
    refine g_region ?_
    refine gl_v rfl (o_move rfl) ?_
    refine gl_c rfl (o_call rfl (fns_env (bClose_spec X HB)) (by repeat (first | exact .nil | (apply Part.cons; · (repeat (first | exact .head | apply Sel.tail)))))) ?_
    rintro _ R ⟨_, ⟨p4, rfl, rfl⟩, rfl⟩
    try simp only [List.cons_append, List.nil_append]
    refine gl_c rfl (o_call rfl (pdone_spec X HB p4 (sl 2 (fun k => vs.getD k 0) n 0 0 0 0 0) _ ⟨.of false (ini 14 0), 0, 0⟩ bL_PI (sl_LI (by (try split) <;> decide) (by omega) (by omega) (fun k hk => hvk k (by omega)) (by decide) (by decide) (by decide) (by decide)) (POof (by decide)) 2 (sl 2 (fun k => vs.getD k 0) n 0 top 0 0 0) _ (s_close (fun k => vs.getD k 0) hn8)) (by repeat (first | exact .nil | (apply Part.cons; · (repeat (first | exact .head | apply Sel.tail)))))) ?_
    rintro _ R ⟨_, ⟨t', rfl, rfl⟩, rfl⟩
    try simp only [List.cons_append, List.nil_append]
    refine gl_v rfl (o_move rfl) ?_
    refine gl_v rfl (o_extract rfl rfl) ?_
    refine gl_v rfl (o_extract rfl rfl) ?_
    refine gl_v rfl (o_extract rfl rfl) ?_
    refine gl_v rfl (o_assign rfl) ?_
    refine gl_v rfl (o_assign rfl) ?_
    refine gl_v rfl (o_assign rfl) ?_
    refine gl_nil ?_
    refine ge_then ?_
    refine g_seq ?_
    refine g_region ?_
    refine gl_v rfl (o_move rfl) ?_
    refine gl_v rfl (o_move rfl) ?_
    refine gl_c rfl (o_call rfl (fns_env (bTell_spec X HB late)) (by repeat (first | exact .nil | (apply Part.cons; · (repeat (first | exact .head | apply Sel.tail)))))) ?_
    rintro _ R ⟨_, ⟨p5, rfl, rfl⟩, rfl⟩
    try simp only [List.cons_append, List.nil_append]
    refine gl_c rfl (o_call rfl (pdone_spec X HB p5 (sl 2 (fun k => vs.getD k 0) n 0 top 0 0 0) _ ⟨.put false (ini 0 late), 0, 0⟩ bL_PI (sl_LI (by (try split) <;> decide) (by omega) (by omega) (fun k hk => hvk k (by omega)) (by decide) (by decide) (by decide) (by decide)) (POput hl) 1 (sl 2 (fun k => vs.getD k 0) n 0 top 0 0 0) _ (s_late (fun k => vs.getD k 0) hn8 late)) (by repeat (first | exact .nil | (apply Part.cons; · (repeat (first | exact .head | apply Sel.tail)))))) ?_
    rintro _ R ⟨_, ⟨t', rfl, rfl⟩, rfl⟩
    try simp only [List.cons_append, List.nil_append]
    refine gl_v rfl (o_move rfl) ?_
    refine gl_v rfl (o_extract rfl rfl) ?_
    refine gl_v rfl (o_extract rfl rfl) ?_
    refine gl_v rfl (o_extract rfl rfl) ?_
    refine gl_v rfl (o_assign rfl) ?_
    refine gl_v rfl (o_assign rfl) ?_
    refine gl_v rfl (o_assign rfl) ?_
    refine gl_nil ?_
    refine ge_then ?_
    refine g_seq ?_
    refine g_seq ?_
    refine g_region ?_
    refine gl_v rfl (o_move rfl) ?_
    refine gl_v rfl (o_neq rfl rfl) ?_
    refine gl_v rfl (o_move rfl) ?_
    refine gl_gT rfl rfl rfl ?_
    refine gl_v rfl (o_move rfl) ?_
    refine gl_gT rfl rfl rfl ?_
    refine gl_v rfl (o_neq rfl rfl) ?_
    refine gl_v rfl (o_pickF rfl rfl rfl) ?_
    refine gl_v rfl (o_move rfl) ?_
    refine gl_gT rfl rfl rfl ?_
    refine gl_v rfl (o_move rfl) ?_
    refine gl_gT rfl rfl rfl ?_
    refine gl_v rfl (o_neq rfl rfl) ?_
    refine gl_v rfl (o_pickF rfl rfl rfl) ?_
    refine gl_nil ?_
    refine ge_then ?_
    refine g_cond_false (rfl) ?_
    refine g_skip ?_
    refine ge_then ?_
    refine g_seq ?_
    refine g_seq ?_
    refine g_region ?_
    refine gl_v rfl (o_assign rfl) ?_
    refine gl_nil ?_
    refine ge_then ?_
    refine g_block ?_
    refine g_loop (ι := Nat × Int) (fun x => x.1 ≤ n) (fun x => [(18, I64 x.1), (7, I64 n), (6, ptr X.m 0), (5, ptr X.bx 0), (0, .slice a vs.length c), (1, U64 late)]) (fun x => envA X HB (sl 2 (fun k => vs.getD k 0) n x.1 top 0 0 0) x.2 :: A :: R) (fun x => n - x.1) (0, _) (Nat.zero_le _) (Keep.cons rfl (Keep.cons rfl (Keep.cons rfl (Keep.cons rfl (Keep.cons rfl (Keep.cons rfl (Keep.nil))))))) (To.sat (by repeat (first | exact .nil | exact .done .refl | (apply To.cons; · (repeat (first | exact .head | apply Sel.tail))) | exact .done (by repeat (first | exact .refl | apply Drop.skip))))) ?_
    rintro ⟨j, t⟩ hj
    have hj : j ≤ n := hj
    dsimp only
    refine g_seq ?_
    refine g_seq ?_
    refine g_region ?_
    refine gl_v rfl (o_move rfl) ?_
    refine gl_v rfl (o_move rfl) ?_
    refine gl_v rfl (o_lss rfl rfl) ?_
    refine gl_nil ?_
    refine ge_then ?_
    refine g_cond rfl (fun hc2 => ?_) (fun hc2 => ?_)
    ·
      first | replace hc2 := of_decide_eq_true hc2 | replace hc2 := lt_f hc2 | replace hc2 := le_f hc2 | replace hc2 := dec_f hc2 | replace hc2 := nlt_t hc2 | replace hc2 := nle_t hc2 | replace hc2 := ndec_t hc2 | replace hc2 := ndec_f hc2 | replace hc2 := nn_t hc2 | replace hc2 := nn_f hc2 | skip
      refine g_skip ?_
      refine ge_then ?_
      refine g_seq ?_
      refine g_block ?_
      refine g_seq ?_
      refine g_region ?_
      refine gl_v rfl (o_move rfl) ?_
      refine gl_c rfl (o_call rfl (fns_env (bDrain_spec X HB)) (by repeat (first | exact .nil | (apply Part.cons; · (repeat (first | exact .head | apply Sel.tail)))))) ?_
      rintro _ R ⟨_, ⟨p6, rfl, rfl⟩, rfl⟩
      try simp only [List.cons_append, List.nil_append]
      refine gl_c rfl (o_call rfl (pdone_spec X HB p6 (sl 2 (fun k => vs.getD k 0) n j top 0 0 0) _ ⟨.of false (ini 10 0), 0, 0⟩ bL_PI (sl_LI (by (try split) <;> decide) (by omega) (by omega) (fun k hk => hvk k (by omega)) (by decide) (by decide) (by decide) (by decide)) (POof (by decide)) 6 (sl 2 (fun k => vs.getD k 0) n (j + 1) top 0 0 0) _ (s_drain (fun k => vs.getD k 0) hn8 (by omega))) (by repeat (first | exact .nil | (apply Part.cons; · (repeat (first | exact .head | apply Sel.tail)))))) ?_
      rintro _ R ⟨_, ⟨t', rfl, rfl⟩, rfl⟩
      try simp only [List.cons_append, List.nil_append]
      refine gl_v rfl (o_move rfl) ?_
      refine gl_v rfl (o_extract rfl rfl) ?_
      refine gl_v rfl (o_extract rfl rfl) ?_
      refine gl_v rfl (o_extract rfl rfl) ?_
      refine gl_v rfl (o_assign rfl) ?_
      refine gl_v rfl (o_assign rfl) ?_
      refine gl_v rfl (o_assign rfl) ?_
      refine gl_nil ?_
      refine ge_then ?_
      refine g_seq ?_
      refine g_region ?_
      refine gl_v rfl (o_move rfl) ?_
      refine gl_v rfl (o_neq rfl rfl) ?_
      refine gl_v rfl (o_move rfl) ?_
      refine gl_gT rfl rfl rfl ?_
      refine gl_v rfl (o_move rfl) ?_
      refine gl_gT rfl rfl rfl ?_
      refine gl_v rfl (o_move rfl) ?_
      refine gl_gT rfl rfl rfl ?_
      refine gl_v rfl (o_move rfl) ?_
      refine gl_gT rfl rfl rfl ?_
      refine gl_v rfl (o_idxS rfl rfl (by first | assumption | omega)) ?_
      refine gl_gT rfl rfl rfl ?_
      refine gl_v rfl (o_loadS rfl (map_at (f := U64) (d := 0) (show j < vs.length by omega))) ?_
      refine gl_gT rfl rfl rfl ?_
      refine gl_v rfl (o_neq rfl rfl) ?_
      refine gl_v rfl (o_pickF rfl rfl rfl) ?_
      refine gl_nil ?_
      refine ge_then ?_
      refine g_cond_false (by simp [opv, slk]) ?_
      refine g_skip ?_
      refine ge_block ?_
      refine ge_then ?_
      refine g_region ?_
      refine gl_v rfl (o_move rfl) ?_
      refine gl_v rfl (o_addR _ (by first | exact wr_i64 (by omega) | rfl) rfl rfl) ?_
      refine gl_v rfl (o_assign rfl) ?_
      refine gl_nil ?_
      refine ge_round (j + 1, t') (show j + 1 ≤ n by omega) (by show n - (j + 1) < n - j; omega) (Keep.cons rfl (Keep.cons rfl (Keep.cons rfl (Keep.cons rfl (Keep.cons rfl (Keep.cons rfl (Keep.nil))))))) (To.sat (by repeat (first | exact .nil | exact .done .refl | (apply To.cons; · (repeat (first | exact .head | apply Sel.tail))) | exact .done (by repeat (first | exact .refl | apply Drop.skip)))))
    ·
      first | replace hc2 := of_decide_eq_true hc2 | replace hc2 := lt_f hc2 | replace hc2 := le_f hc2 | replace hc2 := dec_f hc2 | replace hc2 := nlt_t hc2 | replace hc2 := nle_t hc2 | replace hc2 := ndec_t hc2 | replace hc2 := ndec_f hc2 | replace hc2 := nn_t hc2 | replace hc2 := nn_f hc2 | skip
      obtain rfl : n = j := by omega
      refine g_exit ?_
      refine ge_then_exit ?_
      refine ge_then_exit ?_
      refine ge_block_exit ?_
      refine ge_then ?_
      refine g_seq ?_
      refine g_region ?_
      refine gl_v rfl (o_move rfl) ?_
      refine gl_c rfl (o_call rfl (fns_env (bDrain_spec X HB)) (by repeat (first | exact .nil | (apply Part.cons; · (repeat (first | exact .head | apply Sel.tail)))))) ?_
      rintro _ R ⟨_, ⟨p7, rfl, rfl⟩, rfl⟩
      try simp only [List.cons_append, List.nil_append]
      refine gl_c rfl (o_call rfl (pdone_spec X HB p7 (sl 2 (fun k => vs.getD k 0) n n top 0 0 0) _ ⟨.of false (ini 10 0), 0, 0⟩ bL_PI (sl_LI (by (try split) <;> decide) (by omega) (by omega) (fun k hk => hvk k (by omega)) (by decide) (by decide) (by decide) (by decide)) (POof (by decide)) 2 (sl 2 (fun k => vs.getD k 0) n n top 0 0 0) _ (s_end (fun k => vs.getD k 0) hn8)) (by repeat (first | exact .nil | (apply Part.cons; · (repeat (first | exact .head | apply Sel.tail)))))) ?_
      rintro _ R ⟨_, ⟨t', rfl, rfl⟩, rfl⟩
      try simp only [List.cons_append, List.nil_append]
      refine gl_v rfl (o_move rfl) ?_
      refine gl_v rfl (o_extract rfl rfl) ?_
      refine gl_v rfl (o_extract rfl rfl) ?_
      refine gl_v rfl (o_extract rfl rfl) ?_
      refine gl_v rfl (o_assign rfl) ?_
      refine gl_v rfl (o_assign rfl) ?_
      refine gl_v rfl (o_assign rfl) ?_
      refine gl_nil ?_
      refine ge_then ?_
      refine g_seq ?_
      refine g_region ?_
      refine gl_v rfl (o_move rfl) ?_
      refine gl_c rfl (o_call rfl (fns_env (bShut_spec X HB)) (by repeat (first | exact .nil | (apply Part.cons; · (repeat (first | exact .head | apply Sel.tail)))))) ?_
      rintro _ R ⟨_, ⟨p8, rfl, rfl⟩, rfl⟩
      try simp only [List.cons_append, List.nil_append]
      refine gl_c rfl (o_call rfl (pdone_spec X HB p8 (sl 2 (fun k => vs.getD k 0) n n top 0 0 0) _ ⟨.set 4, 0, 0⟩ bL_PI (sl_LI (by (try split) <;> decide) (by omega) (by omega) (fun k hk => hvk k (by omega)) (by decide) (by decide) (by decide) (by decide)) (POset (by decide)) 1 (sl 4 (fun k => vs.getD k 0) n n top 0 0 0) _ (s_shut (fun k => vs.getD k 0) hn8)) (by repeat (first | exact .nil | (apply Part.cons; · (repeat (first | exact .head | apply Sel.tail)))))) ?_
      rintro _ R ⟨_, ⟨t', rfl, rfl⟩, rfl⟩
      try simp only [List.cons_append, List.nil_append]
      refine gl_v rfl (o_move rfl) ?_
      refine gl_v rfl (o_extract rfl rfl) ?_
      refine gl_v rfl (o_extract rfl rfl) ?_
      refine gl_v rfl (o_extract rfl rfl) ?_
      refine gl_v rfl (o_assign rfl) ?_
      refine gl_v rfl (o_assign rfl) ?_
      refine gl_v rfl (o_assign rfl) ?_
      refine gl_nil ?_
      refine ge_then ?_
      refine g_seq ?_
      refine g_region ?_
      refine gl_v rfl (o_move rfl) ?_
      refine gl_c rfl (o_call rfl (fns_env (bGone_spec X HB)) (by repeat (first | exact .nil | (apply Part.cons; · (repeat (first | exact .head | apply Sel.tail)))))) ?_
      rintro _ R ⟨_, ⟨p9, rfl, rfl⟩, rfl⟩
      try simp only [List.cons_append, List.nil_append]
      refine gl_c rfl (o_call rfl (pdone_spec X HB p9 (sl 4 (fun k => vs.getD k 0) n n top 0 0 0) _ ⟨.gone, 0, 0⟩ bL_PI (sl_LI (by (try split) <;> decide) (by omega) (by omega) (fun k hk => hvk k (by omega)) (by decide) (by decide) (by decide) (by decide)) (POgone) 1 (sl 4 (fun k => vs.getD k 0) n n top 0 0 0) _ (s_gone2 (fun k => vs.getD k 0) hn8)) (by repeat (first | exact .nil | (apply Part.cons; · (repeat (first | exact .head | apply Sel.tail)))))) ?_
      rintro _ R ⟨_, ⟨t', rfl, rfl⟩, rfl⟩
      try simp only [List.cons_append, List.nil_append]
      refine gl_v rfl (o_move rfl) ?_
      refine gl_v rfl (o_extract rfl rfl) ?_
      refine gl_v rfl (o_extract rfl rfl) ?_
      refine gl_v rfl (o_extract rfl rfl) ?_
      refine gl_v rfl (o_assign rfl) ?_
      refine gl_v rfl (o_assign rfl) ?_
      refine gl_v rfl (o_assign rfl) ?_
      refine gl_nil ?_
      refine ge_then ?_
      refine g_seq ?_
      refine g_region ?_
      refine gl_v rfl (o_move rfl) ?_
      refine gl_v rfl (o_move rfl) ?_
      refine gl_c rfl (o_call rfl (fns_env (bPush_spec X HB late)) (by repeat (first | exact .nil | (apply Part.cons; · (repeat (first | exact .head | apply Sel.tail)))))) ?_
      rintro _ R ⟨_, ⟨p10, rfl, rfl⟩, rfl⟩
      try simp only [List.cons_append, List.nil_append]
      refine gl_c rfl (o_call rfl (pdone_spec X HB p10 (sl 4 (fun k => vs.getD k 0) n n top 0 0 0) _ ⟨.put true (ini 0 late), 0, 0⟩ bL_PI (sl_LI (by (try split) <;> decide) (by omega) (by omega) (fun k hk => hvk k (by omega)) (by decide) (by decide) (by decide) (by decide)) (POput hl) 6 (sl 4 (fun k => vs.getD k 0) n n top 1 1 late) _ (s_push (fun k => vs.getD k 0) hn8 late)) (by repeat (first | exact .nil | (apply Part.cons; · (repeat (first | exact .head | apply Sel.tail)))))) ?_
      rintro _ R ⟨_, ⟨t', rfl, rfl⟩, rfl⟩
      try simp only [List.cons_append, List.nil_append]
      refine gl_v rfl (o_move rfl) ?_
      refine gl_v rfl (o_extract rfl rfl) ?_
      refine gl_v rfl (o_extract rfl rfl) ?_
      refine gl_v rfl (o_extract rfl rfl) ?_
      refine gl_v rfl (o_assign rfl) ?_
      refine gl_v rfl (o_assign rfl) ?_
      refine gl_v rfl (o_assign rfl) ?_
      refine gl_nil ?_
      refine ge_then ?_
      refine g_seq ?_
      refine g_region ?_
      refine gl_v rfl (o_move rfl) ?_
      refine gl_v rfl (o_move rfl) ?_
      refine gl_c rfl (o_call rfl (fns_env (bTell_spec X HB late)) (by repeat (first | exact .nil | (apply Part.cons; · (repeat (first | exact .head | apply Sel.tail)))))) ?_
      rintro _ R ⟨_, ⟨p11, rfl, rfl⟩, rfl⟩
      try simp only [List.cons_append, List.nil_append]
      refine gl_c rfl (o_call rfl (pdone_spec X HB p11 (sl 4 (fun k => vs.getD k 0) n n top 1 1 late) _ ⟨.put false (ini 0 late), 0, 0⟩ bL_PI (sl_LI (by (try split) <;> decide) (by omega) (by omega) (fun k hk => hvk k (by omega)) (by decide) (by decide) (by decide) hl) (POput hl) 1 (sl 4 (fun k => vs.getD k 0) n n top 1 1 late) _ (s_late2 (fun k => vs.getD k 0) hn8 late)) (by repeat (first | exact .nil | (apply Part.cons; · (repeat (first | exact .head | apply Sel.tail)))))) ?_
      rintro _ R ⟨_, ⟨t', rfl, rfl⟩, rfl⟩
      try simp only [List.cons_append, List.nil_append]
      refine gl_v rfl (o_move rfl) ?_
      refine gl_v rfl (o_extract rfl rfl) ?_
      refine gl_v rfl (o_extract rfl rfl) ?_
      refine gl_v rfl (o_extract rfl rfl) ?_
      refine gl_v rfl (o_assign rfl) ?_
      refine gl_v rfl (o_assign rfl) ?_
      refine gl_v rfl (o_assign rfl) ?_
      refine gl_nil ?_
      refine ge_then ?_
      refine g_seq ?_
      refine g_region ?_
      refine gl_v rfl (o_move rfl) ?_
      refine gl_v rfl (o_eql rfl rfl) ?_
      refine gl_v rfl (o_move rfl) ?_
      refine gl_gT rfl rfl rfl ?_
      refine gl_v rfl (o_move rfl) ?_
      refine gl_gT rfl rfl rfl ?_
      refine gl_v rfl (o_eql rfl rfl) ?_
      refine gl_v rfl (o_pickT rfl rfl rfl) ?_
      refine gl_v rfl (o_move rfl) ?_
      refine gl_gT rfl rfl rfl ?_
      refine gl_v rfl (o_move rfl) ?_
      refine gl_gT rfl rfl rfl ?_
      refine gl_v rfl (o_eql rfl rfl) ?_
      refine gl_v rfl (o_pickT rfl rfl rfl) ?_
      refine gl_v rfl (o_move rfl) ?_
      refine gl_gT rfl rfl rfl ?_
      refine gl_v rfl (o_move rfl) ?_
      refine gl_gT rfl rfl rfl ?_
      refine gl_v rfl (o_eql rfl rfl) ?_
      refine gl_v rfl (o_pickT rfl rfl rfl) ?_
      refine gl_v rfl (o_move rfl) ?_
      refine gl_gT rfl rfl rfl ?_
      refine gl_v rfl (o_move rfl) ?_
      refine gl_gT rfl rfl rfl ?_
      refine gl_v rfl (o_eql rfl rfl) ?_
      refine gl_v rfl (o_pickT rfl rfl rfl) ?_
      refine gl_v rfl (o_move rfl) ?_
      refine gl_gT rfl rfl rfl ?_
      refine gl_v rfl (o_move rfl) ?_
      refine gl_gT rfl rfl rfl ?_
      refine gl_c rfl (o_call rfl (Peek_env X HB (sl 4 (fun k => vs.getD k 0) n n top 1 1 late) _ 0 (show 0 < 30 by decide)) (by repeat (first | exact .nil | (apply Part.cons; · (repeat (first | exact .head | apply Sel.tail)))))) ?_
      rintro _ R ⟨_, ⟨rfl, rfl⟩, rfl⟩
      try simp only [List.cons_append, List.nil_append]
      refine gl_gT rfl rfl rfl ?_
      refine gl_v rfl (o_eql rfl rfl) ?_
      refine gl_v rfl (o_pickT rfl rfl rfl) ?_
      refine gl_v rfl (o_assign rfl) ?_
      refine gl_nil ?_
      refine ge_then ?_
      refine g_ret ?_
      refine ret1 (.inl rfl) rfl rfl _ (⟨rfl, rfl⟩) (To.sat (by repeat (first | exact .nil | exact .done .refl | (apply To.cons; · (repeat (first | exact .head | apply Sel.tail))) | exact .done (by repeat (first | exact .refl | apply Drop.skip)))))

end Go.Proofs.Ytkpgcdhepfgfaaa.L
