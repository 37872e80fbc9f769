/-
  The document's ring: its functions. Own work, printed in part by a program of its own.
-/
import Derived.Test.YtkpgcdhepfgfaaaGreatRingI
import Derived.Test.YtkpgcdhepfgfaaaGreatRingN
import Derived.Test.YtkpgcdhepfgfaaaGreatTree
set_option linter.unusedSimpArgs false
set_option linter.unusedVariables false
set_option linter.unusedSectionVars false
namespace Go.Proofs.YtkpgcdhepfgfaaaGreat.L
open Go.L Go.L.Ring
abbrev atV (b n : Nat) : Value := .agg [I64 b, I64 n].toArray
abbrev opV' (kind v : Int) (s : Value) : Value := .agg [I64 kind, U64 v, s].toArray
theorem drop_at {l : List Int} {k : Nat} (h : k < l.length) : l.drop k = l.getD k 0 :: l.drop (k + 1) := by
  rw [List.getD_eq_getElem?_getD, List.getElem?_eq_getElem h]; exact List.drop_eq_getElem_cons h
theorem in_at {l : List Int} (hl : ∀ x ∈ l, 0 ≤ x ∧ x ≤ 18446744073709551615) (k : Nat) : 0 ≤ l.getD k 0 ∧ l.getD k 0 ≤ 18446744073709551615 := LI.get hl k
theorem drop_end {l : List Int} {k : Nat} (h : l.length ≤ k) : l.drop k = [] := List.drop_eq_nil_of_le h
theorem putN_top {b n : Nat} {v t : Int} (h : top ≤ t) (r : List Int) : putN b n v (t :: r) = wOv 3 0 0 := by
  match r with
  | [] => rw [putN, if_pos h]
  | [_] => rw [putN, if_pos h]
  | _ :: _ :: _ => rw [putN, if_pos h]
theorem putN_full {b n : Nat} {v t s : Int} (h : t < top) (h2 : s < wt n t) (r : List Int) : putN b n v (t :: s :: r) = wOv 2 0 0 := by
  match r with
  | [] => rw [putN, if_neg (by omega), if_pos h2]
  | _ :: _ => rw [putN, if_neg (by omega), if_pos h2]
theorem putN_t {b n : Nat} {v t s x : Int} (h : t < top) (h2 : s = wt n t) (hx : x ≠ 0) (r : List Int) : putN b n v (t :: s :: x :: r) = putT b n v t r := by
  rw [putN, if_neg (by omega), if_neg (by omega), if_neg (by omega), if_neg hx]
theorem putT_0 {b n : Nat} {v t : Int} {r : List Int} (h : r.length = 0) : putT b n v t r = wSt (tnI b n t + 1) v := by
  match r, h with | [], _ => rfl
theorem putT_1 {b n : Nat} {v t : Int} {r : List Int} (h : r.length = 1) : putT b n v t r = wSt (tnI b n t) (uw (wt n t + 1)) := by
  match r, h with | [_], _ => rfl
theorem putT_2 {b n : Nat} {v t : Int} {r : List Int} (h : 2 ≤ r.length) : putT b n v t r = wOv 1 0 t := by
  match r, h with | _ :: _ :: _, _ => rfl
theorem shutN_top {b : Nat} {t : Int} (h : top ≤ t) (r : List Int) : shutN b (t :: r) = wOv 1 0 0 := by
  match r with
  | [] => rw [shutN, if_pos h]
  | _ :: _ => rw [shutN, if_pos h]
theorem shutN_1 {b : Nat} {t : Int} (r : List Int) : shutN b (t :: 1 :: r) = wOv 1 0 0 := by
  rw [shutN]; split
  · rfl
  · rw [if_pos rfl]
theorem shutN_go {b : Nat} {t s : Int} (h : t < top) (h1 : s ≠ 1) (r : List Int) : shutN b (t :: s :: r) = shutN b r := by
  rw [shutN, if_neg (by omega), if_neg h1]
theorem tn_top {b n : Nat} (hn : 1 ≤ n) (t : Int) : tn b n t + 1 < b + 2 + 2 * n := by
  unfold tn
  have : (t % (n : Int)).toNat < n := mod_lt' t hn
  omega
theorem o_addK {P : Program} {W0 : World} {n : Nat} {sl : Slots} {As : List Assn} {ty t t' : TypeId} {x y : Operand} {k : IntKind} {p q : Int} (hx : opv sl x = some (.int k p)) (hy : opv sl y = some (.int k q)) : OV P W0 n (.binOp .add t x y t') ty sl As (.int k (k.wrap (p + q))) := o_add hx hy

set_option maxRecDepth 8000 in
theorem rturn_spec (b n : Nat) (hn : 1 ≤ n) (hn2 : n ≤ 64) (hb : b ≤ 65536) (t : Int) (ht : 0 ≤ t) : FnS Tryz.prog 95 [atV b n, U64 t] [] (fun u Bs => u = I64 (tnI b n t) ∧ Bs = []) := by
 refine fn_body Tryz.func95 rfl rfl rfl ?_
 intro W0 R
 simp only [List.zipIdx_cons, List.zipIdx_nil, List.map_cons, List.map_nil, Nat.zero_add, Nat.reduceAdd, List.cons_append, List.nil_append]
 have hm := mod_lt' t hn
 refine g_seq ?_
 refine g_region ?_
 refine gl_n rfl (o_boxA rfl) ?_
 rintro _ _ ⟨b2, rfl, rfl⟩
 refine gl_v rfl (o_assign rfl) ?_
 refine gl_nil ?_
 refine ge_then ?_
 refine g_seq ?_
 refine g_draw [] [] [(0, .loc), (1, .loc), (2, .loc), (3, .loc), (4, .loc), (5, .loc), (6, .loc), (7, .loc), (8, .loc), (9, .loc), (10, .loc), (11, .loc)] [] mixed (by kernel_rfl) ?_
 first | refine go_v rfl .none rfl (o_fldS rfl) ?_ | refine go_v rfl .none rfl (o_fld rfl) ?_
 first | refine go_v rfl .none rfl (o_load rfl rfl) ?_ | refine go_v rfl .none rfl (o_loadS rfl rfl) ?_ | refine go_v rfl .none rfl (o_loadC rfl) ?_
 refine go_v rfl .none rfl (o_addR _ (by first | exact wr_i64 (by omega) | rfl) rfl rfl) ?_
 refine go_v rfl .none rfl (o_move rfl) ?_
 first | refine go_v rfl .none rfl (o_fldS rfl) ?_ | refine go_v rfl .none rfl (o_fld rfl) ?_
 first | refine go_v rfl .none rfl (o_load rfl rfl) ?_ | refine go_v rfl .none rfl (o_loadS rfl rfl) ?_ | refine go_v rfl .none rfl (o_loadC rfl) ?_
 refine go_v rfl .none rfl (o_convR (n : Int) (wr_u64 (by omega)) rfl) ?_
 refine go_v rfl .none rfl (o_remR _ (mod_tn ht hn) rfl rfl (by omega)) ?_
 refine go_v rfl .none rfl (o_convR _ (by first | exact wr_i64 (by omega) | rfl) rfl) ?_
 refine go_v rfl .none rfl (o_mulR _ (by first | exact wr_i64 (by omega) | rfl) rfl rfl) ?_
 refine go_v rfl .none rfl (o_addR _ (by first | exact wr_i64 (by omega) | rfl) rfl rfl) ?_
 refine go_v rfl .none rfl (o_assign rfl) ?_
 refine go_nil ?_
 refine ge_then ?_
 refine g_ret ?_
 refine ret1 (.inl rfl) rfl rfl _ (⟨by simp only [tnI, tn]; first | rfl | (congr 1; omega), rfl⟩) (To.sat (by repeat (first | exact .nil | exact .done .refl | (apply To.cons; · (repeat (first | exact .head | apply Sel.tail))) | exact .done (by repeat (first | exact .refl | apply Drop.skip)))))

set_option maxRecDepth 8000 in
theorem rwait_spec (b n : Nat) (hn : 1 ≤ n) (hn2 : n ≤ 64) (t : Int) (ht : 0 ≤ t) (h63 : t ≤ 18446744073709551615) : FnS Tryz.prog 96 [atV b n, U64 t] [] (fun u Bs => u = U64 (wt n t) ∧ Bs = []) := by
 refine fn_body Tryz.func96 rfl rfl rfl ?_
 intro W0 R
 simp only [List.zipIdx_cons, List.zipIdx_nil, List.map_cons, List.map_nil, Nat.zero_add, Nat.reduceAdd, List.cons_append, List.nil_append]
 refine g_seq ?_
 refine g_region ?_
 refine gl_n rfl (o_boxA rfl) ?_
 rintro _ _ ⟨b2, rfl, rfl⟩
 refine gl_v rfl (o_assign rfl) ?_
 refine gl_nil ?_
 refine ge_then ?_
 refine g_seq ?_
 refine g_region ?_
 refine gl_v rfl (o_move rfl) ?_
 first | refine gl_v rfl (o_fldS rfl) ?_ | refine gl_v rfl (o_fld rfl) ?_
 first | refine gl_v rfl (o_load rfl rfl) ?_ | refine gl_v rfl (o_loadS rfl rfl) ?_ | refine gl_v rfl (o_loadC rfl) ?_
 refine gl_v rfl (o_convR (n : Int) (wr_u64 (by omega)) rfl) ?_
 refine gl_v rfl (o_quoR (t / n) (quo_wr ht h63 hn) rfl rfl (by omega)) ?_
 refine gl_v rfl (o_mulR (wt n t) (by unfold wt; rw [Int.mul_comm]) rfl rfl) ?_
 refine gl_v rfl (o_assign rfl) ?_
 refine gl_nil ?_
 refine ge_then ?_
 refine g_ret ?_
 refine ret1 (.inl rfl) rfl rfl _ (⟨rfl, rfl⟩) (To.sat (by repeat (first | exact .nil | exact .done .refl | (apply To.cons; · (repeat (first | exact .head | apply Sel.tail))) | exact .done (by repeat (first | exact .refl | apply Drop.skip)))))

set_option maxRecDepth 8000 in
theorem rput_spec (b n : Nat) (hn : 1 ≤ n) (hn2 : n ≤ 64) (hb : b ≤ 65536) (kind v : Int) (a : Option Addr) (c : Nat) (l : List Int) (hl : ∀ x ∈ l, 0 ≤ x ∧ x ≤ 18446744073709551615) (hm : l.length ≤ 17592186044416) (A : Assn) [RdA (.slice a l.length c) A l.length (l.map U64)] : FnS Tryz.prog 93 [atV b n, opV' kind v (.slice a l.length c)] [A] (fun u Bs => u = .agg (putN b n v l).cells.toArray ∧ Bs = [A]) := by
 refine fn_body Tryz.func93 rfl rfl rfl ?_
 intro W0 R
 simp only [List.zipIdx_cons, List.zipIdx_nil, List.map_cons, List.map_nil, Nat.zero_add, Nat.reduceAdd, List.cons_append, List.nil_append]
 have htop := htop'
 refine g_seq ?_
 refine g_region ?_
 refine gl_n rfl (o_boxA rfl) ?_
 rintro _ _ ⟨b2, rfl, rfl⟩
 refine gl_n rfl (o_boxA rfl) ?_
 rintro _ _ ⟨b3, rfl, rfl⟩
 refine gl_n rfl (o_alloc) ?_
 rintro _ _ ⟨b4, rfl, rfl⟩
 refine gl_nil ?_
 refine ge_then ?_
 refine g_seq ?_
 refine g_region ?_
 first | refine gl_v rfl (o_fldS rfl) ?_ | refine gl_v rfl (o_fld rfl) ?_
 first | refine gl_v rfl (o_load rfl rfl) ?_ | refine gl_v rfl (o_loadS rfl rfl) ?_ | refine gl_v rfl (o_loadC rfl) ?_
 refine gl_v rfl (o_assign rfl) ?_
 refine gl_nil ?_
 refine ge_then ?_
 refine g_seq ?_
 refine g_region ?_
 refine gl_v rfl (o_assign rfl) ?_
 refine gl_nil ?_
 refine ge_then ?_
 refine g_block ?_
 refine g_loop (ι := Nat) (fun x => x ≤ l.length ∧ putN b n v (l.drop x) = putN b n v l) (fun x => [(6, I64 x), (5, .slice a l.length c), (2, ptr b2 0), (3, ptr b3 0), (4, ptr b4 0)]) (fun x => cel b2 79 [I64 b, I64 n] :: cel b3 52 [I64 kind, U64 v, .slice a l.length c] :: cel b4 56 [.bool false, I64 0, I64 0, U64 0, U64 0, I64 0, U64 0, U64 0] :: A :: R) (fun x => l.length - x) 0 (⟨Nat.zero_le _, rfl⟩) (Keep.cons rfl (Keep.cons rfl (Keep.cons rfl (Keep.cons rfl (Keep.cons rfl (Keep.nil)))))) (To.sat (by repeat (first | exact .nil | exact .done .refl | (apply To.cons; · (repeat (first | exact .head | apply Sel.tail))) | exact .done (by repeat (first | exact .refl | apply Drop.skip))))) ?_
 rintro k ⟨hk, hI⟩
 have hk : k ≤ l.length := hk
 have hI : putN b n v (l.drop k) = putN b n v l := hI
 refine g_block ?_
 refine g_seq ?_
 refine g_seq ?_
 refine g_region ?_
 refine gl_v rfl (o_move rfl) ?_
 first | refine gl_v rfl (o_len rfl) ?_ | refine gl_v rfl (o_lenL rfl) ?_
 refine gl_v rfl (o_move rfl) ?_
 refine gl_v rfl (o_eql rfl rfl) ?_
 refine gl_nil ?_
 refine ge_then ?_
 refine g_cond rfl (fun hc1 => ?_) (fun hc1 => ?_)
 ·
  first | replace hc1 := of_decide_eq_true hc1 | replace hc1 := lt_f hc1 | replace hc1 := le_f hc1 | replace hc1 := dec_f hc1 | replace hc1 := nlt_t hc1 | replace hc1 := nle_t hc1 | replace hc1 := ndec_t hc1 | replace hc1 := ndec_f hc1 | replace hc1 := nn_t hc1 | replace hc1 := nn_f hc1 | skip
  refine g_seq ?_
  refine g_region ?_
  first | refine gl_v rfl (o_fldS rfl) ?_ | refine gl_v rfl (o_fld rfl) ?_
  first | refine gl_v rfl (o_load rfl rfl) ?_ | refine gl_v rfl (o_loadS rfl rfl) ?_ | refine gl_v rfl (o_loadC rfl) ?_
  refine gl_v rfl (o_build rfl rfl) ?_
  first | refine gl_u (o_storeSA rfl rfl rfl rfl (by simp; omega) (by simp)) ?_ | refine gl_u (o_storeA rfl rfl rfl rfl rfl) ?_
  refine gl_nil ?_
  refine ge_then ?_
  refine g_ret ?_
  refine ge_then_ret ?_
  refine ge_block_ret ?_
  refine ge_then_ret ?_
  refine ge_block_ret ?_
  refine ret1c (.inl rfl) rfl rfl rfl rfl _ (⟨by rw [← hI, drop_end (by omega)]; rfl, rfl⟩) (To.sat (by repeat (first | exact .nil | exact .done .refl | (apply To.cons; · (repeat (first | exact .head | apply Sel.tail))) | exact .done (by repeat (first | exact .refl | apply Drop.skip)))))
 ·
  first | replace hc1 := of_decide_eq_true hc1 | replace hc1 := lt_f hc1 | replace hc1 := le_f hc1 | replace hc1 := dec_f hc1 | replace hc1 := nlt_t hc1 | replace hc1 := nle_t hc1 | replace hc1 := ndec_t hc1 | replace hc1 := ndec_f hc1 | replace hc1 := nn_t hc1 | replace hc1 := nn_f hc1 | skip
  refine g_skip ?_
  refine ge_then ?_
  refine g_seq ?_
  have hk1 : k < l.length := by omega
  have d1 := drop_at hk1
  rw [d1] at hI
  have ht0 := in_at hl k
  refine g_region ?_
  refine gl_v rfl (o_move rfl) ?_
  refine gl_v rfl (o_move rfl) ?_
  refine gl_v rfl (o_idxS rfl rfl (by first | assumption | omega)) ?_
  refine gl_v rfl (o_loadS rfl (map_at (d := 0) (i := k) (by omega))) ?_
  refine gl_v rfl (o_assign rfl) ?_
  refine gl_nil ?_
  refine ge_then ?_
  refine g_seq ?_
  refine g_seq ?_
  refine g_region ?_
  refine gl_v rfl (o_move rfl) ?_
  refine gl_v rfl (o_geq rfl rfl) ?_
  refine gl_nil ?_
  refine ge_then ?_
  refine g_cond rfl (fun hc2 => ?_) (fun hc2 => ?_)
  ·
   first | replace hc2 := of_decide_eq_true hc2 | replace hc2 := lt_f hc2 | replace hc2 := le_f hc2 | replace hc2 := dec_f hc2 | replace hc2 := nlt_t hc2 | replace hc2 := nle_t hc2 | replace hc2 := ndec_t hc2 | replace hc2 := ndec_f hc2 | replace hc2 := nn_t hc2 | replace hc2 := nn_f hc2 | skip
   refine g_seq ?_
   refine g_region ?_
   refine gl_v rfl (o_build rfl rfl) ?_
   first | refine gl_u (o_storeSA rfl rfl rfl rfl (by simp; omega) (by simp)) ?_ | refine gl_u (o_storeA rfl rfl rfl rfl rfl) ?_
   refine gl_nil ?_
   refine ge_then ?_
   refine g_ret ?_
   refine ge_then_ret ?_
   refine ge_block_ret ?_
   refine ge_then_ret ?_
   refine ge_block_ret ?_
   refine ret1c (.inl rfl) rfl rfl rfl rfl _ (⟨by rw [← hI, putN_top (by omega)]; rfl, rfl⟩) (To.sat (by repeat (first | exact .nil | exact .done .refl | (apply To.cons; · (repeat (first | exact .head | apply Sel.tail))) | exact .done (by repeat (first | exact .refl | apply Drop.skip)))))
  ·
   first | replace hc2 := of_decide_eq_true hc2 | replace hc2 := lt_f hc2 | replace hc2 := le_f hc2 | replace hc2 := dec_f hc2 | replace hc2 := nlt_t hc2 | replace hc2 := nle_t hc2 | replace hc2 := ndec_t hc2 | replace hc2 := ndec_f hc2 | replace hc2 := nn_t hc2 | replace hc2 := nn_f hc2 | skip
   refine g_skip ?_
   refine ge_then ?_
   refine g_seq ?_
   refine g_seq ?_
   refine g_region ?_
   refine gl_v rfl (o_move rfl) ?_
   first | refine gl_v rfl (o_len rfl) ?_ | refine gl_v rfl (o_lenL rfl) ?_
   refine gl_v rfl (o_move rfl) ?_
   refine gl_v rfl (o_addR _ (by first | exact wr_i64 (by omega) | rfl) rfl rfl) ?_
   refine gl_v rfl (o_eql rfl rfl) ?_
   refine gl_nil ?_
   refine ge_then ?_
   refine g_cond rfl (fun hc3 => ?_) (fun hc3 => ?_)
   ·
    first | replace hc3 := of_decide_eq_true hc3 | replace hc3 := lt_f hc3 | replace hc3 := le_f hc3 | replace hc3 := dec_f hc3 | replace hc3 := nlt_t hc3 | replace hc3 := nle_t hc3 | replace hc3 := ndec_t hc3 | replace hc3 := ndec_f hc3 | replace hc3 := nn_t hc3 | replace hc3 := nn_f hc3 | skip
    refine g_seq ?_
    refine g_region ?_
    first | refine gl_v rfl (o_loadSA rfl rfl rfl) ?_ | refine gl_v rfl (o_loadA rfl rfl rfl) ?_
    refine gl_v rfl (o_move rfl) ?_
    refine gl_c rfl (o_call rfl (rturn_spec b n hn hn2 hb (l.getD k 0) (in_at hl _).1) (by repeat (first | exact .nil | (apply Part.cons; · (repeat (first | exact .head | apply Sel.tail)))))) ?_
    rintro _ R ⟨_, ⟨rfl, rfl⟩, rfl⟩
    try simp only [List.cons_append, List.nil_append]
    refine gl_v rfl (o_build rfl rfl) ?_
    first | refine gl_u (o_storeSA rfl rfl rfl rfl (by simp; omega) (by simp)) ?_ | refine gl_u (o_storeA rfl rfl rfl rfl rfl) ?_
    refine gl_nil ?_
    refine ge_then ?_
    refine g_ret ?_
    refine ge_then_ret ?_
    refine ge_block_ret ?_
    refine ge_then_ret ?_
    refine ge_block_ret ?_
    refine ret1c (.inl rfl) rfl rfl rfl rfl _ (⟨by rw [← hI, drop_end (by omega), putN, if_neg (by omega)]; rfl, rfl⟩) (To.sat (by repeat (first | exact .nil | exact .done .refl | (apply To.cons; · (repeat (first | exact .head | apply Sel.tail))) | exact .done (by repeat (first | exact .refl | apply Drop.skip)))))
   ·
    first | replace hc3 := of_decide_eq_true hc3 | replace hc3 := lt_f hc3 | replace hc3 := le_f hc3 | replace hc3 := dec_f hc3 | replace hc3 := nlt_t hc3 | replace hc3 := nle_t hc3 | replace hc3 := ndec_t hc3 | replace hc3 := ndec_f hc3 | replace hc3 := nn_t hc3 | replace hc3 := nn_f hc3 | skip
    refine g_skip ?_
    refine ge_then ?_
    refine g_seq ?_
    have hk2 : k + 1 < l.length := by omega
    have d2 := drop_at hk2
    rw [d2] at hI
    have hs0 := in_at hl (k + 1)
    refine g_region ?_
    refine gl_v rfl (o_move rfl) ?_
    refine gl_v rfl (o_move rfl) ?_
    refine gl_v rfl (o_addR ((k + 1 : Nat) : Int) (by rw [wr_i64 (by omega)]; omega) rfl rfl) ?_
    refine gl_v rfl (o_idxS (j := k + 1) rfl rfl (by omega)) ?_
    refine gl_v rfl (o_loadS rfl (map_at (d := 0) (i := k + 1) (by omega))) ?_
    refine gl_v rfl (o_assign rfl) ?_
    refine gl_nil ?_
    refine ge_then ?_
    refine g_seq ?_
    refine g_seq ?_
    refine g_region ?_
    refine gl_v rfl (o_move rfl) ?_
    first | refine gl_v rfl (o_loadSA rfl rfl rfl) ?_ | refine gl_v rfl (o_loadA rfl rfl rfl) ?_
    refine gl_v rfl (o_move rfl) ?_
    refine gl_c rfl (o_call rfl (rwait_spec b n hn hn2 (l.getD k 0) (in_at hl _).1 (in_at hl _).2) (by repeat (first | exact .nil | (apply Part.cons; · (repeat (first | exact .head | apply Sel.tail)))))) ?_
    rintro _ R ⟨_, ⟨rfl, rfl⟩, rfl⟩
    try simp only [List.cons_append, List.nil_append]
    refine gl_v rfl (o_lss rfl rfl) ?_
    refine gl_nil ?_
    refine ge_then ?_
    refine g_cond rfl (fun hc4 => ?_) (fun hc4 => ?_)
    ·
     first | replace hc4 := of_decide_eq_true hc4 | replace hc4 := lt_f hc4 | replace hc4 := le_f hc4 | replace hc4 := dec_f hc4 | replace hc4 := nlt_t hc4 | replace hc4 := nle_t hc4 | replace hc4 := ndec_t hc4 | replace hc4 := ndec_f hc4 | replace hc4 := nn_t hc4 | replace hc4 := nn_f hc4 | skip
     refine g_seq ?_
     refine g_region ?_
     refine gl_v rfl (o_build rfl rfl) ?_
     first | refine gl_u (o_storeSA rfl rfl rfl rfl (by simp; omega) (by simp)) ?_ | refine gl_u (o_storeA rfl rfl rfl rfl rfl) ?_
     refine gl_nil ?_
     refine ge_then ?_
     refine g_ret ?_
     refine ge_then_ret ?_
     refine ge_block_ret ?_
     refine ge_then_ret ?_
     refine ge_block_ret ?_
     refine ret1c (.inl rfl) rfl rfl rfl rfl _ (⟨by rw [← hI, putN_full (by omega) (by omega)]; rfl, rfl⟩) (To.sat (by repeat (first | exact .nil | exact .done .refl | (apply To.cons; · (repeat (first | exact .head | apply Sel.tail))) | exact .done (by repeat (first | exact .refl | apply Drop.skip)))))
    ·
     first | replace hc4 := of_decide_eq_true hc4 | replace hc4 := lt_f hc4 | replace hc4 := le_f hc4 | replace hc4 := dec_f hc4 | replace hc4 := nlt_t hc4 | replace hc4 := nle_t hc4 | replace hc4 := ndec_t hc4 | replace hc4 := ndec_f hc4 | replace hc4 := nn_t hc4 | replace hc4 := nn_f hc4 | skip
     refine g_skip ?_
     refine ge_then ?_
     refine g_seq ?_
     refine g_seq ?_
     refine g_region ?_
     refine gl_v rfl (o_move rfl) ?_
     first | refine gl_v rfl (o_loadSA rfl rfl rfl) ?_ | refine gl_v rfl (o_loadA rfl rfl rfl) ?_
     refine gl_v rfl (o_move rfl) ?_
     refine gl_c rfl (o_call rfl (rwait_spec b n hn hn2 (l.getD k 0) (in_at hl _).1 (in_at hl _).2) (by repeat (first | exact .nil | (apply Part.cons; · (repeat (first | exact .head | apply Sel.tail)))))) ?_
     rintro _ R ⟨_, ⟨rfl, rfl⟩, rfl⟩
     try simp only [List.cons_append, List.nil_append]
     refine gl_v rfl (o_gtr rfl rfl) ?_
     refine gl_nil ?_
     refine ge_then ?_
     refine g_cond rfl (fun hc5 => ?_) (fun hc5 => ?_)
     ·
      first | replace hc5 := of_decide_eq_true hc5 | replace hc5 := lt_f hc5 | replace hc5 := le_f hc5 | replace hc5 := dec_f hc5 | replace hc5 := nlt_t hc5 | replace hc5 := nle_t hc5 | replace hc5 := ndec_t hc5 | replace hc5 := ndec_f hc5 | replace hc5 := nn_t hc5 | replace hc5 := nn_f hc5 | skip
      refine g_seq ?_
      refine g_region ?_
      refine gl_v rfl (o_move rfl) ?_
      refine gl_v rfl (o_addR ((k + 2 : Nat) : Int) (by rw [wr_i64 (by omega)]; omega) rfl rfl) ?_
      refine gl_v rfl (o_assign rfl) ?_
      refine gl_nil ?_
      refine ge_then ?_
      refine g_exit ?_
      refine ge_then_exit ?_
      refine ge_block_exit ?_
      rw [putN_skip1 (by omega) (by omega)] at hI
      refine ge_round (k + 2) ⟨by omega, hI⟩ (by omega) (Keep.cons rfl (Keep.cons rfl (Keep.cons rfl (Keep.cons rfl (Keep.cons rfl (Keep.nil)))))) (To.sat (by repeat (first | exact .nil | exact .done .refl | (apply To.cons; · (repeat (first | exact .head | apply Sel.tail))) | exact .done (by repeat (first | exact .refl | apply Drop.skip)))))
     ·
      first | replace hc5 := of_decide_eq_true hc5 | replace hc5 := lt_f hc5 | replace hc5 := le_f hc5 | replace hc5 := dec_f hc5 | replace hc5 := nlt_t hc5 | replace hc5 := nle_t hc5 | replace hc5 := ndec_t hc5 | replace hc5 := ndec_f hc5 | replace hc5 := nn_t hc5 | replace hc5 := nn_f hc5 | skip
      refine g_skip ?_
      refine ge_then ?_
      refine g_seq ?_
      refine g_seq ?_
      refine g_region ?_
      refine gl_v rfl (o_move rfl) ?_
      first | refine gl_v rfl (o_len rfl) ?_ | refine gl_v rfl (o_lenL rfl) ?_
      refine gl_v rfl (o_move rfl) ?_
      refine gl_v rfl (o_addR _ (by first | exact wr_i64 (by omega) | rfl) rfl rfl) ?_
      refine gl_v rfl (o_eql rfl rfl) ?_
      refine gl_nil ?_
      refine ge_then ?_
      refine g_cond rfl (fun hc6 => ?_) (fun hc6 => ?_)
      ·
       first | replace hc6 := of_decide_eq_true hc6 | replace hc6 := lt_f hc6 | replace hc6 := le_f hc6 | replace hc6 := dec_f hc6 | replace hc6 := nlt_t hc6 | replace hc6 := nle_t hc6 | replace hc6 := ndec_t hc6 | replace hc6 := ndec_f hc6 | replace hc6 := nn_t hc6 | replace hc6 := nn_f hc6 | skip
       refine g_seq ?_
       refine g_region ?_
       first | refine gl_v rfl (o_fldS rfl) ?_ | refine gl_v rfl (o_fld rfl) ?_
       first | refine gl_v rfl (o_load rfl rfl) ?_ | refine gl_v rfl (o_loadS rfl rfl) ?_ | refine gl_v rfl (o_loadC rfl) ?_
       refine gl_v rfl (o_move rfl) ?_
       refine gl_v rfl (o_move rfl) ?_
       refine gl_v rfl (o_add rfl rfl) ?_
       refine gl_v rfl (o_build rfl rfl) ?_
       first | refine gl_u (o_storeSA rfl rfl rfl rfl (by simp; omega) (by simp)) ?_ | refine gl_u (o_storeA rfl rfl rfl rfl rfl) ?_
       refine gl_nil ?_
       refine ge_then ?_
       refine g_ret ?_
       refine ge_then_ret ?_
       refine ge_block_ret ?_
       refine ge_then_ret ?_
       refine ge_block_ret ?_
       refine ret1c (.inl rfl) rfl rfl rfl rfl _ (⟨by rw [← hI, drop_end (by omega), putN, if_neg (by omega), if_neg (by omega), if_neg (by omega)]; rfl, rfl⟩) (To.sat (by repeat (first | exact .nil | exact .done .refl | (apply To.cons; · (repeat (first | exact .head | apply Sel.tail))) | exact .done (by repeat (first | exact .refl | apply Drop.skip)))))
      ·
       first | replace hc6 := of_decide_eq_true hc6 | replace hc6 := lt_f hc6 | replace hc6 := le_f hc6 | replace hc6 := dec_f hc6 | replace hc6 := nlt_t hc6 | replace hc6 := nle_t hc6 | replace hc6 := ndec_t hc6 | replace hc6 := ndec_f hc6 | replace hc6 := nn_t hc6 | replace hc6 := nn_f hc6 | skip
       refine g_skip ?_
       refine ge_then ?_
       refine g_seq ?_
       refine g_seq ?_
       have hk3 : k + 2 < l.length := by omega
       have d3 := drop_at hk3
       rw [d3] at hI
       refine g_region ?_
       refine gl_v rfl (o_move rfl) ?_
       refine gl_v rfl (o_move rfl) ?_
       refine gl_v rfl (o_addR ((k + 2 : Nat) : Int) (by rw [wr_i64 (by omega)]; omega) rfl rfl) ?_
       refine gl_v rfl (o_idxS (j := k + 2) rfl rfl (by omega)) ?_
       refine gl_v rfl (o_loadS rfl (map_at (d := 0) (i := k + 2) (by omega))) ?_
       refine gl_v rfl (o_eql rfl rfl) ?_
       refine gl_nil ?_
       refine ge_then ?_
       refine g_cond rfl (fun hc7 => ?_) (fun hc7 => ?_)
       ·
        first | replace hc7 := of_decide_eq_true hc7 | replace hc7 := lt_f hc7 | replace hc7 := le_f hc7 | replace hc7 := dec_f hc7 | replace hc7 := nlt_t hc7 | replace hc7 := nle_t hc7 | replace hc7 := ndec_t hc7 | replace hc7 := ndec_f hc7 | replace hc7 := nn_t hc7 | replace hc7 := nn_f hc7 | skip
        refine g_seq ?_
        refine g_region ?_
        refine gl_v rfl (o_move rfl) ?_
        refine gl_v rfl (o_addR ((k + 3 : Nat) : Int) (by rw [wr_i64 (by omega)]; omega) rfl rfl) ?_
        refine gl_v rfl (o_assign rfl) ?_
        refine gl_nil ?_
        refine ge_then ?_
        refine g_exit ?_
        refine ge_then_exit ?_
        refine ge_block_exit ?_
        rw [hc7, putN_skip2 (by omega) (by omega)] at hI
        refine ge_round (k + 3) ⟨by omega, hI⟩ (by omega) (Keep.cons rfl (Keep.cons rfl (Keep.cons rfl (Keep.cons rfl (Keep.cons rfl (Keep.nil)))))) (To.sat (by repeat (first | exact .nil | exact .done .refl | (apply To.cons; · (repeat (first | exact .head | apply Sel.tail))) | exact .done (by repeat (first | exact .refl | apply Drop.skip)))))
       ·
        first | replace hc7 := of_decide_eq_true hc7 | replace hc7 := lt_f hc7 | replace hc7 := le_f hc7 | replace hc7 := dec_f hc7 | replace hc7 := nlt_t hc7 | replace hc7 := nle_t hc7 | replace hc7 := ndec_t hc7 | replace hc7 := ndec_f hc7 | replace hc7 := nn_t hc7 | replace hc7 := nn_f hc7 | skip
        refine g_skip ?_
        refine ge_then ?_
        refine g_seq ?_
        refine g_seq ?_
        rw [putN_t (by omega) (by omega) (by omega)] at hI
        have hd := List.length_drop (i := k + 2 + 1) (l := l)
        refine g_region ?_
        refine gl_v rfl (o_move rfl) ?_
        first | refine gl_v rfl (o_len rfl) ?_ | refine gl_v rfl (o_lenL rfl) ?_
        refine gl_v rfl (o_move rfl) ?_
        refine gl_v rfl (o_subR _ (by first | exact wr_i64 (by omega) | rfl) rfl rfl) ?_
        refine gl_nil ?_
        refine ge_then ?_
        refine g_block ?_
        refine g_seq ?_
        refine g_region ?_
        refine gl_v rfl (o_eql rfl rfl) ?_
        refine gl_v rfl (o_assign rfl) ?_
        refine gl_nil ?_
        refine ge_then ?_
        refine g_cond rfl (fun hc8 => ?_) (fun hc8 => ?_)
        ·
         first | replace hc8 := of_decide_eq_true hc8 | replace hc8 := lt_f hc8 | replace hc8 := le_f hc8 | replace hc8 := dec_f hc8 | replace hc8 := nlt_t hc8 | replace hc8 := nle_t hc8 | replace hc8 := ndec_t hc8 | replace hc8 := ndec_f hc8 | replace hc8 := nn_t hc8 | replace hc8 := nn_f hc8 | skip
         refine g_seq ?_
         refine g_draw [2, 7] [2] [(0, .loc), (1, .loc), (4, .stab), (5, .stab), (2, .eff), (3, .loc), (6, .loc), (7, .eff)] [cel b2 79 [I64 b, I64 n], cel b3 52 [I64 kind, U64 v, .slice a l.length c], cel b4 56 [.bool false, I64 0, I64 0, U64 0, U64 0, I64 0, U64 0, U64 0]] mixed (by kernel_rfl) ?_
         first | refine go_v rfl .none rfl (o_loadSA rfl rfl rfl) ?_ | refine go_v rfl .none rfl (o_loadA rfl rfl rfl) ?_
         refine go_v rfl .none rfl (o_move rfl) ?_
         first | refine go_vs rfl .none rfl (o_fldS rfl) (To.sat (by repeat (first | exact .nil | exact .done .refl | (apply To.cons; · (repeat (first | exact .head | apply Sel.tail))) | exact .done (by repeat (first | exact .refl | apply Drop.skip))))) ?_ | refine go_vs rfl .none rfl (o_fld rfl) (To.sat (by repeat (first | exact .nil | exact .done .refl | (apply To.cons; · (repeat (first | exact .head | apply Sel.tail))) | exact .done (by repeat (first | exact .refl | apply Drop.skip))))) ?_
         first | refine go_vs rfl .none rfl (o_load rfl rfl) (To.sat (by repeat (first | exact .nil | exact .done .refl | (apply To.cons; · (repeat (first | exact .head | apply Sel.tail))) | exact .done (by repeat (first | exact .refl | apply Drop.skip))))) ?_ | refine go_vs rfl .none rfl (o_loadS rfl rfl) (To.sat (by repeat (first | exact .nil | exact .done .refl | (apply To.cons; · (repeat (first | exact .head | apply Sel.tail))) | exact .done (by repeat (first | exact .refl | apply Drop.skip))))) ?_ | refine go_vs rfl .none rfl (o_loadC rfl) (To.sat (by repeat (first | exact .nil | exact .done .refl | (apply To.cons; · (repeat (first | exact .head | apply Sel.tail))) | exact .done (by repeat (first | exact .refl | apply Drop.skip))))) ?_
         refine go_c rfl .none rfl (o_call rfl (rturn_spec b n hn hn2 hb (l.getD k 0) (in_at hl _).1) (by repeat (first | exact .nil | (apply Part.cons; · (repeat (first | exact .head | apply Sel.tail)))))) ?_
         rintro _ R ⟨_, ⟨rfl, rfl⟩, rfl⟩
         try simp only [List.cons_append, List.nil_append]
         refine ⟨(fun _ => (To.sat (by repeat (first | exact .nil | exact .done .refl | (apply To.cons; · (repeat (first | exact .head | apply Sel.tail))) | exact .done (by repeat (first | exact .refl | apply Drop.skip)))))), ?_⟩
         refine go_v rfl .none rfl (o_addR (tnI b n (l.getD k 0) + 1) (wr_i64 (by have := tn_top (b := b) hn (l.getD k 0); simp only [tnI]; omega)) rfl rfl) ?_
         refine go_v rfl .none rfl (o_build rfl rfl) ?_
         first | refine go_u rfl .none (o_storeSA rfl rfl rfl rfl (by simp; omega) (by simp)) (fun hG => absurd hG (by decide)) ?_ | refine go_u rfl .none (o_storeA rfl rfl rfl rfl rfl) (fun hG => absurd hG (by decide)) ?_
         refine go_nil ?_
         refine ge_then ?_
         refine g_ret ?_
         refine ge_block_ret ?_
         refine ge_then_ret ?_
         refine ge_block_ret ?_
         refine ge_then_ret ?_
         refine ge_block_ret ?_
         refine ret1c (.inl rfl) rfl rfl rfl rfl _ (⟨by rw [← hI, putT_0 (by omega)]; rfl, rfl⟩) (To.sat (by repeat (first | exact .nil | exact .done .refl | (apply To.cons; · (repeat (first | exact .head | apply Sel.tail))) | exact .done (by repeat (first | exact .refl | apply Drop.skip)))))
        ·
         first | replace hc8 := of_decide_eq_true hc8 | replace hc8 := lt_f hc8 | replace hc8 := le_f hc8 | replace hc8 := dec_f hc8 | replace hc8 := nlt_t hc8 | replace hc8 := nle_t hc8 | replace hc8 := ndec_t hc8 | replace hc8 := ndec_f hc8 | replace hc8 := nn_t hc8 | replace hc8 := nn_f hc8 | skip
         refine g_seq ?_
         refine g_region ?_
         refine gl_v rfl (o_eql rfl rfl) ?_
         refine gl_v rfl (o_assign rfl) ?_
         refine gl_nil ?_
         refine ge_then ?_
         refine g_cond rfl (fun hc9 => ?_) (fun hc9 => ?_)
         ·
          first | replace hc9 := of_decide_eq_true hc9 | replace hc9 := lt_f hc9 | replace hc9 := le_f hc9 | replace hc9 := dec_f hc9 | replace hc9 := nlt_t hc9 | replace hc9 := nle_t hc9 | replace hc9 := ndec_t hc9 | replace hc9 := ndec_f hc9 | replace hc9 := nn_t hc9 | replace hc9 := nn_f hc9 | skip
          refine g_seq ?_
          refine g_draw [2, 5, 8] [2] [(0, .loc), (1, .loc), (3, .stab), (4, .stab), (2, .eff), (5, .eff), (6, .loc), (7, .loc), (8, .eff)] [cel b2 79 [I64 b, I64 n], cel b3 52 [I64 kind, U64 v, .slice a l.length c], cel b4 56 [.bool false, I64 0, I64 0, U64 0, U64 0, I64 0, U64 0, U64 0]] mixed (by kernel_rfl) ?_
          first | refine go_v rfl .none rfl (o_loadSA rfl rfl rfl) ?_ | refine go_v rfl .none rfl (o_loadA rfl rfl rfl) ?_
          refine go_v rfl .none rfl (o_move rfl) ?_
          first | refine go_vs rfl .none rfl (o_loadSA rfl rfl rfl) (To.sat (by repeat (first | exact .nil | exact .done .refl | (apply To.cons; · (repeat (first | exact .head | apply Sel.tail))) | exact .done (by repeat (first | exact .refl | apply Drop.skip))))) ?_ | refine go_vs rfl .none rfl (o_loadA rfl rfl rfl) (To.sat (by repeat (first | exact .nil | exact .done .refl | (apply To.cons; · (repeat (first | exact .head | apply Sel.tail))) | exact .done (by repeat (first | exact .refl | apply Drop.skip))))) ?_
          refine go_vs rfl .none rfl (o_move rfl) (To.sat (by repeat (first | exact .nil | exact .done .refl | (apply To.cons; · (repeat (first | exact .head | apply Sel.tail))) | exact .done (by repeat (first | exact .refl | apply Drop.skip))))) ?_
          refine go_c rfl .none rfl (o_call rfl (rturn_spec b n hn hn2 hb (l.getD k 0) (in_at hl _).1) (by repeat (first | exact .nil | (apply Part.cons; · (repeat (first | exact .head | apply Sel.tail)))))) ?_
          rintro _ R ⟨_, ⟨rfl, rfl⟩, rfl⟩
          try simp only [List.cons_append, List.nil_append]
          refine ⟨(fun _ => (To.sat (by repeat (first | exact .nil | exact .done .refl | (apply To.cons; · (repeat (first | exact .head | apply Sel.tail))) | exact .done (by repeat (first | exact .refl | apply Drop.skip)))))), ?_⟩
          refine go_c rfl .none rfl (o_call rfl (rwait_spec b n hn hn2 (l.getD k 0) (in_at hl _).1 (in_at hl _).2) (by repeat (first | exact .nil | (apply Part.cons; · (repeat (first | exact .head | apply Sel.tail)))))) ?_
          rintro _ R ⟨_, ⟨rfl, rfl⟩, rfl⟩
          try simp only [List.cons_append, List.nil_append]
          refine ⟨(fun hG => absurd hG (by decide)), ?_⟩
          refine go_v rfl .none rfl (o_add rfl rfl) ?_
          refine go_v rfl .none rfl (o_build rfl rfl) ?_
          first | refine go_u rfl .none (o_storeSA rfl rfl rfl rfl (by simp; omega) (by simp)) (fun hG => absurd hG (by decide)) ?_ | refine go_u rfl .none (o_storeA rfl rfl rfl rfl rfl) (fun hG => absurd hG (by decide)) ?_
          refine go_nil ?_
          refine ge_then ?_
          refine g_ret ?_
          refine ge_block_ret ?_
          refine ge_then_ret ?_
          refine ge_block_ret ?_
          refine ge_then_ret ?_
          refine ge_block_ret ?_
          refine ret1c (.inl rfl) rfl rfl rfl rfl _ (⟨by rw [← hI, putT_1 (by omega)]; rfl, rfl⟩) (To.sat (by repeat (first | exact .nil | exact .done .refl | (apply To.cons; · (repeat (first | exact .head | apply Sel.tail))) | exact .done (by repeat (first | exact .refl | apply Drop.skip)))))
         ·
          first | replace hc9 := of_decide_eq_true hc9 | replace hc9 := lt_f hc9 | replace hc9 := le_f hc9 | replace hc9 := dec_f hc9 | replace hc9 := nlt_t hc9 | replace hc9 := nle_t hc9 | replace hc9 := ndec_t hc9 | replace hc9 := ndec_f hc9 | replace hc9 := nn_t hc9 | replace hc9 := nn_f hc9 | skip
          refine g_skip ?_
          refine ge_block ?_
          refine ge_then ?_
          refine g_seq ?_
          refine g_region ?_
          refine gl_v rfl (o_move rfl) ?_
          refine gl_v rfl (o_build rfl rfl) ?_
          first | refine gl_u (o_storeSA rfl rfl rfl rfl (by simp; omega) (by simp)) ?_ | refine gl_u (o_storeA rfl rfl rfl rfl rfl) ?_
          refine gl_nil ?_
          refine ge_then ?_
          refine g_ret ?_
          refine ge_block_ret ?_
          refine ge_then_ret ?_
          refine ge_block_ret ?_
          refine ret1c (.inl rfl) rfl rfl rfl rfl _ (⟨by rw [← hI, putT_2 (by omega)]; rfl, rfl⟩) (To.sat (by repeat (first | exact .nil | exact .done .refl | (apply To.cons; · (repeat (first | exact .head | apply Sel.tail))) | exact .done (by repeat (first | exact .refl | apply Drop.skip)))))

set_option maxRecDepth 8000 in
theorem rshut_spec (b n : Nat) (hn : 1 ≤ n) (hn2 : n ≤ 64) (hb : b ≤ 65536) (kind v : Int) (a : Option Addr) (c : Nat) (l : List Int) (hl : ∀ x ∈ l, 0 ≤ x ∧ x ≤ 18446744073709551615) (hm : l.length ≤ 17592186044416) (A : Assn) [RdA (.slice a l.length c) A l.length (l.map U64)] : FnS Tryz.prog 94 [atV b n, opV' kind v (.slice a l.length c)] [A] (fun u Bs => u = .agg (shutN b l).cells.toArray ∧ Bs = [A]) := by
 refine fn_body Tryz.func94 rfl rfl rfl ?_
 intro W0 R
 simp only [List.zipIdx_cons, List.zipIdx_nil, List.map_cons, List.map_nil, Nat.zero_add, Nat.reduceAdd, List.cons_append, List.nil_append]
 have htop := htop'
 refine g_seq ?_
 refine g_region ?_
 refine gl_n rfl (o_boxA rfl) ?_
 rintro _ _ ⟨b2, rfl, rfl⟩
 refine gl_n rfl (o_boxA rfl) ?_
 rintro _ _ ⟨b3, rfl, rfl⟩
 refine gl_n rfl (o_alloc) ?_
 rintro _ _ ⟨b4, rfl, rfl⟩
 refine gl_nil ?_
 refine ge_then ?_
 refine g_seq ?_
 refine g_region ?_
 first | refine gl_v rfl (o_fldS rfl) ?_ | refine gl_v rfl (o_fld rfl) ?_
 first | refine gl_v rfl (o_load rfl rfl) ?_ | refine gl_v rfl (o_loadS rfl rfl) ?_ | refine gl_v rfl (o_loadC rfl) ?_
 refine gl_v rfl (o_assign rfl) ?_
 refine gl_nil ?_
 refine ge_then ?_
 refine g_seq ?_
 refine g_region ?_
 refine gl_v rfl (o_assign rfl) ?_
 refine gl_nil ?_
 refine ge_then ?_
 refine g_block ?_
 refine g_loop (ι := Nat) (fun x => x ≤ l.length ∧ shutN b (l.drop x) = shutN b l) (fun x => [(6, I64 x), (5, .slice a l.length c), (2, ptr b2 0), (3, ptr b3 0), (4, ptr b4 0)]) (fun x => cel b2 79 [I64 b, I64 n] :: cel b3 52 [I64 kind, U64 v, .slice a l.length c] :: cel b4 56 [.bool false, I64 0, I64 0, U64 0, U64 0, I64 0, U64 0, U64 0] :: A :: R) (fun x => l.length - x) 0 (⟨Nat.zero_le _, rfl⟩) (Keep.cons rfl (Keep.cons rfl (Keep.cons rfl (Keep.cons rfl (Keep.cons rfl (Keep.nil)))))) (To.sat (by repeat (first | exact .nil | exact .done .refl | (apply To.cons; · (repeat (first | exact .head | apply Sel.tail))) | exact .done (by repeat (first | exact .refl | apply Drop.skip))))) ?_
 rintro k ⟨hk, hI⟩
 have hk : k ≤ l.length := hk
 have hI : shutN b (l.drop k) = shutN b l := hI
 refine g_block ?_
 refine g_seq ?_
 refine g_seq ?_
 refine g_region ?_
 refine gl_v rfl (o_move rfl) ?_
 first | refine gl_v rfl (o_len rfl) ?_ | refine gl_v rfl (o_lenL rfl) ?_
 refine gl_v rfl (o_move rfl) ?_
 refine gl_v rfl (o_eql rfl rfl) ?_
 refine gl_nil ?_
 refine ge_then ?_
 refine g_cond rfl (fun hc1 => ?_) (fun hc1 => ?_)
 ·
  first | replace hc1 := of_decide_eq_true hc1 | replace hc1 := lt_f hc1 | replace hc1 := le_f hc1 | replace hc1 := dec_f hc1 | replace hc1 := nlt_t hc1 | replace hc1 := nle_t hc1 | replace hc1 := ndec_t hc1 | replace hc1 := ndec_f hc1 | replace hc1 := nn_t hc1 | replace hc1 := nn_f hc1 | skip
  refine g_seq ?_
  refine g_region ?_
  first | refine gl_v rfl (o_fldS rfl) ?_ | refine gl_v rfl (o_fld rfl) ?_
  first | refine gl_v rfl (o_load rfl rfl) ?_ | refine gl_v rfl (o_loadS rfl rfl) ?_ | refine gl_v rfl (o_loadC rfl) ?_
  refine gl_v rfl (o_build rfl rfl) ?_
  first | refine gl_u (o_storeSA rfl rfl rfl rfl (by simp; omega) (by simp)) ?_ | refine gl_u (o_storeA rfl rfl rfl rfl rfl) ?_
  refine gl_nil ?_
  refine ge_then ?_
  refine g_ret ?_
  refine ge_then_ret ?_
  refine ge_block_ret ?_
  refine ge_then_ret ?_
  refine ge_block_ret ?_
  refine ret1c (.inl rfl) rfl rfl rfl rfl _ (⟨by rw [← hI, drop_end (by omega)]; rfl, rfl⟩) (To.sat (by repeat (first | exact .nil | exact .done .refl | (apply To.cons; · (repeat (first | exact .head | apply Sel.tail))) | exact .done (by repeat (first | exact .refl | apply Drop.skip)))))
 ·
  first | replace hc1 := of_decide_eq_true hc1 | replace hc1 := lt_f hc1 | replace hc1 := le_f hc1 | replace hc1 := dec_f hc1 | replace hc1 := nlt_t hc1 | replace hc1 := nle_t hc1 | replace hc1 := ndec_t hc1 | replace hc1 := ndec_f hc1 | replace hc1 := nn_t hc1 | replace hc1 := nn_f hc1 | skip
  refine g_skip ?_
  refine ge_then ?_
  refine g_seq ?_
  have hk1 : k < l.length := by omega
  have d1 := drop_at hk1
  rw [d1] at hI
  have ht0 := in_at hl k
  refine g_region ?_
  refine gl_v rfl (o_move rfl) ?_
  refine gl_v rfl (o_move rfl) ?_
  refine gl_v rfl (o_idxS rfl rfl (by first | assumption | omega)) ?_
  refine gl_v rfl (o_loadS rfl (map_at (d := 0) (i := k) (by omega))) ?_
  refine gl_v rfl (o_assign rfl) ?_
  refine gl_nil ?_
  refine ge_then ?_
  refine g_seq ?_
  refine g_seq ?_
  refine g_region ?_
  refine gl_v rfl (o_move rfl) ?_
  refine gl_v rfl (o_geq rfl rfl) ?_
  refine gl_nil ?_
  refine ge_then ?_
  refine g_cond rfl (fun hc2 => ?_) (fun hc2 => ?_)
  ·
   first | replace hc2 := of_decide_eq_true hc2 | replace hc2 := lt_f hc2 | replace hc2 := le_f hc2 | replace hc2 := dec_f hc2 | replace hc2 := nlt_t hc2 | replace hc2 := nle_t hc2 | replace hc2 := ndec_t hc2 | replace hc2 := ndec_f hc2 | replace hc2 := nn_t hc2 | replace hc2 := nn_f hc2 | skip
   refine g_seq ?_
   refine g_region ?_
   refine gl_v rfl (o_build rfl rfl) ?_
   first | refine gl_u (o_storeSA rfl rfl rfl rfl (by simp; omega) (by simp)) ?_ | refine gl_u (o_storeA rfl rfl rfl rfl rfl) ?_
   refine gl_nil ?_
   refine ge_then ?_
   refine g_ret ?_
   refine ge_then_ret ?_
   refine ge_block_ret ?_
   refine ge_then_ret ?_
   refine ge_block_ret ?_
   refine ret1c (.inl rfl) rfl rfl rfl rfl _ (⟨by rw [← hI, shutN_top (by omega)]; rfl, rfl⟩) (To.sat (by repeat (first | exact .nil | exact .done .refl | (apply To.cons; · (repeat (first | exact .head | apply Sel.tail))) | exact .done (by repeat (first | exact .refl | apply Drop.skip)))))
  ·
   first | replace hc2 := of_decide_eq_true hc2 | replace hc2 := lt_f hc2 | replace hc2 := le_f hc2 | replace hc2 := dec_f hc2 | replace hc2 := nlt_t hc2 | replace hc2 := nle_t hc2 | replace hc2 := ndec_t hc2 | replace hc2 := ndec_f hc2 | replace hc2 := nn_t hc2 | replace hc2 := nn_f hc2 | skip
   refine g_skip ?_
   refine ge_then ?_
   refine g_seq ?_
   refine g_seq ?_
   refine g_region ?_
   refine gl_v rfl (o_move rfl) ?_
   first | refine gl_v rfl (o_len rfl) ?_ | refine gl_v rfl (o_lenL rfl) ?_
   refine gl_v rfl (o_move rfl) ?_
   refine gl_v rfl (o_addR _ (by first | exact wr_i64 (by omega) | rfl) rfl rfl) ?_
   refine gl_v rfl (o_eql rfl rfl) ?_
   refine gl_nil ?_
   refine ge_then ?_
   refine g_cond rfl (fun hc3 => ?_) (fun hc3 => ?_)
   ·
    first | replace hc3 := of_decide_eq_true hc3 | replace hc3 := lt_f hc3 | replace hc3 := le_f hc3 | replace hc3 := dec_f hc3 | replace hc3 := nlt_t hc3 | replace hc3 := nle_t hc3 | replace hc3 := ndec_t hc3 | replace hc3 := ndec_f hc3 | replace hc3 := nn_t hc3 | replace hc3 := nn_f hc3 | skip
    refine g_seq ?_
    refine g_region ?_
    first | refine gl_v rfl (o_fldS rfl) ?_ | refine gl_v rfl (o_fld rfl) ?_
    first | refine gl_v rfl (o_load rfl rfl) ?_ | refine gl_v rfl (o_loadS rfl rfl) ?_ | refine gl_v rfl (o_loadC rfl) ?_
    refine gl_v rfl (o_move rfl) ?_
    refine gl_v rfl (o_move rfl) ?_
    refine gl_v rfl (o_add rfl rfl) ?_
    refine gl_v rfl (o_build rfl rfl) ?_
    first | refine gl_u (o_storeSA rfl rfl rfl rfl (by simp; omega) (by simp)) ?_ | refine gl_u (o_storeA rfl rfl rfl rfl rfl) ?_
    refine gl_nil ?_
    refine ge_then ?_
    refine g_ret ?_
    refine ge_then_ret ?_
    refine ge_block_ret ?_
    refine ge_then_ret ?_
    refine ge_block_ret ?_
    refine ret1c (.inl rfl) rfl rfl rfl rfl _ (⟨by rw [← hI, drop_end (by omega), shutN, if_neg (by omega)]; rfl, rfl⟩) (To.sat (by repeat (first | exact .nil | exact .done .refl | (apply To.cons; · (repeat (first | exact .head | apply Sel.tail))) | exact .done (by repeat (first | exact .refl | apply Drop.skip)))))
   ·
    first | replace hc3 := of_decide_eq_true hc3 | replace hc3 := lt_f hc3 | replace hc3 := le_f hc3 | replace hc3 := dec_f hc3 | replace hc3 := nlt_t hc3 | replace hc3 := nle_t hc3 | replace hc3 := ndec_t hc3 | replace hc3 := ndec_f hc3 | replace hc3 := nn_t hc3 | replace hc3 := nn_f hc3 | skip
    refine g_skip ?_
    refine ge_then ?_
    refine g_seq ?_
    refine g_seq ?_
    have hk2 : k + 1 < l.length := by omega
    have d2 := drop_at hk2
    rw [d2] at hI
    refine g_region ?_
    refine gl_v rfl (o_move rfl) ?_
    refine gl_v rfl (o_move rfl) ?_
    refine gl_v rfl (o_addR ((k + 1 : Nat) : Int) (by rw [wr_i64 (by omega)]; omega) rfl rfl) ?_
    refine gl_v rfl (o_idxS (j := k + 1) rfl rfl (by omega)) ?_
    refine gl_v rfl (o_loadS rfl (map_at (d := 0) (i := k + 1) (by omega))) ?_
    refine gl_v rfl (o_eql rfl rfl) ?_
    refine gl_nil ?_
    refine ge_then ?_
    refine g_cond rfl (fun hc4 => ?_) (fun hc4 => ?_)
    ·
     first | replace hc4 := of_decide_eq_true hc4 | replace hc4 := lt_f hc4 | replace hc4 := le_f hc4 | replace hc4 := dec_f hc4 | replace hc4 := nlt_t hc4 | replace hc4 := nle_t hc4 | replace hc4 := ndec_t hc4 | replace hc4 := ndec_f hc4 | replace hc4 := nn_t hc4 | replace hc4 := nn_f hc4 | skip
     refine g_seq ?_
     refine g_region ?_
     refine gl_v rfl (o_build rfl rfl) ?_
     first | refine gl_u (o_storeSA rfl rfl rfl rfl (by simp; omega) (by simp)) ?_ | refine gl_u (o_storeA rfl rfl rfl rfl rfl) ?_
     refine gl_nil ?_
     refine ge_then ?_
     refine g_ret ?_
     refine ge_then_ret ?_
     refine ge_block_ret ?_
     refine ge_then_ret ?_
     refine ge_block_ret ?_
     refine ret1c (.inl rfl) rfl rfl rfl rfl _ (⟨by rw [← hI, hc4, shutN_1]; rfl, rfl⟩) (To.sat (by repeat (first | exact .nil | exact .done .refl | (apply To.cons; · (repeat (first | exact .head | apply Sel.tail))) | exact .done (by repeat (first | exact .refl | apply Drop.skip)))))
    ·
     first | replace hc4 := of_decide_eq_true hc4 | replace hc4 := lt_f hc4 | replace hc4 := le_f hc4 | replace hc4 := dec_f hc4 | replace hc4 := nlt_t hc4 | replace hc4 := nle_t hc4 | replace hc4 := ndec_t hc4 | replace hc4 := ndec_f hc4 | replace hc4 := nn_t hc4 | replace hc4 := nn_f hc4 | skip
     refine g_skip ?_
     refine ge_then ?_
     refine g_region ?_
     refine gl_v rfl (o_move rfl) ?_
     refine gl_v rfl (o_addR ((k + 2 : Nat) : Int) (by rw [wr_i64 (by omega)]; omega) rfl rfl) ?_
     refine gl_v rfl (o_assign rfl) ?_
     refine gl_nil ?_
     refine ge_block ?_
     rw [shutN_go (by omega) hc4] at hI
     refine ge_round (k + 2) ⟨by omega, hI⟩ (by omega) (Keep.cons rfl (Keep.cons rfl (Keep.cons rfl (Keep.cons rfl (Keep.cons rfl (Keep.nil)))))) (To.sat (by repeat (first | exact .nil | exact .done .refl | (apply To.cons; · (repeat (first | exact .head | apply Sel.tail))) | exact .done (by repeat (first | exact .refl | apply Drop.skip)))))

set_option maxRecDepth 8000 in
theorem rnext_spec (b n : Nat) (hn : 1 ≤ n) (hn2 : n ≤ 64) (hb : b ≤ 65536) (kind v : Int) (hk : 1 ≤ kind ∧ kind ≤ 5) (a : Option Addr) (c : Nat) (l : List Int) (hl : ∀ x ∈ l, 0 ≤ x ∧ x ≤ 18446744073709551615) (hm : l.length ≤ 17592186044416) (A : Assn) [RdA (.slice a l.length c) A l.length (l.map U64)] : FnS Tryz.prog 70 [atV b n, opV' kind v (.slice a l.length c)] [A] (fun u Bs => u = .agg (nextN b n kind v l).cells.toArray ∧ Bs = [A]) := by
 refine fn_body Tryz.func70 rfl rfl rfl ?_
 intro W0 R
 simp only [List.zipIdx_cons, List.zipIdx_nil, List.map_cons, List.map_nil, Nat.zero_add, Nat.reduceAdd, List.cons_append, List.nil_append]
 have htop := htop'
 refine g_seq ?_
 refine g_region ?_
 refine gl_n rfl (o_boxA rfl) ?_
 rintro _ _ ⟨b2, rfl, rfl⟩
 refine gl_n rfl (o_boxA rfl) ?_
 rintro _ _ ⟨b3, rfl, rfl⟩
 refine gl_n rfl (o_alloc) ?_
 rintro _ _ ⟨b4, rfl, rfl⟩
 refine gl_nil ?_
 refine ge_then ?_
 refine g_seq ?_
 refine g_seq ?_
 refine g_region ?_
 first | refine gl_v rfl (o_fldS rfl) ?_ | refine gl_v rfl (o_fld rfl) ?_
 first | refine gl_v rfl (o_load rfl rfl) ?_ | refine gl_v rfl (o_loadS rfl rfl) ?_ | refine gl_v rfl (o_loadC rfl) ?_
 refine gl_nil ?_
 refine ge_then ?_
 refine g_block ?_
 refine g_seq ?_
 refine g_region ?_
 refine gl_v rfl (o_eql rfl rfl) ?_
 refine gl_v rfl (o_assign rfl) ?_
 refine gl_nil ?_
 refine ge_then ?_
 refine g_cond rfl (fun hc1 => ?_) (fun hc1 => ?_)
 ·
  first | replace hc1 := of_decide_eq_true hc1 | replace hc1 := lt_f hc1 | replace hc1 := le_f hc1 | replace hc1 := dec_f hc1 | replace hc1 := nlt_t hc1 | replace hc1 := nle_t hc1 | replace hc1 := ndec_t hc1 | replace hc1 := ndec_f hc1 | replace hc1 := nn_t hc1 | replace hc1 := nn_f hc1 | skip
  refine g_seq ?_
  refine g_region ?_
  first | refine gl_v rfl (o_loadSA rfl rfl rfl) ?_ | refine gl_v rfl (o_loadA rfl rfl rfl) ?_
  first | refine gl_v rfl (o_loadSA rfl rfl rfl) ?_ | refine gl_v rfl (o_loadA rfl rfl rfl) ?_
  refine gl_c rfl (o_call rfl (rput_spec b n hn hn2 hb kind v a c l hl hm A) (by repeat (first | exact .nil | (apply Part.cons; · (repeat (first | exact .head | apply Sel.tail)))))) ?_
  rintro _ R ⟨_, ⟨rfl, rfl⟩, rfl⟩
  try simp only [List.cons_append, List.nil_append]
  first | refine gl_u (o_storeSA rfl rfl rfl rfl (by simp; omega) (by simp)) ?_ | refine gl_u (o_storeA rfl rfl rfl rfl rfl) ?_
  refine gl_nil ?_
  refine ge_then ?_
  refine g_ret ?_
  refine ge_block_ret ?_
  refine ge_then_ret ?_
  refine ret1c (.inl rfl) rfl rfl rfl rfl _ (⟨by unfold nextN; rw [if_pos hc1]; rfl, rfl⟩) (To.sat (by repeat (first | exact .nil | exact .done .refl | (apply To.cons; · (repeat (first | exact .head | apply Sel.tail))) | exact .done (by repeat (first | exact .refl | apply Drop.skip)))))
 ·
  first | replace hc1 := of_decide_eq_true hc1 | replace hc1 := lt_f hc1 | replace hc1 := le_f hc1 | replace hc1 := dec_f hc1 | replace hc1 := nlt_t hc1 | replace hc1 := nle_t hc1 | replace hc1 := ndec_t hc1 | replace hc1 := ndec_f hc1 | replace hc1 := nn_t hc1 | replace hc1 := nn_f hc1 | skip
  refine g_seq ?_
  refine g_region ?_
  refine gl_v rfl (o_eql rfl rfl) ?_
  refine gl_v rfl (o_assign rfl) ?_
  refine gl_nil ?_
  refine ge_then ?_
  refine g_cond rfl (fun hc2 => ?_) (fun hc2 => ?_)
  ·
   first | replace hc2 := of_decide_eq_true hc2 | replace hc2 := lt_f hc2 | replace hc2 := le_f hc2 | replace hc2 := dec_f hc2 | replace hc2 := nlt_t hc2 | replace hc2 := nle_t hc2 | replace hc2 := ndec_t hc2 | replace hc2 := ndec_f hc2 | replace hc2 := nn_t hc2 | replace hc2 := nn_f hc2 | skip
   refine g_seq ?_
   refine g_region ?_
   first | refine gl_v rfl (o_loadSA rfl rfl rfl) ?_ | refine gl_v rfl (o_loadA rfl rfl rfl) ?_
   first | refine gl_v rfl (o_loadSA rfl rfl rfl) ?_ | refine gl_v rfl (o_loadA rfl rfl rfl) ?_
   refine gl_c rfl (o_call rfl (rshut_spec b n hn hn2 hb kind v a c l hl hm A) (by repeat (first | exact .nil | (apply Part.cons; · (repeat (first | exact .head | apply Sel.tail)))))) ?_
   rintro _ R ⟨_, ⟨rfl, rfl⟩, rfl⟩
   try simp only [List.cons_append, List.nil_append]
   first | refine gl_u (o_storeSA rfl rfl rfl rfl (by simp; omega) (by simp)) ?_ | refine gl_u (o_storeA rfl rfl rfl rfl rfl) ?_
   refine gl_nil ?_
   refine ge_then ?_
   refine g_ret ?_
   refine ge_block_ret ?_
   refine ge_then_ret ?_
   refine ret1c (.inl rfl) rfl rfl rfl rfl _ (⟨by unfold nextN; rw [if_neg hc1, if_pos hc2]; rfl, rfl⟩) (To.sat (by repeat (first | exact .nil | exact .done .refl | (apply To.cons; · (repeat (first | exact .head | apply Sel.tail))) | exact .done (by repeat (first | exact .refl | apply Drop.skip)))))
  ·
   first | replace hc2 := of_decide_eq_true hc2 | replace hc2 := lt_f hc2 | replace hc2 := le_f hc2 | replace hc2 := dec_f hc2 | replace hc2 := nlt_t hc2 | replace hc2 := nle_t hc2 | replace hc2 := ndec_t hc2 | replace hc2 := ndec_f hc2 | replace hc2 := nn_t hc2 | replace hc2 := nn_f hc2 | skip
   refine g_skip ?_
   refine ge_block ?_
   refine ge_then ?_
   refine g_seq ?_
   refine g_region ?_
   refine gl_v rfl (o_assign rfl) ?_
   refine gl_nil ?_
   refine ge_then ?_
   refine g_seq ?_
   refine g_region ?_
   first | refine gl_v rfl (o_fldS rfl) ?_ | refine gl_v rfl (o_fld rfl) ?_
   first | refine gl_v rfl (o_load rfl rfl) ?_ | refine gl_v rfl (o_loadS rfl rfl) ?_ | refine gl_v rfl (o_loadC rfl) ?_
   refine gl_v rfl (o_assign rfl) ?_
   refine gl_nil ?_
   refine ge_then ?_
   refine g_seq ?_
   refine g_region ?_
   refine gl_v rfl (o_assign rfl) ?_
   refine gl_nil ?_
   refine ge_then ?_
   refine g_cut (fun act wo => ∃ (k : Nat) (t : Int), k ≤ 1 ∧ k ≤ l.length ∧ nextN b n kind v l = headN b n kind t (l.drop k) ∧ HasSl Tryz.f70.ntmps [(5, I64 k), (7, U64 t), (6, .slice a l.length c), (2, ptr b2 0), (3, ptr b3 0), (4, ptr b4 0)] act ∧ St W0 (cel b2 79 [I64 b, I64 n] :: cel b3 52 [I64 kind, U64 v, .slice a l.length c] :: cel b4 56 [.bool false, I64 0, I64 0, U64 0, U64 0, I64 0, U64 0, U64 0] :: A :: R) wo) ?_ ?_
   ·
    refine g_seq ?_
    refine g_region ?_
    first | refine gl_v rfl (o_fldS rfl) ?_ | refine gl_v rfl (o_fld rfl) ?_
    first | refine gl_v rfl (o_load rfl rfl) ?_ | refine gl_v rfl (o_loadS rfl rfl) ?_ | refine gl_v rfl (o_loadC rfl) ?_
    refine gl_v rfl (o_eql rfl rfl) ?_
    refine gl_nil ?_
    refine ge_then ?_
    refine g_cond rfl (fun hc3 => ?_) (fun hc3 => ?_)
    ·
     first | replace hc3 := of_decide_eq_true hc3 | replace hc3 := lt_f hc3 | replace hc3 := le_f hc3 | replace hc3 := dec_f hc3 | replace hc3 := nlt_t hc3 | replace hc3 := nle_t hc3 | replace hc3 := ndec_t hc3 | replace hc3 := ndec_f hc3 | replace hc3 := nn_t hc3 | replace hc3 := nn_f hc3 | skip
     refine g_seq ?_
     refine g_seq ?_
     refine g_region ?_
     refine gl_v rfl (o_move rfl) ?_
     first | refine gl_v rfl (o_len rfl) ?_ | refine gl_v rfl (o_lenL rfl) ?_
     refine gl_v rfl (o_eql rfl rfl) ?_
     refine gl_nil ?_
     refine ge_then ?_
     refine g_cond rfl (fun hc4 => ?_) (fun hc4 => ?_)
     ·
      first | replace hc4 := of_decide_eq_true hc4 | replace hc4 := lt_f hc4 | replace hc4 := le_f hc4 | replace hc4 := dec_f hc4 | replace hc4 := nlt_t hc4 | replace hc4 := nle_t hc4 | replace hc4 := ndec_t hc4 | replace hc4 := ndec_f hc4 | replace hc4 := nn_t hc4 | replace hc4 := nn_f hc4 | skip
      refine g_seq ?_
      refine g_region ?_
      first | refine gl_v rfl (o_fldS rfl) ?_ | refine gl_v rfl (o_fld rfl) ?_
      first | refine gl_v rfl (o_load rfl rfl) ?_ | refine gl_v rfl (o_loadS rfl rfl) ?_ | refine gl_v rfl (o_loadC rfl) ?_
      refine gl_v rfl (o_build rfl rfl) ?_
      first | refine gl_u (o_storeSA rfl rfl rfl rfl (by simp; omega) (by simp)) ?_ | refine gl_u (o_storeA rfl rfl rfl rfl rfl) ?_
      refine gl_nil ?_
      refine ge_then ?_
      refine g_ret ?_
      refine ge_then_ret ?_
      refine ge_then_ret ?_
      refine ret1c (.inl rfl) rfl rfl rfl rfl _ (⟨by unfold nextN; rw [if_neg hc1, if_neg hc2, if_pos hc3]; obtain rfl : l = [] := List.eq_nil_of_length_eq_zero (by omega); rfl, rfl⟩) (To.sat (by repeat (first | exact .nil | exact .done .refl | (apply To.cons; · (repeat (first | exact .head | apply Sel.tail))) | exact .done (by repeat (first | exact .refl | apply Drop.skip)))))
     ·
      first | replace hc4 := of_decide_eq_true hc4 | replace hc4 := lt_f hc4 | replace hc4 := le_f hc4 | replace hc4 := dec_f hc4 | replace hc4 := nlt_t hc4 | replace hc4 := nle_t hc4 | replace hc4 := ndec_t hc4 | replace hc4 := ndec_f hc4 | replace hc4 := nn_t hc4 | replace hc4 := nn_f hc4 | skip
      refine g_skip ?_
      refine ge_then ?_
      refine g_seq ?_
      have hk1 : 0 < l.length := by omega
      refine g_region ?_
      refine gl_v rfl (o_move rfl) ?_
      refine gl_v rfl (o_idxS (j := 0) rfl rfl (by omega)) ?_
      refine gl_v rfl (o_loadS rfl (map_at (d := 0) (i := 0) (by omega))) ?_
      refine gl_v rfl (o_assign rfl) ?_
      refine gl_nil ?_
      refine ge_then ?_
      refine g_region ?_
      refine gl_v rfl (o_assign rfl) ?_
      refine gl_nil ?_
      exact fun act wo hsl st => ⟨1, l.getD 0 0, Nat.le_refl _, hk1, by unfold nextN; rw [if_neg hc1, if_neg hc2, if_pos hc3]; match l, hk1 with | t :: r, _ => rfl, hsl.keep (Keep.cons rfl (Keep.cons rfl (Keep.cons rfl (Keep.cons rfl (Keep.cons rfl (Keep.cons rfl (Keep.nil))))))), st.imp (To.sat (by repeat (first | exact .nil | exact .done .refl | (apply To.cons; · (repeat (first | exact .head | apply Sel.tail))) | exact .done (by repeat (first | exact .refl | apply Drop.skip)))))⟩
    ·
     first | replace hc3 := of_decide_eq_true hc3 | replace hc3 := lt_f hc3 | replace hc3 := le_f hc3 | replace hc3 := dec_f hc3 | replace hc3 := nlt_t hc3 | replace hc3 := nle_t hc3 | replace hc3 := ndec_t hc3 | replace hc3 := ndec_f hc3 | replace hc3 := nn_t hc3 | replace hc3 := nn_f hc3 | skip
     refine g_skip ?_
     exact fun act wo hsl st => ⟨0, 0, Nat.zero_le _, Nat.zero_le _, by unfold nextN; rw [if_neg hc1, if_neg hc2, if_neg hc3]; rfl, hsl.keep (Keep.cons rfl (Keep.cons rfl (Keep.cons rfl (Keep.cons rfl (Keep.cons rfl (Keep.cons rfl (Keep.nil))))))), st.imp (To.sat (by repeat (first | exact .nil | exact .done .refl | (apply To.cons; · (repeat (first | exact .head | apply Sel.tail))) | exact .done (by repeat (first | exact .refl | apply Drop.skip)))))⟩
   ·
    rintro act wo ⟨k, t, hk0, hkl, hN, hsl, st⟩
    refine g_of ?_ hsl st
    clear hsl st act wo
    refine g_seq ?_
    refine g_seq ?_
    refine g_region ?_
    refine gl_v rfl (o_move rfl) ?_
    first | refine gl_v rfl (o_len rfl) ?_ | refine gl_v rfl (o_lenL rfl) ?_
    refine gl_v rfl (o_move rfl) ?_
    refine gl_v rfl (o_eql rfl rfl) ?_
    refine gl_nil ?_
    refine ge_then ?_
    refine g_cond rfl (fun hc5 => ?_) (fun hc5 => ?_)
    ·
     first | replace hc5 := of_decide_eq_true hc5 | replace hc5 := lt_f hc5 | replace hc5 := le_f hc5 | replace hc5 := dec_f hc5 | replace hc5 := nlt_t hc5 | replace hc5 := nle_t hc5 | replace hc5 := ndec_t hc5 | replace hc5 := ndec_f hc5 | replace hc5 := nn_t hc5 | replace hc5 := nn_f hc5 | skip
     refine g_seq ?_
     refine g_region ?_
     first | refine gl_v rfl (o_fldS rfl) ?_ | refine gl_v rfl (o_fld rfl) ?_
     first | refine gl_v rfl (o_load rfl rfl) ?_ | refine gl_v rfl (o_loadS rfl rfl) ?_ | refine gl_v rfl (o_loadC rfl) ?_
     refine gl_v rfl (o_addR ((b : Int) + 1) (wr_i64 (by omega)) rfl rfl) ?_
     refine gl_v rfl (o_build rfl rfl) ?_
     first | refine gl_u (o_storeSA rfl rfl rfl rfl (by simp; omega) (by simp)) ?_ | refine gl_u (o_storeA rfl rfl rfl rfl rfl) ?_
     refine gl_nil ?_
     refine ge_then ?_
     refine g_ret ?_
     refine ge_then_ret ?_
     refine ret1c (.inl rfl) rfl rfl rfl rfl _ (⟨by rw [hN, drop_end (by omega)]; rfl, rfl⟩) (To.sat (by repeat (first | exact .nil | exact .done .refl | (apply To.cons; · (repeat (first | exact .head | apply Sel.tail))) | exact .done (by repeat (first | exact .refl | apply Drop.skip)))))
    ·
     first | replace hc5 := of_decide_eq_true hc5 | replace hc5 := lt_f hc5 | replace hc5 := le_f hc5 | replace hc5 := dec_f hc5 | replace hc5 := nlt_t hc5 | replace hc5 := nle_t hc5 | replace hc5 := ndec_t hc5 | replace hc5 := ndec_f hc5 | replace hc5 := nn_t hc5 | replace hc5 := nn_f hc5 | skip
     refine g_skip ?_
     refine ge_then ?_
     refine g_seq ?_
     have hk1 : k < l.length := by omega
     have d1 := drop_at hk1
     rw [d1] at hN
     have ht0 := in_at hl k
     refine g_region ?_
     refine gl_v rfl (o_move rfl) ?_
     refine gl_v rfl (o_move rfl) ?_
     refine gl_v rfl (o_idxS rfl rfl (by first | assumption | omega)) ?_
     refine gl_v rfl (o_loadS rfl (map_at (d := 0) (i := k) (by omega))) ?_
     refine gl_v rfl (o_assign rfl) ?_
     refine gl_nil ?_
     refine ge_then ?_
     refine g_cut (fun act wo => ¬ (kind = 3 ∧ t = uw (l.getD k 0 + top)) ∧ HasSl Tryz.f70.ntmps [(8, U64 (l.getD k 0)), (5, I64 k), (7, U64 t), (6, .slice a l.length c), (2, ptr b2 0), (3, ptr b3 0), (4, ptr b4 0)] act ∧ St W0 (cel b2 79 [I64 b, I64 n] :: cel b3 52 [I64 kind, U64 v, .slice a l.length c] :: cel b4 56 [.bool false, I64 0, I64 0, U64 0, U64 0, I64 0, U64 0, U64 0] :: A :: R) wo) ?_ ?_
     ·
      refine g_seq ?_
      refine g_region ?_
      first | refine gl_v rfl (o_fldS rfl) ?_ | refine gl_v rfl (o_fld rfl) ?_
      first | refine gl_v rfl (o_load rfl rfl) ?_ | refine gl_v rfl (o_loadS rfl rfl) ?_ | refine gl_v rfl (o_loadC rfl) ?_
      refine gl_v rfl (o_eql rfl rfl) ?_
      refine gl_v rfl (o_move rfl) ?_
      refine gl_g rfl rfl (fun hc6 => ?_) (fun hc6 => ?_) rfl
      ·
       have hc6' := hc6
       first | replace hc6' := of_decide_eq_true hc6' | replace hc6' := lt_f hc6' | replace hc6' := le_f hc6' | replace hc6' := dec_f hc6' | replace hc6' := nlt_t hc6' | replace hc6' := nle_t hc6' | replace hc6' := ndec_t hc6' | replace hc6' := ndec_f hc6' | replace hc6' := nn_t hc6' | replace hc6' := nn_f hc6' | skip
       refine gl_v rfl (o_move rfl) ?_
       refine gl_gT rfl rfl hc6 ?_
       refine gl_v rfl (o_move rfl) ?_
       refine gl_gT rfl rfl hc6 ?_
       refine gl_v rfl (o_add rfl rfl) ?_
       refine gl_gT rfl rfl hc6 ?_
       refine gl_v rfl (o_eql rfl rfl) ?_
       refine gl_v rfl (o_pickT hc6 rfl rfl) ?_
       refine gl_nil ?_
       refine ge_then ?_
       refine g_cond rfl (fun hc7 => ?_) (fun hc7 => ?_)
       ·
        first | replace hc7 := of_decide_eq_true hc7 | replace hc7 := lt_f hc7 | replace hc7 := le_f hc7 | replace hc7 := dec_f hc7 | replace hc7 := nlt_t hc7 | replace hc7 := nle_t hc7 | replace hc7 := ndec_t hc7 | replace hc7 := ndec_f hc7 | replace hc7 := nn_t hc7 | replace hc7 := nn_f hc7 | skip
        refine g_seq ?_
        refine g_region ?_
        refine gl_v rfl (o_build rfl rfl) ?_
        first | refine gl_u (o_storeSA rfl rfl rfl rfl (by simp; omega) (by simp)) ?_ | refine gl_u (o_storeA rfl rfl rfl rfl rfl) ?_
        refine gl_nil ?_
        refine ge_then ?_
        refine g_ret ?_
        refine ge_then_ret ?_
        refine ret1c (.inl rfl) rfl rfl rfl rfl _ (⟨by rw [hN, headN_end ⟨by omega, by assumption⟩]; rfl, rfl⟩) (To.sat (by repeat (first | exact .nil | exact .done .refl | (apply To.cons; · (repeat (first | exact .head | apply Sel.tail))) | exact .done (by repeat (first | exact .refl | apply Drop.skip)))))
       ·
        first | replace hc7 := of_decide_eq_true hc7 | replace hc7 := lt_f hc7 | replace hc7 := le_f hc7 | replace hc7 := dec_f hc7 | replace hc7 := nlt_t hc7 | replace hc7 := nle_t hc7 | replace hc7 := ndec_t hc7 | replace hc7 := ndec_f hc7 | replace hc7 := nn_t hc7 | replace hc7 := nn_f hc7 | skip
        refine g_skip ?_
        exact fun act wo hsl st => ⟨fun e => hc7 e.2, hsl.keep (Keep.cons rfl (Keep.cons rfl (Keep.cons rfl (Keep.cons rfl (Keep.cons rfl (Keep.cons rfl (Keep.cons rfl (Keep.nil)))))))), st.imp (To.sat (by repeat (first | exact .nil | exact .done .refl | (apply To.cons; · (repeat (first | exact .head | apply Sel.tail))) | exact .done (by repeat (first | exact .refl | apply Drop.skip)))))⟩
      ·
       have hc6' := hc6
       first | replace hc6' := of_decide_eq_true hc6' | replace hc6' := lt_f hc6' | replace hc6' := le_f hc6' | replace hc6' := dec_f hc6' | replace hc6' := nlt_t hc6' | replace hc6' := nle_t hc6' | replace hc6' := ndec_t hc6' | replace hc6' := ndec_f hc6' | replace hc6' := nn_t hc6' | replace hc6' := nn_f hc6' | skip
       simp only [putO]
       refine gl_gF rfl rfl hc6 rfl ?_
       refine gl_gF rfl rfl hc6 rfl ?_
       refine gl_gF rfl rfl hc6 rfl ?_
       refine gl_v rfl (o_pickF hc6 rfl rfl) ?_
       refine gl_nil ?_
       refine ge_then ?_
       refine g_cond_false rfl ?_
       refine g_skip ?_
       exact fun act wo hsl st => ⟨fun e => by omega, hsl.keep (Keep.cons rfl (Keep.cons rfl (Keep.cons rfl (Keep.cons rfl (Keep.cons rfl (Keep.cons rfl (Keep.cons rfl (Keep.nil)))))))), st.imp (To.sat (by repeat (first | exact .nil | exact .done .refl | (apply To.cons; · (repeat (first | exact .head | apply Sel.tail))) | exact .done (by repeat (first | exact .refl | apply Drop.skip)))))⟩
     ·
      rintro act wo ⟨hne, hsl, st⟩
      refine g_of ?_ hsl st
      clear hsl st act wo
      refine g_seq ?_
      refine g_seq ?_
      refine g_region ?_
      refine gl_v rfl (o_move rfl) ?_
      first | refine gl_v rfl (o_len rfl) ?_ | refine gl_v rfl (o_lenL rfl) ?_
      refine gl_v rfl (o_move rfl) ?_
      refine gl_v rfl (o_addR ((k + 1 : Nat) : Int) (by rw [wr_i64 (by omega)]; omega) rfl rfl) ?_
      refine gl_v rfl (o_eql rfl rfl) ?_
      refine gl_nil ?_
      refine ge_then ?_
      refine g_cond rfl (fun hc8 => ?_) (fun hc8 => ?_)
      ·
       first | replace hc8 := of_decide_eq_true hc8 | replace hc8 := lt_f hc8 | replace hc8 := le_f hc8 | replace hc8 := dec_f hc8 | replace hc8 := nlt_t hc8 | replace hc8 := nle_t hc8 | replace hc8 := ndec_t hc8 | replace hc8 := ndec_f hc8 | replace hc8 := nn_t hc8 | replace hc8 := nn_f hc8 | skip
       refine g_seq ?_
       refine g_region ?_
       first | refine gl_v rfl (o_loadSA rfl rfl rfl) ?_ | refine gl_v rfl (o_loadA rfl rfl rfl) ?_
       refine gl_v rfl (o_move rfl) ?_
       refine gl_c rfl (o_call rfl (rturn_spec b n hn hn2 hb (l.getD k 0) (in_at hl _).1) (by repeat (first | exact .nil | (apply Part.cons; · (repeat (first | exact .head | apply Sel.tail)))))) ?_
       rintro _ R ⟨_, ⟨rfl, rfl⟩, rfl⟩
       try simp only [List.cons_append, List.nil_append]
       refine gl_v rfl (o_build rfl rfl) ?_
       first | refine gl_u (o_storeSA rfl rfl rfl rfl (by simp; omega) (by simp)) ?_ | refine gl_u (o_storeA rfl rfl rfl rfl rfl) ?_
       refine gl_nil ?_
       refine ge_then ?_
       refine g_ret ?_
       refine ge_then_ret ?_
       refine ret1c (.inl rfl) rfl rfl rfl rfl _ (⟨by rw [hN, drop_end (by omega), headN_0 hne]; rfl, rfl⟩) (To.sat (by repeat (first | exact .nil | exact .done .refl | (apply To.cons; · (repeat (first | exact .head | apply Sel.tail))) | exact .done (by repeat (first | exact .refl | apply Drop.skip)))))
      ·
       first | replace hc8 := of_decide_eq_true hc8 | replace hc8 := lt_f hc8 | replace hc8 := le_f hc8 | replace hc8 := dec_f hc8 | replace hc8 := nlt_t hc8 | replace hc8 := nle_t hc8 | replace hc8 := ndec_t hc8 | replace hc8 := ndec_f hc8 | replace hc8 := nn_t hc8 | replace hc8 := nn_f hc8 | skip
       refine g_skip ?_
       refine ge_then ?_
       refine g_seq ?_
       refine g_seq ?_
       have hk2 : k + 1 < l.length := by omega
       have d2 := drop_at hk2
       rw [d2] at hN
       have hs0 := in_at hl (k + 1)
       have hd := List.length_drop (i := k + 1 + 1) (l := l)
       refine g_draw [7] [7] [(0, .stab), (1, .stab), (2, .stab), (3, .stab), (4, .stab), (5, .loc), (6, .loc), (7, .eff), (8, .loc), (9, .loc)] [A, cel b2 79 [I64 b, I64 n], cel b3 52 [I64 kind, U64 v, .slice a l.length c], cel b4 56 [.bool false, I64 0, I64 0, U64 0, U64 0, I64 0, U64 0, U64 0]] mixed (by kernel_rfl) ?_
       refine go_vs rfl .none rfl (o_move rfl) (To.sat (by repeat (first | exact .nil | exact .done .refl | (apply To.cons; · (repeat (first | exact .head | apply Sel.tail))) | exact .done (by repeat (first | exact .refl | apply Drop.skip))))) ?_
       refine go_vs rfl .none rfl (o_move rfl) (To.sat (by repeat (first | exact .nil | exact .done .refl | (apply To.cons; · (repeat (first | exact .head | apply Sel.tail))) | exact .done (by repeat (first | exact .refl | apply Drop.skip))))) ?_
       refine go_vs rfl .none rfl (o_addR ((k + 1 : Nat) : Int) (by rw [wr_i64 (by omega)]; omega) rfl rfl) (To.sat (by repeat (first | exact .nil | exact .done .refl | (apply To.cons; · (repeat (first | exact .head | apply Sel.tail))) | exact .done (by repeat (first | exact .refl | apply Drop.skip))))) ?_
       refine go_vs rfl .none rfl (o_idxS (j := k + 1) rfl rfl (by omega)) (To.sat (by repeat (first | exact .nil | exact .done .refl | (apply To.cons; · (repeat (first | exact .head | apply Sel.tail))) | exact .done (by repeat (first | exact .refl | apply Drop.skip))))) ?_
       refine go_vs rfl .none rfl (o_loadS rfl (map_at (d := 0) (i := k + 1) (by omega))) (To.sat (by repeat (first | exact .nil | exact .done .refl | (apply To.cons; · (repeat (first | exact .head | apply Sel.tail))) | exact .done (by repeat (first | exact .refl | apply Drop.skip))))) ?_
       first | refine go_v rfl .none rfl (o_loadSA rfl rfl rfl) ?_ | refine go_v rfl .none rfl (o_loadA rfl rfl rfl) ?_
       refine go_v rfl .none rfl (o_move rfl) ?_
       refine go_c rfl .none rfl (o_call rfl (rwait_spec b n hn hn2 (l.getD k 0) (in_at hl _).1 (in_at hl _).2) (by repeat (first | exact .nil | (apply Part.cons; · (repeat (first | exact .head | apply Sel.tail)))))) ?_
       rintro _ R ⟨_, ⟨rfl, rfl⟩, rfl⟩
       try simp only [List.cons_append, List.nil_append]
       refine ⟨(fun _ => (To.sat (by repeat (first | exact .nil | exact .done .refl | (apply To.cons; · (repeat (first | exact .head | apply Sel.tail))) | exact .done (by repeat (first | exact .refl | apply Drop.skip)))))), ?_⟩
       refine go_v rfl .none rfl (o_add rfl rfl) ?_
       refine go_v rfl .none rfl (o_neq rfl rfl) ?_
       refine go_nil ?_
       refine ge_then ?_
       refine g_cond rfl (fun hc9 => ?_) (fun hc9 => ?_)
       ·
        first | replace hc9 := of_decide_eq_true hc9 | replace hc9 := lt_f hc9 | replace hc9 := le_f hc9 | replace hc9 := dec_f hc9 | replace hc9 := nlt_t hc9 | replace hc9 := nle_t hc9 | replace hc9 := ndec_t hc9 | replace hc9 := ndec_f hc9 | replace hc9 := nn_t hc9 | replace hc9 := nn_f hc9 | skip
        refine g_seq ?_
        refine g_region ?_
        refine gl_v rfl (o_build rfl rfl) ?_
        first | refine gl_u (o_storeSA rfl rfl rfl rfl (by simp; omega) (by simp)) ?_ | refine gl_u (o_storeA rfl rfl rfl rfl rfl) ?_
        refine gl_nil ?_
        refine ge_then ?_
        refine g_ret ?_
        refine ge_then_ret ?_
        refine ret1c (.inl rfl) rfl rfl rfl rfl _ (⟨by rw [hN, headN_none hne (by assumption)]; rfl, rfl⟩) (To.sat (by repeat (first | exact .nil | exact .done .refl | (apply To.cons; · (repeat (first | exact .head | apply Sel.tail))) | exact .done (by repeat (first | exact .refl | apply Drop.skip)))))
       ·
        first | replace hc9 := of_decide_eq_true hc9 | replace hc9 := lt_f hc9 | replace hc9 := le_f hc9 | replace hc9 := dec_f hc9 | replace hc9 := nlt_t hc9 | replace hc9 := nle_t hc9 | replace hc9 := ndec_t hc9 | replace hc9 := ndec_f hc9 | replace hc9 := nn_t hc9 | replace hc9 := nn_f hc9 | skip
        refine g_skip ?_
        refine ge_then ?_
        refine g_seq ?_
        refine g_seq ?_
        refine g_region ?_
        first | refine gl_v rfl (o_fldS rfl) ?_ | refine gl_v rfl (o_fld rfl) ?_
        first | refine gl_v rfl (o_load rfl rfl) ?_ | refine gl_v rfl (o_loadS rfl rfl) ?_ | refine gl_v rfl (o_loadC rfl) ?_
        refine gl_v rfl (o_eql rfl rfl) ?_
        refine gl_nil ?_
        refine ge_then ?_
        refine g_cond rfl (fun hc10 => ?_) (fun hc10 => ?_)
        ·
         first | replace hc10 := of_decide_eq_true hc10 | replace hc10 := lt_f hc10 | replace hc10 := le_f hc10 | replace hc10 := dec_f hc10 | replace hc10 := nlt_t hc10 | replace hc10 := nle_t hc10 | replace hc10 := ndec_t hc10 | replace hc10 := ndec_f hc10 | replace hc10 := nn_t hc10 | replace hc10 := nn_f hc10 | skip
         refine g_seq ?_
         refine g_region ?_
         refine gl_v rfl (o_build rfl rfl) ?_
         first | refine gl_u (o_storeSA rfl rfl rfl rfl (by simp; omega) (by simp)) ?_ | refine gl_u (o_storeA rfl rfl rfl rfl rfl) ?_
         refine gl_nil ?_
         refine ge_then ?_
         refine g_ret ?_
         refine ge_then_ret ?_
         refine ret1c (.inl rfl) rfl rfl rfl rfl _ (⟨by rw [hN, headN_look hne (by omega) (by omega)]; rfl, rfl⟩) (To.sat (by repeat (first | exact .nil | exact .done .refl | (apply To.cons; · (repeat (first | exact .head | apply Sel.tail))) | exact .done (by repeat (first | exact .refl | apply Drop.skip)))))
        ·
         first | replace hc10 := of_decide_eq_true hc10 | replace hc10 := lt_f hc10 | replace hc10 := le_f hc10 | replace hc10 := dec_f hc10 | replace hc10 := nlt_t hc10 | replace hc10 := nle_t hc10 | replace hc10 := ndec_t hc10 | replace hc10 := ndec_f hc10 | replace hc10 := nn_t hc10 | replace hc10 := nn_f hc10 | skip
         refine g_skip ?_
         refine ge_then ?_
         refine g_seq ?_
         refine g_seq ?_
         refine g_region ?_
         refine gl_v rfl (o_move rfl) ?_
         first | refine gl_v rfl (o_len rfl) ?_ | refine gl_v rfl (o_lenL rfl) ?_
         refine gl_v rfl (o_move rfl) ?_
         refine gl_v rfl (o_subR ((l.length - k : Nat) : Int) (by rw [wr_i64 (by omega)]; omega) rfl rfl) ?_
         refine gl_nil ?_
         refine ge_then ?_
         refine g_block ?_
         refine g_seq ?_
         refine g_region ?_
         refine gl_v rfl (o_eql rfl rfl) ?_
         refine gl_v rfl (o_assign rfl) ?_
         refine gl_nil ?_
         refine ge_then ?_
         refine g_cond rfl (fun hc11 => ?_) (fun hc11 => ?_)
         ·
          first | replace hc11 := of_decide_eq_true hc11 | replace hc11 := lt_f hc11 | replace hc11 := le_f hc11 | replace hc11 := dec_f hc11 | replace hc11 := nlt_t hc11 | replace hc11 := nle_t hc11 | replace hc11 := ndec_t hc11 | replace hc11 := ndec_f hc11 | replace hc11 := nn_t hc11 | replace hc11 := nn_f hc11 | skip
          refine g_seq ?_
          refine g_region ?_
          first | refine gl_v rfl (o_loadSA rfl rfl rfl) ?_ | refine gl_v rfl (o_loadA rfl rfl rfl) ?_
          refine gl_v rfl (o_move rfl) ?_
          refine gl_c rfl (o_call rfl (rturn_spec b n hn hn2 hb (l.getD k 0) (in_at hl _).1) (by repeat (first | exact .nil | (apply Part.cons; · (repeat (first | exact .head | apply Sel.tail)))))) ?_
          rintro _ R ⟨_, ⟨rfl, rfl⟩, rfl⟩
          try simp only [List.cons_append, List.nil_append]
          refine gl_v rfl (o_addR (tnI b n (l.getD k 0) + 1) (wr_i64 (by have := tn_top (b := b) hn (l.getD k 0); simp only [tnI]; omega)) rfl rfl) ?_
          refine gl_v rfl (o_build rfl rfl) ?_
          first | refine gl_u (o_storeSA rfl rfl rfl rfl (by simp; omega) (by simp)) ?_ | refine gl_u (o_storeA rfl rfl rfl rfl rfl) ?_
          refine gl_nil ?_
          refine ge_then ?_
          refine g_ret ?_
          refine ge_block_ret ?_
          refine ge_then_ret ?_
          refine ret1c (.inl rfl) rfl rfl rfl rfl _ (⟨by rw [hN, headN_2 hne (by omega) (by omega) (by omega)]; rfl, rfl⟩) (To.sat (by repeat (first | exact .nil | exact .done .refl | (apply To.cons; · (repeat (first | exact .head | apply Sel.tail))) | exact .done (by repeat (first | exact .refl | apply Drop.skip)))))
         ·
          first | replace hc11 := of_decide_eq_true hc11 | replace hc11 := lt_f hc11 | replace hc11 := le_f hc11 | replace hc11 := dec_f hc11 | replace hc11 := nlt_t hc11 | replace hc11 := nle_t hc11 | replace hc11 := ndec_t hc11 | replace hc11 := ndec_f hc11 | replace hc11 := nn_t hc11 | replace hc11 := nn_f hc11 | skip
          refine g_seq ?_
          refine g_region ?_
          refine gl_v rfl (o_eql rfl rfl) ?_
          refine gl_v rfl (o_assign rfl) ?_
          refine gl_nil ?_
          refine ge_then ?_
          refine g_cond rfl (fun hc12 => ?_) (fun hc12 => ?_)
          ·
           first | replace hc12 := of_decide_eq_true hc12 | replace hc12 := lt_f hc12 | replace hc12 := le_f hc12 | replace hc12 := dec_f hc12 | replace hc12 := nlt_t hc12 | replace hc12 := nle_t hc12 | replace hc12 := ndec_t hc12 | replace hc12 := ndec_f hc12 | replace hc12 := nn_t hc12 | replace hc12 := nn_f hc12 | skip
           refine g_seq ?_
           refine g_draw [2, 5, 8] [2] [(0, .loc), (1, .loc), (3, .stab), (4, .stab), (2, .eff), (5, .eff), (6, .loc), (7, .loc), (8, .eff)] [cel b2 79 [I64 b, I64 n], cel b3 52 [I64 kind, U64 v, .slice a l.length c], cel b4 56 [.bool false, I64 0, I64 0, U64 0, U64 0, I64 0, U64 0, U64 0]] mixed (by kernel_rfl) ?_
           first | refine go_v rfl .none rfl (o_loadSA rfl rfl rfl) ?_ | refine go_v rfl .none rfl (o_loadA rfl rfl rfl) ?_
           refine go_v rfl .none rfl (o_move rfl) ?_
           first | refine go_vs rfl .none rfl (o_loadSA rfl rfl rfl) (To.sat (by repeat (first | exact .nil | exact .done .refl | (apply To.cons; · (repeat (first | exact .head | apply Sel.tail))) | exact .done (by repeat (first | exact .refl | apply Drop.skip))))) ?_ | refine go_vs rfl .none rfl (o_loadA rfl rfl rfl) (To.sat (by repeat (first | exact .nil | exact .done .refl | (apply To.cons; · (repeat (first | exact .head | apply Sel.tail))) | exact .done (by repeat (first | exact .refl | apply Drop.skip))))) ?_
           refine go_vs rfl .none rfl (o_move rfl) (To.sat (by repeat (first | exact .nil | exact .done .refl | (apply To.cons; · (repeat (first | exact .head | apply Sel.tail))) | exact .done (by repeat (first | exact .refl | apply Drop.skip))))) ?_
           refine go_c rfl .none rfl (o_call rfl (rturn_spec b n hn hn2 hb (l.getD k 0) (in_at hl _).1) (by repeat (first | exact .nil | (apply Part.cons; · (repeat (first | exact .head | apply Sel.tail)))))) ?_
           rintro _ R ⟨_, ⟨rfl, rfl⟩, rfl⟩
           try simp only [List.cons_append, List.nil_append]
           refine ⟨(fun _ => (To.sat (by repeat (first | exact .nil | exact .done .refl | (apply To.cons; · (repeat (first | exact .head | apply Sel.tail))) | exact .done (by repeat (first | exact .refl | apply Drop.skip)))))), ?_⟩
           refine go_c rfl .none rfl (o_call rfl (rwait_spec b n hn hn2 (l.getD k 0) (in_at hl _).1 (in_at hl _).2) (by repeat (first | exact .nil | (apply Part.cons; · (repeat (first | exact .head | apply Sel.tail)))))) ?_
           rintro _ R ⟨_, ⟨rfl, rfl⟩, rfl⟩
           try simp only [List.cons_append, List.nil_append]
           refine ⟨(fun hG => absurd hG (by decide)), ?_⟩
           refine go_v rfl .none rfl (o_add rfl rfl) ?_
           refine go_v rfl .none rfl (o_build rfl rfl) ?_
           first | refine go_u rfl .none (o_storeSA rfl rfl rfl rfl (by simp; omega) (by simp)) (fun hG => absurd hG (by decide)) ?_ | refine go_u rfl .none (o_storeA rfl rfl rfl rfl rfl) (fun hG => absurd hG (by decide)) ?_
           refine go_nil ?_
           refine ge_then ?_
           refine g_ret ?_
           refine ge_block_ret ?_
           refine ge_then_ret ?_
           refine ret1c (.inl rfl) rfl rfl rfl rfl _ (⟨by rw [hN, headN_3 hne (by omega) (by omega) (by omega)]; rfl, rfl⟩) (To.sat (by repeat (first | exact .nil | exact .done .refl | (apply To.cons; · (repeat (first | exact .head | apply Sel.tail))) | exact .done (by repeat (first | exact .refl | apply Drop.skip)))))
          ·
           first | replace hc12 := of_decide_eq_true hc12 | replace hc12 := lt_f hc12 | replace hc12 := le_f hc12 | replace hc12 := dec_f hc12 | replace hc12 := nlt_t hc12 | replace hc12 := nle_t hc12 | replace hc12 := ndec_t hc12 | replace hc12 := ndec_f hc12 | replace hc12 := nn_t hc12 | replace hc12 := nn_f hc12 | skip
           refine g_seq ?_
           refine g_region ?_
           refine gl_v rfl (o_eql rfl rfl) ?_
           refine gl_v rfl (o_assign rfl) ?_
           refine gl_nil ?_
           refine ge_then ?_
           refine g_cond rfl (fun hc13 => ?_) (fun hc13 => ?_)
           ·
            first | replace hc13 := of_decide_eq_true hc13 | replace hc13 := lt_f hc13 | replace hc13 := le_f hc13 | replace hc13 := dec_f hc13 | replace hc13 := nlt_t hc13 | replace hc13 := nle_t hc13 | replace hc13 := ndec_t hc13 | replace hc13 := ndec_f hc13 | replace hc13 := nn_t hc13 | replace hc13 := nn_f hc13 | skip
            refine g_seq ?_
            refine g_region ?_
            first | refine gl_v rfl (o_fldS rfl) ?_ | refine gl_v rfl (o_fld rfl) ?_
            first | refine gl_v rfl (o_load rfl rfl) ?_ | refine gl_v rfl (o_loadS rfl rfl) ?_ | refine gl_v rfl (o_loadC rfl) ?_
            refine gl_v rfl (o_addR ((b : Int) + 1) (wr_i64 (by omega)) rfl rfl) ?_
            refine gl_v rfl (o_move rfl) ?_
            refine gl_v rfl (o_add rfl rfl) ?_
            refine gl_v rfl (o_build rfl rfl) ?_
            first | refine gl_u (o_storeSA rfl rfl rfl rfl (by simp; omega) (by simp)) ?_ | refine gl_u (o_storeA rfl rfl rfl rfl rfl) ?_
            refine gl_nil ?_
            refine ge_then ?_
            refine g_ret ?_
            refine ge_block_ret ?_
            refine ge_then_ret ?_
            refine ret1c (.inl rfl) rfl rfl rfl rfl _ (⟨by rw [hN, headN_4 hne (by omega) (by omega) (by omega)]; rfl, rfl⟩) (To.sat (by repeat (first | exact .nil | exact .done .refl | (apply To.cons; · (repeat (first | exact .head | apply Sel.tail))) | exact .done (by repeat (first | exact .refl | apply Drop.skip)))))
           ·
            first | replace hc13 := of_decide_eq_true hc13 | replace hc13 := lt_f hc13 | replace hc13 := le_f hc13 | replace hc13 := dec_f hc13 | replace hc13 := nlt_t hc13 | replace hc13 := nle_t hc13 | replace hc13 := ndec_t hc13 | replace hc13 := ndec_f hc13 | replace hc13 := nn_t hc13 | replace hc13 := nn_f hc13 | skip
            refine g_skip ?_
            refine ge_block ?_
            refine ge_then ?_
            refine g_seq ?_
            have hk3 : k + 2 < l.length := by omega
            have d3 := drop_at hk3
            refine g_region ?_
            refine gl_v rfl (o_move rfl) ?_
            refine gl_v rfl (o_move rfl) ?_
            refine gl_v rfl (o_addR ((k + 2 : Nat) : Int) (by rw [wr_i64 (by omega)]; omega) rfl rfl) ?_
            refine gl_v rfl (o_idxS (j := k + 2) rfl rfl (by omega)) ?_
            refine gl_v rfl (o_loadS rfl (map_at (d := 0) (i := k + 2) (by omega))) ?_
            refine gl_v rfl (o_build rfl rfl) ?_
            first | refine gl_u (o_storeSA rfl rfl rfl rfl (by simp; omega) (by simp)) ?_ | refine gl_u (o_storeA rfl rfl rfl rfl rfl) ?_
            refine gl_nil ?_
            refine ge_then ?_
            refine g_ret ?_
            refine ret1c (.inl rfl) rfl rfl rfl rfl _ (⟨by rw [hN, headN_5 hne (by omega) (by omega) (by omega), d3]; rfl, rfl⟩) (To.sat (by repeat (first | exact .nil | exact .done .refl | (apply To.cons; · (repeat (first | exact .head | apply Sel.tail))) | exact .done (by repeat (first | exact .refl | apply Drop.skip)))))

end Go.Proofs.YtkpgcdhepfgfaaaGreat.L
