/-
  RingOrder and RingBound. Own work, printed in part by a program of its own.
-/
import Derived.Test.YtnkcgfllehohbaaRingY
import Derived.Test.YtnkcgfllehohbaaRingB
namespace Go.Proofs.Ytnkcgfllehohbaa.L
open Go.L Go.L.Ring
theorem map_same {α β : Type} {f : α → β} {l : List α} {p : Nat} {y : α} (h : l[p]? = some y) : (l.map f).set p (f y) = l.map f := by
  obtain ⟨hp, e⟩ := List.getElem?_eq_some_iff.1 h
  apply List.ext_getElem (by simp)
  intro i h1 h2
  rw [List.getElem_set]
  split
  · rename_i e2; subst e2; simp [e]
  · rfl

set_option maxRecDepth 8000 in
theorem order_spec (s : Nat) (hs : s ≤ 255) (a : Option Addr) (c : Nat) (vs : List Int) (hvs : ∀ x ∈ vs, 0 ≤ x ∧ x ≤ 255) (hm : vs.length ≤ 140737488351232) (A : Assn) [RdA (.slice a vs.length c) A vs.length (vs.map (fun x => Value.int .u8 x))] : FnS Try.prog 4 [.int .u8 s, .slice a vs.length c] [A] (fun u Bs => u = .bool true ∧ Bs = [A]) := by
  refine fn_body Try.func4 rfl rfl rfl ?_
  intro W0 R
  simp only [List.zipIdx_cons, List.zipIdx_nil, List.map_cons, List.map_nil, Nat.zero_add, Nat.reduceAdd, List.cons_append, List.nil_append]
  obtain ⟨n, hn⟩ : ∃ n, n = 1 + s % 8 := ⟨_, rfl⟩
  have h1 : 1 ≤ n := by omega
  have h8 : n ≤ 8 := by omega
  refine g_seq ?_
  refine g_region ?_
  refine gl_v rfl (o_assign rfl) ?_
  refine gl_nil ?_
  refine ge_then ?_
  refine g_seq ?_
  refine g_seq ?_
  refine g_region ?_
  refine gl_c rfl (o_call rfl (alive_spec) (by repeat (first | exact .nil | (apply Part.cons; · (repeat (first | exact .head | apply Sel.tail)))))) ?_
  rintro _ R ⟨_, ⟨rfl, rfl⟩, rfl⟩
  try simp only [List.cons_append, List.nil_append]
  refine gl_v rfl (o_not rfl) ?_
  refine gl_nil ?_
  refine ge_then ?_
  refine g_cond_false (rfl) ?_
  refine g_skip ?_
  refine ge_then ?_
  refine g_seq ?_
  refine g_region ?_
  refine gl_v rfl (o_move rfl) ?_
  refine gl_v rfl (o_convR (s : Int) (wr_i64 (by omega)) rfl) ?_
  refine gl_v rfl (o_remR _ (tmod8y s) rfl rfl (by decide)) ?_
  refine gl_v rfl (o_addR (n : Int) (by rw [wr_i64 (by omega)]; omega) rfl rfl) ?_
  refine gl_v rfl (o_move rfl) ?_
  refine gl_c rfl (o_call rfl (run_spec n h1 h8 a c vs hvs hm A) (by repeat (first | exact .nil | (apply Part.cons; · (repeat (first | exact .head | apply Sel.tail)))))) ?_
  rintro _ R ⟨_, ⟨q, r, m, cw, hk, rfl, hE, rfl⟩, rfl⟩
  try simp only [List.cons_append, List.nil_append]
  refine gl_v rfl (o_assign rfl) ?_
  refine gl_nil ?_
  refine ge_then ?_
  refine g_seq ?_
  refine g_seq ?_
  refine g_region ?_
  refine gl_v rfl (o_move rfl) ?_
  first | refine gl_v rfl (o_eqlPn rfl rfl) ?_ | refine gl_v rfl (o_eqlnn rfl rfl) ?_
  refine gl_nil ?_
  refine ge_then ?_
  refine g_cond_false (rfl) ?_
  refine g_skip ?_
  refine ge_then ?_
  refine g_seq ?_
  refine g_open (by repeat (first | exact .head | apply Sel.tail)) ?_
  rintro ⟨a1, c1, a2, c2, a3, c3, a6, c6, k6, xs, ys, tk, t⟩ ⟨e1, e2, e3, e4, e5⟩
  dsimp only at e1 e2 e3 e4 e5
  simp only [crL, List.cons_append, List.nil_append]
  obtain rfl : k6 = hk.length := by rw [e5, hE.taken, List.length_map]
  rw [hE.taken]
  obtain ⟨B, hB, hC⟩ := hE.ex
  have hlin := hC.lin
  refine g_region ?_
  refine gl_n rfl (o_makeS (k := 3) rfl rfl (by unfold maxLen; omega) (by omega)) ?_
  rintro _ _ ⟨a19, c19, rfl, rfl⟩
  refine gl_v rfl (o_assign rfl) ?_
  refine gl_nil ?_
  refine ge_then ?_
  refine g_seq ?_
  refine g_seq ?_
  refine g_region ?_
  refine gl_v rfl (o_assign rfl) ?_
  refine gl_nil ?_
  refine ge_then ?_
  refine g_block ?_
  refine g_loop (ι := Nat) (fun x => x ≤ hk.length) (fun x => [(7, I64 x), (6, .slice a19 3 c19), (5, ptr q 0)]) (fun x => own (.slice a19 3 c19) 3 1 3 ((cntL hk x).map I64) :: cel q 52 [ptr r 0, .slice a1 3 c1, .slice a2 3 c2, .slice a3 3 c3, oV tk, I64 cw.steps, .slice a6 hk.length c6, I64 cw.most, I64 cw.count] :: own (.slice a6 hk.length c6) 28 1 hk.length ((hk.map (·.val)).map U64) :: own (.slice a3 3 c3) 35 1 3 (ys.map iV) :: fam (ys.map iA) :: A :: R) (fun x => hk.length - x) 0 (Nat.zero_le _) (Keep.cons rfl (Keep.cons rfl (Keep.cons rfl (Keep.nil)))) (To.sat (by repeat (first | exact .nil | exact .done .refl | (apply To.cons; · (repeat (first | exact .head | apply Sel.tail))) | exact .done (by repeat (first | exact .refl | apply Drop.skip))))) ?_
  intro i hi0
  have hi0 : i ≤ hk.length := hi0
  have hl9 := hE.len
  refine g_seq ?_
  refine g_seq ?_
  refine g_region ?_
  refine gl_v rfl (o_move rfl) ?_
  refine gl_v rfl (o_move rfl) ?_
  refine gl_v rfl (o_nil rfl) ?_
  first | refine gl_v rfl (o_fldS rfl) ?_ | refine gl_v rfl (o_fld rfl) ?_
  first | refine gl_v rfl (o_load rfl rfl) ?_ | refine gl_v rfl (o_loadS rfl rfl) ?_ | refine gl_v rfl (o_loadC rfl) ?_
  refine gl_v rfl (o_len rfl) ?_
  refine gl_v rfl (o_lss rfl rfl) ?_
  refine gl_nil ?_
  refine ge_then ?_
  refine g_cond rfl (fun hc1 => ?_) (fun hc1 => ?_)
  ·
    first | replace hc1 := of_decide_eq_true hc1 | replace hc1 := lt_f hc1 | replace hc1 := le_f hc1 | replace hc1 := dec_f hc1 | replace hc1 := nlt_t hc1 | replace hc1 := nle_t hc1 | replace hc1 := ndec_t hc1 | replace hc1 := ndec_f hc1 | replace hc1 := nn_t hc1 | replace hc1 := nn_f hc1 | skip
    have hi : i < hk.length := by omega
    refine g_skip ?_
    refine ge_then ?_
    refine g_seq ?_
    refine g_block ?_
    refine g_seq ?_
    obtain ⟨hp, k, hk0, hk1, hval⟩ := hE.own hi
    have hCA := hE.at hi
    obtain ⟨p, hpd⟩ : ∃ p, p = (hk.getD i dT).own := ⟨_, rfl⟩
    have hset := cntL_set hi hp
    rw [← hpd] at hp hval hCA hset
    have hv6 : ((hk.map (·.val)).map U64)[i * 1]? = some (U64 (hk.getD i dT).val) := by rw [Nat.mul_one, List.map_map, List.getElem?_map, List.getD_eq_getElem?_getD, List.getElem?_eq_getElem hi]; rfl
    have hshr : (hk.getD i dT).val / 2 ^ (32 : Int).toNat = (p : Int) := by show (hk.getD i dT).val / 4294967296 = p; omega
    refine g_region ?_
    refine gl_v rfl (o_move rfl) ?_
    refine gl_v rfl (o_nil rfl) ?_
    first | refine gl_v rfl (o_fldS rfl) ?_ | refine gl_v rfl (o_fld rfl) ?_
    first | refine gl_v rfl (o_load rfl rfl) ?_ | refine gl_v rfl (o_loadS rfl rfl) ?_ | refine gl_v rfl (o_loadC rfl) ?_
    refine gl_v rfl (o_move rfl) ?_
    refine gl_v rfl (o_idxS rfl rfl (by first | assumption | omega)) ?_
    refine gl_v rfl (o_loadS rfl hv6) ?_
    refine gl_v rfl (o_shr (p : Int) hshr rfl rfl (by decide) (by decide)) ?_
    refine gl_v rfl (o_convR (p : Int) (wr_i64 (by omega)) rfl) ?_
    refine gl_v rfl (o_assign rfl) ?_
    refine gl_nil ?_
    refine ge_then ?_
    refine g_seq ?_
    refine g_seq ?_
    obtain ⟨ya, yc, hy⟩ := get_inn e2 hlin e4 hp
    have hyb := ci_inn hC hp
    have hyv : (ys.map iV)[p * 1]? = some (.slice ya (cw.inn.getD p []).length yc) := by rw [Nat.mul_one]; exact map_at' hy
    refine g_fo (l := ys.map iA) (i := p) (A := own (.slice ya (cw.inn.getD p []).length yc) 28 1 (cw.inn.getD p []).length ((cw.inn.getD p []).map U64)) (by repeat (first | exact .head | apply Sel.tail)) (map_at' (f := iA) hy) ?_
    have hat : ((cntL hk i).map I64)[p * 1]? = some (I64 (ofs p (hk.take i)).length) := by rw [Nat.mul_one, ← cntL_get hk i hp]; exact map_at' (get_of 0 (by show p < 3; exact hp))
    have hin : ((cw.inn.getD p []).map U64)[(ofs p (hk.take i)).length * 1]? = some (U64 (hk.getD i dT).val) := by rw [Nat.mul_one]; exact map_at' hCA.2
    refine g_draw [] [] [(0, .loc), (1, .loc), (2, .loc), (3, .loc), (4, .loc), (5, .loc), (6, .loc), (7, .loc), (8, .loc), (9, .loc), (10, .loc), (11, .loc), (12, .loc), (13, .loc), (14, .loc), (15, .loc), (16, .loc), (17, .loc), (18, .loc), (19, .loc), (20, .loc), (21, .loc), (22, .loc), (23, .loc), (24, .loc), (25, .loc), (26, .loc), (27, .loc), (28, .loc), (29, .loc), (30, .loc), (31, .loc), (32, .loc), (33, .loc), (34, .loc), (35, .loc), (36, .loc), (37, .loc), (38, .loc), (39, .loc)] [] mixed (by kernel_rfl) ?_
    refine go_v rfl .none rfl (o_move rfl) ?_
    refine go_v rfl .none rfl (o_is (c := false) (decide_eq_false (by omega)) (o_gtr rfl rfl)) ?_
    refine go_v rfl .none rfl (o_move rfl) ?_
    refine go_v rfl (.yes rfl rfl rfl) rfl (o_move rfl) ?_
    refine go_v rfl (.yes rfl rfl rfl) rfl (o_move rfl) ?_
    refine go_v rfl (.yes rfl rfl rfl) rfl (o_idxS rfl rfl (by first | assumption | omega)) ?_
    refine go_v rfl (.yes rfl rfl rfl) rfl (o_loadS rfl hat) ?_
    refine go_v rfl (.yes rfl rfl rfl) rfl (o_move rfl) ?_
    refine go_v rfl (.yes rfl rfl rfl) rfl (o_nil rfl) ?_
    first | refine go_v rfl (.yes rfl rfl rfl) rfl (o_fldS rfl) ?_ | refine go_v rfl (.yes rfl rfl rfl) rfl (o_fld rfl) ?_
    first | refine go_v rfl (.yes rfl rfl rfl) rfl (o_load rfl rfl) ?_ | refine go_v rfl (.yes rfl rfl rfl) rfl (o_loadS rfl rfl) ?_ | refine go_v rfl (.yes rfl rfl rfl) rfl (o_loadC rfl) ?_
    refine go_v rfl (.yes rfl rfl rfl) rfl (o_move rfl) ?_
    refine go_v rfl (.yes rfl rfl rfl) rfl (o_idxS rfl rfl (by first | assumption | omega)) ?_
    refine go_v rfl (.yes rfl rfl rfl) rfl (o_loadS rfl hyv) ?_
    refine go_v rfl (.yes rfl rfl rfl) rfl (o_len rfl) ?_
    refine go_v rfl (.yes rfl rfl rfl) rfl (o_is (c := false) (decide_eq_false (by omega)) (o_geq rfl rfl)) ?_
    refine go_v rfl .none rfl (o_pickF rfl rfl rfl) ?_
    refine go_v rfl .none rfl (o_move rfl) ?_
    refine go_v rfl (.yes rfl rfl rfl) rfl (o_move rfl) ?_
    refine go_v rfl (.yes rfl rfl rfl) rfl (o_nil rfl) ?_
    first | refine go_v rfl (.yes rfl rfl rfl) rfl (o_fldS rfl) ?_ | refine go_v rfl (.yes rfl rfl rfl) rfl (o_fld rfl) ?_
    first | refine go_v rfl (.yes rfl rfl rfl) rfl (o_load rfl rfl) ?_ | refine go_v rfl (.yes rfl rfl rfl) rfl (o_loadS rfl rfl) ?_ | refine go_v rfl (.yes rfl rfl rfl) rfl (o_loadC rfl) ?_
    refine go_v rfl (.yes rfl rfl rfl) rfl (o_move rfl) ?_
    refine go_v rfl (.yes rfl rfl rfl) rfl (o_idxS rfl rfl (by first | assumption | omega)) ?_
    refine go_v rfl (.yes rfl rfl rfl) rfl (o_loadS rfl hyv) ?_
    refine go_v rfl (.yes rfl rfl rfl) rfl (o_move rfl) ?_
    refine go_v rfl (.yes rfl rfl rfl) rfl (o_move rfl) ?_
    refine go_v rfl (.yes rfl rfl rfl) rfl (o_idxS rfl rfl (by first | assumption | omega)) ?_
    refine go_v rfl (.yes rfl rfl rfl) rfl (o_loadS rfl hat) ?_
    refine go_v rfl (.yes rfl rfl rfl) rfl (o_idxS rfl rfl hCA.1) ?_
    refine go_v rfl (.yes rfl rfl rfl) rfl (o_loadS rfl hin) ?_
    refine go_v rfl (.yes rfl rfl rfl) rfl (o_move rfl) ?_
    refine go_v rfl (.yes rfl rfl rfl) rfl (o_nil rfl) ?_
    first | refine go_v rfl (.yes rfl rfl rfl) rfl (o_fldS rfl) ?_ | refine go_v rfl (.yes rfl rfl rfl) rfl (o_fld rfl) ?_
    first | refine go_v rfl (.yes rfl rfl rfl) rfl (o_load rfl rfl) ?_ | refine go_v rfl (.yes rfl rfl rfl) rfl (o_loadS rfl rfl) ?_ | refine go_v rfl (.yes rfl rfl rfl) rfl (o_loadC rfl) ?_
    refine go_v rfl (.yes rfl rfl rfl) rfl (o_move rfl) ?_
    refine go_v rfl (.yes rfl rfl rfl) rfl (o_idxS rfl rfl (by first | assumption | omega)) ?_
    refine go_v rfl (.yes rfl rfl rfl) rfl (o_loadS rfl hv6) ?_
    refine go_v rfl (.yes rfl rfl rfl) rfl (o_is (c := false) (by simp) (o_neq rfl rfl)) ?_
    refine go_v rfl .none rfl (o_pickF rfl rfl rfl) ?_
    refine go_nil ?_
    refine ge_then ?_
    refine g_cond_false rfl ?_
    refine g_skip ?_
    refine ge_then ?_
    refine g_region ?_
    refine gl_v rfl (o_move rfl) ?_
    refine gl_v rfl (o_move rfl) ?_
    refine gl_v rfl (o_idxS rfl rfl (by first | assumption | omega)) ?_
    refine gl_v rfl (o_loadS rfl hat) ?_
    refine gl_v rfl (o_addR (((ofs p (hk.take i)).length : Int) + 1) (wr_i64 (by omega)) rfl rfl) ?_
    refine gl_v rfl (o_idxS rfl rfl (by first | assumption | omega)) ?_
    refine gl_u (o_storeS rfl rfl rfl (by simp [cntL]; omega)) ?_
    rw [map_set1, hset]
    refine gl_imp (fs (i := p) (l := ys.map iA) (A := iA ⟨ya, yc, (cw.inn.getD p []).length, cw.inn.getD p []⟩) (by repeat (first | exact .head | apply Sel.tail)) (by repeat (first | exact .head | apply Sel.tail)) (by rw [List.length_map, ← List.length_map (f := (·.l)), e2, hlin]; exact hp)) ?_
    rw [map_same (f := iA) hy]
    refine gl_nil ?_
    refine ge_block ?_
    refine ge_then ?_
    refine g_region ?_
    refine gl_v rfl (o_move rfl) ?_
    refine gl_v rfl (o_addR _ (by first | exact wr_i64 (by omega) | rfl) rfl rfl) ?_
    refine gl_v rfl (o_assign rfl) ?_
    refine gl_nil ?_
    refine ge_round (i + 1) (show i + 1 ≤ hk.length by omega) (by show hk.length - (i + 1) < hk.length - i; omega) (Keep.cons rfl (Keep.cons rfl (Keep.cons rfl (Keep.nil)))) (To.sat (by repeat (first | exact .nil | exact .done .refl | (apply To.cons; · (repeat (first | exact .head | apply Sel.tail))) | exact .done (by repeat (first | exact .refl | apply Drop.skip)))))
  ·
    first | replace hc1 := of_decide_eq_true hc1 | replace hc1 := lt_f hc1 | replace hc1 := le_f hc1 | replace hc1 := dec_f hc1 | replace hc1 := nlt_t hc1 | replace hc1 := nle_t hc1 | replace hc1 := ndec_t hc1 | replace hc1 := ndec_f hc1 | replace hc1 := nn_t hc1 | replace hc1 := nn_f hc1 | skip
    obtain rfl : i = hk.length := by omega
    refine g_exit ?_
    refine ge_then_exit ?_
    refine ge_then_exit ?_
    refine ge_block_exit ?_
    refine ge_then ?_
    refine g_seq ?_
    have hyl : ys.length = 3 := by rw [← hlin, ← e2, List.length_map]
    obtain ⟨y0, y1, y2, rfl⟩ : ∃ y0 y1 y2, ys = [y0, y1, y2] := by match ys, hyl with | [y0, y1, y2], _ => exact ⟨_, _, _, rfl⟩
    have hfin : ∀ p, p < 3 → ((ofs p (hk.take hk.length)).length : Int) = (([y0, y1, y2].map (·.k)).getD p 0 : Nat) := fun p hp => by
      have h1 := hE.inn hp
      rw [← e2] at h1
      have h2 := congrArg List.length h1
      rw [List.length_map] at h2
      rw [List.take_length, ← h2]
      have h3 : ∀ y ∈ [y0, y1, y2], y.k = y.l.length := e4
      match p, hp with
      | 0, _ => simp [h3 y0 (by simp)]
      | 1, _ => simp [h3 y1 (by simp)]
      | 2, _ => simp [h3 y2 (by simp)]
    refine g_imp (fun h s => Sat.flat.1 (show Sat (starL ([y0, y1, y2].map iA) :: _) h from Sel.to (A := fam ([y0, y1, y2].map iA)) (by repeat (first | exact .head | apply Sel.tail)) s)) ?_
    simp only [List.map_cons, List.map_nil, List.cons_append, List.nil_append, iA, iV]
    refine g_draw [] [] [(0, .loc), (1, .loc), (2, .loc), (3, .loc), (4, .loc), (5, .loc), (6, .loc), (7, .loc), (8, .loc), (9, .loc), (10, .loc), (11, .loc), (12, .loc), (13, .loc), (14, .loc), (15, .loc), (16, .loc), (17, .loc), (18, .loc), (19, .loc), (20, .loc), (21, .loc), (22, .loc), (23, .loc), (24, .loc), (25, .loc), (26, .loc), (27, .loc), (28, .loc), (29, .loc), (30, .loc), (31, .loc), (32, .loc), (33, .loc), (34, .loc), (35, .loc), (36, .loc), (37, .loc)] [] mixed (by kernel_rfl) ?_
    refine go_v rfl .none rfl (o_move rfl) ?_
    refine go_v rfl .none rfl (o_idxS (j := 0) rfl rfl (by omega)) ?_
    refine go_v rfl .none rfl (o_loadS rfl (v := .slice a19 3 c19) (xs := (cntL hk hk.length).map I64) (map_at (d := 0) (show 0 < 3 by decide))) ?_
    refine go_v rfl .none rfl (o_move rfl) ?_
    refine go_v rfl .none rfl (o_nil rfl) ?_
    first | refine go_v rfl .none rfl (o_fldS rfl) ?_ | refine go_v rfl .none rfl (o_fld rfl) ?_
    first | refine go_v rfl .none rfl (o_load rfl rfl) ?_ | refine go_v rfl .none rfl (o_loadS rfl rfl) ?_ | refine go_v rfl .none rfl (o_loadC rfl) ?_
    refine go_v rfl .none rfl (o_idxS (j := 0) rfl rfl (by omega)) ?_
    first | refine go_v rfl .none rfl (o_load rfl rfl) ?_ | refine go_v rfl .none rfl (o_loadS rfl rfl) ?_ | refine go_v rfl .none rfl (o_loadC rfl) ?_
    refine go_v rfl .none rfl (o_len rfl) ?_
    refine go_v rfl .none rfl (o_is (c := true) (decide_eq_true (hfin 0 (by omega))) (o_eql rfl rfl)) ?_
    refine go_v rfl .none rfl (o_move rfl) ?_
    refine go_v rfl (.yes rfl rfl rfl) rfl (o_move rfl) ?_
    refine go_v rfl (.yes rfl rfl rfl) rfl (o_idxS (j := 1) rfl rfl (by omega)) ?_
    refine go_v rfl (.yes rfl rfl rfl) rfl (o_loadS rfl (v := .slice a19 3 c19) (xs := (cntL hk hk.length).map I64) (map_at (d := 0) (show 1 < 3 by decide))) ?_
    refine go_v rfl (.yes rfl rfl rfl) rfl (o_move rfl) ?_
    refine go_v rfl (.yes rfl rfl rfl) rfl (o_nil rfl) ?_
    first | refine go_v rfl (.yes rfl rfl rfl) rfl (o_fldS rfl) ?_ | refine go_v rfl (.yes rfl rfl rfl) rfl (o_fld rfl) ?_
    first | refine go_v rfl (.yes rfl rfl rfl) rfl (o_load rfl rfl) ?_ | refine go_v rfl (.yes rfl rfl rfl) rfl (o_loadS rfl rfl) ?_ | refine go_v rfl (.yes rfl rfl rfl) rfl (o_loadC rfl) ?_
    refine go_v rfl (.yes rfl rfl rfl) rfl (o_idxS (j := 1) rfl rfl (by omega)) ?_
    first | refine go_v rfl (.yes rfl rfl rfl) rfl (o_load rfl rfl) ?_ | refine go_v rfl (.yes rfl rfl rfl) rfl (o_loadS rfl rfl) ?_ | refine go_v rfl (.yes rfl rfl rfl) rfl (o_loadC rfl) ?_
    refine go_v rfl (.yes rfl rfl rfl) rfl (o_len rfl) ?_
    refine go_v rfl (.yes rfl rfl rfl) rfl (o_is (c := true) (decide_eq_true (hfin 1 (by omega))) (o_eql rfl rfl)) ?_
    refine go_v rfl .none rfl (o_pickT rfl rfl rfl) ?_
    refine go_v rfl .none rfl (o_move rfl) ?_
    refine go_v rfl (.yes rfl rfl rfl) rfl (o_move rfl) ?_
    refine go_v rfl (.yes rfl rfl rfl) rfl (o_idxS (j := 2) rfl rfl (by omega)) ?_
    refine go_v rfl (.yes rfl rfl rfl) rfl (o_loadS rfl (v := .slice a19 3 c19) (xs := (cntL hk hk.length).map I64) (map_at (d := 0) (show 2 < 3 by decide))) ?_
    refine go_v rfl (.yes rfl rfl rfl) rfl (o_move rfl) ?_
    refine go_v rfl (.yes rfl rfl rfl) rfl (o_nil rfl) ?_
    first | refine go_v rfl (.yes rfl rfl rfl) rfl (o_fldS rfl) ?_ | refine go_v rfl (.yes rfl rfl rfl) rfl (o_fld rfl) ?_
    first | refine go_v rfl (.yes rfl rfl rfl) rfl (o_load rfl rfl) ?_ | refine go_v rfl (.yes rfl rfl rfl) rfl (o_loadS rfl rfl) ?_ | refine go_v rfl (.yes rfl rfl rfl) rfl (o_loadC rfl) ?_
    refine go_v rfl (.yes rfl rfl rfl) rfl (o_idxS (j := 2) rfl rfl (by omega)) ?_
    first | refine go_v rfl (.yes rfl rfl rfl) rfl (o_load rfl rfl) ?_ | refine go_v rfl (.yes rfl rfl rfl) rfl (o_loadS rfl rfl) ?_ | refine go_v rfl (.yes rfl rfl rfl) rfl (o_loadC rfl) ?_
    refine go_v rfl (.yes rfl rfl rfl) rfl (o_len rfl) ?_
    refine go_v rfl (.yes rfl rfl rfl) rfl (o_is (c := true) (decide_eq_true (hfin 2 (by omega))) (o_eql rfl rfl)) ?_
    refine go_v rfl .none rfl (o_pickT rfl rfl rfl) ?_
    refine go_v rfl .none rfl (o_assign rfl) ?_
    refine go_nil ?_
    refine ge_then ?_
    refine g_ret ?_
    refine ret1 (.inl rfl) rfl rfl _ (⟨rfl, rfl⟩) (To.sat (by repeat (first | exact .nil | exact .done .refl | (apply To.cons; · (repeat (first | exact .head | apply Sel.tail))) | exact .done (by repeat (first | exact .refl | apply Drop.skip)))))

set_option maxRecDepth 8000 in
theorem bound_spec (s : Nat) (hs : s ≤ 255) (a : Option Addr) (c : Nat) (vs : List Int) (hvs : ∀ x ∈ vs, 0 ≤ x ∧ x ≤ 255) (hm : vs.length ≤ 140737488351232) (fl : Nat) (hfl : fl ≤ 255) (A : Assn) [RdA (.slice a vs.length c) A vs.length (vs.map (fun x => Value.int .u8 x))] : FnS Try.prog 5 [.int .u8 s, .slice a vs.length c, .int .u8 fl] [A] (fun u Bs => u = .bool true ∧ Bs = [A]) := by
  refine fn_body Try.func5 rfl rfl rfl ?_
  intro W0 R
  simp only [List.zipIdx_cons, List.zipIdx_nil, List.map_cons, List.map_nil, Nat.zero_add, Nat.reduceAdd, List.cons_append, List.nil_append]
  obtain ⟨n, hn⟩ : ∃ n, n = 1 + s % 8 := ⟨_, rfl⟩
  have h1 : 1 ≤ n := by omega
  have h8 : n ≤ 8 := by omega
  refine g_seq ?_
  refine g_region ?_
  refine gl_v rfl (o_assign rfl) ?_
  refine gl_nil ?_
  refine ge_then ?_
  refine g_seq ?_
  refine g_seq ?_
  refine g_region ?_
  refine gl_c rfl (o_call rfl (alive_spec) (by repeat (first | exact .nil | (apply Part.cons; · (repeat (first | exact .head | apply Sel.tail)))))) ?_
  rintro _ R ⟨_, ⟨rfl, rfl⟩, rfl⟩
  try simp only [List.cons_append, List.nil_append]
  refine gl_v rfl (o_not rfl) ?_
  refine gl_nil ?_
  refine ge_then ?_
  refine g_cond_false (rfl) ?_
  refine g_skip ?_
  refine ge_then ?_
  refine g_seq ?_
  refine g_region ?_
  refine gl_v rfl (o_move rfl) ?_
  refine gl_v rfl (o_convR (s : Int) (wr_i64 (by omega)) rfl) ?_
  refine gl_v rfl (o_remR _ (tmod8y s) rfl rfl (by decide)) ?_
  refine gl_v rfl (o_addR (n : Int) (by rw [wr_i64 (by omega)]; omega) rfl rfl) ?_
  refine gl_v rfl (o_assign rfl) ?_
  refine gl_nil ?_
  refine ge_then ?_
  refine g_seq ?_
  refine g_region ?_
  refine gl_v rfl (o_move rfl) ?_
  refine gl_v rfl (o_move rfl) ?_
  refine gl_c rfl (o_call rfl (run_spec n h1 h8 a c vs hvs hm A) (by repeat (first | exact .nil | (apply Part.cons; · (repeat (first | exact .head | apply Sel.tail)))))) ?_
  rintro _ R ⟨_, ⟨q, r, m, cw, hk, rfl, hE, rfl⟩, rfl⟩
  try simp only [List.cons_append, List.nil_append]
  refine gl_v rfl (o_assign rfl) ?_
  refine gl_nil ?_
  refine ge_then ?_
  refine g_seq ?_
  refine g_seq ?_
  refine g_open (by repeat (first | exact .head | apply Sel.tail)) ?_
  rintro ⟨a1, c1, a2, c2, a3, c3, a6, c6, k6, xs, ys, tk, t⟩ ⟨e1, e2, e3, e4, e5⟩
  dsimp only at e1 e2 e3 e4 e5
  simp only [crL, List.cons_append, List.nil_append]
  obtain ⟨B, hB, hC⟩ := hE.ex
  refine g_region ?_
  refine gl_v rfl (o_move rfl) ?_
  refine gl_v rfl (o_is (c := false) rfl (o_eqlPn rfl rfl)) ?_
  refine gl_v rfl (o_move rfl) ?_
  refine gl_gT rfl rfl rfl ?_
  refine gl_v rfl (o_move rfl) ?_
  refine gl_gT rfl rfl rfl ?_
  refine gl_v rfl (o_nil rfl) ?_
  refine gl_gT rfl rfl rfl ?_
  first | refine gl_v rfl (o_fldS rfl) ?_ | refine gl_v rfl (o_fld rfl) ?_
  refine gl_gT rfl rfl rfl ?_
  first | refine gl_v rfl (o_load rfl rfl) ?_ | refine gl_v rfl (o_loadS rfl rfl) ?_ | refine gl_v rfl (o_loadC rfl) ?_
  refine gl_gT rfl rfl rfl ?_
  refine gl_v rfl (o_move rfl) ?_
  refine gl_gT rfl rfl rfl ?_
  refine gl_v rfl (o_is (c := false) (decide_eq_false (by have := hC.most; omega)) (o_gtr rfl rfl)) ?_
  refine gl_v rfl (o_pickF rfl rfl rfl) ?_
  refine gl_v rfl (o_move rfl) ?_
  refine gl_gT rfl rfl rfl ?_
  refine gl_v rfl (o_move rfl) ?_
  refine gl_gT rfl rfl rfl ?_
  refine gl_v rfl (o_nil rfl) ?_
  refine gl_gT rfl rfl rfl ?_
  first | refine gl_v rfl (o_fldS rfl) ?_ | refine gl_v rfl (o_fld rfl) ?_
  refine gl_gT rfl rfl rfl ?_
  first | refine gl_v rfl (o_load rfl rfl) ?_ | refine gl_v rfl (o_loadS rfl rfl) ?_ | refine gl_v rfl (o_loadC rfl) ?_
  refine gl_gT rfl rfl rfl ?_
  refine gl_v rfl (o_is (c := false) (by rw [hE.count]; rfl) (o_neq rfl rfl)) ?_
  refine gl_v rfl (o_pickF rfl rfl rfl) ?_
  refine gl_nil ?_
  refine ge_then ?_
  refine g_cond_false rfl ?_
  refine g_skip ?_
  refine ge_then ?_
  refine g_seq ?_
  refine g_seq ?_
  refine g_region ?_
  refine gl_v rfl (o_assign rfl) ?_
  refine gl_nil ?_
  refine ge_then ?_
  refine g_block ?_
  refine g_loop (ι := Nat × List Int × Int) (fun x => x.1 ≤ 255 ∧ FS n hk.length x.2.1 x.1) (fun x => [(9, I64 x.1), (7, I64 n), (8, ptr q 0), (2, .int .u8 fl)]) (fun x => memA m x.2.1 x.2.2 :: ringA r m 0 n :: cel q 52 [ptr r 0, .slice a1 3 c1, .slice a2 3 c2, .slice a3 3 c3, oV tk, I64 cw.steps, .slice a6 k6 c6, I64 cw.most, I64 cw.count] :: A :: R) (fun x => 255 - x.1) (0, cw.L, t) (⟨Nat.zero_le _, hE.fs⟩) (Keep.cons rfl (Keep.cons rfl (Keep.cons rfl (Keep.cons rfl (Keep.nil))))) (To.sat (by repeat (first | exact .nil | exact .done .refl | (apply To.cons; · (repeat (first | exact .head | apply Sel.tail))) | exact .done (by repeat (first | exact .refl | apply Drop.skip))))) ?_
  rintro ⟨i, L, t⟩ ⟨hi, hF⟩
  have hi : i ≤ 255 := hi
  have hF : FS n hk.length L i := hF
  dsimp only
  refine g_seq ?_
  refine g_seq ?_
  refine g_region ?_
  refine gl_v rfl (o_move rfl) ?_
  refine gl_v rfl (o_move rfl) ?_
  refine gl_v rfl (o_convR (fl : Int) (wr_i64 (by omega)) rfl) ?_
  refine gl_v rfl (o_remR ((fl % 12 : Nat) : Int) (tmodn fl 12) rfl rfl (by decide)) ?_
  refine gl_v rfl (o_lss rfl rfl) ?_
  refine gl_nil ?_
  refine ge_then ?_
  refine g_cond rfl (fun hc1 => ?_) (fun hc1 => ?_)
  ·
    first | replace hc1 := of_decide_eq_true hc1 | replace hc1 := lt_f hc1 | replace hc1 := le_f hc1 | replace hc1 := dec_f hc1 | replace hc1 := nlt_t hc1 | replace hc1 := nle_t hc1 | replace hc1 := ndec_t hc1 | replace hc1 := ndec_f hc1 | replace hc1 := nn_t hc1 | replace hc1 := nn_f hc1 | skip
    refine g_skip ?_
    refine ge_then ?_
    refine g_seq ?_
    refine g_block ?_
    refine g_seq ?_
    have hiv : (0 : Int) ≤ (i : Int) ∧ (i : Int) ≤ 18446744073709551615 := by omega
    obtain ⟨k, L', o', hrun, hF', hout⟩ := hF.fill h1 h8 hE.len hiv
    refine g_region ?_
    refine gl_v rfl (o_move rfl) ?_
    refine gl_v rfl (o_nil rfl) ?_
    first | refine gl_v rfl (o_fldS rfl) ?_ | refine gl_v rfl (o_fld rfl) ?_
    first | refine gl_v rfl (o_load rfl rfl) ?_ | refine gl_v rfl (o_loadS rfl rfl) ?_ | refine gl_v rfl (o_loadC rfl) ?_
    refine gl_v rfl (o_move rfl) ?_
    refine gl_v rfl (o_convR (i : Int) (wr_u64 (by omega)) rfl) ?_
    refine gl_c rfl (o_call rfl (Put_spec r i) (by repeat (first | exact .nil | (apply Part.cons; · (repeat (first | exact .head | apply Sel.tail)))))) ?_
    rintro _ R ⟨_, ⟨p, rfl, rfl⟩, rfl⟩
    try simp only [List.cons_append, List.nil_append]
    refine gl_c rfl (o_call rfl (done_spec p r m 0 n L t ⟨0, 0, i, 0, 0⟩ ⟨h1, by omega, by rw [hF.len]; omega, by rw [hF.len]; omega⟩ hF.li ⟨Nat.zero_le _, hiv.1, hiv.2, Int.le_refl 0, (show (0 : Int) ≤ 18446744073709551615 by decide), Int.le_refl 0, (show (0 : Int) ≤ 18446744073709551615 by decide)⟩ k L' o' hrun) (by repeat (first | exact .nil | (apply Part.cons; · (repeat (first | exact .head | apply Sel.tail)))))) ?_
    rintro _ R ⟨_, ⟨t', rfl, rfl⟩, rfl⟩
    try simp only [List.cons_append, List.nil_append]
    refine gl_v rfl (o_move rfl) ?_
    refine gl_v rfl (o_extract rfl rfl) ?_
    refine gl_v rfl (o_extract rfl rfl) ?_
    refine gl_v rfl (o_extract rfl rfl) ?_
    refine gl_v rfl (o_assign rfl) ?_
    refine gl_v rfl (o_assign rfl) ?_
    refine gl_v rfl (o_assign rfl) ?_
    refine gl_nil ?_
    refine ge_then ?_
    refine g_seq ?_
    refine g_region ?_
    refine gl_v rfl (o_move rfl) ?_
    refine gl_v rfl (o_move rfl) ?_
    refine gl_v rfl (o_lss rfl rfl) ?_
    refine gl_v rfl (o_move rfl) ?_
    refine gl_g rfl rfl (fun hc2 => ?_) (fun hc2 => ?_) rfl
    ·
      have hc2' := hc2
      first | replace hc2' := of_decide_eq_true hc2' | replace hc2' := lt_f hc2' | replace hc2' := le_f hc2' | replace hc2' := dec_f hc2' | replace hc2' := nlt_t hc2' | replace hc2' := nle_t hc2' | replace hc2' := ndec_t hc2' | replace hc2' := ndec_f hc2' | replace hc2' := nn_t hc2' | replace hc2' := nn_f hc2' | skip
      refine gl_v rfl (o_move rfl) ?_
      refine gl_gT rfl rfl hc2 ?_
      refine gl_v rfl (o_is (c := false) (by rw [hout, if_pos (by omega)]; rfl) (o_neq rfl rfl)) ?_
      refine gl_v rfl (o_pickT hc2 rfl rfl) ?_
      refine gl_v rfl (o_move rfl) ?_
      refine gl_gT rfl rfl rfl ?_
      refine gl_v rfl (o_move rfl) ?_
      refine gl_gT rfl rfl rfl ?_
      refine gl_v rfl (o_move rfl) ?_
      refine gl_gT rfl rfl rfl ?_
      refine gl_v rfl (o_geq rfl rfl) ?_
      refine gl_gT rfl rfl rfl ?_
      refine gl_v rfl (o_move rfl) ?_
      refine gl_g rfl rfl (fun hc3 => ?_) (fun hc3 => ?_) rfl
      ·
        have hc3' := hc3
        first | replace hc3' := of_decide_eq_true hc3' | replace hc3' := lt_f hc3' | replace hc3' := le_f hc3' | replace hc3' := dec_f hc3' | replace hc3' := nlt_t hc3' | replace hc3' := nle_t hc3' | replace hc3' := ndec_t hc3' | replace hc3' := ndec_f hc3' | replace hc3' := nn_t hc3' | replace hc3' := nn_f hc3' | skip
        refine gl_v rfl (o_move rfl) ?_
        refine gl_gT rfl rfl hc3 ?_
        refine gl_v rfl (o_is (c := false) (by rw [hout, if_neg (by omega)]; rfl) (o_neq rfl rfl)) ?_
        refine gl_gT rfl rfl rfl ?_
        refine gl_v rfl (o_pickT hc3 rfl rfl) ?_
        refine gl_v rfl (o_pickF rfl rfl rfl) ?_
        refine gl_nil ?_
        refine ge_then ?_
        refine g_cond_false rfl ?_
        refine g_skip ?_
        refine ge_block ?_
        refine ge_then ?_
        refine g_region ?_
        refine gl_v rfl (o_move rfl) ?_
        refine gl_v rfl (o_addR _ (by first | exact wr_i64 (by omega) | rfl) rfl rfl) ?_
        refine gl_v rfl (o_assign rfl) ?_
        refine gl_nil ?_
        refine ge_round (i + 1, L', t') ⟨by show i + 1 ≤ 255; omega, hF'⟩ (by show 255 - (i + 1) < 255 - i; omega) (Keep.cons rfl (Keep.cons rfl (Keep.cons rfl (Keep.cons rfl (Keep.nil))))) (To.sat (by repeat (first | exact .nil | exact .done .refl | (apply To.cons; · (repeat (first | exact .head | apply Sel.tail))) | exact .done (by repeat (first | exact .refl | apply Drop.skip)))))
      ·
        have hc3' := hc3
        first | replace hc3' := of_decide_eq_true hc3' | replace hc3' := lt_f hc3' | replace hc3' := le_f hc3' | replace hc3' := dec_f hc3' | replace hc3' := nlt_t hc3' | replace hc3' := nle_t hc3' | replace hc3' := ndec_t hc3' | replace hc3' := ndec_f hc3' | replace hc3' := nn_t hc3' | replace hc3' := nn_f hc3' | skip
        simp only [putO]
        refine gl_gF rfl rfl hc3 rfl ?_
        refine gl_gT rfl rfl rfl ?_
        refine gl_v rfl (o_pickF hc3 rfl rfl) ?_
        refine gl_v rfl (o_pickF rfl rfl rfl) ?_
        refine gl_nil ?_
        refine ge_then ?_
        refine g_cond_false rfl ?_
        refine g_skip ?_
        refine ge_block ?_
        refine ge_then ?_
        refine g_region ?_
        refine gl_v rfl (o_move rfl) ?_
        refine gl_v rfl (o_addR _ (by first | exact wr_i64 (by omega) | rfl) rfl rfl) ?_
        refine gl_v rfl (o_assign rfl) ?_
        refine gl_nil ?_
        refine ge_round (i + 1, L', t') ⟨by show i + 1 ≤ 255; omega, hF'⟩ (by show 255 - (i + 1) < 255 - i; omega) (Keep.cons rfl (Keep.cons rfl (Keep.cons rfl (Keep.cons rfl (Keep.nil))))) (To.sat (by repeat (first | exact .nil | exact .done .refl | (apply To.cons; · (repeat (first | exact .head | apply Sel.tail))) | exact .done (by repeat (first | exact .refl | apply Drop.skip)))))
    ·
      have hc2' := hc2
      first | replace hc2' := of_decide_eq_true hc2' | replace hc2' := lt_f hc2' | replace hc2' := le_f hc2' | replace hc2' := dec_f hc2' | replace hc2' := nlt_t hc2' | replace hc2' := nle_t hc2' | replace hc2' := ndec_t hc2' | replace hc2' := ndec_f hc2' | replace hc2' := nn_t hc2' | replace hc2' := nn_f hc2' | skip
      simp only [putO]
      refine gl_gF rfl rfl hc2 rfl ?_
      refine gl_v rfl (o_pickF hc2 rfl rfl) ?_
      refine gl_v rfl (o_move rfl) ?_
      refine gl_gT rfl rfl rfl ?_
      refine gl_v rfl (o_move rfl) ?_
      refine gl_gT rfl rfl rfl ?_
      refine gl_v rfl (o_move rfl) ?_
      refine gl_gT rfl rfl rfl ?_
      refine gl_v rfl (o_geq rfl rfl) ?_
      refine gl_gT rfl rfl rfl ?_
      refine gl_v rfl (o_move rfl) ?_
      refine gl_g rfl rfl (fun hc4 => ?_) (fun hc4 => ?_) rfl
      ·
        have hc4' := hc4
        first | replace hc4' := of_decide_eq_true hc4' | replace hc4' := lt_f hc4' | replace hc4' := le_f hc4' | replace hc4' := dec_f hc4' | replace hc4' := nlt_t hc4' | replace hc4' := nle_t hc4' | replace hc4' := ndec_t hc4' | replace hc4' := ndec_f hc4' | replace hc4' := nn_t hc4' | replace hc4' := nn_f hc4' | skip
        refine gl_v rfl (o_move rfl) ?_
        refine gl_gT rfl rfl hc4 ?_
        refine gl_v rfl (o_is (c := false) (by rw [hout, if_neg (by omega)]; rfl) (o_neq rfl rfl)) ?_
        refine gl_gT rfl rfl rfl ?_
        refine gl_v rfl (o_pickT hc4 rfl rfl) ?_
        refine gl_v rfl (o_pickF rfl rfl rfl) ?_
        refine gl_nil ?_
        refine ge_then ?_
        refine g_cond_false rfl ?_
        refine g_skip ?_
        refine ge_block ?_
        refine ge_then ?_
        refine g_region ?_
        refine gl_v rfl (o_move rfl) ?_
        refine gl_v rfl (o_addR _ (by first | exact wr_i64 (by omega) | rfl) rfl rfl) ?_
        refine gl_v rfl (o_assign rfl) ?_
        refine gl_nil ?_
        refine ge_round (i + 1, L', t') ⟨by show i + 1 ≤ 255; omega, hF'⟩ (by show 255 - (i + 1) < 255 - i; omega) (Keep.cons rfl (Keep.cons rfl (Keep.cons rfl (Keep.cons rfl (Keep.nil))))) (To.sat (by repeat (first | exact .nil | exact .done .refl | (apply To.cons; · (repeat (first | exact .head | apply Sel.tail))) | exact .done (by repeat (first | exact .refl | apply Drop.skip)))))
      ·
        have hc4' := hc4
        first | replace hc4' := of_decide_eq_true hc4' | replace hc4' := lt_f hc4' | replace hc4' := le_f hc4' | replace hc4' := dec_f hc4' | replace hc4' := nlt_t hc4' | replace hc4' := nle_t hc4' | replace hc4' := ndec_t hc4' | replace hc4' := ndec_f hc4' | replace hc4' := nn_t hc4' | replace hc4' := nn_f hc4' | skip
        simp only [putO]
        refine gl_gF rfl rfl hc4 rfl ?_
        refine gl_gT rfl rfl rfl ?_
        refine gl_v rfl (o_pickF hc4 rfl rfl) ?_
        refine gl_v rfl (o_pickF rfl rfl rfl) ?_
        refine gl_nil ?_
        refine ge_then ?_
        refine g_cond_false rfl ?_
        refine g_skip ?_
        refine ge_block ?_
        refine ge_then ?_
        refine g_region ?_
        refine gl_v rfl (o_move rfl) ?_
        refine gl_v rfl (o_addR _ (by first | exact wr_i64 (by omega) | rfl) rfl rfl) ?_
        refine gl_v rfl (o_assign rfl) ?_
        refine gl_nil ?_
        refine ge_round (i + 1, L', t') ⟨by show i + 1 ≤ 255; omega, hF'⟩ (by show 255 - (i + 1) < 255 - i; omega) (Keep.cons rfl (Keep.cons rfl (Keep.cons rfl (Keep.cons rfl (Keep.nil))))) (To.sat (by repeat (first | exact .nil | exact .done .refl | (apply To.cons; · (repeat (first | exact .head | apply Sel.tail))) | exact .done (by repeat (first | exact .refl | apply Drop.skip)))))
  ·
    first | replace hc1 := of_decide_eq_true hc1 | replace hc1 := lt_f hc1 | replace hc1 := le_f hc1 | replace hc1 := dec_f hc1 | replace hc1 := nlt_t hc1 | replace hc1 := nle_t hc1 | replace hc1 := ndec_t hc1 | replace hc1 := ndec_f hc1 | replace hc1 := nn_t hc1 | replace hc1 := nn_f hc1 | skip
    refine g_exit ?_
    refine ge_then_exit ?_
    refine ge_then_exit ?_
    refine ge_block_exit ?_
    refine ge_then ?_
    refine g_seq ?_
    refine g_region ?_
    refine gl_v rfl (o_assign rfl) ?_
    refine gl_nil ?_
    refine ge_then ?_
    refine g_ret ?_
    refine ret1 (.inl rfl) rfl rfl _ (⟨rfl, rfl⟩) (To.sat (by repeat (first | exact .nil | exact .done .refl | (apply To.cons; · (repeat (first | exact .head | apply Sel.tail))) | exact .done (by repeat (first | exact .refl | apply Drop.skip)))))

end Go.Proofs.Ytnkcgfllehohbaa.L
