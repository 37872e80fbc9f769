/-
  Parse: the reference's Text. Own work, printed in part by a program of its own.
-/
import Derived.Test.YtgkjnilckmminaaGreatDoorParE
import Derived.Test.YtgkjnilckmminaaGreatDoorApS
set_option linter.unusedSimpArgs false
set_option linter.unusedVariables false
set_option linter.unusedSectionVars false
namespace Go.Proofs.YtgkjnilckmminaaGreatDoor.L
open Go.L Go.L.Lx Go.L.Pg Go.L.Pa
/-- words may be put behind these -/
def OKJ (xs : List By) : Prop := xs = [] ∨ joinS xs ≠ []
theorem joinS_snoc {xs : List By} (h : xs ≠ []) (w : By) : joinS (xs ++ [w]) = joinS xs ++ 32 :: w := by
  cases xs with
  | nil => exact absurd rfl h
  | cons x xs => show x ++ (xs ++ [w]).flatMap _ = (x ++ xs.flatMap _) ++ _; rw [List.flatMap_append, List.flatMap_singleton, List.append_assoc]
theorem OKJ.snoc {xs : List By} (h : OKJ xs) {w : By} (hw : xs = [] → w ≠ []) : OKJ (xs ++ [w]) := by
  by_cases hx : xs = []
  · subst hx
    right; show w ++ [] ≠ []; rw [List.append_nil]; exact hw rfl
  · right; rw [joinS_snoc hx]; simp
theorem okj_len {xs : List By} (h : OKJ xs) : (0 < (joinS xs).length) ↔ xs ≠ [] := by
  constructor
  · rintro h1 rfl; simp [joinS] at h1
  · intro h1
    rcases h with h | h
    · exact absurd h h1
    · exact List.length_pos_iff.2 h
theorem OKJ.app {xs : List By} : ∀ (ws : List By), OKJ xs → (xs = [] → ∀ w, ws.head? = some w → w ≠ []) → OKJ (xs ++ ws)
  | [], h, _ => by rw [List.append_nil]; exact h
  | w :: ws, h, hw => by
    have h1 := h.snoc (w := w) (fun e => hw e w rfl)
    have := OKJ.app ws h1 (fun e => by simp at e)
    rw [List.append_assoc] at this; exact this
theorem put_ok {xs ws ys : List By} {j : Nat} {w : By} (hw : xs = [] → ∀ w, ws.head? = some w → w ≠ []) (hj : ws[j]? = some w) (hys : xs ++ ws.take j = ys) (hok : OKJ ys) : OKJ (ys ++ [w]) := hok.snoc fun e => by
  rw [e] at hys
  obtain ⟨h1, h2⟩ := List.append_eq_nil_iff.1 hys
  have hi := (List.getElem?_eq_some_iff.1 hj).1
  have h3 := congrArg List.length h2
  rw [List.length_take, List.length_nil] at h3
  obtain rfl : j = 0 := by omega
  exact hw h1 w (by rw [List.head?_eq_getElem?]; exact hj)
theorem put_T {ys : List By} {w : By} (hok : OKJ ys) (h : 0 < (joinS ys).length) : joinS (ys ++ [w]) = joinS ys ++ [32] ++ w := by rw [joinS_snoc ((okj_len hok).1 h), List.append_assoc]; rfl
theorem put_F {ys : List By} {w : By} (hok : OKJ ys) (h : ¬ 0 < (joinS ys).length) : joinS (ys ++ [w]) = joinS ys ++ w := by
  obtain rfl : ys = [] := by
    by_cases e : ys = []
    · exact e
    · exact absurd ((okj_len hok).2 e) h
  show w ++ [] = [] ++ w; simp
abbrev byA (a : Option Addr) (c : Nat) (l : By) : Assn := own (.slice a l.length c) 5 1 l.length (byC l)

theorem dec_step {n m : Nat} {s : By} (h : dec n = dec m ++ s) (hm : ¬ m < 10) : dec n = dec (m / 10) ++ (UInt8.ofNat (48 + m % 10) :: s) := by
  rw [h, dec.eq_1 m, if_neg hm]; simp
theorem dec_last {n m : Nat} {s : By} (h : dec n = dec m ++ s) (hm : m < 10) : dec n = UInt8.ofNat (48 + m % 10) :: s := by
  rw [h, dec.eq_1 m, if_pos hm, Nat.mod_eq_of_lt hm]; rfl
theorem tmodn (s n : Nat) : (s : Int).tmod n = ((s % n : Nat) : Int) := by rw [Int.tmod_eq_emod_of_nonneg (by omega)]; exact (Int.natCast_emod s n).symm
theorem tdivn (s n : Nat) : (s : Int).tdiv n = ((s / n : Nat) : Int) := by rw [Int.tdiv_eq_ediv_of_nonneg (by omega)]; exact (Int.natCast_ediv s n).symm
theorem dec_pow {m i n : Nat} (h : m * 10 ^ i ≤ n) : m / 10 * 10 ^ (i + 1) ≤ n := by
  have h2 := Nat.mul_le_mul_right (10 ^ i) (Nat.div_mul_le_self m 10)
  rw [Nat.pow_succ, Nat.mul_comm (10 ^ i) 10, ← Nat.mul_assoc]; exact Nat.le_trans h2 h

set_option maxRecDepth 8000 in
set_option maxHeartbeats 1000000 in
theorem Decimal_spec (n : Nat) (hn : n < 9223372036854775808) : FnS Tryz.prog 39 [I64 n] [] (fun u Bs => u = S (dec n) ∧ Bs = []) := by
 refine fn_body Tryz.func39 rfl rfl rfl ?_
 intro W0 R
 simp only [List.zipIdx_cons, List.zipIdx_nil, List.map_cons, List.map_nil, Nat.zero_add, Nat.reduceAdd, List.cons_append, List.nil_append]
 have hdl := dec_len n 18 (by omega)
 refine g_seq ?_
 refine g_region ?_
 refine gl_v rfl (o_assign rfl) ?_
 refine gl_nil ?_
 refine ge_then ?_
 refine g_seq ?_
 refine g_region ?_
 refine gl_v rfl (o_assign rfl) ?_
 refine gl_nil ?_
 refine ge_then ?_
 refine g_seq ?_
 refine g_seq ?_
 refine g_region ?_
 refine gl_v rfl (o_assign rfl) ?_
 refine gl_nil ?_
 refine ge_then ?_
 refine g_block ?_
 refine g_loop (ι := Nat × Nat × By) (fun z => z.1 ≤ 20 ∧ (z.1 = 0 ∨ 0 < z.2.1) ∧ z.2.1 * 10 ^ z.1 ≤ n ∧ dec n = dec z.2.1 ++ z.2.2) (fun z => [(4, I64 z.1), (3, S z.2.2), (0, I64 z.2.1)]) (fun _ => R) (fun z => 20 - z.1) (0, n, []) (⟨Nat.zero_le _, .inl rfl, by simp, by simp⟩) (Keep.cons rfl (Keep.cons rfl (Keep.cons rfl (Keep.nil)))) (tO) ?_
 rintro ⟨i, m, s⟩ ⟨hi, hm0, hmn, hdn⟩
 replace hi : i ≤ 20 := hi
 replace hm0 : i = 0 ∨ 0 < m := hm0
 replace hmn : m * 10 ^ i ≤ n := hmn
 replace hdn : dec n = dec m ++ s := hdn
 have hmm : m ≤ n := by have h1 : 1 ≤ 10 ^ i := Nat.one_le_pow _ _ (by decide); exact Nat.le_trans (by have := Nat.mul_le_mul_left m h1; omega) hmn
 have hsl : s.length ≤ 19 := by have := congrArg List.length hdn; rw [List.length_append] at this; omega
 have h1i : (UInt8.ofNat (48 + m % 10)).toNat = 48 + m % 10 := dig_nat (by omega)
 refine g_seq ?_
 refine g_seq ?_
 refine g_region ?_
 refine gl_v rfl (o_move rfl) ?_
 refine gl_v rfl (o_lss rfl rfl) ?_
 refine gl_nil ?_
 refine ge_then ?_
 refine g_cond rfl (fun hc1 => ?_) (fun hc1 => ?_)
 ·
  replace hc1 := hs_ hc1
  refine g_skip ?_
  refine ge_then ?_
  refine g_seq ?_
  refine g_block ?_
  refine g_seq ?_
  refine g_region ?_
  refine gl_v rfl (o_move rfl) ?_
  refine gl_v rfl (o_remR ((m % 10 : Nat) : Int) (tmodn m 10) rfl rfl (by decide)) ?_
  refine gl_v rfl (o_addR ((48 + m % 10 : Nat) : Int) (by rw [wr_i64 (by omega)]; omega) rfl rfl) ?_
  refine gl_v rfl (o_convR (((UInt8.ofNat (48 + m % 10)).toNat : Int)) (by rw [wr_u8 (by omega), h1i]) rfl) ?_
  first | refine gl_n rfl (o_buildS1 rfl rfl rfl) ?_ | refine gl_n rfl (o_buildS1A rfl rfl rfl rfl) ?_ | refine gl_n rfl (o_buildS rfl rfl rfl rfl) ?_
  rintro _ _ ⟨b13, rfl, rfl⟩
  refine gl_v rfl (o_bstr [UInt8.ofNat (48 + m % 10)] rfl rfl rfl) ?_
  refine gl_v rfl (o_move rfl) ?_
  refine gl_v rfl (o_adds rfl rfl (by simp only [List.length_cons, List.length_nil]; omega)) ?_
  refine gl_v rfl (o_assign rfl) ?_
  refine gl_nil ?_
  refine ge_then ?_
  refine g_seq ?_
  refine g_region ?_
  refine gl_v rfl (o_move rfl) ?_
  refine gl_v rfl (o_quoR ((m / 10 : Nat) : Int) (by rw [show ((m : Int)).tdiv 10 = ((m / 10 : Nat) : Int) from tdivn m 10]; exact wr_i64 (by omega)) rfl rfl (by decide)) ?_
  refine gl_v rfl (o_assign rfl) ?_
  refine gl_nil ?_
  refine ge_then ?_
  refine g_seq ?_
  refine g_region ?_
  refine gl_v rfl (o_move rfl) ?_
  refine gl_v rfl (o_eql rfl rfl) ?_
  refine gl_nil ?_
  refine ge_then ?_
  refine g_cond rfl (fun hc2 => ?_) (fun hc2 => ?_)
  ·
   replace hc2 := hs_ hc2
   refine g_exit ?_
   refine ge_block_pass rfl ?_
   refine ge_then_exit ?_
   refine ge_then_exit ?_
   refine ge_block_exit ?_
   refine ge_then ?_
   refine g_seq ?_
   refine g_region ?_
   refine gl_v rfl (o_move rfl) ?_
   refine gl_v rfl (o_assign rfl) ?_
   refine gl_nil ?_
   refine ge_then ?_
   refine g_ret ?_
   refine ret1 (.inl rfl) rfl rfl _ (⟨by rw [dec_last hdn (by omega)]; rfl, rfl⟩) (tO)
  ·
   replace hc2 := hs_ hc2
   refine g_skip ?_
   refine ge_block ?_
   refine ge_then ?_
   refine g_region ?_
   refine gl_v rfl (o_move rfl) ?_
   refine gl_v rfl (o_addR ((i + 1 : Nat) : Int) (by rw [wr_i64 (by omega)]; omega) rfl rfl) ?_
   refine gl_v rfl (o_assign rfl) ?_
   refine gl_nil ?_
   refine ge_round (i + 1, m / 10, UInt8.ofNat (48 + m % 10) :: s) ⟨show i + 1 ≤ 20 by omega, .inr (show 0 < m / 10 by omega), dec_pow hmn, dec_step hdn (by omega)⟩ (show 20 - (i + 1) < 20 - i by omega) (Keep.cons rfl (Keep.cons rfl (Keep.cons rfl (Keep.nil)))) (tO)
 ·
  replace hc1 := hs_ hc1
  (obtain rfl : i = 20 := by omega); exfalso; have : m * 10 ^ 20 ≤ n := hmn; omega

set_option maxRecDepth 8000 in
set_option maxHeartbeats 2000000 in
theorem put3_spec (xs ws : List By) (a : Option Addr) (c : Nat) (v : Value) (A : Assn) [RdA v A ws.length (wsC ws)] (hx : OKJ xs) (hw : xs = [] → ∀ w, ws.head? = some w → w ≠ []) (hl : wl (xs ++ ws) ≤ 100000000) : FnS Tryz.prog 38 [.slice a (joinS xs).length c, v] [byA a c (joinS xs), A] (fun u Bs => ∃ a' c', u = .slice a' (joinS (xs ++ ws)).length c' ∧ Bs = [byA a' c' (joinS (xs ++ ws))]) := by
 refine fn_body Tryz.func38 rfl rfl rfl ?_
 intro W0 R
 simp only [List.zipIdx_cons, List.zipIdx_nil, List.map_cons, List.map_nil, Nat.zero_add, Nat.reduceAdd, List.cons_append, List.nil_append]
 refine g_seq ?_
 refine g_region ?_
 refine gl_v rfl (o_assign rfl) ?_
 refine gl_nil ?_
 refine ge_then ?_
 refine g_seq ?_
 refine g_seq ?_
 refine g_region ?_
 refine gl_v rfl (o_assign rfl) ?_
 refine gl_nil ?_
 refine ge_then ?_
 refine g_block ?_
 refine g_loop (ι := Nat × Option Addr × Nat) (fun x => x.1 ≤ ws.length ∧ OKJ (xs ++ ws.take x.1)) (fun x => [(5, I64 x.1), (0, .slice x.2.1 (joinS (xs ++ ws.take x.1)).length x.2.2), (1, v)]) (fun x => byA x.2.1 x.2.2 (joinS (xs ++ ws.take x.1)) :: A :: R) (fun x => ws.length - x.1) (0, a, c) (⟨Nat.zero_le _, by rw [List.take_zero, List.append_nil]; exact hx⟩) ((by rw [List.take_zero, List.append_nil]; exact Keep.cons rfl (Keep.cons rfl (Keep.cons rfl Keep.nil)))) (by rw [List.take_zero, List.append_nil]; exact (tO)) ?_
 rintro ⟨j, ba, bc⟩ ⟨hj, hok⟩
 replace hj : j ≤ ws.length := hj
 replace hok : OKJ (xs ++ ws.take j) := hok
 dsimp only
 have hj1 := joinS_len (xs ++ ws.take j)
 have hj2 : wl (xs ++ ws.take j) ≤ wl (xs ++ ws) := by rw [wl_app, wl_app]; have := wl_flat (fun w : By => [w]) ws j; simp only [List.flatMap_singleton'] at this; omega
 have hwl := len_wl (xs ++ ws)
 rw [List.length_append] at hwl
 generalize hys : (xs ++ ws.take j) = ys at *
 refine g_seq ?_
 refine g_seq ?_
 refine g_region ?_
 refine gl_v rfl (o_move rfl) ?_
 refine gl_v rfl (o_move rfl) ?_
 first | refine gl_v rfl (o_len rfl) ?_ | refine gl_v rfl (o_lenL rfl) ?_
 refine gl_v rfl (o_lss rfl rfl) ?_
 refine gl_nil ?_
 refine ge_then ?_
 refine g_cond rfl (fun hc1 => ?_) (fun hc1 => ?_)
 ·
  replace hc1 := hs_ hc1
  obtain ⟨w, hwj⟩ : ∃ t, ws[j]? = some t := ⟨_, List.getElem?_eq_getElem (show j < ws.length by omega)⟩
  have hts : xs ++ ws.take (j + 1) = ys ++ [w] := by rw [← hys, List.append_assoc, List.append_cancel_left_eq]; obtain ⟨hi, e⟩ := List.getElem?_eq_some_iff.1 hwj; rw [List.take_succ_eq_append_getElem hi, e]
  have hwl2 : w.length ≤ 100000000 := by have := wl_mem (fun w : By => [w]) (List.mem_of_getElem? hwj); simp only [List.flatMap_singleton', wl] at this; rw [wl_app] at hl; omega
  refine g_skip ?_
  refine ge_then ?_
  refine g_seq ?_
  refine g_block ?_
  refine g_seq ?_
  refine g_seq ?_
  refine g_region ?_
  refine gl_v rfl (o_move rfl) ?_
  first | refine gl_v rfl (o_len rfl) ?_ | refine gl_v rfl (o_lenL rfl) ?_
  refine gl_v rfl (o_gtr rfl rfl) ?_
  refine gl_nil ?_
  refine ge_then ?_
  refine g_cond rfl (fun hc2 => ?_) (fun hc2 => ?_)
  ·
   replace hc2 := hs_ hc2
   refine g_region ?_
   refine gl_v rfl (o_move rfl) ?_
   first | refine gl_n rfl (o_buildS1 rfl rfl rfl) ?_ | refine gl_n rfl (o_buildS1A rfl rfl rfl rfl) ?_ | refine gl_n rfl (o_buildS rfl rfl rfl rfl) ?_
   rintro _ _ ⟨b16, rfl, rfl⟩
   refine gl_n rfl (o_append (news := [Value.int .u8 32]) (xs := byC (joinS ys)) rfl rfl pA rfl rfl rfl (by omega) (by unfold maxLen; omega)) ?_
   rintro _ _ ⟨a17, c17, rfl, rfl⟩
   rw [show byC (joinS ys) ++ [Value.int .u8 32] = byC (joinS ys ++ [32]) from by simp [byC], show (joinS ys).length + 1 = (joinS ys ++ [32]).length from by simp]
   have hl32 : (joinS ys ++ [32]).length = (joinS ys).length + 1 := by simp
   refine gl_v rfl (o_assign rfl) ?_
   refine gl_nil ?_
   refine ge_then ?_
   refine g_region ?_
   refine gl_v rfl (o_move rfl) ?_
   refine gl_v rfl (o_move rfl) ?_
   refine gl_v rfl (o_move rfl) ?_
   refine gl_v rfl (o_idxS rfl rfl (show j < ws.length by omega)) ?_
   refine gl_v rfl (o_loadS rfl (show (wsC ws)[j * 1]? = some (S w) by rw [Nat.mul_one, List.getElem?_map, hwj]; rfl)) ?_
   refine gl_n rfl (o_appendT (by kernel_rfl) rfl rfl sE (by omega) (by unfold maxLen; omega)) ?_
   rintro _ _ ⟨a23, c23, rfl, rfl⟩
   refine gl_v rfl (o_assign rfl) ?_
   refine gl_nil ?_
   refine ge_block ?_
   refine ge_then ?_
   refine g_region ?_
   refine gl_v rfl (o_move rfl) ?_
   refine gl_v rfl (o_addR ((j + 1 : Nat) : Int) (by rw [wr_i64 (by omega)]; omega) rfl rfl) ?_
   refine gl_v rfl (o_assign rfl) ?_
   refine gl_nil ?_
   have hok' := put_ok hw hwj hys hok
   refine ge_round (j + 1, a23, c23) ⟨show j + 1 ≤ ws.length by omega, by show OKJ (xs ++ ws.take (j + 1)); rw [hts]; exact hok'⟩ (by show ws.length - (j + 1) < ws.length - j; omega) (by dsimp only; rw [hts, put_T hok (by omega)]; exact (Keep.cons rfl (Keep.cons rfl (Keep.cons rfl (Keep.nil))))) (by dsimp only; rw [hts, put_T hok (by omega)]; exact (tO))
  ·
   replace hc2 := hs_ hc2
   refine g_skip ?_
   refine ge_then ?_
   refine g_region ?_
   refine gl_v rfl (o_move rfl) ?_
   refine gl_v rfl (o_move rfl) ?_
   refine gl_v rfl (o_move rfl) ?_
   refine gl_v rfl (o_idxS rfl rfl (show j < ws.length by omega)) ?_
   refine gl_v rfl (o_loadS rfl (show (wsC ws)[j * 1]? = some (S w) by rw [Nat.mul_one, List.getElem?_map, hwj]; rfl)) ?_
   refine gl_n rfl (o_appendT (by kernel_rfl) rfl rfl sE (by omega) (by unfold maxLen; omega)) ?_
   rintro _ _ ⟨a23, c23, rfl, rfl⟩
   refine gl_v rfl (o_assign rfl) ?_
   refine gl_nil ?_
   refine ge_block ?_
   refine ge_then ?_
   refine g_region ?_
   refine gl_v rfl (o_move rfl) ?_
   refine gl_v rfl (o_addR ((j + 1 : Nat) : Int) (by rw [wr_i64 (by omega)]; omega) rfl rfl) ?_
   refine gl_v rfl (o_assign rfl) ?_
   refine gl_nil ?_
   have hok' := put_ok hw hwj hys hok
   refine ge_round (j + 1, a23, c23) ⟨show j + 1 ≤ ws.length by omega, by show OKJ (xs ++ ws.take (j + 1)); rw [hts]; exact hok'⟩ (by show ws.length - (j + 1) < ws.length - j; omega) (by dsimp only; rw [hts, put_F hok (by omega)]; exact (Keep.cons rfl (Keep.cons rfl (Keep.cons rfl (Keep.nil))))) (by dsimp only; rw [hts, put_F hok (by omega)]; exact (tO))
 ·
  replace hc1 := hs_ hc1
  obtain rfl : j = ws.length := by omega
  rw [List.take_length] at hys
  refine g_exit ?_
  refine ge_then_exit ?_
  refine ge_then_exit ?_
  refine ge_block_exit ?_
  refine ge_then ?_
  refine g_seq ?_
  refine g_region ?_
  refine gl_v rfl (o_move rfl) ?_
  refine gl_v rfl (o_assign rfl) ?_
  refine gl_nil ?_
  refine ge_then ?_
  refine g_ret ?_
  refine ret1 (.inl rfl) rfl rfl [byA ba bc (joinS (xs ++ ws))] (⟨ba, bc, by rw [hys], rfl⟩) (by rw [hys]; exact (tO))

theorem pt1 (xs : List By) (a : Option Addr) (c b : Nat) (x0 : By) (hx : OKJ xs) (hw : xs = [] → x0 ≠ []) (hl : wl (xs ++ [x0]) ≤ 100000000) : FnS Tryz.prog 38 [.slice a (joinS xs).length c, .slice (some ⟨b, 0, none⟩) 1 1] [byA a c (joinS xs), cel b 9 [S x0]] (fun u Bs => ∃ a' c', u = .slice a' (joinS (xs ++ [x0])).length c' ∧ Bs = [byA a' c' (joinS (xs ++ [x0]))]) :=
  haveI : RdA (.slice (some ⟨b, 0, none⟩) 1 1) (cel b 9 [S x0]) ([x0] : List By).length (wsC [x0]) := lit_rda
  put3_spec xs [x0] a c (.slice (some ⟨b, 0, none⟩) 1 1) (cel b 9 [S x0]) hx (fun e w hw' => by simp only [List.head?_cons, Option.some.injEq] at hw'; rw [← hw']; exact hw e) hl

theorem pt2 (xs : List By) (a : Option Addr) (c b : Nat) (x0 x1 : By) (hx : OKJ xs) (hw : xs = [] → x0 ≠ []) (hl : wl (xs ++ [x0, x1]) ≤ 100000000) : FnS Tryz.prog 38 [.slice a (joinS xs).length c, .slice (some ⟨b, 0, none⟩) 2 2] [byA a c (joinS xs), cel b 9 [S x0, S x1]] (fun u Bs => ∃ a' c', u = .slice a' (joinS (xs ++ [x0, x1])).length c' ∧ Bs = [byA a' c' (joinS (xs ++ [x0, x1]))]) :=
  haveI : RdA (.slice (some ⟨b, 0, none⟩) 2 2) (cel b 9 [S x0, S x1]) ([x0, x1] : List By).length (wsC [x0, x1]) := lit_rda
  put3_spec xs [x0, x1] a c (.slice (some ⟨b, 0, none⟩) 2 2) (cel b 9 [S x0, S x1]) hx (fun e w hw' => by simp only [List.head?_cons, Option.some.injEq] at hw'; rw [← hw']; exact hw e) hl

theorem pt3 (xs : List By) (a : Option Addr) (c b : Nat) (x0 x1 x2 : By) (hx : OKJ xs) (hw : xs = [] → x0 ≠ []) (hl : wl (xs ++ [x0, x1, x2]) ≤ 100000000) : FnS Tryz.prog 38 [.slice a (joinS xs).length c, .slice (some ⟨b, 0, none⟩) 3 3] [byA a c (joinS xs), cel b 9 [S x0, S x1, S x2]] (fun u Bs => ∃ a' c', u = .slice a' (joinS (xs ++ [x0, x1, x2])).length c' ∧ Bs = [byA a' c' (joinS (xs ++ [x0, x1, x2]))]) :=
  haveI : RdA (.slice (some ⟨b, 0, none⟩) 3 3) (cel b 9 [S x0, S x1, S x2]) ([x0, x1, x2] : List By).length (wsC [x0, x1, x2]) := lit_rda
  put3_spec xs [x0, x1, x2] a c (.slice (some ⟨b, 0, none⟩) 3 3) (cel b 9 [S x0, S x1, S x2]) hx (fun e w hw' => by simp only [List.head?_cons, Option.some.injEq] at hw'; rw [← hw']; exact hw e) hl

theorem pt4 (xs : List By) (a : Option Addr) (c b : Nat) (x0 x1 x2 x3 : By) (hx : OKJ xs) (hw : xs = [] → x0 ≠ []) (hl : wl (xs ++ [x0, x1, x2, x3]) ≤ 100000000) : FnS Tryz.prog 38 [.slice a (joinS xs).length c, .slice (some ⟨b, 0, none⟩) 4 4] [byA a c (joinS xs), cel b 9 [S x0, S x1, S x2, S x3]] (fun u Bs => ∃ a' c', u = .slice a' (joinS (xs ++ [x0, x1, x2, x3])).length c' ∧ Bs = [byA a' c' (joinS (xs ++ [x0, x1, x2, x3]))]) :=
  haveI : RdA (.slice (some ⟨b, 0, none⟩) 4 4) (cel b 9 [S x0, S x1, S x2, S x3]) ([x0, x1, x2, x3] : List By).length (wsC [x0, x1, x2, x3]) := lit_rda
  put3_spec xs [x0, x1, x2, x3] a c (.slice (some ⟨b, 0, none⟩) 4 4) (cel b 9 [S x0, S x1, S x2, S x3]) hx (fun e w hw' => by simp only [List.head?_cons, Option.some.injEq] at hw'; rw [← hw']; exact hw e) hl

theorem pt8 (xs : List By) (a : Option Addr) (c b : Nat) (x0 x1 x2 x3 x4 x5 x6 x7 : By) (hx : OKJ xs) (hw : xs = [] → x0 ≠ []) (hl : wl (xs ++ [x0, x1, x2, x3, x4, x5, x6, x7]) ≤ 100000000) : FnS Tryz.prog 38 [.slice a (joinS xs).length c, .slice (some ⟨b, 0, none⟩) 8 8] [byA a c (joinS xs), cel b 9 [S x0, S x1, S x2, S x3, S x4, S x5, S x6, S x7]] (fun u Bs => ∃ a' c', u = .slice a' (joinS (xs ++ [x0, x1, x2, x3, x4, x5, x6, x7])).length c' ∧ Bs = [byA a' c' (joinS (xs ++ [x0, x1, x2, x3, x4, x5, x6, x7]))]) :=
  haveI : RdA (.slice (some ⟨b, 0, none⟩) 8 8) (cel b 9 [S x0, S x1, S x2, S x3, S x4, S x5, S x6, S x7]) ([x0, x1, x2, x3, x4, x5, x6, x7] : List By).length (wsC [x0, x1, x2, x3, x4, x5, x6, x7]) := lit_rda
  put3_spec xs [x0, x1, x2, x3, x4, x5, x6, x7] a c (.slice (some ⟨b, 0, none⟩) 8 8) (cel b 9 [S x0, S x1, S x2, S x3, S x4, S x5, S x6, S x7]) hx (fun e w hw' => by simp only [List.head?_cons, Option.some.injEq] at hw'; rw [← hw']; exact hw e) hl

theorem OKJ.more {xs : List By} (h : OKJ xs) (hne : xs ≠ []) (ys : List By) : OKJ (xs ++ ys) := OKJ.app ys h (fun e => absurd e hne)
theorem ne_app {xs : List By} (hne : xs ≠ []) (ys : List By) : xs ++ ys ≠ [] := fun e => hne (List.append_eq_nil_iff.1 e).1
theorem wl_effs {l : List Eff} {k : Nat} {x : Eff} (h : l[k]? = some x) : wl (effsWs (l.take k)) + wl (effWs x) + 2 ≤ wl (effsWs l) := by
  have h1 : wl (effsWs (l.take (k + 1))) ≤ wl (effsWs l) := wl_flat _ l (k + 1)
  have h2 := effs_succ h []
  rw [List.nil_append, List.nil_append] at h2
  rw [h2, wl_app, wl_app] at h1
  exact h1
theorem dec_itoa {n : Int} (h : 0 ≤ n) : itoaB n = dec n.toNat := by unfold itoaB; rw [if_neg (by omega)]

theorem Decimal_Z (n : Int) (h : 0 ≤ n ∧ n ≤ 65535) : FnS Tryz.prog 39 [I64 n] [] (fun u Bs => u = S (itoaB n) ∧ Bs = []) := by
  have := Decimal_spec n.toNat (by omega)
  rw [Int.toNat_of_nonneg h.1] at this
  rw [dec_itoa h.1]; exact this

end Go.Proofs.YtgkjnilckmminaaGreatDoor.L
