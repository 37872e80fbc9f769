/-
  WheelPlays: the reference's functions. Own work, printed in part by a program of its own.
-/
import Derived.Test.YtmohikdmdmplaaaGreatWheelB
set_option linter.unusedSimpArgs false
set_option linter.unusedVariables false
set_option linter.unusedSectionVars false
namespace Go.Proofs.YtmohikdmdmplaaaGreat.L
open Go.L Go.L.Whl
abbrev rT : TypeId := 47
abbrev rvL (now : Nat) (a1 : Option Addr) (c1 : Nat) (a2 : Option Addr) (c2 n : Nat) : List Value := [I64 now, .slice a1 n c1, .slice a2 n c2]
abbrev rV (now : Nat) (a1 : Option Addr) (c1 : Nat) (a2 : Option Addr) (c2 n : Nat) : Value := .agg (rvL now a1 c1 a2 c2 n).toArray
abbrev idO (a : Option Addr) (c n : Nat) (T : List Tm) : Assn := own (.slice a n c) 22 1 n (T.map fun t => U64 t.id)
abbrev duO (a : Option Addr) (c n : Nat) (T : List Tm) : Assn := own (.slice a n c) 3 1 n (T.map fun t => I64 t.due)
def AtP (T : List Tm) (id r : Int) : Prop := (r = -1 ∧ ∀ t ∈ T, t.id ≠ id) ∨ ∃ (i : Nat) (t : Tm), r = i ∧ T[i]? = some t ∧ t.id = id
theorem no_all {T : List Tm} {id : Int} {i : Nat} (h : ∀ j t, j < i → T[j]? = some t → t.id ≠ id) (hi : T.length ≤ i) : ∀ t ∈ T, t.id ≠ id := fun t ht => by
  obtain ⟨j, hj, e⟩ := List.getElem_of_mem ht
  exact h j t (by omega) (by rw [List.getElem?_eq_getElem hj, e])
theorem no_succ {T : List Tm} {id : Int} {i : Nat} {t : Tm} (h : ∀ j t, j < i → T[j]? = some t → t.id ≠ id) (ht : T[i]? = some t) (hne : t.id ≠ id) : ∀ j t, j < i + 1 → T[j]? = some t → t.id ≠ id := fun j u hj hu => by
  rcases Nat.lt_succ_iff_lt_or_eq.1 hj with h1 | rfl
  · exact h j u h1 hu
  · rw [ht] at hu; obtain rfl := Option.some.inj hu; exact hne
theorem ret2c {P : Program} {W0 : World} {n : Nat} {sl : Slots} {As R : List Assn} {fn : Func} {post : Value → List Assn → Prop} {e : Exit} (he : e = .ret ∨ e = .normal) {t1 t2 b1 : Nat} {T1 e1 sz : Nat} {v2 : Value} {vs : List Value}
    {u1 : Obj → List Assn} [TAgg P T1 sz] [Owns b1 As (.cells vs.toArray e1 (0, 0)) u1]
    (hf : fn.results = #[.cell t1 T1, .tmp t2]) (h1 : slk sl t1 = some (ptr b1 0)) (h2 : slk sl t2 = some v2) (hl : vs.length = sz)
    (Bs : List Assn) (hp : post (.tuple #[.agg vs.toArray, v2]) Bs) (hA : ∀ h, Sat As h → Sat (Bs ++ R) h) : GE W0 n sl As (FQ P W0 fn post R e) :=
  fq_ret he (fun a w hs s => by
    have r1 := agg_res (P := P) (T := T1) (b := b1) (off := 0) (vs := vs) s (by rw [List.drop_zero, List.take_of_length_le (by omega)]) hl
    simp [results, hf, hs.val _ _ h1, hs.val _ _ h2, asAddr, r1]) Bs hp hA
theorem tdivn (s n : Nat) : (s : Int).tdiv n = ((s / n : Nat) : Int) := by rw [Int.tdiv_eq_ediv_of_nonneg (by omega)]; exact (Int.natCast_ediv s n).symm
theorem wr_nat {q : Nat} (h : q < 4000000000000000000) : IntKind.i64.wrap (q : Int) = q := wr_i64 (by omega)
theorem quo8 {t i : Nat} (h : t / 8 ^ (i + 1) < 4000000000000000000) : IntKind.i64.wrap (((t / 8 ^ i : Nat) : Int).tdiv 8) = ((t / 8 ^ (i + 1) : Nat) : Int) := by
  have h1 := tdivn (t / 8 ^ i) 8
  rw [Nat.div_div_eq_div_mul, show 8 ^ i * 8 = 8 ^ (i + 1) from (Nat.pow_succ ..).symm] at h1
  rw [show (8 : Int) = ((8 : Nat) : Int) from rfl, h1]; exact wr_nat h
theorem quo4 {t : Nat} (h : t / 4096 < 4000000000000000000) : IntKind.i64.wrap ((t : Int).tdiv 4096) = ((t / 4096 : Nat) : Int) := by
  rw [show (4096 : Int) = ((4096 : Nat) : Int) from rfl, tdivn]; exact wr_i64 (by omega)
theorem div_up {now due l : Nat} (hl : l ≤ 3) (e : now / 8 ^ l = due / 8 ^ l) : now / 4096 = due / 4096 := by
  rcases (show l = 0 ∨ l = 1 ∨ l = 2 ∨ l = 3 by omega) with rfl | rfl | rfl | rfl <;> simp at e <;> omega
theorem inv_down {now due l : Nat} (hl : l ≤ 3) (h : ∀ m, l < m → m ≤ 3 → now / 8 ^ m = due / 8 ^ m) (e : now / 8 ^ l % 8 = due / 8 ^ l % 8) (e4 : now / 4096 = due / 4096) : ∀ m, l - 1 < m → m ≤ 3 → now / 8 ^ m = due / 8 ^ m := fun m h1 h3 => by
  by_cases hm : l < m
  · exact h m hm h3
  · have h1' := h 1; have h2' := h 2; have h3' := h 3
    obtain rfl : l = m := by omega
    rcases (show l = 0 ∨ l = 1 ∨ l = 2 ∨ l = 3 by omega) with rfl | rfl | rfl | rfl <;> simp at * <;> omega
theorem posn_ref {now due l : Nat} (hl : l ≤ 3) (h : ∀ m, l < m → m ≤ 3 → now / 8 ^ m = due / 8 ^ m) (hex : l = 0 ∨ ¬ now / 8 ^ l = due / 8 ^ l) : posn now due = 8 * l + due / 8 ^ l % 8 := by
  have h1 := h 1; have h2 := h 2; have h3 := h 3
  unfold posn
  rcases (show l = 0 ∨ l = 1 ∨ l = 2 ∨ l = 3 by omega) with rfl | rfl | rfl | rfl <;> simp at * <;> (repeat' split) <;> omega
theorem fil_keep {p : Tm → Bool} {T : List Tm} {i : Nat} {t : Tm} (h : T[i]? = some t) (hp : p t = true) : (T.take (i + 1)).filter p = (T.take i).filter p ++ [t] := by
  obtain ⟨hi, e⟩ := List.getElem?_eq_some_iff.1 h
  rw [List.take_succ_eq_append_getElem hi, e, List.filter_append, List.filter_cons_of_pos hp, List.filter_nil]
theorem fil_drop {p : Tm → Bool} {T : List Tm} {i : Nat} {t : Tm} (h : T[i]? = some t) (hp : ¬ p t = true) : (T.take (i + 1)).filter p = (T.take i).filter p := by
  obtain ⟨hi, e⟩ := List.getElem?_eq_some_iff.1 h
  rw [List.take_succ_eq_append_getElem hi, e, List.filter_append, List.filter_cons_of_neg hp, List.filter_nil, List.append_nil]
theorem any_hit {T : List Tm} {i : Nat} {t : Tm} {id : Int} (h : T[i]? = some t) (hp : t.id = id) : ((T.take (i + 1)).any fun t => decide (t.id = id)) = true := by
  obtain ⟨hi, e⟩ := List.getElem?_eq_some_iff.1 h
  rw [List.take_succ_eq_append_getElem hi, e]; simp [hp]
theorem any_miss {T : List Tm} {i : Nat} {t : Tm} {id : Int} (h : T[i]? = some t) (hp : t.id ≠ id) : ((T.take (i + 1)).any fun t => decide (t.id = id)) = ((T.take i).any fun t => decide (t.id = id)) := by
  obtain ⟨hi, e⟩ := List.getElem?_eq_some_iff.1 h
  rw [List.take_succ_eq_append_getElem hi, e]; simp [hp]
theorem get_any {w : Wh} {id : Int} : (w.get id).isSome = w.T.any fun t => decide (t.id = id) := by
  unfold Wh.get; rw [Bool.eq_iff_iff, List.find?_isSome, List.any_eq_true]
theorem at_get {w : Wh} (hw : WOk w) {id r : Int} (h : AtP w.T id r) : (0 ≤ r ↔ (w.get id).isSome = true) ∧ (r < 0 → w.get id = none) := by
  rcases h with ⟨rfl, h⟩ | ⟨i, t, rfl, ht, rfl⟩
  · have hn := get_none.2 h
    rw [hn]; simp
  · have hg := get_some hw (List.mem_of_getElem? ht) rfl
    rw [hg]; constructor
    · simp
    · intro h; omega
theorem at_some {w : Wh} (hw : WOk w) {id r : Int} {t : Tm} (h : AtP w.T id r) (hg : w.get id = some t) : ∃ i : Nat, r = i ∧ w.T[i]? = some t := by
  rcases h with ⟨rfl, h⟩ | ⟨i, u, rfl, ht, rfl⟩
  · rw [get_none.2 h] at hg; cases hg
  · have h2 := get_some hw (List.mem_of_getElem? ht) rfl
    rw [h2] at hg; obtain rfl := Option.some.inj hg
    exact ⟨i, rfl, ht⟩
theorem at_none {w : Wh} (hw : WOk w) {id r : Int} (h : AtP w.T id r) (hg : w.get id = none) : r = -1 := by
  rcases h with ⟨rfl, h⟩ | ⟨i, u, rfl, ht, rfl⟩
  · rfl
  · rw [get_some hw (List.mem_of_getElem? ht) rfl] at hg; cases hg

set_option maxRecDepth 8000 in
theorem at_spec (now : Nat) (a1 a2 : Option Addr) (c1 c2 : Nat) (T : List Tm) (id : Int) (hb : T.length ≤ 1000) : FnS Tryz.prog 97 [(rV now a1 c1 a2 c2 T.length), U64 id] [idO a1 c1 T.length T] (fun u Bs => ∃ r, u = I64 r ∧ AtP T id r ∧ Bs = [idO a1 c1 T.length T]) := by
 refine fn_body Tryz.func97 rfl rfl rfl ?_
 intro W0 R
 simp only [List.zipIdx_cons, List.zipIdx_nil, List.map_cons, List.map_nil, Nat.zero_add, Nat.reduceAdd, List.cons_append, List.nil_append]
 refine g_seq ?_
 refine g_region ?_
 refine gl_n rfl (o_boxA rfl) ?_
 rintro _ _ ⟨b2, rfl, rfl⟩
 refine gl_v rfl (o_assign rfl) ?_
 refine gl_nil ?_
 refine ge_then ?_
 refine g_seq ?_
 refine g_seq ?_
 refine g_region ?_
 refine gl_v rfl (o_assign rfl) ?_
 refine gl_nil ?_
 refine ge_then ?_
 refine g_block ?_
 refine g_loop (ι := Nat) (fun i => i ≤ T.length ∧ ∀ j t, j < i → T[j]? = some t → t.id ≠ id) (fun i => [(5, I64 i), (2, ptr b2 0), (1, U64 id)]) (fun _ => cel b2 rT (rvL now a1 c1 a2 c2 T.length) :: idO a1 c1 T.length T :: R) (fun i => T.length - i) 0 (⟨Nat.zero_le _, fun _ _ h => absurd h (Nat.not_lt_zero _)⟩) (Keep.cons rfl (Keep.cons rfl (Keep.cons rfl (Keep.nil)))) (To.sat (by repeat (first | exact .nil | exact .done .refl | (apply To.cons; · (repeat (first | exact .head | apply Sel.tail))) | exact .done (by repeat (first | exact .refl | apply Drop.skip))))) ?_
 rintro i ⟨hi, hno⟩
 replace hi : i ≤ T.length := hi
 refine g_seq ?_
 refine g_seq ?_
 refine g_region ?_
 refine gl_v rfl (o_move rfl) ?_
 first | refine gl_v rfl (o_fldS rfl) ?_ | refine gl_v rfl (o_fld rfl) ?_
 first | refine gl_v rfl (o_load rfl rfl) ?_ | refine gl_v rfl (o_loadS rfl rfl) ?_ | refine gl_v rfl (o_loadC rfl) ?_
 refine gl_v rfl (o_lenL rfl) ?_
 refine gl_v rfl (o_lss rfl rfl) ?_
 refine gl_nil ?_
 refine ge_then ?_
 refine g_cond rfl (fun hc1 => ?_) (fun hc1 => ?_)
 ·
  first | replace hc1 := of_decide_eq_true hc1 | replace hc1 := lt_f hc1 | replace hc1 := le_f hc1 | replace hc1 := dec_f hc1 | replace hc1 := nlt_t hc1 | replace hc1 := nle_t hc1 | replace hc1 := ndec_t hc1 | replace hc1 := ndec_f hc1 | replace hc1 := nn_t hc1 | replace hc1 := nn_f hc1 | skip
  obtain ⟨t, ht⟩ : ∃ t, T[i]? = some t := ⟨_, List.getElem?_eq_getElem (by omega)⟩
  refine g_skip ?_
  refine ge_then ?_
  refine g_seq ?_
  refine g_block ?_
  refine g_seq ?_
  refine g_region ?_
  first | refine gl_v rfl (o_fldS rfl) ?_ | refine gl_v rfl (o_fld rfl) ?_
  first | refine gl_v rfl (o_load rfl rfl) ?_ | refine gl_v rfl (o_loadS rfl rfl) ?_ | refine gl_v rfl (o_loadC rfl) ?_
  refine gl_v rfl (o_move rfl) ?_
  refine gl_v rfl (o_idxS rfl rfl (show i < T.length by omega)) ?_
  refine gl_v rfl (o_loadS rfl (show (T.map fun t => U64 t.id)[i * 1]? = some (U64 t.id) by rw [Nat.mul_one]; exact map_at' (f := fun t : Tm => U64 t.id) ht)) ?_
  refine gl_v rfl (o_move rfl) ?_
  refine gl_v rfl (o_eql rfl rfl) ?_
  refine gl_nil ?_
  refine ge_then ?_
  refine g_cond rfl (fun hc2 => ?_) (fun hc2 => ?_)
  ·
   first | replace hc2 := of_decide_eq_true hc2 | replace hc2 := lt_f hc2 | replace hc2 := le_f hc2 | replace hc2 := dec_f hc2 | replace hc2 := nlt_t hc2 | replace hc2 := nle_t hc2 | replace hc2 := ndec_t hc2 | replace hc2 := ndec_f hc2 | replace hc2 := nn_t hc2 | replace hc2 := nn_f hc2 | skip
   have heq : t.id = id := hc2
   refine g_seq ?_
   refine g_region ?_
   refine gl_v rfl (o_move rfl) ?_
   refine gl_v rfl (o_assign rfl) ?_
   refine gl_nil ?_
   refine ge_then ?_
   refine g_ret ?_
   refine ge_block_ret ?_
   refine ge_then_ret ?_
   refine ge_then_ret ?_
   refine ge_block_ret ?_
   refine ge_then_ret ?_
   refine ret1 (.inl rfl) rfl rfl _ (⟨(i : Int), rfl, .inr ⟨i, t, rfl, ht, heq⟩, rfl⟩) (To.sat (by repeat (first | exact .nil | exact .done .refl | (apply To.cons; · (repeat (first | exact .head | apply Sel.tail))) | exact .done (by repeat (first | exact .refl | apply Drop.skip)))))
  ·
   first | replace hc2 := of_decide_eq_true hc2 | replace hc2 := lt_f hc2 | replace hc2 := le_f hc2 | replace hc2 := dec_f hc2 | replace hc2 := nlt_t hc2 | replace hc2 := nle_t hc2 | replace hc2 := ndec_t hc2 | replace hc2 := ndec_f hc2 | replace hc2 := nn_t hc2 | replace hc2 := nn_f hc2 | skip
   have hne : t.id ≠ id := hc2
   refine g_skip ?_
   refine ge_block ?_
   refine ge_then ?_
   refine g_region ?_
   refine gl_v rfl (o_move rfl) ?_
   refine gl_v rfl (o_addR ((i + 1 : Nat) : Int) (by rw [wr_i64 (by omega)]; omega) rfl rfl) ?_
   refine gl_v rfl (o_assign rfl) ?_
   refine gl_nil ?_
   refine ge_round (i + 1) ⟨show i + 1 ≤ T.length by omega, no_succ hno ht hne⟩ (show T.length - (i + 1) < T.length - i by omega) (Keep.cons rfl (Keep.cons rfl (Keep.cons rfl (Keep.nil)))) (To.sat (by repeat (first | exact .nil | exact .done .refl | (apply To.cons; · (repeat (first | exact .head | apply Sel.tail))) | exact .done (by repeat (first | exact .refl | apply Drop.skip)))))
 ·
  first | replace hc1 := of_decide_eq_true hc1 | replace hc1 := lt_f hc1 | replace hc1 := le_f hc1 | replace hc1 := dec_f hc1 | replace hc1 := nlt_t hc1 | replace hc1 := nle_t hc1 | replace hc1 := ndec_t hc1 | replace hc1 := ndec_f hc1 | replace hc1 := nn_t hc1 | replace hc1 := nn_f hc1 | skip
  refine g_exit ?_
  refine ge_then_exit ?_
  refine ge_then_exit ?_
  refine ge_block_exit ?_
  refine ge_then ?_
  refine g_seq ?_
  refine g_region ?_
  refine gl_v rfl (o_assign rfl) ?_
  refine gl_nil ?_
  refine ge_then ?_
  refine g_ret ?_
  refine ret1 (.inl rfl) rfl rfl _ (⟨-1, rfl, .inl ⟨rfl, no_all hno (by omega)⟩, rfl⟩) (To.sat (by repeat (first | exact .nil | exact .done .refl | (apply To.cons; · (repeat (first | exact .head | apply Sel.tail))) | exact .done (by repeat (first | exact .refl | apply Drop.skip)))))

set_option maxRecDepth 8000 in
theorem radd_spec (a1 a2 : Option Addr) (c1 c2 : Nat) (w : Wh) (hw : WOk w) (hn : w.now < 3000000000000000000) (id d : Int) : FnS Tryz.prog 82 [(rV w.now a1 c1 a2 c2 w.T.length), U64 id, I64 d] [idO a1 c1 w.T.length w.T, duO a2 c2 w.T.length w.T] (fun u Bs => ∃ a1 c1 a2 c2, u = .tuple #[rV (addR w id d).now a1 c1 a2 c2 (addR w id d).T.length, I64 (addE w id d)] ∧ Bs = [idO a1 c1 (addR w id d).T.length (addR w id d).T, duO a2 c2 (addR w id d).T.length (addR w id d).T]) := by
 refine fn_body Tryz.func82 rfl rfl rfl ?_
 intro W0 R
 simp only [List.zipIdx_cons, List.zipIdx_nil, List.map_cons, List.map_nil, Nat.zero_add, Nat.reduceAdd, List.cons_append, List.nil_append]
 have hlen := hw.len
 refine g_seq ?_
 refine g_region ?_
 refine gl_n rfl (o_boxA rfl) ?_
 rintro _ _ ⟨b3, rfl, rfl⟩
 refine gl_n rfl (o_alloc) ?_
 rintro _ _ ⟨b6, rfl, rfl⟩
 refine gl_v rfl (o_assign rfl) ?_
 refine gl_nil ?_
 refine ge_then ?_
 refine g_seq ?_
 refine g_seq ?_
 refine g_region ?_
 refine gl_v rfl (o_move rfl) ?_
 refine gl_v rfl (o_lss rfl rfl) ?_
 refine gl_v rfl (o_move rfl) ?_
 refine gl_g rfl rfl (fun hc1 => ?_) (fun hc1 => ?_) rfl
 ·
  have hc1' := hc1
  first | replace hc1' := of_decide_eq_true hc1' | replace hc1' := lt_f hc1' | replace hc1' := le_f hc1' | replace hc1' := dec_f hc1' | replace hc1' := nlt_t hc1' | replace hc1' := nle_t hc1' | replace hc1' := ndec_t hc1' | replace hc1' := ndec_f hc1' | replace hc1' := nn_t hc1' | replace hc1' := nn_f hc1' | skip
  refine gl_v rfl (o_move rfl) ?_
  refine gl_gT rfl rfl hc1 ?_
  refine gl_v rfl (o_gtr rfl rfl) ?_
  refine gl_v rfl (o_pickF hc1 rfl rfl) ?_
  refine gl_nil ?_
  refine ge_then ?_
  refine g_cond rfl (fun hc2 => ?_) (fun hc2 => ?_)
  ·
   first | replace hc2 := of_decide_eq_true hc2 | replace hc2 := lt_f hc2 | replace hc2 := le_f hc2 | replace hc2 := dec_f hc2 | replace hc2 := nlt_t hc2 | replace hc2 := nle_t hc2 | replace hc2 := ndec_t hc2 | replace hc2 := ndec_f hc2 | replace hc2 := nn_t hc2 | replace hc2 := nn_f hc2 | skip
   refine g_seq ?_
   refine g_region ?_
   first | refine gl_v rfl (o_loadSA rfl rfl rfl) ?_ | refine gl_v rfl (o_loadA rfl rfl rfl) ?_
   first | refine gl_u (o_storeSA rfl rfl rfl rfl (by simp; omega) (by simp)) ?_ | refine gl_u (o_storeA rfl rfl rfl rfl rfl) ?_
   refine gl_v rfl (o_assign rfl) ?_
   refine gl_nil ?_
   refine ge_then ?_
   refine g_ret ?_
   refine ge_then_ret ?_
   have he := addE_1 (w := w) (id := id) (d := d) (by omega)
   exact ret2c (.inl rfl) rfl rfl rfl rfl [idO a1 c1 w.T.length w.T, duO a2 c2 w.T.length w.T] ⟨a1, c1, a2, c2, by (rw [addR_ne (show addE w id d ≠ 0 by rw [he]; decide), he]) <;> rfl, by rw [addR_ne (show addE w id d ≠ 0 by rw [he]; decide)]⟩ (To.sat (by repeat (first | exact .nil | exact .done .refl | (apply To.cons; · (repeat (first | exact .head | apply Sel.tail))) | exact .done (by repeat (first | exact .refl | apply Drop.skip)))))
  ·
   first | replace hc2 := of_decide_eq_true hc2 | replace hc2 := lt_f hc2 | replace hc2 := le_f hc2 | replace hc2 := dec_f hc2 | replace hc2 := nlt_t hc2 | replace hc2 := nle_t hc2 | replace hc2 := ndec_t hc2 | replace hc2 := ndec_f hc2 | replace hc2 := nn_t hc2 | replace hc2 := nn_f hc2 | skip
   refine g_skip ?_
   refine ge_then ?_
   refine g_seq ?_
   refine g_seq ?_
   refine g_region ?_
   first | refine gl_v rfl (o_loadSA rfl rfl rfl) ?_ | refine gl_v rfl (o_loadA rfl rfl rfl) ?_
   refine gl_v rfl (o_move rfl) ?_
   refine gl_c rfl (o_call rfl (at_spec w.now a1 a2 c1 c2 w.T id (by omega)) (by repeat (first | exact .nil | (apply Part.cons; · (repeat (first | exact .head | apply Sel.tail)))))) ?_
   rintro _ R ⟨_, ⟨r, rfl, hat, rfl⟩, rfl⟩
   try simp only [List.cons_append, List.nil_append]
   refine gl_v rfl (o_geq rfl rfl) ?_
   refine gl_nil ?_
   refine ge_then ?_
   refine g_cond rfl (fun hc3 => ?_) (fun hc3 => ?_)
   ·
    first | replace hc3 := of_decide_eq_true hc3 | replace hc3 := lt_f hc3 | replace hc3 := le_f hc3 | replace hc3 := dec_f hc3 | replace hc3 := nlt_t hc3 | replace hc3 := nle_t hc3 | replace hc3 := ndec_t hc3 | replace hc3 := ndec_f hc3 | replace hc3 := nn_t hc3 | replace hc3 := nn_f hc3 | skip
    refine g_seq ?_
    refine g_region ?_
    first | refine gl_v rfl (o_loadSA rfl rfl rfl) ?_ | refine gl_v rfl (o_loadA rfl rfl rfl) ?_
    first | refine gl_u (o_storeSA rfl rfl rfl rfl (by simp; omega) (by simp)) ?_ | refine gl_u (o_storeA rfl rfl rfl rfl rfl) ?_
    refine gl_v rfl (o_assign rfl) ?_
    refine gl_nil ?_
    refine ge_then ?_
    refine g_ret ?_
    refine ge_then_ret ?_
    obtain ⟨t, ht⟩ : ∃ t, w.get id = some t := Option.isSome_iff_exists.1 ((at_get hw hat).1.1 (by omega))
    have he := addE_3 (w := w) (id := id) (d := d) (by omega) ht
    exact ret2c (.inl rfl) rfl rfl rfl rfl [idO a1 c1 w.T.length w.T, duO a2 c2 w.T.length w.T] ⟨a1, c1, a2, c2, by (rw [addR_ne (show addE w id d ≠ 0 by rw [he]; decide), he]) <;> rfl, by rw [addR_ne (show addE w id d ≠ 0 by rw [he]; decide)]⟩ (To.sat (by repeat (first | exact .nil | exact .done .refl | (apply To.cons; · (repeat (first | exact .head | apply Sel.tail))) | exact .done (by repeat (first | exact .refl | apply Drop.skip)))))
   ·
    first | replace hc3 := of_decide_eq_true hc3 | replace hc3 := lt_f hc3 | replace hc3 := le_f hc3 | replace hc3 := dec_f hc3 | replace hc3 := nlt_t hc3 | replace hc3 := nle_t hc3 | replace hc3 := ndec_t hc3 | replace hc3 := ndec_f hc3 | replace hc3 := nn_t hc3 | replace hc3 := nn_f hc3 | skip
    refine g_skip ?_
    refine ge_then ?_
    refine g_seq ?_
    refine g_seq ?_
    refine g_region ?_
    first | refine gl_v rfl (o_fldS rfl) ?_ | refine gl_v rfl (o_fld rfl) ?_
    first | refine gl_v rfl (o_load rfl rfl) ?_ | refine gl_v rfl (o_loadS rfl rfl) ?_ | refine gl_v rfl (o_loadC rfl) ?_
    refine gl_v rfl (o_lenL rfl) ?_
    refine gl_v rfl (o_geq rfl rfl) ?_
    refine gl_nil ?_
    refine ge_then ?_
    refine g_cond rfl (fun hc4 => ?_) (fun hc4 => ?_)
    ·
     first | replace hc4 := of_decide_eq_true hc4 | replace hc4 := lt_f hc4 | replace hc4 := le_f hc4 | replace hc4 := dec_f hc4 | replace hc4 := nlt_t hc4 | replace hc4 := nle_t hc4 | replace hc4 := ndec_t hc4 | replace hc4 := ndec_f hc4 | replace hc4 := nn_t hc4 | replace hc4 := nn_f hc4 | skip
     refine g_seq ?_
     refine g_region ?_
     first | refine gl_v rfl (o_loadSA rfl rfl rfl) ?_ | refine gl_v rfl (o_loadA rfl rfl rfl) ?_
     first | refine gl_u (o_storeSA rfl rfl rfl rfl (by simp; omega) (by simp)) ?_ | refine gl_u (o_storeA rfl rfl rfl rfl rfl) ?_
     refine gl_v rfl (o_assign rfl) ?_
     refine gl_nil ?_
     refine ge_then ?_
     refine g_ret ?_
     refine ge_then_ret ?_
     have he := addE_4 (w := w) (id := id) (d := d) (by omega) ((at_get hw hat).2 (by omega)) (by omega)
     exact ret2c (.inl rfl) rfl rfl rfl rfl [idO a1 c1 w.T.length w.T, duO a2 c2 w.T.length w.T] ⟨a1, c1, a2, c2, by (rw [addR_ne (show addE w id d ≠ 0 by rw [he]; decide), he]) <;> rfl, by rw [addR_ne (show addE w id d ≠ 0 by rw [he]; decide)]⟩ (To.sat (by repeat (first | exact .nil | exact .done .refl | (apply To.cons; · (repeat (first | exact .head | apply Sel.tail))) | exact .done (by repeat (first | exact .refl | apply Drop.skip)))))
    ·
     first | replace hc4 := of_decide_eq_true hc4 | replace hc4 := lt_f hc4 | replace hc4 := le_f hc4 | replace hc4 := dec_f hc4 | replace hc4 := nlt_t hc4 | replace hc4 := nle_t hc4 | replace hc4 := ndec_t hc4 | replace hc4 := ndec_f hc4 | replace hc4 := nn_t hc4 | replace hc4 := nn_f hc4 | skip
     refine g_skip ?_
     refine ge_then ?_
     refine g_seq ?_
     refine g_region ?_
     first | refine gl_v rfl (o_fldS rfl) ?_ | refine gl_v rfl (o_fld rfl) ?_
     first | refine gl_v rfl (o_load rfl rfl) ?_ | refine gl_v rfl (o_loadS rfl rfl) ?_ | refine gl_v rfl (o_loadC rfl) ?_
     refine gl_v rfl (o_build rfl rfl) ?_
     refine gl_n rfl (o_alloc) ?_
     rintro _ _ ⟨b8, rfl, rfl⟩
     first | refine gl_u (o_storeSA rfl rfl rfl rfl (by simp; omega) (by simp)) ?_ | refine gl_u (o_storeA rfl rfl rfl rfl rfl) ?_
     refine gl_nil ?_
     refine ge_then ?_
     refine g_seq ?_
     refine g_imp (own_nil0 (e := 22) (sz := 1)) ?_
     refine g_region ?_
     first | refine gl_v rfl (o_fldS rfl) ?_ | refine gl_v rfl (o_fld rfl) ?_
     first | refine gl_v rfl (o_load rfl rfl) ?_ | refine gl_v rfl (o_loadS rfl rfl) ?_ | refine gl_v rfl (o_loadC rfl) ?_
     first | refine gl_v rfl (o_fldS rfl) ?_ | refine gl_v rfl (o_fld rfl) ?_
     first | refine gl_v rfl (o_load rfl rfl) ?_ | refine gl_v rfl (o_loadS rfl rfl) ?_ | refine gl_v rfl (o_loadC rfl) ?_
     refine gl_n rfl (o_appendS rfl rfl (by repeat (first | exact .head | apply Sel.tail)) rfl (by simp) (by simp; intros; rfl) (by omega) (by unfold maxLen; omega)) ?_
     rintro _ _ ⟨a33, c33, rfl, rfl⟩
     simp only [Nat.zero_add, List.nil_append]
     first | refine gl_v rfl (o_fldS rfl) ?_ | refine gl_v rfl (o_fld rfl) ?_
     first | refine gl_u (o_store rfl rfl rfl rfl) ?_ | refine gl_u (o_storeS rfl rfl rfl (by first | assumption | omega | simp)) ?_
     refine gl_nil ?_
     refine ge_then ?_
     refine g_seq ?_
     refine g_region ?_
     first | refine gl_v rfl (o_fldS rfl) ?_ | refine gl_v rfl (o_fld rfl) ?_
     first | refine gl_v rfl (o_load rfl rfl) ?_ | refine gl_v rfl (o_loadS rfl rfl) ?_ | refine gl_v rfl (o_loadC rfl) ?_
     refine gl_v rfl (o_move rfl) ?_
     first | refine gl_n rfl (o_buildS1 rfl rfl rfl) ?_ | refine gl_n rfl (o_buildS1A rfl rfl rfl rfl) ?_ | refine gl_n rfl (o_buildS rfl rfl rfl rfl) ?_
     rintro _ _ ⟨b38, rfl, rfl⟩
     refine gl_n rfl (o_append rfl rfl (by repeat (first | exact .nil | (apply Part.cons; · (repeat (first | exact .head | apply Sel.tail))))) rfl rfl rfl (by omega) (by unfold maxLen; omega)) ?_
     rintro _ _ ⟨a39, c39, rfl, rfl⟩
     first | refine gl_v rfl (o_fldS rfl) ?_ | refine gl_v rfl (o_fld rfl) ?_
     first | refine gl_u (o_store rfl rfl rfl rfl) ?_ | refine gl_u (o_storeS rfl rfl rfl (by first | assumption | omega | simp)) ?_
     refine gl_nil ?_
     refine ge_then ?_
     refine g_seq ?_
     refine g_imp (own_nil0 (e := 3) (sz := 1)) ?_
     refine g_region ?_
     first | refine gl_v rfl (o_fldS rfl) ?_ | refine gl_v rfl (o_fld rfl) ?_
     first | refine gl_v rfl (o_load rfl rfl) ?_ | refine gl_v rfl (o_loadS rfl rfl) ?_ | refine gl_v rfl (o_loadC rfl) ?_
     first | refine gl_v rfl (o_fldS rfl) ?_ | refine gl_v rfl (o_fld rfl) ?_
     first | refine gl_v rfl (o_load rfl rfl) ?_ | refine gl_v rfl (o_loadS rfl rfl) ?_ | refine gl_v rfl (o_loadC rfl) ?_
     refine gl_n rfl (o_appendS rfl rfl (by repeat (first | exact .head | apply Sel.tail)) rfl (by simp) (by simp; intros; rfl) (by omega) (by unfold maxLen; omega)) ?_
     rintro _ _ ⟨a45, c45, rfl, rfl⟩
     simp only [Nat.zero_add, List.nil_append]
     first | refine gl_v rfl (o_fldS rfl) ?_ | refine gl_v rfl (o_fld rfl) ?_
     first | refine gl_u (o_store rfl rfl rfl rfl) ?_ | refine gl_u (o_storeS rfl rfl rfl (by first | assumption | omega | simp)) ?_
     refine gl_nil ?_
     refine ge_then ?_
     refine g_seq ?_
     refine g_region ?_
     first | refine gl_v rfl (o_fldS rfl) ?_ | refine gl_v rfl (o_fld rfl) ?_
     first | refine gl_v rfl (o_load rfl rfl) ?_ | refine gl_v rfl (o_loadS rfl rfl) ?_ | refine gl_v rfl (o_loadC rfl) ?_
     first | refine gl_v rfl (o_fldS rfl) ?_ | refine gl_v rfl (o_fld rfl) ?_
     first | refine gl_v rfl (o_load rfl rfl) ?_ | refine gl_v rfl (o_loadS rfl rfl) ?_ | refine gl_v rfl (o_loadC rfl) ?_
     refine gl_v rfl (o_move rfl) ?_
     refine gl_v rfl (o_addR ((w.now + d.toNat : Nat) : Int) (by rw [wr_i64 (by omega)]; omega) rfl rfl) ?_
     first | refine gl_n rfl (o_buildS1 rfl rfl rfl) ?_ | refine gl_n rfl (o_buildS1A rfl rfl rfl rfl) ?_ | refine gl_n rfl (o_buildS rfl rfl rfl rfl) ?_
     rintro _ _ ⟨b53, rfl, rfl⟩
     refine gl_n rfl (o_append rfl rfl (by repeat (first | exact .nil | (apply Part.cons; · (repeat (first | exact .head | apply Sel.tail))))) rfl rfl rfl (by omega) (by unfold maxLen; omega)) ?_
     rintro _ _ ⟨a54, c54, rfl, rfl⟩
     first | refine gl_v rfl (o_fldS rfl) ?_ | refine gl_v rfl (o_fld rfl) ?_
     first | refine gl_u (o_store rfl rfl rfl rfl) ?_ | refine gl_u (o_storeS rfl rfl rfl (by first | assumption | omega | simp)) ?_
     refine gl_nil ?_
     refine ge_then ?_
     refine g_seq ?_
     refine g_region ?_
     first | refine gl_v rfl (o_loadSA rfl rfl rfl) ?_ | refine gl_v rfl (o_loadA rfl rfl rfl) ?_
     first | refine gl_u (o_storeSA rfl rfl rfl rfl (by simp; omega) (by simp)) ?_ | refine gl_u (o_storeA rfl rfl rfl rfl rfl) ?_
     refine gl_v rfl (o_assign rfl) ?_
     refine gl_nil ?_
     refine ge_then ?_
     refine g_ret ?_
     have he := addE_z (w := w) (id := id) (d := d) (by omega) ((at_get hw hat).2 (by omega)) (by omega)
     have hr : addR w id d = ⟨w.now, w.seq + 1, w.T ++ [⟨id, w.now + d.toNat, w.seq + 1⟩]⟩ := by unfold addR; rw [if_pos he]
     rw [hr]
     exact ret2c (.inl rfl) rfl rfl rfl rfl [own (.slice a39 (w.T.length + 1) c39) 22 1 (w.T.length + 1) ((w.T.map fun t => U64 t.id) ++ [U64 id]), own (.slice a54 (w.T.length + 1) c54) 3 1 (w.T.length + 1) ((w.T.map fun t => I64 t.due) ++ [I64 ((w.now + d.toNat : Nat) : Int)])] ⟨a39, c39, a54, c54, by rw [he, List.length_append]; rfl, by simp only [idO, duO, List.length_append, List.length_singleton, List.map_append, List.map_cons, List.map_nil]⟩ (To.sat (by repeat (first | exact .nil | exact .done .refl | (apply To.cons; · (repeat (first | exact .head | apply Sel.tail))) | exact .done (by repeat (first | exact .refl | apply Drop.skip)))))
 ·
  have hc1' := hc1
  first | replace hc1' := of_decide_eq_true hc1' | replace hc1' := lt_f hc1' | replace hc1' := le_f hc1' | replace hc1' := dec_f hc1' | replace hc1' := nlt_t hc1' | replace hc1' := nle_t hc1' | replace hc1' := ndec_t hc1' | replace hc1' := ndec_f hc1' | replace hc1' := nn_t hc1' | replace hc1' := nn_f hc1' | skip
  simp only [putO]
  refine gl_gF rfl rfl hc1 rfl ?_
  refine gl_v rfl (o_pickT hc1 rfl rfl) ?_
  refine gl_nil ?_
  refine ge_then ?_
  refine g_cond_true rfl ?_
  refine g_seq ?_
  refine g_region ?_
  first | refine gl_v rfl (o_loadSA rfl rfl rfl) ?_ | refine gl_v rfl (o_loadA rfl rfl rfl) ?_
  first | refine gl_u (o_storeSA rfl rfl rfl rfl (by simp; omega) (by simp)) ?_ | refine gl_u (o_storeA rfl rfl rfl rfl rfl) ?_
  refine gl_v rfl (o_assign rfl) ?_
  refine gl_nil ?_
  refine ge_then ?_
  refine g_ret ?_
  refine ge_then_ret ?_
  have he := addE_1 (w := w) (id := id) (d := d) (by omega)
  exact ret2c (.inl rfl) rfl rfl rfl rfl [idO a1 c1 w.T.length w.T, duO a2 c2 w.T.length w.T] ⟨a1, c1, a2, c2, by (rw [addR_ne (show addE w id d ≠ 0 by rw [he]; decide), he]) <;> rfl, by rw [addR_ne (show addE w id d ≠ 0 by rw [he]; decide)]⟩ (To.sat (by repeat (first | exact .nil | exact .done .refl | (apply To.cons; · (repeat (first | exact .head | apply Sel.tail))) | exact .done (by repeat (first | exact .refl | apply Drop.skip)))))

set_option maxRecDepth 8000 in
theorem rcut_spec (a1 a2 : Option Addr) (c1 c2 : Nat) (w : Wh) (hw : WOk w) (hn : w.now < 3000000000000000000) (id : Int) : FnS Tryz.prog 80 [(rV w.now a1 c1 a2 c2 w.T.length), U64 id] [idO a1 c1 w.T.length w.T, duO a2 c2 w.T.length w.T] (fun u Bs => ∃ a1 c1 a2 c2, u = .tuple #[rV (cutR w id).now a1 c1 a2 c2 (cutR w id).T.length, .bool (w.get id).isSome] ∧ Bs = [idO a1 c1 (cutR w id).T.length (cutR w id).T, duO a2 c2 (cutR w id).T.length (cutR w id).T]) := by
 refine fn_body Tryz.func80 rfl rfl rfl ?_
 intro W0 R
 simp only [List.zipIdx_cons, List.zipIdx_nil, List.map_cons, List.map_nil, Nat.zero_add, Nat.reduceAdd, List.cons_append, List.nil_append]
 have hlen := hw.len
 refine g_seq ?_
 refine g_region ?_
 refine gl_n rfl (o_boxA rfl) ?_
 rintro _ _ ⟨b2, rfl, rfl⟩
 refine gl_n rfl (o_alloc) ?_
 rintro _ _ ⟨b4, rfl, rfl⟩
 refine gl_v rfl (o_assign rfl) ?_
 refine gl_nil ?_
 refine ge_then ?_
 refine g_seq ?_
 refine g_region ?_
 first | refine gl_v rfl (o_fldS rfl) ?_ | refine gl_v rfl (o_fld rfl) ?_
 first | refine gl_v rfl (o_load rfl rfl) ?_ | refine gl_v rfl (o_loadS rfl rfl) ?_ | refine gl_v rfl (o_loadC rfl) ?_
 refine gl_v rfl (o_build rfl rfl) ?_
 refine gl_n rfl (o_alloc) ?_
 rintro _ _ ⟨b6, rfl, rfl⟩
 first | refine gl_u (o_storeSA rfl rfl rfl rfl (by simp; omega) (by simp)) ?_ | refine gl_u (o_storeA rfl rfl rfl rfl rfl) ?_
 refine gl_nil ?_
 refine ge_then ?_
 refine g_seq ?_
 refine g_region ?_
 refine gl_v rfl (o_assign rfl) ?_
 refine gl_nil ?_
 refine ge_then ?_
 refine g_seq ?_
 refine g_seq ?_
 refine g_region ?_
 refine gl_v rfl (o_assign rfl) ?_
 refine gl_nil ?_
 refine ge_then ?_
 refine g_block ?_
 refine g_loop (ι := Nat × Option Addr × Nat × Option Addr × Nat) (fun x => x.1 ≤ w.T.length) (fun x => [(8, I64 x.1), (7, .bool ((w.T.take x.1).any fun t => decide (t.id = id))), (6, ptr b6 0), (4, ptr b4 0), (2, ptr b2 0), (1, U64 id)]) (fun x => cel b6 rT (rvL w.now x.2.1 x.2.2.1 x.2.2.2.1 x.2.2.2.2 ((w.T.take x.1).filter fun t => ¬ t.id = id).length) :: idO x.2.1 x.2.2.1 ((w.T.take x.1).filter fun t => ¬ t.id = id).length ((w.T.take x.1).filter fun t => ¬ t.id = id) :: duO x.2.2.2.1 x.2.2.2.2 ((w.T.take x.1).filter fun t => ¬ t.id = id).length ((w.T.take x.1).filter fun t => ¬ t.id = id) :: cel b4 rT [I64 0, .slice none 0 0, .slice none 0 0] :: cel b2 rT (rvL w.now a1 c1 a2 c2 w.T.length) :: idO a1 c1 w.T.length w.T :: duO a2 c2 w.T.length w.T :: R) (fun x => w.T.length - x.1) (0, none, 0, none, 0) (Nat.zero_le _) (Keep.cons rfl (Keep.cons rfl (Keep.cons rfl (Keep.cons rfl (Keep.cons rfl (Keep.cons rfl (Keep.nil))))))) (fun h s => by have s1 := own_nil0 (e := 22) (sz := 1) h s; have s2 := own_nil0 (e := 3) (sz := 1) h s1; exact (To.sat (by repeat (first | exact .nil | exact .done .refl | (apply To.cons; · (repeat (first | exact .head | apply Sel.tail))) | exact .done (by repeat (first | exact .refl | apply Drop.skip))))) h s2) ?_
 rintro ⟨i, x1, y1, x2, y2⟩ hi
 replace hi : i ≤ w.T.length := hi
 dsimp only
 refine g_seq ?_
 refine g_seq ?_
 refine g_region ?_
 refine gl_v rfl (o_move rfl) ?_
 first | refine gl_v rfl (o_fldS rfl) ?_ | refine gl_v rfl (o_fld rfl) ?_
 first | refine gl_v rfl (o_load rfl rfl) ?_ | refine gl_v rfl (o_loadS rfl rfl) ?_ | refine gl_v rfl (o_loadC rfl) ?_
 refine gl_v rfl (o_lenL rfl) ?_
 refine gl_v rfl (o_lss rfl rfl) ?_
 refine gl_nil ?_
 refine ge_then ?_
 refine g_cond rfl (fun hc1 => ?_) (fun hc1 => ?_)
 ·
  first | replace hc1 := of_decide_eq_true hc1 | replace hc1 := lt_f hc1 | replace hc1 := le_f hc1 | replace hc1 := dec_f hc1 | replace hc1 := nlt_t hc1 | replace hc1 := nle_t hc1 | replace hc1 := ndec_t hc1 | replace hc1 := ndec_f hc1 | replace hc1 := nn_t hc1 | replace hc1 := nn_f hc1 | skip
  obtain ⟨t, ht⟩ : ∃ t, w.T[i]? = some t := ⟨_, List.getElem?_eq_getElem (by omega)⟩
  have hF := List.length_filter_le (fun t : Tm => decide (¬ t.id = id)) (w.T.take i)
  rw [List.length_take] at hF
  refine g_skip ?_
  refine ge_then ?_
  refine g_seq ?_
  refine g_block ?_
  refine g_seq ?_
  refine g_seq ?_
  refine g_region ?_
  first | refine gl_v rfl (o_fldS rfl) ?_ | refine gl_v rfl (o_fld rfl) ?_
  first | refine gl_v rfl (o_load rfl rfl) ?_ | refine gl_v rfl (o_loadS rfl rfl) ?_ | refine gl_v rfl (o_loadC rfl) ?_
  refine gl_v rfl (o_move rfl) ?_
  refine gl_v rfl (o_idxS rfl rfl (show i < w.T.length by omega)) ?_
  refine gl_v rfl (o_loadS rfl (show (w.T.map fun t => U64 t.id)[i * 1]? = some (U64 t.id) by rw [Nat.mul_one]; exact map_at' (f := fun t : Tm => U64 t.id) ht)) ?_
  refine gl_v rfl (o_move rfl) ?_
  refine gl_v rfl (o_eql rfl rfl) ?_
  refine gl_nil ?_
  refine ge_then ?_
  refine g_cond rfl (fun hc2 => ?_) (fun hc2 => ?_)
  ·
   first | replace hc2 := of_decide_eq_true hc2 | replace hc2 := lt_f hc2 | replace hc2 := le_f hc2 | replace hc2 := dec_f hc2 | replace hc2 := nlt_t hc2 | replace hc2 := nle_t hc2 | replace hc2 := ndec_t hc2 | replace hc2 := ndec_f hc2 | replace hc2 := nn_t hc2 | replace hc2 := nn_f hc2 | skip
   have heq : t.id = id := hc2
   refine g_seq ?_
   refine g_region ?_
   refine gl_v rfl (o_assign rfl) ?_
   refine gl_nil ?_
   refine ge_then ?_
   refine g_exit ?_
   refine ge_then_exit ?_
   refine ge_block_exit ?_
   refine ge_then ?_
   refine g_region ?_
   refine gl_v rfl (o_move rfl) ?_
   refine gl_v rfl (o_addR ((i + 1 : Nat) : Int) (by rw [wr_i64 (by omega)]; omega) rfl rfl) ?_
   refine gl_v rfl (o_assign rfl) ?_
   refine gl_nil ?_
   refine ge_round (i + 1, x1, y1, x2, y2) (show i + 1 ≤ w.T.length by omega) (show w.T.length - (i + 1) < w.T.length - i by omega) (Keep.cons rfl (Keep.cons (by rw [any_hit ht heq]; rfl) (Keep.cons rfl (Keep.cons rfl (Keep.cons rfl (Keep.cons rfl (Keep.nil))))))) (by rw [fil_drop (p := fun t : Tm => decide (¬ t.id = id)) ht (by simpa using heq)]; exact (To.sat (by repeat (first | exact .nil | exact .done .refl | (apply To.cons; · (repeat (first | exact .head | apply Sel.tail))) | exact .done (by repeat (first | exact .refl | apply Drop.skip))))))
  ·
   first | replace hc2 := of_decide_eq_true hc2 | replace hc2 := lt_f hc2 | replace hc2 := le_f hc2 | replace hc2 := dec_f hc2 | replace hc2 := nlt_t hc2 | replace hc2 := nle_t hc2 | replace hc2 := ndec_t hc2 | replace hc2 := ndec_f hc2 | replace hc2 := nn_t hc2 | replace hc2 := nn_f hc2 | skip
   have hne : t.id ≠ id := hc2
   refine g_skip ?_
   refine ge_then ?_
   refine g_seq ?_
   refine g_draw [7, 8, 10] [7] [(0, .stab), (1, .stab), (2, .loc), (3, .loc), (4, .loc), (5, .loc), (6, .loc), (7, .eff), (8, .eff), (9, .loc), (10, .eff)] [cel b6 rT (rvL w.now x1 y1 x2 y2 ((w.T.take i).filter fun t => ¬ t.id = id).length)] mixed (by kernel_rfl) ?_
   first | refine go_vs rfl .none rfl (o_fldS rfl) (To.sat (by repeat (first | exact .nil | exact .done .refl | (apply To.cons; · (repeat (first | exact .head | apply Sel.tail))) | exact .done (by repeat (first | exact .refl | apply Drop.skip))))) ?_ | refine go_vs rfl .none rfl (o_fld rfl) (To.sat (by repeat (first | exact .nil | exact .done .refl | (apply To.cons; · (repeat (first | exact .head | apply Sel.tail))) | exact .done (by repeat (first | exact .refl | apply Drop.skip))))) ?_
   first | refine go_vs rfl .none rfl (o_load rfl rfl) (To.sat (by repeat (first | exact .nil | exact .done .refl | (apply To.cons; · (repeat (first | exact .head | apply Sel.tail))) | exact .done (by repeat (first | exact .refl | apply Drop.skip))))) ?_ | refine go_vs rfl .none rfl (o_loadS rfl rfl) (To.sat (by repeat (first | exact .nil | exact .done .refl | (apply To.cons; · (repeat (first | exact .head | apply Sel.tail))) | exact .done (by repeat (first | exact .refl | apply Drop.skip))))) ?_ | refine go_vs rfl .none rfl (o_loadC rfl) (To.sat (by repeat (first | exact .nil | exact .done .refl | (apply To.cons; · (repeat (first | exact .head | apply Sel.tail))) | exact .done (by repeat (first | exact .refl | apply Drop.skip))))) ?_
   first | refine go_v rfl .none rfl (o_fldS rfl) ?_ | refine go_v rfl .none rfl (o_fld rfl) ?_
   first | refine go_v rfl .none rfl (o_load rfl rfl) ?_ | refine go_v rfl .none rfl (o_loadS rfl rfl) ?_ | refine go_v rfl .none rfl (o_loadC rfl) ?_
   refine go_v rfl .none rfl (o_move rfl) ?_
   refine go_v rfl .none rfl (o_idxS rfl rfl (show i < w.T.length by omega)) ?_
   refine go_v rfl .none rfl (o_loadS rfl (show (w.T.map fun t => U64 t.id)[i * 1]? = some (U64 t.id) by rw [Nat.mul_one]; exact map_at' (f := fun t : Tm => U64 t.id) ht)) ?_
   first | refine go_n rfl .none rfl (o_buildS1 rfl rfl rfl) ?_ | refine go_n rfl .none rfl (o_buildS1A rfl rfl rfl rfl) ?_ | refine go_n rfl .none rfl (o_buildS rfl rfl rfl rfl) ?_
   rintro _ _ ⟨b33, rfl, rfl⟩
   refine ⟨(fun _ => (To.sat (by repeat (first | exact .nil | exact .done .refl | (apply To.cons; · (repeat (first | exact .head | apply Sel.tail))) | exact .done (by repeat (first | exact .refl | apply Drop.skip)))))), ?_⟩
   refine go_n rfl .none rfl (o_append rfl rfl (by repeat (first | exact .nil | (apply Part.cons; · (repeat (first | exact .head | apply Sel.tail))))) rfl rfl rfl (by omega) (by unfold maxLen; omega)) ?_
   rintro _ _ ⟨a34, c34, rfl, rfl⟩
   refine ⟨(fun hG => absurd hG (by decide)), ?_⟩
   first | refine go_v rfl .none rfl (o_fldS rfl) ?_ | refine go_v rfl .none rfl (o_fld rfl) ?_
   first | refine go_u rfl .none (o_store rfl rfl rfl rfl) (fun hG => absurd hG (by decide)) ?_ | refine go_u rfl .none (o_storeS rfl rfl rfl (by first | assumption | omega | simp)) (fun hG => absurd hG (by decide)) ?_
   refine go_nil ?_
   refine ge_then ?_
   refine g_draw [7, 8, 10] [7] [(0, .stab), (1, .stab), (2, .loc), (3, .loc), (4, .loc), (5, .loc), (6, .loc), (7, .eff), (8, .eff), (9, .loc), (10, .eff)] [cel b6 rT [I64 w.now, .slice a34 (((w.T.take i).filter fun t => ¬ t.id = id).length + 1) c34, .slice x2 ((w.T.take i).filter fun t => ¬ t.id = id).length y2]] mixed (by kernel_rfl) ?_
   first | refine go_vs rfl .none rfl (o_fldS rfl) (To.sat (by repeat (first | exact .nil | exact .done .refl | (apply To.cons; · (repeat (first | exact .head | apply Sel.tail))) | exact .done (by repeat (first | exact .refl | apply Drop.skip))))) ?_ | refine go_vs rfl .none rfl (o_fld rfl) (To.sat (by repeat (first | exact .nil | exact .done .refl | (apply To.cons; · (repeat (first | exact .head | apply Sel.tail))) | exact .done (by repeat (first | exact .refl | apply Drop.skip))))) ?_
   first | refine go_vs rfl .none rfl (o_load rfl rfl) (To.sat (by repeat (first | exact .nil | exact .done .refl | (apply To.cons; · (repeat (first | exact .head | apply Sel.tail))) | exact .done (by repeat (first | exact .refl | apply Drop.skip))))) ?_ | refine go_vs rfl .none rfl (o_loadS rfl rfl) (To.sat (by repeat (first | exact .nil | exact .done .refl | (apply To.cons; · (repeat (first | exact .head | apply Sel.tail))) | exact .done (by repeat (first | exact .refl | apply Drop.skip))))) ?_ | refine go_vs rfl .none rfl (o_loadC rfl) (To.sat (by repeat (first | exact .nil | exact .done .refl | (apply To.cons; · (repeat (first | exact .head | apply Sel.tail))) | exact .done (by repeat (first | exact .refl | apply Drop.skip))))) ?_
   first | refine go_v rfl .none rfl (o_fldS rfl) ?_ | refine go_v rfl .none rfl (o_fld rfl) ?_
   first | refine go_v rfl .none rfl (o_load rfl rfl) ?_ | refine go_v rfl .none rfl (o_loadS rfl rfl) ?_ | refine go_v rfl .none rfl (o_loadC rfl) ?_
   refine go_v rfl .none rfl (o_move rfl) ?_
   refine go_v rfl .none rfl (o_idxS rfl rfl (show i < w.T.length by omega)) ?_
   refine go_v rfl .none rfl (o_loadS rfl (show (w.T.map fun t => I64 t.due)[i * 1]? = some (I64 t.due) by rw [Nat.mul_one]; exact map_at' (f := fun t : Tm => I64 t.due) ht)) ?_
   first | refine go_n rfl .none rfl (o_buildS1 rfl rfl rfl) ?_ | refine go_n rfl .none rfl (o_buildS1A rfl rfl rfl rfl) ?_ | refine go_n rfl .none rfl (o_buildS rfl rfl rfl rfl) ?_
   rintro _ _ ⟨b43, rfl, rfl⟩
   refine ⟨(fun _ => (To.sat (by repeat (first | exact .nil | exact .done .refl | (apply To.cons; · (repeat (first | exact .head | apply Sel.tail))) | exact .done (by repeat (first | exact .refl | apply Drop.skip)))))), ?_⟩
   refine go_n rfl .none rfl (o_append rfl rfl (by repeat (first | exact .nil | (apply Part.cons; · (repeat (first | exact .head | apply Sel.tail))))) rfl rfl rfl (by omega) (by unfold maxLen; omega)) ?_
   rintro _ _ ⟨a44, c44, rfl, rfl⟩
   refine ⟨(fun hG => absurd hG (by decide)), ?_⟩
   first | refine go_v rfl .none rfl (o_fldS rfl) ?_ | refine go_v rfl .none rfl (o_fld rfl) ?_
   first | refine go_u rfl .none (o_store rfl rfl rfl rfl) (fun hG => absurd hG (by decide)) ?_ | refine go_u rfl .none (o_storeS rfl rfl rfl (by first | assumption | omega | simp)) (fun hG => absurd hG (by decide)) ?_
   refine go_nil ?_
   refine ge_block ?_
   refine ge_then ?_
   refine g_region ?_
   refine gl_v rfl (o_move rfl) ?_
   refine gl_v rfl (o_addR ((i + 1 : Nat) : Int) (by rw [wr_i64 (by omega)]; omega) rfl rfl) ?_
   refine gl_v rfl (o_assign rfl) ?_
   refine gl_nil ?_
   have hfs := fil_keep (p := fun t : Tm => decide (¬ t.id = id)) ht (by simpa using hne)
   refine ge_round (i + 1, a34, c34, a44, c44) (show i + 1 ≤ w.T.length by omega) (show w.T.length - (i + 1) < w.T.length - i by omega) (Keep.cons rfl (Keep.cons (by rw [any_miss ht hne]; rfl) (Keep.cons rfl (Keep.cons rfl (Keep.cons rfl (Keep.cons rfl (Keep.nil))))))) (by dsimp only; rw [hfs]; simp only [idO, duO, List.length_append, List.length_singleton, List.map_append, List.map_cons, List.map_nil]; exact (To.sat (by repeat (first | exact .nil | exact .done .refl | (apply To.cons; · (repeat (first | exact .head | apply Sel.tail))) | exact .done (by repeat (first | exact .refl | apply Drop.skip))))))
 ·
  first | replace hc1 := of_decide_eq_true hc1 | replace hc1 := lt_f hc1 | replace hc1 := le_f hc1 | replace hc1 := dec_f hc1 | replace hc1 := nlt_t hc1 | replace hc1 := nle_t hc1 | replace hc1 := ndec_t hc1 | replace hc1 := ndec_f hc1 | replace hc1 := nn_t hc1 | replace hc1 := nn_f hc1 | skip
  obtain rfl : i = w.T.length := by omega
  rw [List.take_length] at *
  refine g_exit ?_
  refine ge_then_exit ?_
  refine ge_then_exit ?_
  refine ge_block_exit ?_
  refine ge_then ?_
  refine g_seq ?_
  refine g_region ?_
  first | refine gl_v rfl (o_loadSA rfl rfl rfl) ?_ | refine gl_v rfl (o_loadA rfl rfl rfl) ?_
  refine gl_v rfl (o_move rfl) ?_
  first | refine gl_u (o_storeSA rfl rfl rfl rfl (by simp; omega) (by simp)) ?_ | refine gl_u (o_storeA rfl rfl rfl rfl rfl) ?_
  refine gl_v rfl (o_assign rfl) ?_
  refine gl_nil ?_
  refine ge_then ?_
  refine g_ret ?_
  exact ret2c (.inl rfl) rfl rfl rfl rfl [idO x1 y1 (cutR w id).T.length (cutR w id).T, duO x2 y2 (cutR w id).T.length (cutR w id).T] ⟨x1, y1, x2, y2, by rw [get_any]; rfl, rfl⟩ (To.sat (by repeat (first | exact .nil | exact .done .refl | (apply To.cons; · (repeat (first | exact .head | apply Sel.tail))) | exact .done (by repeat (first | exact .refl | apply Drop.skip)))))

set_option maxRecDepth 8000 in
theorem rtick_spec (a1 a2 : Option Addr) (c1 c2 : Nat) (w : Wh) (hw : WOk w) (hn : w.now < 3000000000000000000) : FnS Tryz.prog 58 [(rV w.now a1 c1 a2 c2 w.T.length)] [idO a1 c1 w.T.length w.T, duO a2 c2 w.T.length w.T] (fun u Bs => ∃ a1 c1 a2 c2 a3 c3, u = .tuple #[rV (tickR w).now a1 c1 a2 c2 (tickR w).T.length, .slice a3 (dueL w).length c3] ∧ Bs = [idO a1 c1 (tickR w).T.length (tickR w).T, duO a2 c2 (tickR w).T.length (tickR w).T, idO a3 c3 (dueL w).length (dueL w)]) := by
 refine fn_body Tryz.func58 rfl rfl rfl ?_
 intro W0 R
 simp only [List.zipIdx_cons, List.zipIdx_nil, List.map_cons, List.map_nil, Nat.zero_add, Nat.reduceAdd, List.cons_append, List.nil_append]
 have hlen := hw.len
 refine g_seq ?_
 refine g_region ?_
 refine gl_n rfl (o_boxA rfl) ?_
 rintro _ _ ⟨b1, rfl, rfl⟩
 refine gl_n rfl (o_alloc) ?_
 rintro _ _ ⟨b2, rfl, rfl⟩
 refine gl_v rfl (o_assign rfl) ?_
 refine gl_nil ?_
 refine ge_then ?_
 refine g_seq ?_
 refine g_region ?_
 first | refine gl_v rfl (o_fldS rfl) ?_ | refine gl_v rfl (o_fld rfl) ?_
 first | refine gl_v rfl (o_load rfl rfl) ?_ | refine gl_v rfl (o_loadS rfl rfl) ?_ | refine gl_v rfl (o_loadC rfl) ?_
 refine gl_v rfl (o_addR ((w.now + 1 : Nat) : Int) (by rw [wr_i64 (by omega)]; omega) rfl rfl) ?_
 refine gl_v rfl (o_build rfl rfl) ?_
 refine gl_n rfl (o_alloc) ?_
 rintro _ _ ⟨b4, rfl, rfl⟩
 first | refine gl_u (o_storeSA rfl rfl rfl rfl (by simp; omega) (by simp)) ?_ | refine gl_u (o_storeA rfl rfl rfl rfl rfl) ?_
 refine gl_nil ?_
 refine ge_then ?_
 refine g_seq ?_
 refine g_region ?_
 refine gl_v rfl (o_assign rfl) ?_
 refine gl_nil ?_
 refine ge_then ?_
 refine g_seq ?_
 refine g_seq ?_
 refine g_region ?_
 refine gl_v rfl (o_assign rfl) ?_
 refine gl_nil ?_
 refine ge_then ?_
 refine g_block ?_
 refine g_loop (ι := Nat × Option Addr × Nat × Option Addr × Nat × Option Addr × Nat) (fun x => x.1 ≤ w.T.length) (fun x => [(6, I64 x.1), (5, .slice x.2.2.2.2.2.1 ((w.T.take x.1).filter fun t => t.due = w.now + 1).length x.2.2.2.2.2.2), (4, ptr b4 0), (2, ptr b2 0), (1, ptr b1 0)]) (fun x => cel b4 rT (rvL (w.now + 1) x.2.1 x.2.2.1 x.2.2.2.1 x.2.2.2.2.1 ((w.T.take x.1).filter fun t => ¬ t.due = w.now + 1).length) :: idO x.2.1 x.2.2.1 ((w.T.take x.1).filter fun t => ¬ t.due = w.now + 1).length ((w.T.take x.1).filter fun t => ¬ t.due = w.now + 1) :: duO x.2.2.2.1 x.2.2.2.2.1 ((w.T.take x.1).filter fun t => ¬ t.due = w.now + 1).length ((w.T.take x.1).filter fun t => ¬ t.due = w.now + 1) :: idO x.2.2.2.2.2.1 x.2.2.2.2.2.2 ((w.T.take x.1).filter fun t => t.due = w.now + 1).length ((w.T.take x.1).filter fun t => t.due = w.now + 1) :: cel b2 rT [I64 0, .slice none 0 0, .slice none 0 0] :: cel b1 rT (rvL w.now a1 c1 a2 c2 w.T.length) :: idO a1 c1 w.T.length w.T :: duO a2 c2 w.T.length w.T :: R) (fun x => w.T.length - x.1) (0, none, 0, none, 0, none, 0) (Nat.zero_le _) (Keep.cons rfl (Keep.cons rfl (Keep.cons rfl (Keep.cons rfl (Keep.cons rfl (Keep.nil)))))) (fun h s => by have s1 := own_nil0 (e := 22) (sz := 1) h s; have s2 := own_nil0 (e := 3) (sz := 1) h s1; have s3 := own_nil0 (e := 22) (sz := 1) h s2; exact (To.sat (by repeat (first | exact .nil | exact .done .refl | (apply To.cons; · (repeat (first | exact .head | apply Sel.tail))) | exact .done (by repeat (first | exact .refl | apply Drop.skip))))) h s3) ?_
 rintro ⟨i, x1, y1, x2, y2, x3, y3⟩ hi
 replace hi : i ≤ w.T.length := hi
 dsimp only
 refine g_seq ?_
 refine g_seq ?_
 refine g_region ?_
 refine gl_v rfl (o_move rfl) ?_
 first | refine gl_v rfl (o_fldS rfl) ?_ | refine gl_v rfl (o_fld rfl) ?_
 first | refine gl_v rfl (o_load rfl rfl) ?_ | refine gl_v rfl (o_loadS rfl rfl) ?_ | refine gl_v rfl (o_loadC rfl) ?_
 refine gl_v rfl (o_lenL rfl) ?_
 refine gl_v rfl (o_lss rfl rfl) ?_
 refine gl_nil ?_
 refine ge_then ?_
 refine g_cond rfl (fun hc1 => ?_) (fun hc1 => ?_)
 ·
  first | replace hc1 := of_decide_eq_true hc1 | replace hc1 := lt_f hc1 | replace hc1 := le_f hc1 | replace hc1 := dec_f hc1 | replace hc1 := nlt_t hc1 | replace hc1 := nle_t hc1 | replace hc1 := ndec_t hc1 | replace hc1 := ndec_f hc1 | replace hc1 := nn_t hc1 | replace hc1 := nn_f hc1 | skip
  obtain ⟨t, ht⟩ : ∃ t, w.T[i]? = some t := ⟨_, List.getElem?_eq_getElem (by omega)⟩
  have hF := List.length_filter_le (fun t : Tm => decide (¬ t.due = w.now + 1)) (w.T.take i)
  have hG := List.length_filter_le (fun t : Tm => decide (t.due = w.now + 1)) (w.T.take i)
  rw [List.length_take] at hF hG
  refine g_skip ?_
  refine ge_then ?_
  refine g_seq ?_
  refine g_block ?_
  refine g_seq ?_
  refine g_seq ?_
  refine g_draw [] [] [(0, .loc), (1, .loc), (2, .loc), (3, .loc), (4, .loc), (5, .loc), (6, .loc), (7, .loc)] [] mixed (by kernel_rfl) ?_
  first | refine go_v rfl .none rfl (o_fldS rfl) ?_ | refine go_v rfl .none rfl (o_fld rfl) ?_
  first | refine go_v rfl .none rfl (o_load rfl rfl) ?_ | refine go_v rfl .none rfl (o_loadS rfl rfl) ?_ | refine go_v rfl .none rfl (o_loadC rfl) ?_
  refine go_v rfl .none rfl (o_move rfl) ?_
  refine go_v rfl .none rfl (o_idxS rfl rfl (show i < w.T.length by omega)) ?_
  refine go_v rfl .none rfl (o_loadS rfl (show (w.T.map fun t => I64 t.due)[i * 1]? = some (I64 t.due) by rw [Nat.mul_one]; exact map_at' (f := fun t : Tm => I64 t.due) ht)) ?_
  first | refine go_v rfl .none rfl (o_fldS rfl) ?_ | refine go_v rfl .none rfl (o_fld rfl) ?_
  first | refine go_v rfl .none rfl (o_load rfl rfl) ?_ | refine go_v rfl .none rfl (o_loadS rfl rfl) ?_ | refine go_v rfl .none rfl (o_loadC rfl) ?_
  refine go_v rfl .none rfl (o_eql rfl rfl) ?_
  refine go_nil ?_
  refine ge_then ?_
  refine g_cond rfl (fun hc2 => ?_) (fun hc2 => ?_)
  ·
   first | replace hc2 := of_decide_eq_true hc2 | replace hc2 := lt_f hc2 | replace hc2 := le_f hc2 | replace hc2 := dec_f hc2 | replace hc2 := nlt_t hc2 | replace hc2 := nle_t hc2 | replace hc2 := ndec_t hc2 | replace hc2 := ndec_f hc2 | replace hc2 := nn_t hc2 | replace hc2 := nn_f hc2 | skip
   have heq : t.due = w.now + 1 := by omega
   refine g_seq ?_
   refine g_region ?_
   refine gl_v rfl (o_move rfl) ?_
   first | refine gl_v rfl (o_fldS rfl) ?_ | refine gl_v rfl (o_fld rfl) ?_
   first | refine gl_v rfl (o_load rfl rfl) ?_ | refine gl_v rfl (o_loadS rfl rfl) ?_ | refine gl_v rfl (o_loadC rfl) ?_
   refine gl_v rfl (o_move rfl) ?_
   refine gl_v rfl (o_idxS rfl rfl (show i < w.T.length by omega)) ?_
   refine gl_v rfl (o_loadS rfl (show (w.T.map fun t => U64 t.id)[i * 1]? = some (U64 t.id) by rw [Nat.mul_one]; exact map_at' (f := fun t : Tm => U64 t.id) ht)) ?_
   first | refine gl_n rfl (o_buildS1 rfl rfl rfl) ?_ | refine gl_n rfl (o_buildS1A rfl rfl rfl rfl) ?_ | refine gl_n rfl (o_buildS rfl rfl rfl rfl) ?_
   rintro _ _ ⟨b32, rfl, rfl⟩
   refine gl_n rfl (o_append rfl rfl (by repeat (first | exact .nil | (apply Part.cons; · (repeat (first | exact .head | apply Sel.tail))))) rfl rfl rfl (by omega) (by unfold maxLen; omega)) ?_
   rintro _ _ ⟨a33, c33, rfl, rfl⟩
   refine gl_v rfl (o_assign rfl) ?_
   refine gl_nil ?_
   refine ge_then ?_
   refine g_exit ?_
   refine ge_then_exit ?_
   refine ge_block_exit ?_
   refine ge_then ?_
   refine g_region ?_
   refine gl_v rfl (o_move rfl) ?_
   refine gl_v rfl (o_addR ((i + 1 : Nat) : Int) (by rw [wr_i64 (by omega)]; omega) rfl rfl) ?_
   refine gl_v rfl (o_assign rfl) ?_
   refine gl_nil ?_
   have hfs := fil_keep (p := fun t : Tm => decide (t.due = w.now + 1)) ht (by simpa using heq)
   refine ge_round (i + 1, x1, y1, x2, y2, a33, c33) (show i + 1 ≤ w.T.length by omega) (show w.T.length - (i + 1) < w.T.length - i by omega) (Keep.cons rfl (Keep.cons (by dsimp only; rw [hfs, List.length_append]; rfl) (Keep.cons rfl (Keep.cons rfl (Keep.cons rfl (Keep.nil)))))) (by dsimp only; rw [hfs, fil_drop (p := fun t : Tm => decide (¬ t.due = w.now + 1)) ht (by simpa using heq)]; simp only [idO, duO, List.length_append, List.length_singleton, List.map_append, List.map_cons, List.map_nil]; exact (To.sat (by repeat (first | exact .nil | exact .done .refl | (apply To.cons; · (repeat (first | exact .head | apply Sel.tail))) | exact .done (by repeat (first | exact .refl | apply Drop.skip))))))
  ·
   first | replace hc2 := of_decide_eq_true hc2 | replace hc2 := lt_f hc2 | replace hc2 := le_f hc2 | replace hc2 := dec_f hc2 | replace hc2 := nlt_t hc2 | replace hc2 := nle_t hc2 | replace hc2 := ndec_t hc2 | replace hc2 := ndec_f hc2 | replace hc2 := nn_t hc2 | replace hc2 := nn_f hc2 | skip
   have hne : t.due ≠ w.now + 1 := by omega
   refine g_skip ?_
   refine ge_then ?_
   refine g_seq ?_
   refine g_draw [7, 8, 10] [7] [(0, .stab), (1, .stab), (2, .loc), (3, .loc), (4, .loc), (5, .loc), (6, .loc), (7, .eff), (8, .eff), (9, .loc), (10, .eff)] [cel b4 rT (rvL (w.now + 1) x1 y1 x2 y2 ((w.T.take i).filter fun t => ¬ t.due = w.now + 1).length)] mixed (by kernel_rfl) ?_
   first | refine go_vs rfl .none rfl (o_fldS rfl) (To.sat (by repeat (first | exact .nil | exact .done .refl | (apply To.cons; · (repeat (first | exact .head | apply Sel.tail))) | exact .done (by repeat (first | exact .refl | apply Drop.skip))))) ?_ | refine go_vs rfl .none rfl (o_fld rfl) (To.sat (by repeat (first | exact .nil | exact .done .refl | (apply To.cons; · (repeat (first | exact .head | apply Sel.tail))) | exact .done (by repeat (first | exact .refl | apply Drop.skip))))) ?_
   first | refine go_vs rfl .none rfl (o_load rfl rfl) (To.sat (by repeat (first | exact .nil | exact .done .refl | (apply To.cons; · (repeat (first | exact .head | apply Sel.tail))) | exact .done (by repeat (first | exact .refl | apply Drop.skip))))) ?_ | refine go_vs rfl .none rfl (o_loadS rfl rfl) (To.sat (by repeat (first | exact .nil | exact .done .refl | (apply To.cons; · (repeat (first | exact .head | apply Sel.tail))) | exact .done (by repeat (first | exact .refl | apply Drop.skip))))) ?_ | refine go_vs rfl .none rfl (o_loadC rfl) (To.sat (by repeat (first | exact .nil | exact .done .refl | (apply To.cons; · (repeat (first | exact .head | apply Sel.tail))) | exact .done (by repeat (first | exact .refl | apply Drop.skip))))) ?_
   first | refine go_v rfl .none rfl (o_fldS rfl) ?_ | refine go_v rfl .none rfl (o_fld rfl) ?_
   first | refine go_v rfl .none rfl (o_load rfl rfl) ?_ | refine go_v rfl .none rfl (o_loadS rfl rfl) ?_ | refine go_v rfl .none rfl (o_loadC rfl) ?_
   refine go_v rfl .none rfl (o_move rfl) ?_
   refine go_v rfl .none rfl (o_idxS rfl rfl (show i < w.T.length by omega)) ?_
   refine go_v rfl .none rfl (o_loadS rfl (show (w.T.map fun t => U64 t.id)[i * 1]? = some (U64 t.id) by rw [Nat.mul_one]; exact map_at' (f := fun t : Tm => U64 t.id) ht)) ?_
   first | refine go_n rfl .none rfl (o_buildS1 rfl rfl rfl) ?_ | refine go_n rfl .none rfl (o_buildS1A rfl rfl rfl rfl) ?_ | refine go_n rfl .none rfl (o_buildS rfl rfl rfl rfl) ?_
   rintro _ _ ⟨b41, rfl, rfl⟩
   refine ⟨(fun _ => (To.sat (by repeat (first | exact .nil | exact .done .refl | (apply To.cons; · (repeat (first | exact .head | apply Sel.tail))) | exact .done (by repeat (first | exact .refl | apply Drop.skip)))))), ?_⟩
   refine go_n rfl .none rfl (o_append rfl rfl (by repeat (first | exact .nil | (apply Part.cons; · (repeat (first | exact .head | apply Sel.tail))))) rfl rfl rfl (by omega) (by unfold maxLen; omega)) ?_
   rintro _ _ ⟨a42, c42, rfl, rfl⟩
   refine ⟨(fun hG => absurd hG (by decide)), ?_⟩
   first | refine go_v rfl .none rfl (o_fldS rfl) ?_ | refine go_v rfl .none rfl (o_fld rfl) ?_
   first | refine go_u rfl .none (o_store rfl rfl rfl rfl) (fun hG => absurd hG (by decide)) ?_ | refine go_u rfl .none (o_storeS rfl rfl rfl (by first | assumption | omega | simp)) (fun hG => absurd hG (by decide)) ?_
   refine go_nil ?_
   refine ge_then ?_
   refine g_draw [7, 8, 10] [7] [(0, .stab), (1, .stab), (2, .loc), (3, .loc), (4, .loc), (5, .loc), (6, .loc), (7, .eff), (8, .eff), (9, .loc), (10, .eff)] [cel b4 rT [I64 ((w.now + 1 : Nat) : Int), .slice a42 (((w.T.take i).filter fun t => ¬ t.due = w.now + 1).length + 1) c42, .slice x2 ((w.T.take i).filter fun t => ¬ t.due = w.now + 1).length y2]] mixed (by kernel_rfl) ?_
   first | refine go_vs rfl .none rfl (o_fldS rfl) (To.sat (by repeat (first | exact .nil | exact .done .refl | (apply To.cons; · (repeat (first | exact .head | apply Sel.tail))) | exact .done (by repeat (first | exact .refl | apply Drop.skip))))) ?_ | refine go_vs rfl .none rfl (o_fld rfl) (To.sat (by repeat (first | exact .nil | exact .done .refl | (apply To.cons; · (repeat (first | exact .head | apply Sel.tail))) | exact .done (by repeat (first | exact .refl | apply Drop.skip))))) ?_
   first | refine go_vs rfl .none rfl (o_load rfl rfl) (To.sat (by repeat (first | exact .nil | exact .done .refl | (apply To.cons; · (repeat (first | exact .head | apply Sel.tail))) | exact .done (by repeat (first | exact .refl | apply Drop.skip))))) ?_ | refine go_vs rfl .none rfl (o_loadS rfl rfl) (To.sat (by repeat (first | exact .nil | exact .done .refl | (apply To.cons; · (repeat (first | exact .head | apply Sel.tail))) | exact .done (by repeat (first | exact .refl | apply Drop.skip))))) ?_ | refine go_vs rfl .none rfl (o_loadC rfl) (To.sat (by repeat (first | exact .nil | exact .done .refl | (apply To.cons; · (repeat (first | exact .head | apply Sel.tail))) | exact .done (by repeat (first | exact .refl | apply Drop.skip))))) ?_
   first | refine go_v rfl .none rfl (o_fldS rfl) ?_ | refine go_v rfl .none rfl (o_fld rfl) ?_
   first | refine go_v rfl .none rfl (o_load rfl rfl) ?_ | refine go_v rfl .none rfl (o_loadS rfl rfl) ?_ | refine go_v rfl .none rfl (o_loadC rfl) ?_
   refine go_v rfl .none rfl (o_move rfl) ?_
   refine go_v rfl .none rfl (o_idxS rfl rfl (show i < w.T.length by omega)) ?_
   refine go_v rfl .none rfl (o_loadS rfl (show (w.T.map fun t => I64 t.due)[i * 1]? = some (I64 t.due) by rw [Nat.mul_one]; exact map_at' (f := fun t : Tm => I64 t.due) ht)) ?_
   first | refine go_n rfl .none rfl (o_buildS1 rfl rfl rfl) ?_ | refine go_n rfl .none rfl (o_buildS1A rfl rfl rfl rfl) ?_ | refine go_n rfl .none rfl (o_buildS rfl rfl rfl rfl) ?_
   rintro _ _ ⟨b51, rfl, rfl⟩
   refine ⟨(fun _ => (To.sat (by repeat (first | exact .nil | exact .done .refl | (apply To.cons; · (repeat (first | exact .head | apply Sel.tail))) | exact .done (by repeat (first | exact .refl | apply Drop.skip)))))), ?_⟩
   refine go_n rfl .none rfl (o_append rfl rfl (by repeat (first | exact .nil | (apply Part.cons; · (repeat (first | exact .head | apply Sel.tail))))) rfl rfl rfl (by omega) (by unfold maxLen; omega)) ?_
   rintro _ _ ⟨a52, c52, rfl, rfl⟩
   refine ⟨(fun hG => absurd hG (by decide)), ?_⟩
   first | refine go_v rfl .none rfl (o_fldS rfl) ?_ | refine go_v rfl .none rfl (o_fld rfl) ?_
   first | refine go_u rfl .none (o_store rfl rfl rfl rfl) (fun hG => absurd hG (by decide)) ?_ | refine go_u rfl .none (o_storeS rfl rfl rfl (by first | assumption | omega | simp)) (fun hG => absurd hG (by decide)) ?_
   refine go_nil ?_
   refine ge_block ?_
   refine ge_then ?_
   refine g_region ?_
   refine gl_v rfl (o_move rfl) ?_
   refine gl_v rfl (o_addR ((i + 1 : Nat) : Int) (by rw [wr_i64 (by omega)]; omega) rfl rfl) ?_
   refine gl_v rfl (o_assign rfl) ?_
   refine gl_nil ?_
   have hfs := fil_keep (p := fun t : Tm => decide (¬ t.due = w.now + 1)) ht (by simpa using hne)
   have hfd := fil_drop (p := fun t : Tm => decide (t.due = w.now + 1)) ht (by simpa using hne)
   refine ge_round (i + 1, a42, c42, a52, c52, x3, y3) (show i + 1 ≤ w.T.length by omega) (show w.T.length - (i + 1) < w.T.length - i by omega) (Keep.cons rfl (Keep.cons (by dsimp only; rw [hfd]; rfl) (Keep.cons rfl (Keep.cons rfl (Keep.cons rfl (Keep.nil)))))) (by dsimp only; rw [hfs, hfd]; simp only [idO, duO, List.length_append, List.length_singleton, List.map_append, List.map_cons, List.map_nil]; exact (To.sat (by repeat (first | exact .nil | exact .done .refl | (apply To.cons; · (repeat (first | exact .head | apply Sel.tail))) | exact .done (by repeat (first | exact .refl | apply Drop.skip))))))
 ·
  first | replace hc1 := of_decide_eq_true hc1 | replace hc1 := lt_f hc1 | replace hc1 := le_f hc1 | replace hc1 := dec_f hc1 | replace hc1 := nlt_t hc1 | replace hc1 := nle_t hc1 | replace hc1 := ndec_t hc1 | replace hc1 := ndec_f hc1 | replace hc1 := nn_t hc1 | replace hc1 := nn_f hc1 | skip
  obtain rfl : i = w.T.length := by omega
  rw [List.take_length] at *
  refine g_exit ?_
  refine ge_then_exit ?_
  refine ge_then_exit ?_
  refine ge_block_exit ?_
  refine ge_then ?_
  refine g_seq ?_
  refine g_region ?_
  first | refine gl_v rfl (o_loadSA rfl rfl rfl) ?_ | refine gl_v rfl (o_loadA rfl rfl rfl) ?_
  refine gl_v rfl (o_move rfl) ?_
  first | refine gl_u (o_storeSA rfl rfl rfl rfl (by simp; omega) (by simp)) ?_ | refine gl_u (o_storeA rfl rfl rfl rfl rfl) ?_
  refine gl_v rfl (o_assign rfl) ?_
  refine gl_nil ?_
  refine ge_then ?_
  refine g_ret ?_
  exact ret2c (.inl rfl) rfl rfl rfl rfl [idO x1 y1 (tickR w).T.length (tickR w).T, duO x2 y2 (tickR w).T.length (tickR w).T, idO x3 y3 (dueL w).length (dueL w)] ⟨x1, y1, x2, y2, x3, y3, rfl, rfl⟩ (To.sat (by repeat (first | exact .nil | exact .done .refl | (apply To.cons; · (repeat (first | exact .head | apply Sel.tail))) | exact .done (by repeat (first | exact .refl | apply Drop.skip)))))

end Go.Proofs.YtmohikdmdmplaaaGreat.L
