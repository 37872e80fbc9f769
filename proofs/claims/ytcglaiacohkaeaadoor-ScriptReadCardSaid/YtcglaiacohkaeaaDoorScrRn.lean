/-
  Script: the reference's numbers and words. Own work, printed in part by a program of its own.
-/
import Derived.Test.YtcglaiacohkaeaaDoorScrB
set_option linter.unusedSimpArgs false
set_option linter.unusedVariables false
set_option linter.unusedSectionVars false
namespace Go.Proofs.YtcglaiacohkaeaaDoor.L
open Go.L Go.L.Lx Go.L.Pa Go.L.Sc
section
variable {P : Program} {W0 : World} {n : Nat} {sl : Slots} {As : List Assn} {ty : TypeId}
theorem o_negR {t : TypeId} {x : Operand} {k : IntKind} {p : Int} (r : Int) [i : TInt P t k] (hr : k.wrap (-p) = r) (hx : opv sl x = some (.int k p)) : OV P W0 n (.unOp .neg t x) ty sl As (.int k r) := fun a w d pos aft g hs _ => by
  subst hr
  simp only [execOp, hs.eval hx]
  simp [go_sem, Op.unary, rU i.out]
end
theorem dec_step {n m : Nat} {s : By} (h : dec n = dec m ++ s) (hm : ¬ m < 10) : dec n = dec (m / 10) ++ (UInt8.ofNat (48 + m % 10) :: s) := by
  rw [h, dec.eq_1 m, if_neg hm]; simp
theorem dec_last {n m : Nat} {s : By} (h : dec n = dec m ++ s) (hm : m < 10) : dec n = UInt8.ofNat (48 + m % 10) :: s := by
  rw [h, dec.eq_1 m, if_pos hm, Nat.mod_eq_of_lt hm]; rfl
theorem tmodn (s n : Nat) : (s : Int).tmod n = ((s % n : Nat) : Int) := by rw [Int.tmod_eq_emod_of_nonneg (by omega)]; exact (Int.natCast_emod s n).symm
theorem tdivn (s n : Nat) : (s : Int).tdiv n = ((s / n : Nat) : Int) := by rw [Int.tdiv_eq_ediv_of_nonneg (by omega)]; exact (Int.natCast_ediv s n).symm
theorem dec_pow {m i n : Nat} (h : m * 10 ^ i ≤ n) : m / 10 * 10 ^ (i + 1) ≤ n := by
  have h2 := Nat.mul_le_mul_right (10 ^ i) (Nat.div_mul_le_self m 10)
  rw [Nat.pow_succ, Nat.mul_comm (10 ^ i) 10, ← Nat.mul_assoc]; exact Nat.le_trans h2 h
theorem dig_no {x : UInt8} (h : ¬ (48 ≤ x.toNat ∧ x.toNat ≤ 57)) : isDig x = false := by unfold isDig; exact decide_eq_false h
theorem dig_yes {x : UInt8} (h : 48 ≤ x.toNat ∧ x.toNat ≤ 57) : isDig x = true := by unfold isDig; exact decide_eq_true h
theorem u8_of {c : UInt8} {k : UInt8} (h : c.toNat = k.toNat) : c = k := UInt8.toNat_inj.1 h
theorem nvP_bad {lo hi : Int} {c x : UInt8} {r : By} (hc : ¬ c.toNat = 45) (hx : x ∈ c :: r) (hd : isDig x = false) : numV lo hi (c :: r) = none :=
  numV_none (fun c1 l1 e h _ => by have := h x (e ▸ hx); rw [hd] at this; cases this) (fun c1 l1 e _ _ => by injection e with e1 e2; exact hc (by rw [e1]; rfl))
theorem nvN_bad {lo hi : Int} {x : UInt8} {D : By} (hx : x ∈ D) (hd : isDig x = false) : numV lo hi (45 :: D) = none :=
  numV_none (fun c1 l1 e h _ => by injection e with e1 e2; have := h c1 List.mem_cons_self; rw [← e1] at this; exact absurd this (by decide)) (fun c1 l1 e h _ => by injection e with e1 e2; have := h x (e2 ▸ hx); rw [hd] at this; cases this)
theorem nvN_nil {lo hi : Int} : numV lo hi [45] = none :=
  numV_none (fun c1 l1 e h _ => by injection e with e1 e2; have := h c1 List.mem_cons_self; rw [← e1] at this; exact absurd this (by decide)) (fun c1 l1 e h _ => by injection e with e1 e2; cases e2)
theorem nvP_zero {lo hi : Int} {c : UInt8} {r : By} (h48 : c.toNat = 48) (hr : r ≠ []) : numV lo hi (c :: r) = none :=
  numV_none (fun c1 l1 e _ h => by injection e with e1 e2; rcases h with h | h; · exact h (by rw [← e1]; exact h48)
                                   · exact hr (by rw [e2]; exact h)) (fun c1 l1 e _ _ => by injection e with e1 e2; rw [e1] at h48; exact absurd h48 (by decide))
theorem nvN_zero {lo hi : Int} {c : UInt8} {r : By} (h48 : c.toNat = 48) : numV lo hi (45 :: c :: r) = none :=
  numV_none (fun c1 l1 e h _ => by injection e with e1 e2; have := h c1 List.mem_cons_self; rw [← e1] at this; exact absurd this (by decide)) (fun c1 l1 e _ h => by injection e with e1 e2; injection e2 with e2 e3; exact h (by rw [← e2]; exact h48))
theorem numV_len {lo hi n : Int} {s : By} (hb : -1000000000000000000 < lo ∧ hi < 1000000000000000000) (h : numV lo hi s = some n) : s.length ≤ 18 ∨ ∃ D, s = 45 :: D ∧ D.length ≤ 18 := by
  obtain ⟨h1, h2, h3⟩ := numV_iff.1 h
  subst h3
  unfold itoaB
  split
  · exact .inr ⟨_, rfl, dec_len _ 17 (by omega)⟩
  · exact .inl (dec_len _ 17 (by omega))
theorem nvP_long {lo hi : Int} {c : UInt8} {r : By} (hb : -1000000000000000000 < lo ∧ hi < 1000000000000000000) (hc : ¬ c.toNat = 45) (hl : 18 < (c :: r).length) : numV lo hi (c :: r) = none := by
  cases h : numV lo hi (c :: r) with
  | none => rfl
  | some n =>
    rcases numV_len hb h with h1 | ⟨D, h1, h2⟩
    · omega
    · injection h1 with h1 h3; exact absurd (by rw [h1]; rfl) hc
theorem nvN_long {lo hi : Int} {D : By} (hb : -1000000000000000000 < lo ∧ hi < 1000000000000000000) (hl : 18 < D.length) : numV lo hi (45 :: D) = none := by
  cases h : numV lo hi (45 :: D) with
  | none => rfl
  | some n =>
    rcases numV_len hb h with h1 | ⟨E, h1, h2⟩
    · simp only [List.length_cons] at h1; omega
    · injection h1 with h1 h3; subst h3; omega
theorem nat_step {D : By} {j : Nat} {x : UInt8} (h : D[j]? = some x) : natV (D.take (j + 1)) 0 = 10 * natV (D.take j) 0 + (x.toNat - 48) := by
  rw [List.take_add_one, h]
  show natV (D.take j ++ [x]) 0 = _
  rw [natV_app]; rfl
theorem nat_lt : ∀ (D : By) (a k : Nat), (∀ x ∈ D, isDig x = true) → a < 10 ^ k → natV D a < 10 ^ (k + D.length)
  | [], a, k, _, h => h
  | x :: D, a, k, hd, h => by
    have hx := hd x List.mem_cons_self
    unfold isDig at hx; simp only [decide_eq_true_eq] at hx
    have := nat_lt D (10 * a + (x.toNat - 48)) (k + 1) (fun y hy => hd y (List.mem_cons_of_mem _ hy)) (by rw [Nat.pow_succ]; omega)
    rw [show k + (x :: D).length = k + 1 + D.length by simp only [List.length_cons]; omega]
    exact this
theorem nat_18 {D : By} (hd : ∀ x ∈ D, isDig x = true) (hl : D.length ≤ 17) : natV D 0 < 100000000000000000 := by
  have h1 := nat_lt D 0 0 hd (by decide)
  have h2 : 10 ^ (0 + D.length) ≤ 10 ^ 17 := Nat.pow_le_pow_right (by decide) (by omega)
  exact Nat.lt_of_lt_of_le h1 h2
theorem nat_19 {D : By} (hd : ∀ x ∈ D, isDig x = true) (hl : D.length ≤ 18) : natV D 0 < 1000000000000000000 := by
  have h1 := nat_lt D 0 0 hd (by decide)
  have h2 : 10 ^ (0 + D.length) ≤ 10 ^ 18 := Nat.pow_le_pow_right (by decide) (by omega)
  exact Nat.lt_of_lt_of_le h1 h2
/-- words on the way: those that are over, and what the next begins with -/
def atW (c : UInt8) (s : By) (f i : Nat) (acc : List By) : Prop := f ≤ i ∧ ((i ≤ s.length ∧ splitB c s = acc ++ ((s.take i).drop f ++ (splitB c (s.drop i)).headD []) :: (splitB c (s.drop i)).tail) ∨ (i = s.length + 1 ∧ splitB c s = acc))
theorem atW_0 (c : UInt8) (s : By) : atW c s 0 0 [] := by
  obtain ⟨w, ws, h⟩ := split_cons (c := c) (l := s)
  refine ⟨Nat.le_refl _, .inl ⟨Nat.zero_le _, ?_⟩⟩
  simp only [List.take_zero, List.drop_zero, List.drop_nil, h]; rfl
theorem atW_go {c : UInt8} {s : By} {f i : Nat} {acc : List By} {x : UInt8} (h : atW c s f i acc) (hx : s[i]? = some x) (hc : ¬ x = c) : atW c s f (i + 1) acc := by
  obtain ⟨h1, ⟨h2, h3⟩ | ⟨h2, _⟩⟩ := h
  · have hi := (List.getElem?_eq_some_iff.1 hx).1
    refine ⟨by omega, .inl ⟨by omega, ?_⟩⟩
    rw [h3, drop_at' hx, split_F hc, List.take_add_one, hx, List.drop_append_of_le_length (by rw [List.length_take, Nat.min_eq_left h2]; exact h1)]
    simp
  · have hi := (List.getElem?_eq_some_iff.1 hx).1; omega
theorem atW_cut {c : UInt8} {s : By} {f i : Nat} {acc : List By} (h : atW c s f i acc) (hx : s[i]? = some c) : atW c s (i + 1) (i + 1) (acc ++ [(s.take i).drop f]) := by
  have hi := (List.getElem?_eq_some_iff.1 hx).1
  obtain ⟨h1, ⟨h2, h3⟩ | ⟨h2, _⟩⟩ := h
  · refine ⟨Nat.le_refl _, .inl ⟨by omega, ?_⟩⟩
    obtain ⟨w, ws, hw⟩ := split_cons (c := c) (l := s.drop (i + 1))
    have h9 : (s.take (i + 1)).drop (i + 1) = [] := List.drop_eq_nil_of_le (by rw [List.length_take]; exact Nat.min_le_left _ _)
    rw [h3, drop_at' hx, split_T, hw, h9]
    simp
  · omega
theorem atW_end {c : UInt8} {s : By} {f : Nat} {acc : List By} (h : atW c s f s.length acc) : atW c s (s.length + 1) (s.length + 1) (acc ++ [(s.take s.length).drop f]) := by
  obtain ⟨h1, ⟨h2, h3⟩ | ⟨h2, _⟩⟩ := h
  · refine ⟨Nat.le_refl _, .inr ⟨rfl, ?_⟩⟩
    rw [h3, List.drop_length]
    simp [splitB]
  · omega
theorem atW_out {c : UInt8} {s : By} {f i : Nat} {acc : List By} (h : atW c s f i acc) (hi : s.length < i) : splitB c s = acc := by
  obtain ⟨h1, ⟨h2, h3⟩ | ⟨h2, h3⟩⟩ := h
  · omega
  · exact h3

set_option maxRecDepth 8000 in
set_option maxHeartbeats 1000000 in
theorem Decimal_spec (n : Nat) (hn : n < 9223372036854775808) : FnS Tryd.prog 50 [I64 n] [] (fun u Bs => u = S (dec n) ∧ Bs = []) := by
 refine fn_body Tryd.func50 rfl rfl rfl ?_
 intro W0 R
 simp only [List.zipIdx_cons, List.zipIdx_nil, List.map_cons, List.map_nil, Nat.zero_add, Nat.reduceAdd, List.cons_append, List.nil_append]
 have hdl := dec_len n 18 (by omega)
 refine g_seq ?_
 refine g_region ?_
 refine gl_v rfl (o_assign rfl) ?_
 refine gl_nil ?_
 refine ge_then ?_
 refine g_seq ?_
 refine g_region ?_
 refine gl_v rfl (o_assign rfl) ?_
 refine gl_nil ?_
 refine ge_then ?_
 refine g_seq ?_
 refine g_seq ?_
 refine g_region ?_
 refine gl_v rfl (o_assign rfl) ?_
 refine gl_nil ?_
 refine ge_then ?_
 refine g_block ?_
 refine g_loop (ι := Nat × Nat × By) (fun z => z.1 ≤ 20 ∧ (z.1 = 0 ∨ 0 < z.2.1) ∧ z.2.1 * 10 ^ z.1 ≤ n ∧ dec n = dec z.2.1 ++ z.2.2) (fun z => [(4, I64 z.1), (3, S z.2.2), (0, I64 z.2.1)]) (fun _ => R) (fun z => 20 - z.1) (0, n, []) (⟨Nat.zero_le _, .inl rfl, by simp, by simp⟩) (Keep.cons rfl (Keep.cons rfl (Keep.cons rfl (Keep.nil)))) (tO) ?_
 rintro ⟨i, m, s⟩ ⟨hi, hm0, hmn, hdn⟩
 replace hi : i ≤ 20 := hi
 replace hm0 : i = 0 ∨ 0 < m := hm0
 replace hmn : m * 10 ^ i ≤ n := hmn
 replace hdn : dec n = dec m ++ s := hdn
 have hmm : m ≤ n := by have h1 : 1 ≤ 10 ^ i := Nat.one_le_pow _ _ (by decide); exact Nat.le_trans (by have := Nat.mul_le_mul_left m h1; omega) hmn
 have hsl : s.length ≤ 19 := by have := congrArg List.length hdn; rw [List.length_append] at this; omega
 have h1i : (UInt8.ofNat (48 + m % 10)).toNat = 48 + m % 10 := dig_nat (by omega)
 refine g_seq ?_
 refine g_seq ?_
 refine g_region ?_
 refine gl_v rfl (o_move rfl) ?_
 refine gl_v rfl (o_lss rfl rfl) ?_
 refine gl_nil ?_
 refine ge_then ?_
 refine g_cond rfl (fun hc1 => ?_) (fun hc1 => ?_)
 ·
  replace hc1 := hs_ hc1
  refine g_skip ?_
  refine ge_then ?_
  refine g_seq ?_
  refine g_block ?_
  refine g_seq ?_
  refine g_region ?_
  refine gl_v rfl (o_move rfl) ?_
  refine gl_v rfl (o_remR ((m % 10 : Nat) : Int) (tmodn m 10) rfl rfl (by decide)) ?_
  refine gl_v rfl (o_addR ((48 + m % 10 : Nat) : Int) (by rw [wr_i64 (by omega)]; omega) rfl rfl) ?_
  refine gl_v rfl (o_convR (((UInt8.ofNat (48 + m % 10)).toNat : Int)) (by rw [wr_u8 (by omega), h1i]) rfl) ?_
  first | refine gl_n rfl (o_buildS1 rfl rfl rfl) ?_ | refine gl_n rfl (o_buildS1A rfl rfl rfl rfl) ?_ | refine gl_n rfl (o_buildS rfl rfl rfl rfl) ?_
  rintro _ _ ⟨b13, rfl, rfl⟩
  refine gl_v rfl (o_bstr [UInt8.ofNat (48 + m % 10)] rfl rfl rfl) ?_
  refine gl_v rfl (o_move rfl) ?_
  refine gl_v rfl (o_adds rfl rfl (by simp only [List.length_cons, List.length_nil]; omega)) ?_
  refine gl_v rfl (o_assign rfl) ?_
  refine gl_nil ?_
  refine ge_then ?_
  refine g_seq ?_
  refine g_region ?_
  refine gl_v rfl (o_move rfl) ?_
  refine gl_v rfl (o_quoR ((m / 10 : Nat) : Int) (by rw [show ((m : Int)).tdiv 10 = ((m / 10 : Nat) : Int) from tdivn m 10]; exact wr_i64 (by omega)) rfl rfl (by decide)) ?_
  refine gl_v rfl (o_assign rfl) ?_
  refine gl_nil ?_
  refine ge_then ?_
  refine g_seq ?_
  refine g_region ?_
  refine gl_v rfl (o_move rfl) ?_
  refine gl_v rfl (o_eql rfl rfl) ?_
  refine gl_nil ?_
  refine ge_then ?_
  refine g_cond rfl (fun hc2 => ?_) (fun hc2 => ?_)
  ·
   replace hc2 := hs_ hc2
   refine g_exit ?_
   refine ge_block_pass rfl ?_
   refine ge_then_exit ?_
   refine ge_then_exit ?_
   refine ge_block_exit ?_
   refine ge_then ?_
   refine g_seq ?_
   refine g_region ?_
   refine gl_v rfl (o_move rfl) ?_
   refine gl_v rfl (o_assign rfl) ?_
   refine gl_nil ?_
   refine ge_then ?_
   refine g_ret ?_
   refine ret1 (.inl rfl) rfl rfl _ (⟨by rw [dec_last hdn (by omega)]; rfl, rfl⟩) (tO)
  ·
   replace hc2 := hs_ hc2
   refine g_skip ?_
   refine ge_block ?_
   refine ge_then ?_
   refine g_region ?_
   refine gl_v rfl (o_move rfl) ?_
   refine gl_v rfl (o_addR ((i + 1 : Nat) : Int) (by rw [wr_i64 (by omega)]; omega) rfl rfl) ?_
   refine gl_v rfl (o_assign rfl) ?_
   refine gl_nil ?_
   refine ge_round (i + 1, m / 10, UInt8.ofNat (48 + m % 10) :: s) ⟨show i + 1 ≤ 20 by omega, .inr (show 0 < m / 10 by omega), dec_pow hmn, dec_step hdn (by omega)⟩ (show 20 - (i + 1) < 20 - i by omega) (Keep.cons rfl (Keep.cons rfl (Keep.cons rfl (Keep.nil)))) (tO)
 ·
  replace hc1 := hs_ hc1
  (obtain rfl : i = 20 := by omega); exfalso; have : m * 10 ^ 20 ≤ n := hmn; omega

set_option maxRecDepth 8000 in
set_option maxHeartbeats 1000000 in
theorem Number_spec (n : Int) (hn : -9223372036854775807 ≤ n ∧ n ≤ 9223372036854775807) : FnS Tryd.prog 25 [I64 n] [] (fun u Bs => u = S (itoaB n) ∧ Bs = []) := by
 refine fn_body Tryd.func25 rfl rfl rfl ?_
 intro W0 R
 simp only [List.zipIdx_cons, List.zipIdx_nil, List.map_cons, List.map_nil, Nat.zero_add, Nat.reduceAdd, List.cons_append, List.nil_append]
 refine g_seq ?_
 refine g_region ?_
 refine gl_v rfl (o_assign rfl) ?_
 refine gl_nil ?_
 refine ge_then ?_
 refine g_seq ?_
 refine g_seq ?_
 refine g_region ?_
 refine gl_v rfl (o_move rfl) ?_
 refine gl_v rfl (o_lss rfl rfl) ?_
 refine gl_nil ?_
 refine ge_then ?_
 refine g_cond rfl (fun hc1 => ?_) (fun hc1 => ?_)
 ·
  replace hc1 := hs_ hc1
  have hi : itoaB n = 45 :: dec n.natAbs := by unfold itoaB; rw [if_pos (by omega)]
  have hdl := dec_len n.natAbs 18 (by omega)
  refine g_seq ?_
  refine g_region ?_
  refine gl_v rfl (o_move rfl) ?_
  refine gl_v rfl (o_negR ((n.natAbs : Nat) : Int) (by rw [wr_i64 (by omega)]; omega) rfl) ?_
  refine gl_c rfl (o_call rfl (Decimal_spec n.natAbs (by omega)) pA) ?_
  rintro _ R ⟨_, ⟨rfl, rfl⟩, rfl⟩
  try simp only [List.cons_append, List.nil_append]
  refine gl_v rfl (o_adds rfl rfl (by simp only [List.length_cons, List.length_nil]; omega)) ?_
  refine gl_v rfl (o_assign rfl) ?_
  refine gl_nil ?_
  refine ge_then ?_
  refine g_ret ?_
  refine ge_then_ret ?_
  refine ret1 (.inl rfl) rfl rfl _ (⟨by first | (rw [hi]; done) | (rw [hi]; rfl), rfl⟩) (tO)
 ·
  replace hc1 := hs_ hc1
  have hi : itoaB n = dec n.toNat := by unfold itoaB; rw [if_neg (by omega)]
  obtain ⟨m, rfl⟩ : ∃ m : Nat, n = m := ⟨n.toNat, by omega⟩
  rw [Int.toNat_natCast] at hi
  refine g_skip ?_
  refine ge_then ?_
  refine g_seq ?_
  refine g_region ?_
  refine gl_v rfl (o_move rfl) ?_
  refine gl_c rfl (o_call rfl (Decimal_spec m (by omega)) pA) ?_
  rintro _ R ⟨_, ⟨rfl, rfl⟩, rfl⟩
  try simp only [List.cons_append, List.nil_append]
  refine gl_v rfl (o_assign rfl) ?_
  refine gl_nil ?_
  refine ge_then ?_
  refine g_ret ?_
  refine ret1 (.inl rfl) rfl rfl _ (⟨by first | (rw [hi]; done) | (rw [hi]; rfl), rfl⟩) (tO)

set_option maxRecDepth 8000 in
set_option maxHeartbeats 1000000 in
theorem val_nil (lo hi : Int) (hb : -1000000000000000000 < lo ∧ hi < 1000000000000000000) : FnS Tryd.prog 33 [S ([]), I64 lo, I64 hi] [] (fun u Bs => ∃ n, u = .tuple #[I64 n, .bool (numV lo hi ([])).isSome] ∧ (numV lo hi ([])).getD n = n ∧ Bs = []) := by
 refine fn_body Tryd.func33 rfl rfl rfl ?_
 intro W0 R
 simp only [List.zipIdx_cons, List.zipIdx_nil, List.map_cons, List.map_nil, Nat.zero_add, Nat.reduceAdd, List.cons_append, List.nil_append]
 have hv : numV lo hi ([]) = none := numV_nil lo hi
 refine g_seq ?_
 refine g_region ?_
 refine gl_v rfl (o_assign rfl) ?_
 refine gl_v rfl (o_assign rfl) ?_
 refine gl_nil ?_
 refine ge_then ?_
 refine g_seq ?_
 refine g_region ?_
 refine gl_v rfl (o_assign rfl) ?_
 refine gl_nil ?_
 refine ge_then ?_
 refine g_seq ?_
 refine g_seq ?_
 refine g_region ?_
 refine gl_v rfl (o_move rfl) ?_
 refine gl_v rfl (o_lens rfl) ?_
 refine gl_v rfl (o_is (c := false) (by first | rfl | exact decide_eq_false (by omega) | (simp only [List.length]; exact decide_eq_false (by omega))) (o_gtr rfl rfl)) ?_
 refine gl_v rfl (o_move rfl) ?_
 refine gl_gF rfl rfl rfl rfl ?_
 refine gl_gF rfl rfl rfl rfl ?_
 refine gl_gF rfl rfl rfl rfl ?_
 refine gl_v rfl (o_pickF rfl rfl rfl) ?_
 refine gl_nil ?_
 refine ge_then ?_
 refine g_cond_false rfl ?_
 refine g_skip ?_
 refine ge_then ?_
 refine g_seq ?_
 refine g_seq ?_
 refine g_region ?_
 refine gl_v rfl (o_move rfl) ?_
 refine gl_v rfl (o_lens rfl) ?_
 refine gl_v rfl (o_move rfl) ?_
 refine gl_v rfl (o_is (c := true) (by first | rfl | exact decide_eq_true (by omega) | (simp only [List.length]; exact decide_eq_true (by omega))) (o_eql rfl rfl)) ?_
 refine gl_v rfl (o_move rfl) ?_
 refine gl_gF rfl rfl rfl rfl ?_
 refine gl_gF rfl rfl rfl rfl ?_
 refine gl_gF rfl rfl rfl rfl ?_
 refine gl_gF rfl rfl rfl rfl ?_
 refine gl_gF rfl rfl rfl rfl ?_
 refine gl_v rfl (o_pickT rfl rfl rfl) ?_
 refine gl_v rfl (o_move rfl) ?_
 refine gl_gF rfl rfl rfl rfl ?_
 refine gl_gF rfl rfl rfl rfl ?_
 refine gl_gF rfl rfl rfl rfl ?_
 refine gl_gF rfl rfl rfl rfl ?_
 refine gl_gF rfl rfl rfl rfl ?_
 refine gl_gU rfl rfl rfl ?_
 refine gl_gU rfl rfl rfl ?_
 refine gl_gU rfl rfl rfl ?_
 refine gl_gF rfl rfl rfl rfl ?_
 refine gl_v rfl (o_pickT rfl rfl rfl) ?_
 refine gl_nil ?_
 refine ge_then ?_
 refine g_cond_true rfl ?_
 refine g_seq ?_
 refine g_region ?_
 refine gl_v rfl (o_assign rfl) ?_
 refine gl_v rfl (o_assign rfl) ?_
 refine gl_nil ?_
 refine ge_then ?_
 refine g_ret ?_
 refine ge_then_ret ?_
 refine ret2 (.inl rfl) rfl rfl rfl _ (⟨0, by rw [hv]; rfl, by rw [hv]; rfl, rfl⟩) (tO)

set_option maxRecDepth 8000 in
set_option maxHeartbeats 1000000 in
theorem valN_nil (lo hi : Int) (hb : -1000000000000000000 < lo ∧ hi < 1000000000000000000) : FnS Tryd.prog 33 [S ([45]), I64 lo, I64 hi] [] (fun u Bs => ∃ n, u = .tuple #[I64 n, .bool (numV lo hi ([45])).isSome] ∧ (numV lo hi ([45])).getD n = n ∧ Bs = []) := by
 refine fn_body Tryd.func33 rfl rfl rfl ?_
 intro W0 R
 simp only [List.zipIdx_cons, List.zipIdx_nil, List.map_cons, List.map_nil, Nat.zero_add, Nat.reduceAdd, List.cons_append, List.nil_append]
 have hv : numV lo hi ([45]) = none := nvN_nil
 refine g_seq ?_
 refine g_region ?_
 refine gl_v rfl (o_assign rfl) ?_
 refine gl_v rfl (o_assign rfl) ?_
 refine gl_nil ?_
 refine ge_then ?_
 refine g_seq ?_
 refine g_region ?_
 refine gl_v rfl (o_assign rfl) ?_
 refine gl_nil ?_
 refine ge_then ?_
 refine g_seq ?_
 refine g_seq ?_
 refine g_region ?_
 refine gl_v rfl (o_move rfl) ?_
 refine gl_v rfl (o_lens rfl) ?_
 refine gl_v rfl (o_is (c := true) (by first | rfl | exact decide_eq_true (by omega) | (simp only [List.length]; exact decide_eq_true (by omega))) (o_gtr rfl rfl)) ?_
 refine gl_v rfl (o_move rfl) ?_
 refine gl_gT rfl rfl rfl ?_
 refine gl_v rfl (o_move rfl) ?_
 refine gl_gT rfl rfl rfl ?_
 refine gl_v rfl (o_index_string (i := 0) rfl rfl (show ([45])[0]? = some 45 from rfl)) ?_
 refine gl_gT rfl rfl rfl ?_
 refine gl_v rfl (o_is (c := true) (by first | rfl | exact decide_eq_true (by omega) | (simp only [List.length]; exact decide_eq_true (by omega))) (o_eql rfl rfl)) ?_
 refine gl_v rfl (o_pickT rfl rfl rfl) ?_
 refine gl_nil ?_
 refine ge_then ?_
 refine g_cond_true rfl ?_
 refine g_region ?_
 refine gl_v rfl (o_assign rfl) ?_
 refine gl_nil ?_
 refine ge_then ?_
 refine g_seq ?_
 refine g_seq ?_
 refine g_region ?_
 refine gl_v rfl (o_move rfl) ?_
 refine gl_v rfl (o_lens rfl) ?_
 refine gl_v rfl (o_move rfl) ?_
 refine gl_v rfl (o_is (c := true) (by first | rfl | exact decide_eq_true (by omega) | (simp only [List.length]; exact decide_eq_true (by omega))) (o_eql rfl rfl)) ?_
 refine gl_v rfl (o_move rfl) ?_
 refine gl_gF rfl rfl rfl rfl ?_
 refine gl_gF rfl rfl rfl rfl ?_
 refine gl_gF rfl rfl rfl rfl ?_
 refine gl_gF rfl rfl rfl rfl ?_
 refine gl_gF rfl rfl rfl rfl ?_
 refine gl_v rfl (o_pickT rfl rfl rfl) ?_
 refine gl_v rfl (o_move rfl) ?_
 refine gl_gF rfl rfl rfl rfl ?_
 refine gl_gF rfl rfl rfl rfl ?_
 refine gl_gF rfl rfl rfl rfl ?_
 refine gl_gF rfl rfl rfl rfl ?_
 refine gl_gF rfl rfl rfl rfl ?_
 refine gl_gU rfl rfl rfl ?_
 refine gl_gU rfl rfl rfl ?_
 refine gl_gU rfl rfl rfl ?_
 refine gl_gF rfl rfl rfl rfl ?_
 refine gl_v rfl (o_pickT rfl rfl rfl) ?_
 refine gl_nil ?_
 refine ge_then ?_
 refine g_cond_true rfl ?_
 refine g_seq ?_
 refine g_region ?_
 refine gl_v rfl (o_assign rfl) ?_
 refine gl_v rfl (o_assign rfl) ?_
 refine gl_nil ?_
 refine ge_then ?_
 refine g_ret ?_
 refine ge_then_ret ?_
 refine ret2 (.inl rfl) rfl rfl rfl _ (⟨0, by rw [hv]; rfl, by rw [hv]; rfl, rfl⟩) (tO)

set_option maxRecDepth 8000 in
set_option maxHeartbeats 1000000 in
theorem valP_long (lo hi : Int) (hb : -1000000000000000000 < lo ∧ hi < 1000000000000000000) (c : UInt8) (r : By) (hc : ¬ c.toNat = 45) (hl : 18 < (c :: r).length) (hz : (c :: r).length ≤ 4000000000) : FnS Tryd.prog 33 [S (c :: r), I64 lo, I64 hi] [] (fun u Bs => ∃ n, u = .tuple #[I64 n, .bool (numV lo hi (c :: r)).isSome] ∧ (numV lo hi (c :: r)).getD n = n ∧ Bs = []) := by
 refine fn_body Tryd.func33 rfl rfl rfl ?_
 intro W0 R
 simp only [List.zipIdx_cons, List.zipIdx_nil, List.map_cons, List.map_nil, Nat.zero_add, Nat.reduceAdd, List.cons_append, List.nil_append]
 have hl1 : (c :: r).length = r.length + 1 := rfl
 have hl2 : (45 :: c :: r).length = r.length + 2 := rfl
 have hv : numV lo hi (c :: r) = none := nvP_long hb hc hl
 refine g_seq ?_
 refine g_region ?_
 refine gl_v rfl (o_assign rfl) ?_
 refine gl_v rfl (o_assign rfl) ?_
 refine gl_nil ?_
 refine ge_then ?_
 refine g_seq ?_
 refine g_region ?_
 refine gl_v rfl (o_assign rfl) ?_
 refine gl_nil ?_
 refine ge_then ?_
 refine g_seq ?_
 refine g_seq ?_
 refine g_region ?_
 refine gl_v rfl (o_move rfl) ?_
 refine gl_v rfl (o_lens rfl) ?_
 refine gl_v rfl (o_is (c := true) (by first | rfl | exact decide_eq_true (by omega) | (simp only [List.length]; exact decide_eq_true (by omega))) (o_gtr rfl rfl)) ?_
 refine gl_v rfl (o_move rfl) ?_
 refine gl_gT rfl rfl rfl ?_
 refine gl_v rfl (o_move rfl) ?_
 refine gl_gT rfl rfl rfl ?_
 refine gl_v rfl (o_index_string (i := 0) rfl rfl (show (c :: r)[0]? = some c from rfl)) ?_
 refine gl_gT rfl rfl rfl ?_
 refine gl_v rfl (o_is (c := false) (by first | rfl | exact decide_eq_false (by omega) | (simp only [List.length]; exact decide_eq_false (by omega))) (o_eql rfl rfl)) ?_
 refine gl_v rfl (o_pickT rfl rfl rfl) ?_
 refine gl_nil ?_
 refine ge_then ?_
 refine g_cond_false rfl ?_
 refine g_skip ?_
 refine ge_then ?_
 refine g_seq ?_
 refine g_seq ?_
 refine g_region ?_
 refine gl_v rfl (o_move rfl) ?_
 refine gl_v rfl (o_lens rfl) ?_
 refine gl_v rfl (o_move rfl) ?_
 refine gl_v rfl (o_is (c := false) (by first | rfl | exact decide_eq_false (by omega) | (simp only [List.length]; exact decide_eq_false (by omega))) (o_eql rfl rfl)) ?_
 refine gl_v rfl (o_move rfl) ?_
 refine gl_gT rfl rfl rfl ?_
 refine gl_v rfl (o_move rfl) ?_
 refine gl_gT rfl rfl rfl ?_
 refine gl_v rfl (o_lens rfl) ?_
 refine gl_gT rfl rfl rfl ?_
 refine gl_v rfl (o_move rfl) ?_
 refine gl_gT rfl rfl rfl ?_
 refine gl_v rfl (o_subR (((c :: r).length : Int)) (by rw [wr_i64 (by omega)]; omega) rfl rfl) ?_
 refine gl_gT rfl rfl rfl ?_
 refine gl_v rfl (o_is (c := true) (by first | rfl | exact decide_eq_true (by omega) | (simp only [List.length]; exact decide_eq_true (by omega))) (o_gtr rfl rfl)) ?_
 refine gl_v rfl (o_pickF rfl rfl rfl) ?_
 refine gl_v rfl (o_move rfl) ?_
 refine gl_gF rfl rfl rfl rfl ?_
 refine gl_gF rfl rfl rfl rfl ?_
 refine gl_gF rfl rfl rfl rfl ?_
 refine gl_gF rfl rfl rfl rfl ?_
 refine gl_gF rfl rfl rfl rfl ?_
 refine gl_gU rfl rfl rfl ?_
 refine gl_gU rfl rfl rfl ?_
 refine gl_gU rfl rfl rfl ?_
 refine gl_gF rfl rfl rfl rfl ?_
 refine gl_v rfl (o_pickT rfl rfl rfl) ?_
 refine gl_nil ?_
 refine ge_then ?_
 refine g_cond_true rfl ?_
 refine g_seq ?_
 refine g_region ?_
 refine gl_v rfl (o_assign rfl) ?_
 refine gl_v rfl (o_assign rfl) ?_
 refine gl_nil ?_
 refine ge_then ?_
 refine g_ret ?_
 refine ge_then_ret ?_
 refine ret2 (.inl rfl) rfl rfl rfl _ (⟨0, by rw [hv]; rfl, by rw [hv]; rfl, rfl⟩) (tO)

set_option maxRecDepth 8000 in
set_option maxHeartbeats 1000000 in
theorem valN_long (lo hi : Int) (hb : -1000000000000000000 < lo ∧ hi < 1000000000000000000) (c : UInt8) (r : By) (hl : 18 < (c :: r).length) (hz : (c :: r).length ≤ 4000000000) : FnS Tryd.prog 33 [S (45 :: c :: r), I64 lo, I64 hi] [] (fun u Bs => ∃ n, u = .tuple #[I64 n, .bool (numV lo hi (45 :: c :: r)).isSome] ∧ (numV lo hi (45 :: c :: r)).getD n = n ∧ Bs = []) := by
 refine fn_body Tryd.func33 rfl rfl rfl ?_
 intro W0 R
 simp only [List.zipIdx_cons, List.zipIdx_nil, List.map_cons, List.map_nil, Nat.zero_add, Nat.reduceAdd, List.cons_append, List.nil_append]
 have hl1 : (c :: r).length = r.length + 1 := rfl
 have hl2 : (45 :: c :: r).length = r.length + 2 := rfl
 have hv : numV lo hi (45 :: c :: r) = none := nvN_long hb hl
 refine g_seq ?_
 refine g_region ?_
 refine gl_v rfl (o_assign rfl) ?_
 refine gl_v rfl (o_assign rfl) ?_
 refine gl_nil ?_
 refine ge_then ?_
 refine g_seq ?_
 refine g_region ?_
 refine gl_v rfl (o_assign rfl) ?_
 refine gl_nil ?_
 refine ge_then ?_
 refine g_seq ?_
 refine g_seq ?_
 refine g_region ?_
 refine gl_v rfl (o_move rfl) ?_
 refine gl_v rfl (o_lens rfl) ?_
 refine gl_v rfl (o_is (c := true) (by first | rfl | exact decide_eq_true (by omega) | (simp only [List.length]; exact decide_eq_true (by omega))) (o_gtr rfl rfl)) ?_
 refine gl_v rfl (o_move rfl) ?_
 refine gl_gT rfl rfl rfl ?_
 refine gl_v rfl (o_move rfl) ?_
 refine gl_gT rfl rfl rfl ?_
 refine gl_v rfl (o_index_string (i := 0) rfl rfl (show (45 :: c :: r)[0]? = some 45 from rfl)) ?_
 refine gl_gT rfl rfl rfl ?_
 refine gl_v rfl (o_is (c := true) (by first | rfl | exact decide_eq_true (by omega) | (simp only [List.length]; exact decide_eq_true (by omega))) (o_eql rfl rfl)) ?_
 refine gl_v rfl (o_pickT rfl rfl rfl) ?_
 refine gl_nil ?_
 refine ge_then ?_
 refine g_cond_true rfl ?_
 refine g_region ?_
 refine gl_v rfl (o_assign rfl) ?_
 refine gl_nil ?_
 refine ge_then ?_
 refine g_seq ?_
 refine g_seq ?_
 refine g_region ?_
 refine gl_v rfl (o_move rfl) ?_
 refine gl_v rfl (o_lens rfl) ?_
 refine gl_v rfl (o_move rfl) ?_
 refine gl_v rfl (o_is (c := false) (by first | rfl | exact decide_eq_false (by omega) | (simp only [List.length]; exact decide_eq_false (by omega))) (o_eql rfl rfl)) ?_
 refine gl_v rfl (o_move rfl) ?_
 refine gl_gT rfl rfl rfl ?_
 refine gl_v rfl (o_move rfl) ?_
 refine gl_gT rfl rfl rfl ?_
 refine gl_v rfl (o_lens rfl) ?_
 refine gl_gT rfl rfl rfl ?_
 refine gl_v rfl (o_move rfl) ?_
 refine gl_gT rfl rfl rfl ?_
 refine gl_v rfl (o_subR (((c :: r).length : Int)) (by rw [wr_i64 (by omega)]; omega) rfl rfl) ?_
 refine gl_gT rfl rfl rfl ?_
 refine gl_v rfl (o_is (c := true) (by first | rfl | exact decide_eq_true (by omega) | (simp only [List.length]; exact decide_eq_true (by omega))) (o_gtr rfl rfl)) ?_
 refine gl_v rfl (o_pickF rfl rfl rfl) ?_
 refine gl_v rfl (o_move rfl) ?_
 refine gl_gF rfl rfl rfl rfl ?_
 refine gl_gF rfl rfl rfl rfl ?_
 refine gl_gF rfl rfl rfl rfl ?_
 refine gl_gF rfl rfl rfl rfl ?_
 refine gl_gF rfl rfl rfl rfl ?_
 refine gl_gU rfl rfl rfl ?_
 refine gl_gU rfl rfl rfl ?_
 refine gl_gU rfl rfl rfl ?_
 refine gl_gF rfl rfl rfl rfl ?_
 refine gl_v rfl (o_pickT rfl rfl rfl) ?_
 refine gl_nil ?_
 refine ge_then ?_
 refine g_cond_true rfl ?_
 refine g_seq ?_
 refine g_region ?_
 refine gl_v rfl (o_assign rfl) ?_
 refine gl_v rfl (o_assign rfl) ?_
 refine gl_nil ?_
 refine ge_then ?_
 refine g_ret ?_
 refine ge_then_ret ?_
 refine ret2 (.inl rfl) rfl rfl rfl _ (⟨0, by rw [hv]; rfl, by rw [hv]; rfl, rfl⟩) (tO)

set_option maxRecDepth 8000 in
set_option maxHeartbeats 1000000 in
theorem valP_zero (lo hi : Int) (hb : -1000000000000000000 < lo ∧ hi < 1000000000000000000) (c : UInt8) (r : By) (hc : ¬ c.toNat = 45) (hl : (c :: r).length ≤ 18) (h48 : c.toNat = 48) (hr : 1 < (c :: r).length) : FnS Tryd.prog 33 [S (c :: r), I64 lo, I64 hi] [] (fun u Bs => ∃ n, u = .tuple #[I64 n, .bool (numV lo hi (c :: r)).isSome] ∧ (numV lo hi (c :: r)).getD n = n ∧ Bs = []) := by
 refine fn_body Tryd.func33 rfl rfl rfl ?_
 intro W0 R
 simp only [List.zipIdx_cons, List.zipIdx_nil, List.map_cons, List.map_nil, Nat.zero_add, Nat.reduceAdd, List.cons_append, List.nil_append]
 have hl1 : (c :: r).length = r.length + 1 := rfl
 have hl2 : (45 :: c :: r).length = r.length + 2 := rfl
 have hv : numV lo hi (c :: r) = none := nvP_zero h48 (fun e => by rw [e] at hr; simp at hr)
 refine g_seq ?_
 refine g_region ?_
 refine gl_v rfl (o_assign rfl) ?_
 refine gl_v rfl (o_assign rfl) ?_
 refine gl_nil ?_
 refine ge_then ?_
 refine g_seq ?_
 refine g_region ?_
 refine gl_v rfl (o_assign rfl) ?_
 refine gl_nil ?_
 refine ge_then ?_
 refine g_seq ?_
 refine g_seq ?_
 refine g_region ?_
 refine gl_v rfl (o_move rfl) ?_
 refine gl_v rfl (o_lens rfl) ?_
 refine gl_v rfl (o_is (c := true) (by first | rfl | exact decide_eq_true (by omega) | (simp only [List.length]; exact decide_eq_true (by omega))) (o_gtr rfl rfl)) ?_
 refine gl_v rfl (o_move rfl) ?_
 refine gl_gT rfl rfl rfl ?_
 refine gl_v rfl (o_move rfl) ?_
 refine gl_gT rfl rfl rfl ?_
 refine gl_v rfl (o_index_string (i := 0) rfl rfl (show (c :: r)[0]? = some c from rfl)) ?_
 refine gl_gT rfl rfl rfl ?_
 refine gl_v rfl (o_is (c := false) (by first | rfl | exact decide_eq_false (by omega) | (simp only [List.length]; exact decide_eq_false (by omega))) (o_eql rfl rfl)) ?_
 refine gl_v rfl (o_pickT rfl rfl rfl) ?_
 refine gl_nil ?_
 refine ge_then ?_
 refine g_cond_false rfl ?_
 refine g_skip ?_
 refine ge_then ?_
 refine g_seq ?_
 refine g_seq ?_
 refine g_region ?_
 refine gl_v rfl (o_move rfl) ?_
 refine gl_v rfl (o_lens rfl) ?_
 refine gl_v rfl (o_move rfl) ?_
 refine gl_v rfl (o_is (c := false) (by first | rfl | exact decide_eq_false (by omega) | (simp only [List.length]; exact decide_eq_false (by omega))) (o_eql rfl rfl)) ?_
 refine gl_v rfl (o_move rfl) ?_
 refine gl_gT rfl rfl rfl ?_
 refine gl_v rfl (o_move rfl) ?_
 refine gl_gT rfl rfl rfl ?_
 refine gl_v rfl (o_lens rfl) ?_
 refine gl_gT rfl rfl rfl ?_
 refine gl_v rfl (o_move rfl) ?_
 refine gl_gT rfl rfl rfl ?_
 refine gl_v rfl (o_subR (((c :: r).length : Int)) (by rw [wr_i64 (by omega)]; omega) rfl rfl) ?_
 refine gl_gT rfl rfl rfl ?_
 refine gl_v rfl (o_is (c := false) (by first | rfl | exact decide_eq_false (by omega) | (simp only [List.length]; exact decide_eq_false (by omega))) (o_gtr rfl rfl)) ?_
 refine gl_v rfl (o_pickF rfl rfl rfl) ?_
 refine gl_v rfl (o_move rfl) ?_
 refine gl_gT rfl rfl rfl ?_
 refine gl_v rfl (o_move rfl) ?_
 refine gl_gT rfl rfl rfl ?_
 refine gl_v rfl (o_move rfl) ?_
 refine gl_gT rfl rfl rfl ?_
 refine gl_v rfl (o_index_string (i := 0) rfl rfl (show (c :: r)[0]? = some c from rfl)) ?_
 refine gl_gT rfl rfl rfl ?_
 refine gl_v rfl (o_is (c := true) (by first | rfl | exact decide_eq_true (by omega) | (simp only [List.length]; exact decide_eq_true (by omega))) (o_eql rfl rfl)) ?_
 refine gl_gT rfl rfl rfl ?_
 refine gl_v rfl (o_move rfl) ?_
 refine gl_gT rfl rfl rfl ?_
 refine gl_v rfl (o_move rfl) ?_
 refine gl_gT rfl rfl rfl ?_
 refine gl_v rfl (o_lens rfl) ?_
 refine gl_gT rfl rfl rfl ?_
 refine gl_v rfl (o_is (c := true) (by first | rfl | exact decide_eq_true (by omega) | (simp only [List.length]; exact decide_eq_true (by omega))) (o_gtr rfl rfl)) ?_
 refine gl_gT rfl rfl rfl ?_
 refine gl_v rfl (o_pickT rfl rfl rfl) ?_
 refine gl_v rfl (o_pickF rfl rfl rfl) ?_
 refine gl_nil ?_
 refine ge_then ?_
 refine g_cond_true rfl ?_
 refine g_seq ?_
 refine g_region ?_
 refine gl_v rfl (o_assign rfl) ?_
 refine gl_v rfl (o_assign rfl) ?_
 refine gl_nil ?_
 refine ge_then ?_
 refine g_ret ?_
 refine ge_then_ret ?_
 refine ret2 (.inl rfl) rfl rfl rfl _ (⟨0, by rw [hv]; rfl, by rw [hv]; rfl, rfl⟩) (tO)

set_option maxRecDepth 8000 in
set_option maxHeartbeats 1000000 in
theorem valN_zero (lo hi : Int) (hb : -1000000000000000000 < lo ∧ hi < 1000000000000000000) (c : UInt8) (r : By) (hl : (c :: r).length ≤ 18) (h48 : c.toNat = 48) : FnS Tryd.prog 33 [S (45 :: c :: r), I64 lo, I64 hi] [] (fun u Bs => ∃ n, u = .tuple #[I64 n, .bool (numV lo hi (45 :: c :: r)).isSome] ∧ (numV lo hi (45 :: c :: r)).getD n = n ∧ Bs = []) := by
 refine fn_body Tryd.func33 rfl rfl rfl ?_
 intro W0 R
 simp only [List.zipIdx_cons, List.zipIdx_nil, List.map_cons, List.map_nil, Nat.zero_add, Nat.reduceAdd, List.cons_append, List.nil_append]
 have hl1 : (c :: r).length = r.length + 1 := rfl
 have hl2 : (45 :: c :: r).length = r.length + 2 := rfl
 have hv : numV lo hi (45 :: c :: r) = none := nvN_zero h48
 refine g_seq ?_
 refine g_region ?_
 refine gl_v rfl (o_assign rfl) ?_
 refine gl_v rfl (o_assign rfl) ?_
 refine gl_nil ?_
 refine ge_then ?_
 refine g_seq ?_
 refine g_region ?_
 refine gl_v rfl (o_assign rfl) ?_
 refine gl_nil ?_
 refine ge_then ?_
 refine g_seq ?_
 refine g_seq ?_
 refine g_region ?_
 refine gl_v rfl (o_move rfl) ?_
 refine gl_v rfl (o_lens rfl) ?_
 refine gl_v rfl (o_is (c := true) (by first | rfl | exact decide_eq_true (by omega) | (simp only [List.length]; exact decide_eq_true (by omega))) (o_gtr rfl rfl)) ?_
 refine gl_v rfl (o_move rfl) ?_
 refine gl_gT rfl rfl rfl ?_
 refine gl_v rfl (o_move rfl) ?_
 refine gl_gT rfl rfl rfl ?_
 refine gl_v rfl (o_index_string (i := 0) rfl rfl (show (45 :: c :: r)[0]? = some 45 from rfl)) ?_
 refine gl_gT rfl rfl rfl ?_
 refine gl_v rfl (o_is (c := true) (by first | rfl | exact decide_eq_true (by omega) | (simp only [List.length]; exact decide_eq_true (by omega))) (o_eql rfl rfl)) ?_
 refine gl_v rfl (o_pickT rfl rfl rfl) ?_
 refine gl_nil ?_
 refine ge_then ?_
 refine g_cond_true rfl ?_
 refine g_region ?_
 refine gl_v rfl (o_assign rfl) ?_
 refine gl_nil ?_
 refine ge_then ?_
 refine g_seq ?_
 refine g_seq ?_
 refine g_region ?_
 refine gl_v rfl (o_move rfl) ?_
 refine gl_v rfl (o_lens rfl) ?_
 refine gl_v rfl (o_move rfl) ?_
 refine gl_v rfl (o_is (c := false) (by first | rfl | exact decide_eq_false (by omega) | (simp only [List.length]; exact decide_eq_false (by omega))) (o_eql rfl rfl)) ?_
 refine gl_v rfl (o_move rfl) ?_
 refine gl_gT rfl rfl rfl ?_
 refine gl_v rfl (o_move rfl) ?_
 refine gl_gT rfl rfl rfl ?_
 refine gl_v rfl (o_lens rfl) ?_
 refine gl_gT rfl rfl rfl ?_
 refine gl_v rfl (o_move rfl) ?_
 refine gl_gT rfl rfl rfl ?_
 refine gl_v rfl (o_subR (((c :: r).length : Int)) (by rw [wr_i64 (by omega)]; omega) rfl rfl) ?_
 refine gl_gT rfl rfl rfl ?_
 refine gl_v rfl (o_is (c := false) (by first | rfl | exact decide_eq_false (by omega) | (simp only [List.length]; exact decide_eq_false (by omega))) (o_gtr rfl rfl)) ?_
 refine gl_v rfl (o_pickF rfl rfl rfl) ?_
 refine gl_v rfl (o_move rfl) ?_
 refine gl_gT rfl rfl rfl ?_
 refine gl_v rfl (o_move rfl) ?_
 refine gl_gT rfl rfl rfl ?_
 refine gl_v rfl (o_move rfl) ?_
 refine gl_gT rfl rfl rfl ?_
 refine gl_v rfl (o_index_string (i := 1) rfl rfl (show (45 :: c :: r)[1]? = some c from rfl)) ?_
 refine gl_gT rfl rfl rfl ?_
 refine gl_v rfl (o_is (c := true) (by first | rfl | exact decide_eq_true (by omega) | (simp only [List.length]; exact decide_eq_true (by omega))) (o_eql rfl rfl)) ?_
 refine gl_gT rfl rfl rfl ?_
 refine gl_v rfl (o_move rfl) ?_
 refine gl_gT rfl rfl rfl ?_
 refine gl_v rfl (o_move rfl) ?_
 refine gl_gT rfl rfl rfl ?_
 refine gl_v rfl (o_lens rfl) ?_
 refine gl_gT rfl rfl rfl ?_
 refine gl_v rfl (o_is (c := true) (by first | rfl | exact decide_eq_true (by omega) | (simp only [List.length]; exact decide_eq_true (by omega))) (o_gtr rfl rfl)) ?_
 refine gl_gT rfl rfl rfl ?_
 refine gl_v rfl (o_pickT rfl rfl rfl) ?_
 refine gl_v rfl (o_pickF rfl rfl rfl) ?_
 refine gl_nil ?_
 refine ge_then ?_
 refine g_cond_true rfl ?_
 refine g_seq ?_
 refine g_region ?_
 refine gl_v rfl (o_assign rfl) ?_
 refine gl_v rfl (o_assign rfl) ?_
 refine gl_nil ?_
 refine ge_then ?_
 refine g_ret ?_
 refine ge_then_ret ?_
 refine ret2 (.inl rfl) rfl rfl rfl _ (⟨0, by rw [hv]; rfl, by rw [hv]; rfl, rfl⟩) (tO)

set_option maxRecDepth 8000 in
set_option maxHeartbeats 1000000 in
theorem valP_one (lo hi : Int) (hb : -1000000000000000000 < lo ∧ hi < 1000000000000000000) (c : UInt8) (r : By) (hc : ¬ c.toNat = 45) (hl : (c :: r).length ≤ 18) (h48 : ¬ c.toNat = 48) : FnS Tryd.prog 33 [S (c :: r), I64 lo, I64 hi] [] (fun u Bs => ∃ n, u = .tuple #[I64 n, .bool (numV lo hi (c :: r)).isSome] ∧ (numV lo hi (c :: r)).getD n = n ∧ Bs = []) := by
 refine fn_body Tryd.func33 rfl rfl rfl ?_
 intro W0 R
 simp only [List.zipIdx_cons, List.zipIdx_nil, List.map_cons, List.map_nil, Nat.zero_add, Nat.reduceAdd, List.cons_append, List.nil_append]
 have hl1 : (c :: r).length = r.length + 1 := rfl
 have hl2 : (45 :: c :: r).length = r.length + 2 := rfl
 
 refine g_seq ?_
 refine g_region ?_
 refine gl_v rfl (o_assign rfl) ?_
 refine gl_v rfl (o_assign rfl) ?_
 refine gl_nil ?_
 refine ge_then ?_
 refine g_seq ?_
 refine g_region ?_
 refine gl_v rfl (o_assign rfl) ?_
 refine gl_nil ?_
 refine ge_then ?_
 refine g_seq ?_
 refine g_seq ?_
 refine g_region ?_
 refine gl_v rfl (o_move rfl) ?_
 refine gl_v rfl (o_lens rfl) ?_
 refine gl_v rfl (o_is (c := true) (by first | rfl | exact decide_eq_true (by omega) | (simp only [List.length]; exact decide_eq_true (by omega))) (o_gtr rfl rfl)) ?_
 refine gl_v rfl (o_move rfl) ?_
 refine gl_gT rfl rfl rfl ?_
 refine gl_v rfl (o_move rfl) ?_
 refine gl_gT rfl rfl rfl ?_
 refine gl_v rfl (o_index_string (i := 0) rfl rfl (show (c :: r)[0]? = some c from rfl)) ?_
 refine gl_gT rfl rfl rfl ?_
 refine gl_v rfl (o_is (c := false) (by first | rfl | exact decide_eq_false (by omega) | (simp only [List.length]; exact decide_eq_false (by omega))) (o_eql rfl rfl)) ?_
 refine gl_v rfl (o_pickT rfl rfl rfl) ?_
 refine gl_nil ?_
 refine ge_then ?_
 refine g_cond_false rfl ?_
 refine g_skip ?_
 refine ge_then ?_
 refine g_seq ?_
 refine g_seq ?_
 refine g_region ?_
 refine gl_v rfl (o_move rfl) ?_
 refine gl_v rfl (o_lens rfl) ?_
 refine gl_v rfl (o_move rfl) ?_
 refine gl_v rfl (o_is (c := false) (by first | rfl | exact decide_eq_false (by omega) | (simp only [List.length]; exact decide_eq_false (by omega))) (o_eql rfl rfl)) ?_
 refine gl_v rfl (o_move rfl) ?_
 refine gl_gT rfl rfl rfl ?_
 refine gl_v rfl (o_move rfl) ?_
 refine gl_gT rfl rfl rfl ?_
 refine gl_v rfl (o_lens rfl) ?_
 refine gl_gT rfl rfl rfl ?_
 refine gl_v rfl (o_move rfl) ?_
 refine gl_gT rfl rfl rfl ?_
 refine gl_v rfl (o_subR (((c :: r).length : Int)) (by rw [wr_i64 (by omega)]; omega) rfl rfl) ?_
 refine gl_gT rfl rfl rfl ?_
 refine gl_v rfl (o_is (c := false) (by first | rfl | exact decide_eq_false (by omega) | (simp only [List.length]; exact decide_eq_false (by omega))) (o_gtr rfl rfl)) ?_
 refine gl_v rfl (o_pickF rfl rfl rfl) ?_
 refine gl_v rfl (o_move rfl) ?_
 refine gl_gT rfl rfl rfl ?_
 refine gl_v rfl (o_move rfl) ?_
 refine gl_gT rfl rfl rfl ?_
 refine gl_v rfl (o_move rfl) ?_
 refine gl_gT rfl rfl rfl ?_
 refine gl_v rfl (o_index_string (i := 0) rfl rfl (show (c :: r)[0]? = some c from rfl)) ?_
 refine gl_gT rfl rfl rfl ?_
 refine gl_v rfl (o_is (c := false) (by first | rfl | exact decide_eq_false (by omega) | (simp only [List.length]; exact decide_eq_false (by omega))) (o_eql rfl rfl)) ?_
 refine gl_gT rfl rfl rfl ?_
 refine gl_v rfl (o_move rfl) ?_
 refine gl_gF rfl rfl rfl rfl ?_
 refine gl_gF rfl rfl rfl rfl ?_
 refine gl_gF rfl rfl rfl rfl ?_
 refine gl_gT rfl rfl rfl ?_
 refine gl_v rfl (o_pickF rfl rfl rfl) ?_
 refine gl_v rfl (o_pickF rfl rfl rfl) ?_
 refine gl_nil ?_
 refine ge_then ?_
 refine g_cond_false rfl ?_
 refine g_skip ?_
 refine ge_then ?_
 refine g_seq ?_
 refine g_region ?_
 refine gl_v rfl (o_assign rfl) ?_
 refine gl_nil ?_
 refine ge_then ?_
 refine g_seq ?_
 refine g_seq ?_
 refine g_region ?_
 refine gl_v rfl (o_move rfl) ?_
 refine gl_v rfl (o_assign rfl) ?_
 refine gl_nil ?_
 refine ge_then ?_
 refine g_block ?_
 refine g_loop (ι := Nat) (fun j => j ≤ (c :: r).length ∧ ∀ y ∈ (c :: r).take j, isDig y = true) (fun j => [(10, I64 ((j : Nat) : Int)), (9, I64 ((natV ((c :: r).take j) 0 : Nat) : Int)), (8, I64 0), (0, S (c :: r)), (1, I64 lo), (2, I64 hi)]) (fun _ => R) (fun j => (c :: r).length - j) 0 (⟨Nat.zero_le _, fun y hy => by cases hy⟩) (Keep.cons rfl (Keep.cons rfl (Keep.cons rfl (Keep.cons rfl (Keep.cons rfl (Keep.cons rfl (Keep.nil))))))) (tO) ?_
 rintro j ⟨hj, hdj⟩
 replace hj : j ≤ (c :: r).length := hj
 have hsl : (c :: r).length = 0 + (c :: r).length := by simp only [List.length_cons]; omega
 refine g_seq ?_
 refine g_seq ?_
 refine g_region ?_
 refine gl_v rfl (o_move rfl) ?_
 refine gl_v rfl (o_move rfl) ?_
 refine gl_v rfl (o_lens rfl) ?_
 refine gl_v rfl (o_lss rfl rfl) ?_
 refine gl_nil ?_
 refine ge_then ?_
 refine g_cond rfl (fun hc1 => ?_) (fun hc1 => ?_)
 ·
  replace hc1 := hs_ hc1
  have hj1 : j < (c :: r).length := by omega
  obtain ⟨x, hx⟩ : ∃ x, (c :: r)[j]? = some x := ⟨_, List.getElem?_eq_getElem hj1⟩
  have hst := nat_step hx
  have h17 := nat_18 hdj (by rw [List.length_take]; omega)
  have hxl := x.toNat_lt
  refine g_skip ?_
  refine ge_then ?_
  refine g_seq ?_
  refine g_block ?_
  refine g_seq ?_
  refine g_seq ?_
  refine g_region ?_
  refine gl_v rfl (o_move rfl) ?_
  refine gl_v rfl (o_move rfl) ?_
  refine gl_v rfl (o_index_string (i := j) rfl rfl (show (c :: r)[j]? = some x by exact hx)) ?_
  refine gl_v rfl (o_lss rfl rfl) ?_
  refine gl_v rfl (o_move rfl) ?_
  refine gl_join (d := 57) 5 (.bool (decide ((x.toNat : Int) < 48) || decide (57 < (x.toNat : Int)))) ?_ (fun jk57 => ?_)
  rotate_left
  ·
   refine gl_g rfl rfl (fun hc2 => ?_) (fun hc2 => ?_) rfl
   ·
    have hc2' := hc2
    replace hc2' := hs_ hc2'
    refine gl_v rfl (o_move rfl) ?_
    refine gl_gT rfl rfl hc2 ?_
    refine gl_v rfl (o_move rfl) ?_
    refine gl_gT rfl rfl hc2 ?_
    refine gl_v rfl (o_index_string (i := j) rfl rfl (show (c :: r)[j]? = some x by exact hx)) ?_
    refine gl_gT rfl rfl hc2 ?_
    refine gl_v rfl (o_gtr rfl rfl) ?_
    refine gl_v rfl (o_pickF hc2 rfl rfl) ?_
    first | exact jk57 _ (KeepS.top (by repeat (first | exact KeepS.refl _ | refine KeepS.push ?_ rfl)) (jval (by first | rfl | (simp only [hc2, Bool.not_true, Bool.not_false, Bool.false_and, Bool.true_and, Bool.true_or, Bool.false_or]; done) | (simp [hc2]; done) | simp_all))) | exact gl_imp (tO) (jk57 _ (KeepS.top (by repeat (first | exact KeepS.refl _ | refine KeepS.push ?_ rfl)) (jval (by first | rfl | (simp only [hc2, Bool.not_true, Bool.not_false, Bool.false_and, Bool.true_and, Bool.true_or, Bool.false_or]; done) | (simp [hc2]; done) | simp_all))))
   ·
    have hc2' := hc2
    replace hc2' := hs_ hc2'
    simp only [putO]
    refine gl_gF rfl rfl hc2 rfl ?_
    refine gl_gF rfl rfl hc2 rfl ?_
    refine gl_gF rfl rfl hc2 rfl ?_
    refine gl_v rfl (o_pickT hc2 rfl rfl) ?_
    first | exact jk57 _ (KeepS.top (by repeat (first | exact KeepS.refl _ | refine KeepS.push ?_ rfl)) (jval (by first | rfl | (simp only [hc2, Bool.not_true, Bool.not_false, Bool.false_and, Bool.true_and, Bool.true_or, Bool.false_or]; done) | (simp [hc2]; done) | simp_all))) | exact gl_imp (tO) (jk57 _ (KeepS.top (by repeat (first | exact KeepS.refl _ | refine KeepS.push ?_ rfl)) (jval (by first | rfl | (simp only [hc2, Bool.not_true, Bool.not_false, Bool.false_and, Bool.true_and, Bool.true_or, Bool.false_or]; done) | (simp [hc2]; done) | simp_all))))
  refine gl_nil ?_
  refine ge_then ?_
  refine g_cond rfl (fun hc3 => ?_) (fun hc3 => ?_)
  ·
   replace hc3 := hs_ hc3
   have hdx : isDig x = false := dig_no (by have h9 := hc3; simp at h9; omega)
   have hv : numV lo hi (c :: r) = none := nvP_bad hc (List.mem_of_getElem? hx) hdx
   refine g_seq ?_
   refine g_region ?_
   refine gl_v rfl (o_assign rfl) ?_
   refine gl_v rfl (o_assign rfl) ?_
   refine gl_nil ?_
   refine ge_then ?_
   refine g_ret ?_
   refine ge_then_ret ?_
   refine ge_block_ret ?_
   refine ge_then_ret ?_
   refine ge_then_ret ?_
   refine ge_block_ret ?_
   refine ge_then_ret ?_
   refine ret2 (.inl rfl) rfl rfl rfl _ (⟨0, by rw [hv]; rfl, by rw [hv]; rfl, rfl⟩) (tO)
  ·
   replace hc3 := hs_ hc3
   have hdx9 : 48 ≤ x.toNat ∧ x.toNat ≤ 57 := by have h9 := hc3; simp at h9; omega
   have hdx : isDig x = true := dig_yes hdx9
   refine g_skip ?_
   refine ge_then ?_
   refine g_region ?_
   refine gl_v rfl (o_move rfl) ?_
   refine gl_v rfl (o_mulR ((10 * natV ((c :: r).take j) 0 : Nat) : Int) (by rw [wr_i64 (by omega)]; omega) rfl rfl) ?_
   refine gl_v rfl (o_move rfl) ?_
   refine gl_v rfl (o_move rfl) ?_
   refine gl_v rfl (o_index_string (i := j) rfl rfl (show (c :: r)[j]? = some x by exact hx)) ?_
   refine gl_v rfl (o_subR (((x.toNat - 48 : Nat) : Int)) (by rw [wr_u8 (by omega)]; omega) rfl rfl) ?_
   refine gl_v rfl (o_convR (((x.toNat - 48 : Nat) : Int)) (wr_i64 (by omega)) rfl) ?_
   refine gl_v rfl (o_addR (((10 * natV ((c :: r).take j) 0 + (x.toNat - 48) : Nat) : Int)) (by rw [wr_i64 (by omega)]; omega) rfl rfl) ?_
   refine gl_v rfl (o_assign rfl) ?_
   refine gl_nil ?_
   refine ge_block ?_
   refine ge_then ?_
   refine g_region ?_
   refine gl_v rfl (o_move rfl) ?_
   refine gl_v rfl (o_addR ((j + 1 : Nat) : Int) (by rw [wr_i64 (by omega)]; omega) rfl rfl) ?_
   refine gl_v rfl (o_assign rfl) ?_
   refine gl_nil ?_
   refine ge_round (j + 1) ⟨by show j + 1 ≤ (c :: r).length; omega, fun y hy => by rw [List.take_add_one, hx] at hy; rcases List.mem_append.1 hy with hy | hy; exact hdj y hy; rw [List.mem_singleton.1 hy]; exact hdx⟩ (by show (c :: r).length - (j + 1) < (c :: r).length - j; omega) (by rw [hst]; exact (Keep.cons rfl (Keep.cons rfl (Keep.cons rfl (Keep.cons rfl (Keep.cons rfl (Keep.cons rfl (Keep.nil)))))))) (tO)
 ·
  replace hc1 := hs_ hc1
  obtain rfl : j = (c :: r).length := by omega
  rw [List.take_length] at hdj ⊢
  have h18 := nat_19 hdj hl
  refine g_exit ?_
  refine ge_then_exit ?_
  refine ge_then_exit ?_
  refine ge_block_exit ?_
  refine ge_then ?_
  refine g_seq ?_
  refine g_seq ?_
  refine g_region ?_
  refine gl_v rfl (o_move rfl) ?_
  refine gl_v rfl (o_is (c := false) (by rfl) (o_eql rfl rfl)) ?_
  refine gl_nil ?_
  refine ge_then ?_
  refine g_cond_false rfl ?_
  refine g_skip ?_
  refine ge_then ?_
  refine g_seq ?_
  refine g_region ?_
  refine gl_v rfl (o_move rfl) ?_
  refine gl_v rfl (o_move rfl) ?_
  refine gl_v rfl (o_move rfl) ?_
  refine gl_v rfl (o_geq rfl rfl) ?_
  refine gl_v rfl (o_move rfl) ?_
  refine gl_g rfl rfl (fun hc4 => ?_) (fun hc4 => ?_) rfl
  ·
   have hc4' := hc4
   replace hc4' := hs_ hc4'
   refine gl_v rfl (o_move rfl) ?_
   refine gl_gT rfl rfl hc4 ?_
   refine gl_v rfl (o_move rfl) ?_
   refine gl_gT rfl rfl hc4 ?_
   refine gl_v rfl (o_leq rfl rfl) ?_
   refine gl_v rfl (o_pickT hc4 rfl rfl) ?_
   refine gl_v rfl (o_assign rfl) ?_
   refine gl_v rfl (o_assign rfl) ?_
   refine gl_nil ?_
   refine ge_then ?_
   refine g_ret ?_
   refine ret2 (.inl rfl) rfl rfl rfl _ (⟨((natV (c :: r) 0 : Nat) : Int), by rw [numV_pos hdj (.inl h48)]; by_cases h9 : ((natV (c :: r) 0 : Nat) : Int) ≤ hi <;> simp [h9, show lo ≤ ((natV (c :: r) 0 : Nat) : Int) by omega], by rw [numV_pos hdj (.inl h48)]; split <;> rfl, rfl⟩) (tO)
  ·
   have hc4' := hc4
   replace hc4' := hs_ hc4'
   simp only [putO]
   refine gl_gF rfl rfl hc4 rfl ?_
   refine gl_gF rfl rfl hc4 rfl ?_
   refine gl_v rfl (o_pickF hc4 rfl rfl) ?_
   refine gl_v rfl (o_assign rfl) ?_
   refine gl_v rfl (o_assign rfl) ?_
   refine gl_nil ?_
   refine ge_then ?_
   refine g_ret ?_
   refine ret2 (.inl rfl) rfl rfl rfl _ (⟨((natV (c :: r) 0 : Nat) : Int), by rw [numV_pos hdj (.inl h48)]; by_cases h9 : ((natV (c :: r) 0 : Nat) : Int) ≤ hi <;> simp [h9, show ¬ lo ≤ ((natV (c :: r) 0 : Nat) : Int) by omega], by rw [numV_pos hdj (.inl h48)]; split <;> rfl, rfl⟩) (tO)

set_option maxRecDepth 8000 in
set_option maxHeartbeats 1000000 in
theorem valN_one (lo hi : Int) (hb : -1000000000000000000 < lo ∧ hi < 1000000000000000000) (c : UInt8) (r : By) (hl : (c :: r).length ≤ 18) (h48 : ¬ c.toNat = 48) : FnS Tryd.prog 33 [S (45 :: c :: r), I64 lo, I64 hi] [] (fun u Bs => ∃ n, u = .tuple #[I64 n, .bool (numV lo hi (45 :: c :: r)).isSome] ∧ (numV lo hi (45 :: c :: r)).getD n = n ∧ Bs = []) := by
 refine fn_body Tryd.func33 rfl rfl rfl ?_
 intro W0 R
 simp only [List.zipIdx_cons, List.zipIdx_nil, List.map_cons, List.map_nil, Nat.zero_add, Nat.reduceAdd, List.cons_append, List.nil_append]
 have hl1 : (c :: r).length = r.length + 1 := rfl
 have hl2 : (45 :: c :: r).length = r.length + 2 := rfl
 
 refine g_seq ?_
 refine g_region ?_
 refine gl_v rfl (o_assign rfl) ?_
 refine gl_v rfl (o_assign rfl) ?_
 refine gl_nil ?_
 refine ge_then ?_
 refine g_seq ?_
 refine g_region ?_
 refine gl_v rfl (o_assign rfl) ?_
 refine gl_nil ?_
 refine ge_then ?_
 refine g_seq ?_
 refine g_seq ?_
 refine g_region ?_
 refine gl_v rfl (o_move rfl) ?_
 refine gl_v rfl (o_lens rfl) ?_
 refine gl_v rfl (o_is (c := true) (by first | rfl | exact decide_eq_true (by omega) | (simp only [List.length]; exact decide_eq_true (by omega))) (o_gtr rfl rfl)) ?_
 refine gl_v rfl (o_move rfl) ?_
 refine gl_gT rfl rfl rfl ?_
 refine gl_v rfl (o_move rfl) ?_
 refine gl_gT rfl rfl rfl ?_
 refine gl_v rfl (o_index_string (i := 0) rfl rfl (show (45 :: c :: r)[0]? = some 45 from rfl)) ?_
 refine gl_gT rfl rfl rfl ?_
 refine gl_v rfl (o_is (c := true) (by first | rfl | exact decide_eq_true (by omega) | (simp only [List.length]; exact decide_eq_true (by omega))) (o_eql rfl rfl)) ?_
 refine gl_v rfl (o_pickT rfl rfl rfl) ?_
 refine gl_nil ?_
 refine ge_then ?_
 refine g_cond_true rfl ?_
 refine g_region ?_
 refine gl_v rfl (o_assign rfl) ?_
 refine gl_nil ?_
 refine ge_then ?_
 refine g_seq ?_
 refine g_seq ?_
 refine g_region ?_
 refine gl_v rfl (o_move rfl) ?_
 refine gl_v rfl (o_lens rfl) ?_
 refine gl_v rfl (o_move rfl) ?_
 refine gl_v rfl (o_is (c := false) (by first | rfl | exact decide_eq_false (by omega) | (simp only [List.length]; exact decide_eq_false (by omega))) (o_eql rfl rfl)) ?_
 refine gl_v rfl (o_move rfl) ?_
 refine gl_gT rfl rfl rfl ?_
 refine gl_v rfl (o_move rfl) ?_
 refine gl_gT rfl rfl rfl ?_
 refine gl_v rfl (o_lens rfl) ?_
 refine gl_gT rfl rfl rfl ?_
 refine gl_v rfl (o_move rfl) ?_
 refine gl_gT rfl rfl rfl ?_
 refine gl_v rfl (o_subR (((c :: r).length : Int)) (by rw [wr_i64 (by omega)]; omega) rfl rfl) ?_
 refine gl_gT rfl rfl rfl ?_
 refine gl_v rfl (o_is (c := false) (by first | rfl | exact decide_eq_false (by omega) | (simp only [List.length]; exact decide_eq_false (by omega))) (o_gtr rfl rfl)) ?_
 refine gl_v rfl (o_pickF rfl rfl rfl) ?_
 refine gl_v rfl (o_move rfl) ?_
 refine gl_gT rfl rfl rfl ?_
 refine gl_v rfl (o_move rfl) ?_
 refine gl_gT rfl rfl rfl ?_
 refine gl_v rfl (o_move rfl) ?_
 refine gl_gT rfl rfl rfl ?_
 refine gl_v rfl (o_index_string (i := 1) rfl rfl (show (45 :: c :: r)[1]? = some c from rfl)) ?_
 refine gl_gT rfl rfl rfl ?_
 refine gl_v rfl (o_is (c := false) (by first | rfl | exact decide_eq_false (by omega) | (simp only [List.length]; exact decide_eq_false (by omega))) (o_eql rfl rfl)) ?_
 refine gl_gT rfl rfl rfl ?_
 refine gl_v rfl (o_move rfl) ?_
 refine gl_gF rfl rfl rfl rfl ?_
 refine gl_gF rfl rfl rfl rfl ?_
 refine gl_gF rfl rfl rfl rfl ?_
 refine gl_gT rfl rfl rfl ?_
 refine gl_v rfl (o_pickF rfl rfl rfl) ?_
 refine gl_v rfl (o_pickF rfl rfl rfl) ?_
 refine gl_nil ?_
 refine ge_then ?_
 refine g_cond_false rfl ?_
 refine g_skip ?_
 refine ge_then ?_
 refine g_seq ?_
 refine g_region ?_
 refine gl_v rfl (o_assign rfl) ?_
 refine gl_nil ?_
 refine ge_then ?_
 refine g_seq ?_
 refine g_seq ?_
 refine g_region ?_
 refine gl_v rfl (o_move rfl) ?_
 refine gl_v rfl (o_assign rfl) ?_
 refine gl_nil ?_
 refine ge_then ?_
 refine g_block ?_
 refine g_loop (ι := Nat) (fun j => j ≤ (c :: r).length ∧ ∀ y ∈ (c :: r).take j, isDig y = true) (fun j => [(10, I64 ((1 + j : Nat) : Int)), (9, I64 ((natV ((c :: r).take j) 0 : Nat) : Int)), (8, I64 1), (0, S (45 :: c :: r)), (1, I64 lo), (2, I64 hi)]) (fun _ => R) (fun j => (c :: r).length - j) 0 (⟨Nat.zero_le _, fun y hy => by cases hy⟩) (Keep.cons rfl (Keep.cons rfl (Keep.cons rfl (Keep.cons rfl (Keep.cons rfl (Keep.cons rfl (Keep.nil))))))) (tO) ?_
 rintro j ⟨hj, hdj⟩
 replace hj : j ≤ (c :: r).length := hj
 have hsl : (45 :: c :: r).length = 1 + (c :: r).length := by simp only [List.length_cons]; omega
 refine g_seq ?_
 refine g_seq ?_
 refine g_region ?_
 refine gl_v rfl (o_move rfl) ?_
 refine gl_v rfl (o_move rfl) ?_
 refine gl_v rfl (o_lens rfl) ?_
 refine gl_v rfl (o_lss rfl rfl) ?_
 refine gl_nil ?_
 refine ge_then ?_
 refine g_cond rfl (fun hc1 => ?_) (fun hc1 => ?_)
 ·
  replace hc1 := hs_ hc1
  have hj1 : j < (c :: r).length := by omega
  obtain ⟨x, hx⟩ : ∃ x, (c :: r)[j]? = some x := ⟨_, List.getElem?_eq_getElem hj1⟩
  have hst := nat_step hx
  have h17 := nat_18 hdj (by rw [List.length_take]; omega)
  have hxl := x.toNat_lt
  refine g_skip ?_
  refine ge_then ?_
  refine g_seq ?_
  refine g_block ?_
  refine g_seq ?_
  refine g_seq ?_
  refine g_region ?_
  refine gl_v rfl (o_move rfl) ?_
  refine gl_v rfl (o_move rfl) ?_
  refine gl_v rfl (o_index_string (i := 1 + j) rfl rfl (show (45 :: c :: r)[1 + j]? = some x by rw [Nat.add_comm]; exact hx)) ?_
  refine gl_v rfl (o_lss rfl rfl) ?_
  refine gl_v rfl (o_move rfl) ?_
  refine gl_join (d := 57) 5 (.bool (decide ((x.toNat : Int) < 48) || decide (57 < (x.toNat : Int)))) ?_ (fun jk57 => ?_)
  rotate_left
  ·
   refine gl_g rfl rfl (fun hc2 => ?_) (fun hc2 => ?_) rfl
   ·
    have hc2' := hc2
    replace hc2' := hs_ hc2'
    refine gl_v rfl (o_move rfl) ?_
    refine gl_gT rfl rfl hc2 ?_
    refine gl_v rfl (o_move rfl) ?_
    refine gl_gT rfl rfl hc2 ?_
    refine gl_v rfl (o_index_string (i := 1 + j) rfl rfl (show (45 :: c :: r)[1 + j]? = some x by rw [Nat.add_comm]; exact hx)) ?_
    refine gl_gT rfl rfl hc2 ?_
    refine gl_v rfl (o_gtr rfl rfl) ?_
    refine gl_v rfl (o_pickF hc2 rfl rfl) ?_
    first | exact jk57 _ (KeepS.top (by repeat (first | exact KeepS.refl _ | refine KeepS.push ?_ rfl)) (jval (by first | rfl | (simp only [hc2, Bool.not_true, Bool.not_false, Bool.false_and, Bool.true_and, Bool.true_or, Bool.false_or]; done) | (simp [hc2]; done) | simp_all))) | exact gl_imp (tO) (jk57 _ (KeepS.top (by repeat (first | exact KeepS.refl _ | refine KeepS.push ?_ rfl)) (jval (by first | rfl | (simp only [hc2, Bool.not_true, Bool.not_false, Bool.false_and, Bool.true_and, Bool.true_or, Bool.false_or]; done) | (simp [hc2]; done) | simp_all))))
   ·
    have hc2' := hc2
    replace hc2' := hs_ hc2'
    simp only [putO]
    refine gl_gF rfl rfl hc2 rfl ?_
    refine gl_gF rfl rfl hc2 rfl ?_
    refine gl_gF rfl rfl hc2 rfl ?_
    refine gl_v rfl (o_pickT hc2 rfl rfl) ?_
    first | exact jk57 _ (KeepS.top (by repeat (first | exact KeepS.refl _ | refine KeepS.push ?_ rfl)) (jval (by first | rfl | (simp only [hc2, Bool.not_true, Bool.not_false, Bool.false_and, Bool.true_and, Bool.true_or, Bool.false_or]; done) | (simp [hc2]; done) | simp_all))) | exact gl_imp (tO) (jk57 _ (KeepS.top (by repeat (first | exact KeepS.refl _ | refine KeepS.push ?_ rfl)) (jval (by first | rfl | (simp only [hc2, Bool.not_true, Bool.not_false, Bool.false_and, Bool.true_and, Bool.true_or, Bool.false_or]; done) | (simp [hc2]; done) | simp_all))))
  refine gl_nil ?_
  refine ge_then ?_
  refine g_cond rfl (fun hc3 => ?_) (fun hc3 => ?_)
  ·
   replace hc3 := hs_ hc3
   have hdx : isDig x = false := dig_no (by have h9 := hc3; simp at h9; omega)
   have hv : numV lo hi (45 :: c :: r) = none := nvN_bad (List.mem_of_getElem? hx) hdx
   refine g_seq ?_
   refine g_region ?_
   refine gl_v rfl (o_assign rfl) ?_
   refine gl_v rfl (o_assign rfl) ?_
   refine gl_nil ?_
   refine ge_then ?_
   refine g_ret ?_
   refine ge_then_ret ?_
   refine ge_block_ret ?_
   refine ge_then_ret ?_
   refine ge_then_ret ?_
   refine ge_block_ret ?_
   refine ge_then_ret ?_
   refine ret2 (.inl rfl) rfl rfl rfl _ (⟨0, by rw [hv]; rfl, by rw [hv]; rfl, rfl⟩) (tO)
  ·
   replace hc3 := hs_ hc3
   have hdx9 : 48 ≤ x.toNat ∧ x.toNat ≤ 57 := by have h9 := hc3; simp at h9; omega
   have hdx : isDig x = true := dig_yes hdx9
   refine g_skip ?_
   refine ge_then ?_
   refine g_region ?_
   refine gl_v rfl (o_move rfl) ?_
   refine gl_v rfl (o_mulR ((10 * natV ((c :: r).take j) 0 : Nat) : Int) (by rw [wr_i64 (by omega)]; omega) rfl rfl) ?_
   refine gl_v rfl (o_move rfl) ?_
   refine gl_v rfl (o_move rfl) ?_
   refine gl_v rfl (o_index_string (i := 1 + j) rfl rfl (show (45 :: c :: r)[1 + j]? = some x by rw [Nat.add_comm]; exact hx)) ?_
   refine gl_v rfl (o_subR (((x.toNat - 48 : Nat) : Int)) (by rw [wr_u8 (by omega)]; omega) rfl rfl) ?_
   refine gl_v rfl (o_convR (((x.toNat - 48 : Nat) : Int)) (wr_i64 (by omega)) rfl) ?_
   refine gl_v rfl (o_addR (((10 * natV ((c :: r).take j) 0 + (x.toNat - 48) : Nat) : Int)) (by rw [wr_i64 (by omega)]; omega) rfl rfl) ?_
   refine gl_v rfl (o_assign rfl) ?_
   refine gl_nil ?_
   refine ge_block ?_
   refine ge_then ?_
   refine g_region ?_
   refine gl_v rfl (o_move rfl) ?_
   refine gl_v rfl (o_addR ((1 + j + 1 : Nat) : Int) (by rw [wr_i64 (by omega)]; omega) rfl rfl) ?_
   refine gl_v rfl (o_assign rfl) ?_
   refine gl_nil ?_
   refine ge_round (j + 1) ⟨by show j + 1 ≤ (c :: r).length; omega, fun y hy => by rw [List.take_add_one, hx] at hy; rcases List.mem_append.1 hy with hy | hy; exact hdj y hy; rw [List.mem_singleton.1 hy]; exact hdx⟩ (by show (c :: r).length - (j + 1) < (c :: r).length - j; omega) (by rw [hst]; exact (Keep.cons rfl (Keep.cons rfl (Keep.cons rfl (Keep.cons rfl (Keep.cons rfl (Keep.cons rfl (Keep.nil)))))))) (tO)
 ·
  replace hc1 := hs_ hc1
  obtain rfl : j = (c :: r).length := by omega
  rw [List.take_length] at hdj ⊢
  have h18 := nat_19 hdj hl
  refine g_exit ?_
  refine ge_then_exit ?_
  refine ge_then_exit ?_
  refine ge_block_exit ?_
  refine ge_then ?_
  refine g_seq ?_
  refine g_seq ?_
  refine g_region ?_
  refine gl_v rfl (o_move rfl) ?_
  refine gl_v rfl (o_is (c := true) (by rfl) (o_eql rfl rfl)) ?_
  refine gl_nil ?_
  refine ge_then ?_
  refine g_cond_true rfl ?_
  refine g_region ?_
  refine gl_v rfl (o_move rfl) ?_
  refine gl_v rfl (o_negR (-((natV (c :: r) 0 : Nat) : Int)) (by rw [wr_i64 (by omega)]) rfl) ?_
  refine gl_v rfl (o_assign rfl) ?_
  refine gl_nil ?_
  refine ge_then ?_
  refine g_seq ?_
  refine g_region ?_
  refine gl_v rfl (o_move rfl) ?_
  refine gl_v rfl (o_move rfl) ?_
  refine gl_v rfl (o_move rfl) ?_
  refine gl_v rfl (o_geq rfl rfl) ?_
  refine gl_v rfl (o_move rfl) ?_
  refine gl_g rfl rfl (fun hc4 => ?_) (fun hc4 => ?_) rfl
  ·
   have hc4' := hc4
   replace hc4' := hs_ hc4'
   refine gl_v rfl (o_move rfl) ?_
   refine gl_gT rfl rfl hc4 ?_
   refine gl_v rfl (o_move rfl) ?_
   refine gl_gT rfl rfl hc4 ?_
   refine gl_v rfl (o_leq rfl rfl) ?_
   refine gl_v rfl (o_pickT hc4 rfl rfl) ?_
   refine gl_v rfl (o_assign rfl) ?_
   refine gl_v rfl (o_assign rfl) ?_
   refine gl_nil ?_
   refine ge_then ?_
   refine g_ret ?_
   refine ret2 (.inl rfl) rfl rfl rfl _ (⟨-((natV (c :: r) 0 : Nat) : Int), by rw [numV_neg hdj h48]; by_cases h9 : -((natV (c :: r) 0 : Nat) : Int) ≤ hi <;> simp [h9, show lo ≤ -((natV (c :: r) 0 : Nat) : Int) by omega], by rw [numV_neg hdj h48]; split <;> rfl, rfl⟩) (tO)
  ·
   have hc4' := hc4
   replace hc4' := hs_ hc4'
   simp only [putO]
   refine gl_gF rfl rfl hc4 rfl ?_
   refine gl_gF rfl rfl hc4 rfl ?_
   refine gl_v rfl (o_pickF hc4 rfl rfl) ?_
   refine gl_v rfl (o_assign rfl) ?_
   refine gl_v rfl (o_assign rfl) ?_
   refine gl_nil ?_
   refine ge_then ?_
   refine g_ret ?_
   refine ret2 (.inl rfl) rfl rfl rfl _ (⟨-((natV (c :: r) 0 : Nat) : Int), by rw [numV_neg hdj h48]; by_cases h9 : -((natV (c :: r) 0 : Nat) : Int) ≤ hi <;> simp [h9, show ¬ lo ≤ -((natV (c :: r) 0 : Nat) : Int) by omega], by rw [numV_neg hdj h48]; split <;> rfl, rfl⟩) (tO)

set_option maxRecDepth 8000 in
set_option maxHeartbeats 1000000 in
theorem valP_nought (lo hi : Int) (hb : -1000000000000000000 < lo ∧ hi < 1000000000000000000) (c : UInt8) (hc : ¬ c.toNat = 45) (h48 : c.toNat = 48) : FnS Tryd.prog 33 [S (c :: []), I64 lo, I64 hi] [] (fun u Bs => ∃ n, u = .tuple #[I64 n, .bool (numV lo hi (c :: [])).isSome] ∧ (numV lo hi (c :: [])).getD n = n ∧ Bs = []) := by
 refine fn_body Tryd.func33 rfl rfl rfl ?_
 intro W0 R
 simp only [List.zipIdx_cons, List.zipIdx_nil, List.map_cons, List.map_nil, Nat.zero_add, Nat.reduceAdd, List.cons_append, List.nil_append]
 have hl1 : (c :: ([] : By)).length = 1 := rfl
 have hl : (c :: ([] : By)).length ≤ 18 := by omega
 
 refine g_seq ?_
 refine g_region ?_
 refine gl_v rfl (o_assign rfl) ?_
 refine gl_v rfl (o_assign rfl) ?_
 refine gl_nil ?_
 refine ge_then ?_
 refine g_seq ?_
 refine g_region ?_
 refine gl_v rfl (o_assign rfl) ?_
 refine gl_nil ?_
 refine ge_then ?_
 refine g_seq ?_
 refine g_seq ?_
 refine g_region ?_
 refine gl_v rfl (o_move rfl) ?_
 refine gl_v rfl (o_lens rfl) ?_
 refine gl_v rfl (o_is (c := true) (by first | rfl | exact decide_eq_true (by omega) | (simp only [List.length]; exact decide_eq_true (by omega))) (o_gtr rfl rfl)) ?_
 refine gl_v rfl (o_move rfl) ?_
 refine gl_gT rfl rfl rfl ?_
 refine gl_v rfl (o_move rfl) ?_
 refine gl_gT rfl rfl rfl ?_
 refine gl_v rfl (o_index_string (i := 0) rfl rfl (show (c :: [])[0]? = some c from rfl)) ?_
 refine gl_gT rfl rfl rfl ?_
 refine gl_v rfl (o_is (c := false) (by first | rfl | exact decide_eq_false (by omega) | (simp only [List.length]; exact decide_eq_false (by omega))) (o_eql rfl rfl)) ?_
 refine gl_v rfl (o_pickT rfl rfl rfl) ?_
 refine gl_nil ?_
 refine ge_then ?_
 refine g_cond_false rfl ?_
 refine g_skip ?_
 refine ge_then ?_
 refine g_seq ?_
 refine g_seq ?_
 refine g_region ?_
 refine gl_v rfl (o_move rfl) ?_
 refine gl_v rfl (o_lens rfl) ?_
 refine gl_v rfl (o_move rfl) ?_
 refine gl_v rfl (o_is (c := false) (by first | rfl | exact decide_eq_false (by omega) | (simp only [List.length]; exact decide_eq_false (by omega))) (o_eql rfl rfl)) ?_
 refine gl_v rfl (o_move rfl) ?_
 refine gl_gT rfl rfl rfl ?_
 refine gl_v rfl (o_move rfl) ?_
 refine gl_gT rfl rfl rfl ?_
 refine gl_v rfl (o_lens rfl) ?_
 refine gl_gT rfl rfl rfl ?_
 refine gl_v rfl (o_move rfl) ?_
 refine gl_gT rfl rfl rfl ?_
 refine gl_v rfl (o_subR (((c :: ([] : By)).length : Int)) (by rw [wr_i64 (by omega)]; omega) rfl rfl) ?_
 refine gl_gT rfl rfl rfl ?_
 refine gl_v rfl (o_is (c := false) (by first | rfl | exact decide_eq_false (by omega) | (simp only [List.length]; exact decide_eq_false (by omega))) (o_gtr rfl rfl)) ?_
 refine gl_v rfl (o_pickF rfl rfl rfl) ?_
 refine gl_v rfl (o_move rfl) ?_
 refine gl_gT rfl rfl rfl ?_
 refine gl_v rfl (o_move rfl) ?_
 refine gl_gT rfl rfl rfl ?_
 refine gl_v rfl (o_move rfl) ?_
 refine gl_gT rfl rfl rfl ?_
 refine gl_v rfl (o_index_string (i := 0) rfl rfl (show (c :: [])[0]? = some c from rfl)) ?_
 refine gl_gT rfl rfl rfl ?_
 refine gl_v rfl (o_is (c := true) (by first | rfl | exact decide_eq_true (by omega) | (simp only [List.length]; exact decide_eq_true (by omega))) (o_eql rfl rfl)) ?_
 refine gl_gT rfl rfl rfl ?_
 refine gl_v rfl (o_move rfl) ?_
 refine gl_gT rfl rfl rfl ?_
 refine gl_v rfl (o_move rfl) ?_
 refine gl_gT rfl rfl rfl ?_
 refine gl_v rfl (o_lens rfl) ?_
 refine gl_gT rfl rfl rfl ?_
 refine gl_v rfl (o_is (c := false) (by first | rfl | exact decide_eq_false (by omega) | (simp only [List.length]; exact decide_eq_false (by omega))) (o_gtr rfl rfl)) ?_
 refine gl_gT rfl rfl rfl ?_
 refine gl_v rfl (o_pickT rfl rfl rfl) ?_
 refine gl_v rfl (o_pickF rfl rfl rfl) ?_
 refine gl_nil ?_
 refine ge_then ?_
 refine g_cond_false rfl ?_
 refine g_skip ?_
 refine ge_then ?_
 refine g_seq ?_
 refine g_region ?_
 refine gl_v rfl (o_assign rfl) ?_
 refine gl_nil ?_
 refine ge_then ?_
 refine g_seq ?_
 refine g_seq ?_
 refine g_region ?_
 refine gl_v rfl (o_move rfl) ?_
 refine gl_v rfl (o_assign rfl) ?_
 refine gl_nil ?_
 refine ge_then ?_
 refine g_block ?_
 refine g_loop (ι := Nat) (fun j => j ≤ (c :: []).length ∧ ∀ y ∈ (c :: []).take j, isDig y = true) (fun j => [(10, I64 ((j : Nat) : Int)), (9, I64 ((natV ((c :: []).take j) 0 : Nat) : Int)), (8, I64 0), (0, S (c :: [])), (1, I64 lo), (2, I64 hi)]) (fun _ => R) (fun j => (c :: []).length - j) 0 (⟨Nat.zero_le _, fun y hy => by cases hy⟩) (Keep.cons rfl (Keep.cons rfl (Keep.cons rfl (Keep.cons rfl (Keep.cons rfl (Keep.cons rfl (Keep.nil))))))) (tO) ?_
 rintro j ⟨hj, hdj⟩
 replace hj : j ≤ (c :: []).length := hj
 have hsl : (c :: []).length = 0 + (c :: []).length := by simp only [List.length_cons]; omega
 refine g_seq ?_
 refine g_seq ?_
 refine g_region ?_
 refine gl_v rfl (o_move rfl) ?_
 refine gl_v rfl (o_move rfl) ?_
 refine gl_v rfl (o_lens rfl) ?_
 refine gl_v rfl (o_lss rfl rfl) ?_
 refine gl_nil ?_
 refine ge_then ?_
 refine g_cond rfl (fun hc1 => ?_) (fun hc1 => ?_)
 ·
  replace hc1 := hs_ hc1
  have hj1 : j < (c :: []).length := by omega
  obtain ⟨x, hx⟩ : ∃ x, (c :: [])[j]? = some x := ⟨_, List.getElem?_eq_getElem hj1⟩
  have hst := nat_step hx
  have h17 := nat_18 hdj (by rw [List.length_take]; omega)
  have hxl := x.toNat_lt
  refine g_skip ?_
  refine ge_then ?_
  refine g_seq ?_
  refine g_block ?_
  refine g_seq ?_
  refine g_seq ?_
  refine g_region ?_
  refine gl_v rfl (o_move rfl) ?_
  refine gl_v rfl (o_move rfl) ?_
  refine gl_v rfl (o_index_string (i := j) rfl rfl (show (c :: [])[j]? = some x by exact hx)) ?_
  refine gl_v rfl (o_lss rfl rfl) ?_
  refine gl_v rfl (o_move rfl) ?_
  refine gl_join (d := 57) 5 (.bool (decide ((x.toNat : Int) < 48) || decide (57 < (x.toNat : Int)))) ?_ (fun jk57 => ?_)
  rotate_left
  ·
   refine gl_g rfl rfl (fun hc2 => ?_) (fun hc2 => ?_) rfl
   ·
    have hc2' := hc2
    replace hc2' := hs_ hc2'
    refine gl_v rfl (o_move rfl) ?_
    refine gl_gT rfl rfl hc2 ?_
    refine gl_v rfl (o_move rfl) ?_
    refine gl_gT rfl rfl hc2 ?_
    refine gl_v rfl (o_index_string (i := j) rfl rfl (show (c :: [])[j]? = some x by exact hx)) ?_
    refine gl_gT rfl rfl hc2 ?_
    refine gl_v rfl (o_gtr rfl rfl) ?_
    refine gl_v rfl (o_pickF hc2 rfl rfl) ?_
    first | exact jk57 _ (KeepS.top (by repeat (first | exact KeepS.refl _ | refine KeepS.push ?_ rfl)) (jval (by first | rfl | (simp only [hc2, Bool.not_true, Bool.not_false, Bool.false_and, Bool.true_and, Bool.true_or, Bool.false_or]; done) | (simp [hc2]; done) | simp_all))) | exact gl_imp (tO) (jk57 _ (KeepS.top (by repeat (first | exact KeepS.refl _ | refine KeepS.push ?_ rfl)) (jval (by first | rfl | (simp only [hc2, Bool.not_true, Bool.not_false, Bool.false_and, Bool.true_and, Bool.true_or, Bool.false_or]; done) | (simp [hc2]; done) | simp_all))))
   ·
    have hc2' := hc2
    replace hc2' := hs_ hc2'
    simp only [putO]
    refine gl_gF rfl rfl hc2 rfl ?_
    refine gl_gF rfl rfl hc2 rfl ?_
    refine gl_gF rfl rfl hc2 rfl ?_
    refine gl_v rfl (o_pickT hc2 rfl rfl) ?_
    first | exact jk57 _ (KeepS.top (by repeat (first | exact KeepS.refl _ | refine KeepS.push ?_ rfl)) (jval (by first | rfl | (simp only [hc2, Bool.not_true, Bool.not_false, Bool.false_and, Bool.true_and, Bool.true_or, Bool.false_or]; done) | (simp [hc2]; done) | simp_all))) | exact gl_imp (tO) (jk57 _ (KeepS.top (by repeat (first | exact KeepS.refl _ | refine KeepS.push ?_ rfl)) (jval (by first | rfl | (simp only [hc2, Bool.not_true, Bool.not_false, Bool.false_and, Bool.true_and, Bool.true_or, Bool.false_or]; done) | (simp [hc2]; done) | simp_all))))
  refine gl_nil ?_
  refine ge_then ?_
  refine g_cond rfl (fun hc3 => ?_) (fun hc3 => ?_)
  ·
   replace hc3 := hs_ hc3
   have hdx : isDig x = false := dig_no (by have h9 := hc3; simp at h9; omega)
   have hv : numV lo hi (c :: []) = none := nvP_bad hc (List.mem_of_getElem? hx) hdx
   refine g_seq ?_
   refine g_region ?_
   refine gl_v rfl (o_assign rfl) ?_
   refine gl_v rfl (o_assign rfl) ?_
   refine gl_nil ?_
   refine ge_then ?_
   refine g_ret ?_
   refine ge_then_ret ?_
   refine ge_block_ret ?_
   refine ge_then_ret ?_
   refine ge_then_ret ?_
   refine ge_block_ret ?_
   refine ge_then_ret ?_
   refine ret2 (.inl rfl) rfl rfl rfl _ (⟨0, by rw [hv]; rfl, by rw [hv]; rfl, rfl⟩) (tO)
  ·
   replace hc3 := hs_ hc3
   have hdx9 : 48 ≤ x.toNat ∧ x.toNat ≤ 57 := by have h9 := hc3; simp at h9; omega
   have hdx : isDig x = true := dig_yes hdx9
   refine g_skip ?_
   refine ge_then ?_
   refine g_region ?_
   refine gl_v rfl (o_move rfl) ?_
   refine gl_v rfl (o_mulR ((10 * natV ((c :: []).take j) 0 : Nat) : Int) (by rw [wr_i64 (by omega)]; omega) rfl rfl) ?_
   refine gl_v rfl (o_move rfl) ?_
   refine gl_v rfl (o_move rfl) ?_
   refine gl_v rfl (o_index_string (i := j) rfl rfl (show (c :: [])[j]? = some x by exact hx)) ?_
   refine gl_v rfl (o_subR (((x.toNat - 48 : Nat) : Int)) (by rw [wr_u8 (by omega)]; omega) rfl rfl) ?_
   refine gl_v rfl (o_convR (((x.toNat - 48 : Nat) : Int)) (wr_i64 (by omega)) rfl) ?_
   refine gl_v rfl (o_addR (((10 * natV ((c :: []).take j) 0 + (x.toNat - 48) : Nat) : Int)) (by rw [wr_i64 (by omega)]; omega) rfl rfl) ?_
   refine gl_v rfl (o_assign rfl) ?_
   refine gl_nil ?_
   refine ge_block ?_
   refine ge_then ?_
   refine g_region ?_
   refine gl_v rfl (o_move rfl) ?_
   refine gl_v rfl (o_addR ((j + 1 : Nat) : Int) (by rw [wr_i64 (by omega)]; omega) rfl rfl) ?_
   refine gl_v rfl (o_assign rfl) ?_
   refine gl_nil ?_
   refine ge_round (j + 1) ⟨by show j + 1 ≤ (c :: []).length; omega, fun y hy => by rw [List.take_add_one, hx] at hy; rcases List.mem_append.1 hy with hy | hy; exact hdj y hy; rw [List.mem_singleton.1 hy]; exact hdx⟩ (by show (c :: []).length - (j + 1) < (c :: []).length - j; omega) (by rw [hst]; exact (Keep.cons rfl (Keep.cons rfl (Keep.cons rfl (Keep.cons rfl (Keep.cons rfl (Keep.cons rfl (Keep.nil)))))))) (tO)
 ·
  replace hc1 := hs_ hc1
  obtain rfl : j = (c :: []).length := by omega
  rw [List.take_length] at hdj ⊢
  have h18 := nat_19 hdj hl
  refine g_exit ?_
  refine ge_then_exit ?_
  refine ge_then_exit ?_
  refine ge_block_exit ?_
  refine ge_then ?_
  refine g_seq ?_
  refine g_seq ?_
  refine g_region ?_
  refine gl_v rfl (o_move rfl) ?_
  refine gl_v rfl (o_is (c := false) (by rfl) (o_eql rfl rfl)) ?_
  refine gl_nil ?_
  refine ge_then ?_
  refine g_cond_false rfl ?_
  refine g_skip ?_
  refine ge_then ?_
  refine g_seq ?_
  refine g_region ?_
  refine gl_v rfl (o_move rfl) ?_
  refine gl_v rfl (o_move rfl) ?_
  refine gl_v rfl (o_move rfl) ?_
  refine gl_v rfl (o_geq rfl rfl) ?_
  refine gl_v rfl (o_move rfl) ?_
  refine gl_g rfl rfl (fun hc4 => ?_) (fun hc4 => ?_) rfl
  ·
   have hc4' := hc4
   replace hc4' := hs_ hc4'
   refine gl_v rfl (o_move rfl) ?_
   refine gl_gT rfl rfl hc4 ?_
   refine gl_v rfl (o_move rfl) ?_
   refine gl_gT rfl rfl hc4 ?_
   refine gl_v rfl (o_leq rfl rfl) ?_
   refine gl_v rfl (o_pickT hc4 rfl rfl) ?_
   refine gl_v rfl (o_assign rfl) ?_
   refine gl_v rfl (o_assign rfl) ?_
   refine gl_nil ?_
   refine ge_then ?_
   refine g_ret ?_
   refine ret2 (.inl rfl) rfl rfl rfl _ (⟨((natV (c :: []) 0 : Nat) : Int), by rw [numV_pos hdj (.inr rfl)]; by_cases h9 : ((natV (c :: []) 0 : Nat) : Int) ≤ hi <;> simp [h9, show lo ≤ ((natV (c :: []) 0 : Nat) : Int) by omega], by rw [numV_pos hdj (.inr rfl)]; split <;> rfl, rfl⟩) (tO)
  ·
   have hc4' := hc4
   replace hc4' := hs_ hc4'
   simp only [putO]
   refine gl_gF rfl rfl hc4 rfl ?_
   refine gl_gF rfl rfl hc4 rfl ?_
   refine gl_v rfl (o_pickF hc4 rfl rfl) ?_
   refine gl_v rfl (o_assign rfl) ?_
   refine gl_v rfl (o_assign rfl) ?_
   refine gl_nil ?_
   refine ge_then ?_
   refine g_ret ?_
   refine ret2 (.inl rfl) rfl rfl rfl _ (⟨((natV (c :: []) 0 : Nat) : Int), by rw [numV_pos hdj (.inr rfl)]; by_cases h9 : ((natV (c :: []) 0 : Nat) : Int) ≤ hi <;> simp [h9, show ¬ lo ≤ ((natV (c :: []) 0 : Nat) : Int) by omega], by rw [numV_pos hdj (.inr rfl)]; split <;> rfl, rfl⟩) (tO)

theorem Value_spec (s : By) (lo hi : Int) (hb : -1000000000000000000 < lo ∧ hi < 1000000000000000000) (hz : s.length ≤ 4000000000) : FnS Tryd.prog 33 [S (s), I64 lo, I64 hi] [] (fun u Bs => ∃ n, u = .tuple #[I64 n, .bool (numV lo hi (s)).isSome] ∧ (numV lo hi (s)).getD n = n ∧ Bs = []) := by
  cases s with
  | nil => exact val_nil lo hi hb
  | cons c r =>
    simp only [List.length_cons] at hz
    by_cases hc : c.toNat = 45
    · obtain rfl : c = 45 := u8_of hc
      cases r with
      | nil => exact valN_nil lo hi hb
      | cons c r =>
        simp only [List.length_cons] at hz
        by_cases hl : (c :: r).length ≤ 18
        · by_cases h48 : c.toNat = 48
          · exact valN_zero lo hi hb c r hl h48
          · exact valN_one lo hi hb c r hl h48
        · exact valN_long lo hi hb c r (by omega) (by simp only [List.length_cons]; omega)
    · by_cases hl : (c :: r).length ≤ 18
      · by_cases h48 : c.toNat = 48
        · by_cases hr : 1 < (c :: r).length
          · exact valP_zero lo hi hb c r hc hl h48 hr
          · obtain rfl : r = [] := List.eq_nil_of_length_eq_zero (by simp only [List.length_cons] at hr; omega)
            exact valP_nought lo hi hb c hc h48
        · exact valP_one lo hi hb c r hc hl h48
      · exact valP_long lo hi hb c r hc (by omega) (by simp only [List.length_cons]; omega)

set_option maxRecDepth 8000 in
set_option maxHeartbeats 1000000 in
theorem rWords_spec (s : By) (hl : s.length ≤ 4000000000) : FnS Tryd.prog 32 [S s] [] (fun u Bs => ∃ a c, u = .slice a (splitB 32 s).length c ∧ Bs = [own (.slice a (splitB 32 s).length c) 9 1 (splitB 32 s).length (wsC (splitB 32 s))]) := by
 refine fn_body Tryd.func32 rfl rfl rfl ?_
 intro W0 R
 simp only [List.zipIdx_cons, List.zipIdx_nil, List.map_cons, List.map_nil, Nat.zero_add, Nat.reduceAdd, List.cons_append, List.nil_append]
 refine g_seq ?_
 refine g_region ?_
 refine gl_v rfl (o_assign rfl) ?_
 refine gl_nil ?_
 refine ge_then ?_
 refine g_seq ?_
 refine g_region ?_
 refine gl_v rfl (o_assign rfl) ?_
 refine gl_nil ?_
 refine ge_then ?_
 refine g_seq ?_
 refine g_region ?_
 refine gl_v rfl (o_assign rfl) ?_
 refine gl_nil ?_
 refine ge_then ?_
 refine g_seq ?_
 refine g_seq ?_
 refine g_region ?_
 refine gl_v rfl (o_assign rfl) ?_
 refine gl_nil ?_
 refine ge_then ?_
 refine g_block ?_
 refine g_loop (ι := Nat × Nat × List By × Option Addr × Nat) (fun x => atW 32 s x.2.1 x.1 x.2.2.1 ∧ x.2.2.1.length ≤ x.1 ∧ x.1 ≤ s.length + 1) (fun x => [(5, I64 x.1), (4, I64 x.2.1), (3, .slice x.2.2.2.1 x.2.2.1.length x.2.2.2.2), (0, S s)]) (fun x => own (.slice x.2.2.2.1 (x.2.2.1).length x.2.2.2.2) 9 1 (x.2.2.1).length (wsC (x.2.2.1)) :: R) (fun x => s.length + 1 - x.1) (0, 0, [], none, 0) (⟨atW_0 _ _, Nat.le_refl _, Nat.zero_le _⟩) (Keep.cons rfl (Keep.cons rfl (Keep.cons rfl (Keep.cons rfl (Keep.nil))))) (fun h s => own_nil0 h s) ?_
 rintro ⟨i, f, acc, a, c⟩ ⟨hat, hacc, hi⟩
 replace hat : atW 32 s f i acc := hat
 replace hacc : acc.length ≤ i := hacc
 replace hi : i ≤ s.length + 1 := hi
 dsimp only
 have hf1 := hat.1
 refine g_seq ?_
 refine g_seq ?_
 refine g_region ?_
 refine gl_v rfl (o_move rfl) ?_
 refine gl_v rfl (o_move rfl) ?_
 refine gl_v rfl (o_lens rfl) ?_
 refine gl_v rfl (o_leq rfl rfl) ?_
 refine gl_nil ?_
 refine ge_then ?_
 refine g_cond rfl (fun hc1 => ?_) (fun hc1 => ?_)
 ·
  replace hc1 := hs_ hc1
  refine g_skip ?_
  refine ge_then ?_
  refine g_seq ?_
  refine g_block ?_
  refine g_seq ?_
  rcases Nat.lt_or_ge i s.length with hlt | hge
  ·
   obtain ⟨x, hx⟩ : ∃ x, s[i]? = some x := ⟨_, List.getElem?_eq_getElem hlt⟩
   refine g_region ?_
   refine gl_v rfl (o_move rfl) ?_
   refine gl_v rfl (o_move rfl) ?_
   refine gl_v rfl (o_lens rfl) ?_
   refine gl_v rfl (o_is (c := false) (by exact decide_eq_false (by omega)) (o_eql rfl rfl)) ?_
   refine gl_v rfl (o_move rfl) ?_
   refine gl_gT rfl rfl rfl ?_
   refine gl_v rfl (o_move rfl) ?_
   refine gl_gT rfl rfl rfl ?_
   refine gl_v rfl (o_move rfl) ?_
   refine gl_gT rfl rfl rfl ?_
   refine gl_v rfl (o_index_string (i := i) rfl rfl hx) ?_
   refine gl_gT rfl rfl rfl ?_
   refine gl_v rfl (o_eql rfl rfl) ?_
   refine gl_v rfl (o_pickF rfl rfl rfl) ?_
   refine gl_nil ?_
   refine ge_then ?_
   refine g_cond rfl (fun hc2 => ?_) (fun hc2 => ?_)
   ·
    replace hc2 := hs_ hc2
    have hc32 : x = 32 := u8_of (by have h9 := hc2; exact Int.ofNat.inj h9)
    refine g_seq ?_
    refine g_region ?_
    refine gl_v rfl (o_move rfl) ?_
    refine gl_v rfl (o_move rfl) ?_
    refine gl_v rfl (o_move rfl) ?_
    refine gl_v rfl (o_move rfl) ?_
    refine gl_v rfl (o_strSub rfl rfl rfl hat.1 (by omega)) ?_
    first | refine gl_n rfl (o_buildS1 rfl rfl rfl) ?_ | refine gl_n rfl (o_buildS1A rfl rfl rfl rfl) ?_ | refine gl_n rfl (o_buildS rfl rfl rfl rfl) ?_
    rintro _ _ ⟨b27, rfl, rfl⟩
    refine gl_n rfl (o_append (sz := 1) (news := [S ((s.take i).drop f)]) rfl rfl pA rfl rfl rfl (by omega) (by unfold maxLen; omega)) ?_
    rintro _ _ ⟨a28, c28, rfl, rfl⟩
    rw [show acc.length + 1 = (acc ++ [(s.take i).drop f]).length by simp, show wsC acc ++ [S ((s.take i).drop f)] = wsC (acc ++ [(s.take i).drop f]) by simp]
    refine gl_v rfl (o_assign rfl) ?_
    refine gl_nil ?_
    refine ge_then ?_
    refine g_region ?_
    refine gl_v rfl (o_move rfl) ?_
    refine gl_v rfl (o_addR ((i + 1 : Nat) : Int) (by rw [wr_i64 (by omega)]; omega) rfl rfl) ?_
    refine gl_v rfl (o_assign rfl) ?_
    refine gl_nil ?_
    refine ge_block ?_
    refine ge_then ?_
    refine g_region ?_
    refine gl_v rfl (o_move rfl) ?_
    refine gl_v rfl (o_addR ((i + 1 : Nat) : Int) (by rw [wr_i64 (by omega)]; omega) rfl rfl) ?_
    refine gl_v rfl (o_assign rfl) ?_
    refine gl_nil ?_
    refine ge_round (i + 1, i + 1, acc ++ [(s.take i).drop f], a28, c28) ⟨atW_cut hat (by rw [hx, hc32]), by show _ ≤ i + 1; simp; omega, by show i + 1 ≤ s.length + 1; omega⟩ (by show s.length + 1 - (i + 1) < s.length + 1 - i; omega) (Keep.cons rfl (Keep.cons rfl (Keep.cons rfl (Keep.cons rfl (Keep.nil))))) (tO)
   ·
    replace hc2 := hs_ hc2
    have hc32 : ¬ x = 32 := fun e => by rw [e] at hc2; exact hc2 rfl
    refine g_skip ?_
    refine ge_block ?_
    refine ge_then ?_
    refine g_region ?_
    refine gl_v rfl (o_move rfl) ?_
    refine gl_v rfl (o_addR ((i + 1 : Nat) : Int) (by rw [wr_i64 (by omega)]; omega) rfl rfl) ?_
    refine gl_v rfl (o_assign rfl) ?_
    refine gl_nil ?_
    refine ge_round (i + 1, f, acc, a, c) ⟨atW_go hat hx hc32, by show _ ≤ i + 1; simp; omega, by show i + 1 ≤ s.length + 1; omega⟩ (by show s.length + 1 - (i + 1) < s.length + 1 - i; omega) (Keep.cons rfl (Keep.cons rfl (Keep.cons rfl (Keep.cons rfl (Keep.nil))))) (tO)
  ·
   have hie : i = s.length := by omega
   refine g_region ?_
   refine gl_v rfl (o_move rfl) ?_
   refine gl_v rfl (o_move rfl) ?_
   refine gl_v rfl (o_lens rfl) ?_
   refine gl_v rfl (o_is (c := true) (by exact decide_eq_true (by omega)) (o_eql rfl rfl)) ?_
   refine gl_v rfl (o_move rfl) ?_
   refine gl_gF rfl rfl rfl rfl ?_
   refine gl_gF rfl rfl rfl rfl ?_
   refine gl_gF rfl rfl rfl rfl ?_
   refine gl_gF rfl rfl rfl rfl ?_
   refine gl_v rfl (o_pickT rfl rfl rfl) ?_
   refine gl_nil ?_
   refine ge_then ?_
   refine g_cond_true rfl ?_
   refine g_seq ?_
   refine g_region ?_
   refine gl_v rfl (o_move rfl) ?_
   refine gl_v rfl (o_move rfl) ?_
   refine gl_v rfl (o_move rfl) ?_
   refine gl_v rfl (o_move rfl) ?_
   refine gl_v rfl (o_strSub rfl rfl rfl hat.1 (by omega)) ?_
   first | refine gl_n rfl (o_buildS1 rfl rfl rfl) ?_ | refine gl_n rfl (o_buildS1A rfl rfl rfl rfl) ?_ | refine gl_n rfl (o_buildS rfl rfl rfl rfl) ?_
   rintro _ _ ⟨b27, rfl, rfl⟩
   refine gl_n rfl (o_append (sz := 1) (news := [S ((s.take i).drop f)]) rfl rfl pA rfl rfl rfl (by omega) (by unfold maxLen; omega)) ?_
   rintro _ _ ⟨a28, c28, rfl, rfl⟩
   rw [show acc.length + 1 = (acc ++ [(s.take i).drop f]).length by simp, show wsC acc ++ [S ((s.take i).drop f)] = wsC (acc ++ [(s.take i).drop f]) by simp]
   refine gl_v rfl (o_assign rfl) ?_
   refine gl_nil ?_
   refine ge_then ?_
   refine g_region ?_
   refine gl_v rfl (o_move rfl) ?_
   refine gl_v rfl (o_addR ((i + 1 : Nat) : Int) (by rw [wr_i64 (by omega)]; omega) rfl rfl) ?_
   refine gl_v rfl (o_assign rfl) ?_
   refine gl_nil ?_
   refine ge_block ?_
   refine ge_then ?_
   refine g_region ?_
   refine gl_v rfl (o_move rfl) ?_
   refine gl_v rfl (o_addR ((i + 1 : Nat) : Int) (by rw [wr_i64 (by omega)]; omega) rfl rfl) ?_
   refine gl_v rfl (o_assign rfl) ?_
   refine gl_nil ?_
   refine ge_round (i + 1, i + 1, acc ++ [(s.take i).drop f], a28, c28) ⟨by show atW 32 s (i + 1) (i + 1) (acc ++ [(s.take i).drop f]); rw [hie]; exact atW_end (hie ▸ hat), by show _ ≤ i + 1; simp; omega, by show i + 1 ≤ s.length + 1; omega⟩ (by show s.length + 1 - (i + 1) < s.length + 1 - i; omega) (Keep.cons rfl (Keep.cons rfl (Keep.cons rfl (Keep.cons rfl (Keep.nil))))) (tO)
 ·
  replace hc1 := hs_ hc1
  have ho := atW_out hat (by omega)
  refine g_exit ?_
  refine ge_then_exit ?_
  refine ge_then_exit ?_
  refine ge_block_exit ?_
  refine ge_then ?_
  refine g_seq ?_
  refine g_region ?_
  refine gl_v rfl (o_move rfl) ?_
  refine gl_v rfl (o_assign rfl) ?_
  refine gl_nil ?_
  refine ge_then ?_
  refine g_ret ?_
  refine ret1 (.inl rfl) rfl rfl [own (.slice a (splitB 32 s).length c) 9 1 (splitB 32 s).length (wsC (splitB 32 s))] (⟨a, c, by rw [ho], rfl⟩) (by rw [ho]; exact (tO))

set_option maxRecDepth 8000 in
set_option maxHeartbeats 1000000 in
theorem rLines_spec (s : By) (hl : s.length ≤ 4000000000) : FnS Tryd.prog 47 [S s] [] (fun u Bs => ∃ a c, u = .slice a (splitB 10 s).length c ∧ Bs = [own (.slice a (splitB 10 s).length c) 9 1 (splitB 10 s).length (wsC (splitB 10 s))]) := by
 refine fn_body Tryd.func47 rfl rfl rfl ?_
 intro W0 R
 simp only [List.zipIdx_cons, List.zipIdx_nil, List.map_cons, List.map_nil, Nat.zero_add, Nat.reduceAdd, List.cons_append, List.nil_append]
 refine g_seq ?_
 refine g_region ?_
 refine gl_v rfl (o_assign rfl) ?_
 refine gl_nil ?_
 refine ge_then ?_
 refine g_seq ?_
 refine g_region ?_
 refine gl_v rfl (o_assign rfl) ?_
 refine gl_nil ?_
 refine ge_then ?_
 refine g_seq ?_
 refine g_region ?_
 refine gl_v rfl (o_assign rfl) ?_
 refine gl_nil ?_
 refine ge_then ?_
 refine g_seq ?_
 refine g_seq ?_
 refine g_region ?_
 refine gl_v rfl (o_assign rfl) ?_
 refine gl_nil ?_
 refine ge_then ?_
 refine g_block ?_
 refine g_loop (ι := Nat × Nat × List By × Option Addr × Nat) (fun x => atW 10 s x.2.1 x.1 x.2.2.1 ∧ x.2.2.1.length ≤ x.1 ∧ x.1 ≤ s.length + 1) (fun x => [(5, I64 x.1), (4, I64 x.2.1), (3, .slice x.2.2.2.1 x.2.2.1.length x.2.2.2.2), (0, S s)]) (fun x => own (.slice x.2.2.2.1 (x.2.2.1).length x.2.2.2.2) 9 1 (x.2.2.1).length (wsC (x.2.2.1)) :: R) (fun x => s.length + 1 - x.1) (0, 0, [], none, 0) (⟨atW_0 _ _, Nat.le_refl _, Nat.zero_le _⟩) (Keep.cons rfl (Keep.cons rfl (Keep.cons rfl (Keep.cons rfl (Keep.nil))))) (fun h s => own_nil0 h s) ?_
 rintro ⟨i, f, acc, a, c⟩ ⟨hat, hacc, hi⟩
 replace hat : atW 10 s f i acc := hat
 replace hacc : acc.length ≤ i := hacc
 replace hi : i ≤ s.length + 1 := hi
 dsimp only
 have hf1 := hat.1
 refine g_seq ?_
 refine g_seq ?_
 refine g_region ?_
 refine gl_v rfl (o_move rfl) ?_
 refine gl_v rfl (o_move rfl) ?_
 refine gl_v rfl (o_lens rfl) ?_
 refine gl_v rfl (o_leq rfl rfl) ?_
 refine gl_nil ?_
 refine ge_then ?_
 refine g_cond rfl (fun hc1 => ?_) (fun hc1 => ?_)
 ·
  replace hc1 := hs_ hc1
  refine g_skip ?_
  refine ge_then ?_
  refine g_seq ?_
  refine g_block ?_
  refine g_seq ?_
  rcases Nat.lt_or_ge i s.length with hlt | hge
  ·
   obtain ⟨x, hx⟩ : ∃ x, s[i]? = some x := ⟨_, List.getElem?_eq_getElem hlt⟩
   refine g_region ?_
   refine gl_v rfl (o_move rfl) ?_
   refine gl_v rfl (o_move rfl) ?_
   refine gl_v rfl (o_lens rfl) ?_
   refine gl_v rfl (o_is (c := false) (by exact decide_eq_false (by omega)) (o_eql rfl rfl)) ?_
   refine gl_v rfl (o_move rfl) ?_
   refine gl_gT rfl rfl rfl ?_
   refine gl_v rfl (o_move rfl) ?_
   refine gl_gT rfl rfl rfl ?_
   refine gl_v rfl (o_move rfl) ?_
   refine gl_gT rfl rfl rfl ?_
   refine gl_v rfl (o_index_string (i := i) rfl rfl hx) ?_
   refine gl_gT rfl rfl rfl ?_
   refine gl_v rfl (o_eql rfl rfl) ?_
   refine gl_v rfl (o_pickF rfl rfl rfl) ?_
   refine gl_nil ?_
   refine ge_then ?_
   refine g_cond rfl (fun hc2 => ?_) (fun hc2 => ?_)
   ·
    replace hc2 := hs_ hc2
    have hc32 : x = 10 := u8_of (by have h9 := hc2; exact Int.ofNat.inj h9)
    refine g_seq ?_
    refine g_region ?_
    refine gl_v rfl (o_move rfl) ?_
    refine gl_v rfl (o_move rfl) ?_
    refine gl_v rfl (o_move rfl) ?_
    refine gl_v rfl (o_move rfl) ?_
    refine gl_v rfl (o_strSub rfl rfl rfl hat.1 (by omega)) ?_
    first | refine gl_n rfl (o_buildS1 rfl rfl rfl) ?_ | refine gl_n rfl (o_buildS1A rfl rfl rfl rfl) ?_ | refine gl_n rfl (o_buildS rfl rfl rfl rfl) ?_
    rintro _ _ ⟨b27, rfl, rfl⟩
    refine gl_n rfl (o_append (sz := 1) (news := [S ((s.take i).drop f)]) rfl rfl pA rfl rfl rfl (by omega) (by unfold maxLen; omega)) ?_
    rintro _ _ ⟨a28, c28, rfl, rfl⟩
    rw [show acc.length + 1 = (acc ++ [(s.take i).drop f]).length by simp, show wsC acc ++ [S ((s.take i).drop f)] = wsC (acc ++ [(s.take i).drop f]) by simp]
    refine gl_v rfl (o_assign rfl) ?_
    refine gl_nil ?_
    refine ge_then ?_
    refine g_region ?_
    refine gl_v rfl (o_move rfl) ?_
    refine gl_v rfl (o_addR ((i + 1 : Nat) : Int) (by rw [wr_i64 (by omega)]; omega) rfl rfl) ?_
    refine gl_v rfl (o_assign rfl) ?_
    refine gl_nil ?_
    refine ge_block ?_
    refine ge_then ?_
    refine g_region ?_
    refine gl_v rfl (o_move rfl) ?_
    refine gl_v rfl (o_addR ((i + 1 : Nat) : Int) (by rw [wr_i64 (by omega)]; omega) rfl rfl) ?_
    refine gl_v rfl (o_assign rfl) ?_
    refine gl_nil ?_
    refine ge_round (i + 1, i + 1, acc ++ [(s.take i).drop f], a28, c28) ⟨atW_cut hat (by rw [hx, hc32]), by show _ ≤ i + 1; simp; omega, by show i + 1 ≤ s.length + 1; omega⟩ (by show s.length + 1 - (i + 1) < s.length + 1 - i; omega) (Keep.cons rfl (Keep.cons rfl (Keep.cons rfl (Keep.cons rfl (Keep.nil))))) (tO)
   ·
    replace hc2 := hs_ hc2
    have hc32 : ¬ x = 10 := fun e => by rw [e] at hc2; exact hc2 rfl
    refine g_skip ?_
    refine ge_block ?_
    refine ge_then ?_
    refine g_region ?_
    refine gl_v rfl (o_move rfl) ?_
    refine gl_v rfl (o_addR ((i + 1 : Nat) : Int) (by rw [wr_i64 (by omega)]; omega) rfl rfl) ?_
    refine gl_v rfl (o_assign rfl) ?_
    refine gl_nil ?_
    refine ge_round (i + 1, f, acc, a, c) ⟨atW_go hat hx hc32, by show _ ≤ i + 1; simp; omega, by show i + 1 ≤ s.length + 1; omega⟩ (by show s.length + 1 - (i + 1) < s.length + 1 - i; omega) (Keep.cons rfl (Keep.cons rfl (Keep.cons rfl (Keep.cons rfl (Keep.nil))))) (tO)
  ·
   have hie : i = s.length := by omega
   refine g_region ?_
   refine gl_v rfl (o_move rfl) ?_
   refine gl_v rfl (o_move rfl) ?_
   refine gl_v rfl (o_lens rfl) ?_
   refine gl_v rfl (o_is (c := true) (by exact decide_eq_true (by omega)) (o_eql rfl rfl)) ?_
   refine gl_v rfl (o_move rfl) ?_
   refine gl_gF rfl rfl rfl rfl ?_
   refine gl_gF rfl rfl rfl rfl ?_
   refine gl_gF rfl rfl rfl rfl ?_
   refine gl_gF rfl rfl rfl rfl ?_
   refine gl_v rfl (o_pickT rfl rfl rfl) ?_
   refine gl_nil ?_
   refine ge_then ?_
   refine g_cond_true rfl ?_
   refine g_seq ?_
   refine g_region ?_
   refine gl_v rfl (o_move rfl) ?_
   refine gl_v rfl (o_move rfl) ?_
   refine gl_v rfl (o_move rfl) ?_
   refine gl_v rfl (o_move rfl) ?_
   refine gl_v rfl (o_strSub rfl rfl rfl hat.1 (by omega)) ?_
   first | refine gl_n rfl (o_buildS1 rfl rfl rfl) ?_ | refine gl_n rfl (o_buildS1A rfl rfl rfl rfl) ?_ | refine gl_n rfl (o_buildS rfl rfl rfl rfl) ?_
   rintro _ _ ⟨b27, rfl, rfl⟩
   refine gl_n rfl (o_append (sz := 1) (news := [S ((s.take i).drop f)]) rfl rfl pA rfl rfl rfl (by omega) (by unfold maxLen; omega)) ?_
   rintro _ _ ⟨a28, c28, rfl, rfl⟩
   rw [show acc.length + 1 = (acc ++ [(s.take i).drop f]).length by simp, show wsC acc ++ [S ((s.take i).drop f)] = wsC (acc ++ [(s.take i).drop f]) by simp]
   refine gl_v rfl (o_assign rfl) ?_
   refine gl_nil ?_
   refine ge_then ?_
   refine g_region ?_
   refine gl_v rfl (o_move rfl) ?_
   refine gl_v rfl (o_addR ((i + 1 : Nat) : Int) (by rw [wr_i64 (by omega)]; omega) rfl rfl) ?_
   refine gl_v rfl (o_assign rfl) ?_
   refine gl_nil ?_
   refine ge_block ?_
   refine ge_then ?_
   refine g_region ?_
   refine gl_v rfl (o_move rfl) ?_
   refine gl_v rfl (o_addR ((i + 1 : Nat) : Int) (by rw [wr_i64 (by omega)]; omega) rfl rfl) ?_
   refine gl_v rfl (o_assign rfl) ?_
   refine gl_nil ?_
   refine ge_round (i + 1, i + 1, acc ++ [(s.take i).drop f], a28, c28) ⟨by show atW 10 s (i + 1) (i + 1) (acc ++ [(s.take i).drop f]); rw [hie]; exact atW_end (hie ▸ hat), by show _ ≤ i + 1; simp; omega, by show i + 1 ≤ s.length + 1; omega⟩ (by show s.length + 1 - (i + 1) < s.length + 1 - i; omega) (Keep.cons rfl (Keep.cons rfl (Keep.cons rfl (Keep.cons rfl (Keep.nil))))) (tO)
 ·
  replace hc1 := hs_ hc1
  have ho := atW_out hat (by omega)
  refine g_exit ?_
  refine ge_then_exit ?_
  refine ge_then_exit ?_
  refine ge_block_exit ?_
  refine ge_then ?_
  refine g_seq ?_
  refine g_region ?_
  refine gl_v rfl (o_move rfl) ?_
  refine gl_v rfl (o_assign rfl) ?_
  refine gl_nil ?_
  refine ge_then ?_
  refine g_ret ?_
  refine ret1 (.inl rfl) rfl rfl [own (.slice a (splitB 10 s).length c) 9 1 (splitB 10 s).length (wsC (splitB 10 s))] (⟨a, c, by rw [ho], rfl⟩) (by rw [ho]; exact (tO))

set_option maxRecDepth 8000 in
set_option maxHeartbeats 1000000 in
theorem rForm_spec (k : Int) : FnS Tryd.prog 23 [I64 k] [] (fun u Bs => u = .tuple #[S (formE k).1, S (formE k).2] ∧ Bs = []) := by
 refine fn_body Tryd.func23 rfl rfl rfl ?_
 intro W0 R
 simp only [List.zipIdx_cons, List.zipIdx_nil, List.map_cons, List.map_nil, Nat.zero_add, Nat.reduceAdd, List.cons_append, List.nil_append]
 refine g_seq ?_
 refine g_region ?_
 refine gl_v rfl (o_assign rfl) ?_
 refine gl_v rfl (o_assign rfl) ?_
 refine gl_nil ?_
 refine ge_then ?_
 refine g_seq ?_
 refine g_seq ?_
 refine g_region ?_
 refine gl_v rfl (o_move rfl) ?_
 refine gl_nil ?_
 refine ge_then ?_
 refine g_block ?_
 refine g_seq ?_
 refine g_region ?_
 refine gl_v rfl (o_eql rfl rfl) ?_
 refine gl_v rfl (o_assign rfl) ?_
 refine gl_nil ?_
 refine ge_then ?_
 refine g_cond rfl (fun hc1 => ?_) (fun hc1 => ?_)
 ·
  replace hc1 := hs_ hc1
  refine g_seq ?_
  refine g_region ?_
  refine gl_v rfl (o_assign rfl) ?_
  refine gl_v rfl (o_assign rfl) ?_
  refine gl_nil ?_
  refine ge_then ?_
  refine g_ret ?_
  refine ge_block_ret ?_
  refine ge_then_ret ?_
  refine ret2 (.inl rfl) rfl rfl rfl _ (⟨by first | (rw [form_no (by omega)]; done) | (rw [form_no (by omega)]; rfl) | (rw [show k = 1 by omega]; rfl) | (rw [show k = 2 by omega]; rfl) | (rw [show k = 3 by omega]; rfl) | (rw [show k = 4 by omega]; rfl) | (rw [show k = 5 by omega]; rfl) | (rw [show k = 6 by omega]; rfl) | (rw [show k = 7 by omega]; rfl), rfl⟩) (tO)
 ·
  replace hc1 := hs_ hc1
  refine g_seq ?_
  refine g_region ?_
  refine gl_v rfl (o_eql rfl rfl) ?_
  refine gl_v rfl (o_assign rfl) ?_
  refine gl_nil ?_
  refine ge_then ?_
  refine g_cond rfl (fun hc2 => ?_) (fun hc2 => ?_)
  ·
   replace hc2 := hs_ hc2
   refine g_seq ?_
   refine g_region ?_
   refine gl_v rfl (o_assign rfl) ?_
   refine gl_v rfl (o_assign rfl) ?_
   refine gl_nil ?_
   refine ge_then ?_
   refine g_ret ?_
   refine ge_block_ret ?_
   refine ge_then_ret ?_
   refine ret2 (.inl rfl) rfl rfl rfl _ (⟨by first | (rw [form_no (by omega)]; done) | (rw [form_no (by omega)]; rfl) | (rw [show k = 1 by omega]; rfl) | (rw [show k = 2 by omega]; rfl) | (rw [show k = 3 by omega]; rfl) | (rw [show k = 4 by omega]; rfl) | (rw [show k = 5 by omega]; rfl) | (rw [show k = 6 by omega]; rfl) | (rw [show k = 7 by omega]; rfl), rfl⟩) (tO)
  ·
   replace hc2 := hs_ hc2
   refine g_seq ?_
   refine g_region ?_
   refine gl_v rfl (o_eql rfl rfl) ?_
   refine gl_v rfl (o_assign rfl) ?_
   refine gl_nil ?_
   refine ge_then ?_
   refine g_cond rfl (fun hc3 => ?_) (fun hc3 => ?_)
   ·
    replace hc3 := hs_ hc3
    refine g_seq ?_
    refine g_region ?_
    refine gl_v rfl (o_assign rfl) ?_
    refine gl_v rfl (o_assign rfl) ?_
    refine gl_nil ?_
    refine ge_then ?_
    refine g_ret ?_
    refine ge_block_ret ?_
    refine ge_then_ret ?_
    refine ret2 (.inl rfl) rfl rfl rfl _ (⟨by first | (rw [form_no (by omega)]; done) | (rw [form_no (by omega)]; rfl) | (rw [show k = 1 by omega]; rfl) | (rw [show k = 2 by omega]; rfl) | (rw [show k = 3 by omega]; rfl) | (rw [show k = 4 by omega]; rfl) | (rw [show k = 5 by omega]; rfl) | (rw [show k = 6 by omega]; rfl) | (rw [show k = 7 by omega]; rfl), rfl⟩) (tO)
   ·
    replace hc3 := hs_ hc3
    refine g_seq ?_
    refine g_region ?_
    refine gl_v rfl (o_eql rfl rfl) ?_
    refine gl_v rfl (o_assign rfl) ?_
    refine gl_nil ?_
    refine ge_then ?_
    refine g_cond rfl (fun hc4 => ?_) (fun hc4 => ?_)
    ·
     replace hc4 := hs_ hc4
     refine g_seq ?_
     refine g_region ?_
     refine gl_v rfl (o_assign rfl) ?_
     refine gl_v rfl (o_assign rfl) ?_
     refine gl_nil ?_
     refine ge_then ?_
     refine g_ret ?_
     refine ge_block_ret ?_
     refine ge_then_ret ?_
     refine ret2 (.inl rfl) rfl rfl rfl _ (⟨by first | (rw [form_no (by omega)]; done) | (rw [form_no (by omega)]; rfl) | (rw [show k = 1 by omega]; rfl) | (rw [show k = 2 by omega]; rfl) | (rw [show k = 3 by omega]; rfl) | (rw [show k = 4 by omega]; rfl) | (rw [show k = 5 by omega]; rfl) | (rw [show k = 6 by omega]; rfl) | (rw [show k = 7 by omega]; rfl), rfl⟩) (tO)
    ·
     replace hc4 := hs_ hc4
     refine g_seq ?_
     refine g_region ?_
     refine gl_v rfl (o_eql rfl rfl) ?_
     refine gl_v rfl (o_assign rfl) ?_
     refine gl_nil ?_
     refine ge_then ?_
     refine g_cond rfl (fun hc5 => ?_) (fun hc5 => ?_)
     ·
      replace hc5 := hs_ hc5
      refine g_seq ?_
      refine g_region ?_
      refine gl_v rfl (o_assign rfl) ?_
      refine gl_v rfl (o_assign rfl) ?_
      refine gl_nil ?_
      refine ge_then ?_
      refine g_ret ?_
      refine ge_block_ret ?_
      refine ge_then_ret ?_
      refine ret2 (.inl rfl) rfl rfl rfl _ (⟨by first | (rw [form_no (by omega)]; done) | (rw [form_no (by omega)]; rfl) | (rw [show k = 1 by omega]; rfl) | (rw [show k = 2 by omega]; rfl) | (rw [show k = 3 by omega]; rfl) | (rw [show k = 4 by omega]; rfl) | (rw [show k = 5 by omega]; rfl) | (rw [show k = 6 by omega]; rfl) | (rw [show k = 7 by omega]; rfl), rfl⟩) (tO)
     ·
      replace hc5 := hs_ hc5
      refine g_seq ?_
      refine g_region ?_
      refine gl_v rfl (o_eql rfl rfl) ?_
      refine gl_v rfl (o_assign rfl) ?_
      refine gl_nil ?_
      refine ge_then ?_
      refine g_cond rfl (fun hc6 => ?_) (fun hc6 => ?_)
      ·
       replace hc6 := hs_ hc6
       refine g_seq ?_
       refine g_region ?_
       refine gl_v rfl (o_assign rfl) ?_
       refine gl_v rfl (o_assign rfl) ?_
       refine gl_nil ?_
       refine ge_then ?_
       refine g_ret ?_
       refine ge_block_ret ?_
       refine ge_then_ret ?_
       refine ret2 (.inl rfl) rfl rfl rfl _ (⟨by first | (rw [form_no (by omega)]; done) | (rw [form_no (by omega)]; rfl) | (rw [show k = 1 by omega]; rfl) | (rw [show k = 2 by omega]; rfl) | (rw [show k = 3 by omega]; rfl) | (rw [show k = 4 by omega]; rfl) | (rw [show k = 5 by omega]; rfl) | (rw [show k = 6 by omega]; rfl) | (rw [show k = 7 by omega]; rfl), rfl⟩) (tO)
      ·
       replace hc6 := hs_ hc6
       refine g_seq ?_
       refine g_region ?_
       refine gl_v rfl (o_eql rfl rfl) ?_
       refine gl_v rfl (o_assign rfl) ?_
       refine gl_nil ?_
       refine ge_then ?_
       refine g_cond rfl (fun hc7 => ?_) (fun hc7 => ?_)
       ·
        replace hc7 := hs_ hc7
        refine g_seq ?_
        refine g_region ?_
        refine gl_v rfl (o_assign rfl) ?_
        refine gl_v rfl (o_assign rfl) ?_
        refine gl_nil ?_
        refine ge_then ?_
        refine g_ret ?_
        refine ge_block_ret ?_
        refine ge_then_ret ?_
        refine ret2 (.inl rfl) rfl rfl rfl _ (⟨by first | (rw [form_no (by omega)]; done) | (rw [form_no (by omega)]; rfl) | (rw [show k = 1 by omega]; rfl) | (rw [show k = 2 by omega]; rfl) | (rw [show k = 3 by omega]; rfl) | (rw [show k = 4 by omega]; rfl) | (rw [show k = 5 by omega]; rfl) | (rw [show k = 6 by omega]; rfl) | (rw [show k = 7 by omega]; rfl), rfl⟩) (tO)
       ·
        replace hc7 := hs_ hc7
        refine g_skip ?_
        refine ge_block ?_
        refine ge_then ?_
        refine g_seq ?_
        refine g_region ?_
        refine gl_v rfl (o_assign rfl) ?_
        refine gl_v rfl (o_assign rfl) ?_
        refine gl_nil ?_
        refine ge_then ?_
        refine g_ret ?_
        refine ret2 (.inl rfl) rfl rfl rfl _ (⟨by first | (rw [form_no (by omega)]; done) | (rw [form_no (by omega)]; rfl) | (rw [show k = 1 by omega]; rfl) | (rw [show k = 2 by omega]; rfl) | (rw [show k = 3 by omega]; rfl) | (rw [show k = 4 by omega]; rfl) | (rw [show k = 5 by omega]; rfl) | (rw [show k = 6 by omega]; rfl) | (rw [show k = 7 by omega]; rfl), rfl⟩) (tO)

end Go.Proofs.YtcglaiacohkaeaaDoor.L
