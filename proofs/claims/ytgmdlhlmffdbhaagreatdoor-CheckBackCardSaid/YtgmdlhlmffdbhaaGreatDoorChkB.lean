/-
  Check: what its rules answer. Own work, printed in part by a program of its own.
-/
import Derived.Test.YtgmdlhlmffdbhaaGreatDoorChk
set_option linter.unusedSimpArgs false
set_option linter.unusedVariables false
set_option linter.unusedSectionVars false
namespace Go.Proofs.YtgmdlhlmffdbhaaGreatDoor.C
open Go.Proofs.YtgmdlhlmffdbhaaGreatDoor.L Go.L Go.L.Lx Go.L.Pg
attribute [local irreducible] isName
theorem rd_head {A : Assn} {r : List Assn} {v : Value} {n : Nat} {xs : List Value} (hA : ∀ h, A h → SlR h v n xs) : ∀ h, Sat (A :: r) h → SlR h v n xs := fun _ ⟨_, _, _, e, a, _⟩ => e ▸ (hA _ a).more
theorem effF_at {KK : List Knd} {SS : List Sta} {EE : List Eff} {j : Nat} {e : Eff} (h : EE[j]? = some e) : effF KK SS EE j = if effE KK SS e (decide ((j : Int) = (EE.length : Int) - 1)) = 0 then none else some (effE KK SS e (decide ((j : Int) = (EE.length : Int) - 1)), []) := by unfold effF; rw [h]
theorem rowF_at {KK : List Knd} {SS : List Sta} {RR : List Row} {j : Nat} {r : Row} (h : RR[j]? = some r) : rowF KK SS RR j = withinP (rowE RR j r) r.effs.length (effF KK SS r.effs) := by unfold rowF; rw [h]
theorem staF_at {KK : List Knd} {SS : List Sta} {j : Nat} {s : Sta} (h : SS[j]? = some s) : staF KK SS j = withinP (staE SS j s) s.rows.length (rowF KK SS s.rows) := by unfold staF; rw [h]
theorem kndF_at {KK : List Knd} {j : Nat} {k : Knd} (h : KK[j]? = some k) : kndF KK j = withinP (kndE KK j k) k.states.length (staF KK k.states) := by unfold kndF; rw [h]
theorem within_len {own : Int} {n m : Nat} {R : Nat → Flt} (hl : ∀ i c ws, R i = some (c, ws) → ws.length ≤ m) : ∀ c ws, withinP own n R = some (c, ws) → ws.length ≤ m + 1 := fun c ws h => by
  rcases within_some h with rfl | ⟨j, us, _, h2, rfl⟩
  · simp
  · have := hl _ _ _ h2; simp; omega
theorem effF_len {KK : List Knd} {SS : List Sta} {EE : List Eff} (j : Nat) (c : Int) (ws : List Int) (h : effF KK SS EE j = some (c, ws)) : ws.length ≤ 0 := by
  unfold effF at h
  split at h
  · split at h
    · cases h
    · simp only [Option.some.injEq, Prod.mk.injEq] at h; rw [← h.2]; simp
  · cases h
theorem rowF_len {KK : List Knd} {SS : List Sta} {RR : List Row} (j : Nat) (c : Int) (ws : List Int) (h : rowF KK SS RR j = some (c, ws)) : ws.length ≤ 1 := by
  unfold rowF at h
  split at h
  · exact within_len (fun i c ws => effF_len i c ws) _ _ h
  · cases h
theorem staF_len {KK : List Knd} {SS : List Sta} (j : Nat) (c : Int) (ws : List Int) (h : staF KK SS j = some (c, ws)) : ws.length ≤ 2 := by
  unfold staF at h
  split at h
  · exact within_len (fun i c ws => rowF_len i c ws) _ _ h
  · cases h
theorem kndF_len {KK : List Knd} (j : Nat) (c : Int) (ws : List Int) (h : kndF KK j = some (c, ws)) : ws.length ≤ 3 := by
  unfold kndF at h
  split at h
  · exact within_len (fun i c ws => staF_len i c ws) _ _ h
  · cases h
theorem twc_succ {cs : List Cas} {x : Nat} {c : Cas} (h : cs[x]? = some c) : twc cs (x + 1) = (twc cs x || (cs.take x).any fun d => decide (d.reason = c.reason)) := by simp [twc, h]

theorem take_no {L : List By} {i : Nat} {t x : By} (h : L[i]? = some t) (h1 : x ∉ L.take i) (h2 : ¬ x = t) : x ∉ L.take (i + 1) := by
  obtain ⟨hj, e⟩ := List.getElem?_eq_some_iff.1 h
  rw [List.take_succ_eq_append_getElem hj, e, List.mem_append]
  rintro (h | h)
  · exact h1 h
  · exact h2 (List.mem_singleton.1 h)

set_option maxRecDepth 8000 in
set_option maxHeartbeats 1000000 in
theorem Idx_str (L : List By) (b n : Nat) (x : By) (hn : L.length = n) (hn2 : n ≤ 100) : FnS Tryz.prog 127 [.slice (some ⟨b, 0, none⟩) n n, S x] [cel b 9 (L.map S)] (fun u Bs => ∃ r : Int, (0 ≤ r ↔ x ∈ L) ∧ u = I64 r ∧ Bs = [cel b 9 (L.map S)]) := by
 refine fn_body Tryz.func127 rfl rfl rfl ?_
 intro W0 R
 simp only [List.zipIdx_cons, List.zipIdx_nil, List.map_cons, List.map_nil, Nat.zero_add, Nat.reduceAdd, List.cons_append, List.nil_append]
 subst hn
 refine g_seq ?_
 refine g_region ?_
 refine gl_v rfl (o_assign rfl) ?_
 refine gl_nil ?_
 refine ge_then ?_
 refine g_seq ?_
 refine g_seq ?_
 refine g_region ?_
 refine gl_v rfl (o_move rfl) ?_
 refine gl_v rfl (o_lenL rfl) ?_
 refine gl_v rfl (o_move rfl) ?_
 refine gl_nil ?_
 refine ge_then ?_
 refine g_block ?_
 refine g_loop (ι := Nat) (fun i => i ≤ L.length ∧ x ∉ L.take i) (fun i => [(8, I64 i), (7, I64 L.length), (0, .slice (some ⟨b, 0, none⟩) L.length L.length), (1, S x)]) (fun _ => cel b 9 (L.map S) :: R) (fun i => L.length - i) 0 (⟨Nat.zero_le _, by simp⟩) (Keep.cons rfl (Keep.cons rfl (Keep.cons rfl (Keep.cons rfl (Keep.nil))))) (tO) ?_
 rintro i ⟨hi, hq⟩
 replace hi : i ≤ L.length := hi
 replace hq : x ∉ L.take i := hq
 refine g_seq ?_
 refine g_region ?_
 refine gl_v rfl (o_lss rfl rfl) ?_
 refine gl_nil ?_
 refine ge_then ?_
 refine g_seq ?_
 refine g_cond rfl (fun hc1 => ?_) (fun hc1 => ?_)
 ·
  replace hc1 := hs_ hc1
  obtain ⟨t, ht⟩ : ∃ t, L[i]? = some t := ⟨_, List.getElem?_eq_getElem (show i < L.length by omega)⟩
  refine g_skip ?_
  refine ge_then ?_
  refine g_seq ?_
  refine g_block ?_
  refine g_seq ?_
  refine g_region ?_
  refine gl_v rfl (o_move rfl) ?_
  refine gl_v rfl (o_assign rfl) ?_
  refine gl_nil ?_
  refine ge_then ?_
  refine g_seq ?_
  refine g_region ?_
  refine gl_v rfl (o_move rfl) ?_
  refine gl_v rfl (o_move rfl) ?_
  refine gl_v rfl (o_move rfl) ?_
  refine gl_v rfl (o_idxS rfl rfl (show i < L.length by omega)) ?_
  refine gl_v rfl (o_loadS rfl (show (L.map S)[i * 1]? = some (S t) by rw [Nat.mul_one, List.getElem?_map, ht]; rfl)) ?_
  refine gl_v rfl (o_eqls rfl rfl) ?_
  refine gl_nil ?_
  refine ge_then ?_
  refine g_cond rfl (fun hc2 => ?_) (fun hc2 => ?_)
  ·
   replace hc2 := hs_ hc2
   refine g_seq ?_
   refine g_region ?_
   refine gl_v rfl (o_move rfl) ?_
   refine gl_v rfl (o_assign rfl) ?_
   refine gl_nil ?_
   refine ge_then ?_
   refine g_ret ?_
   refine ge_block_ret ?_
   refine ge_then_ret ?_
   refine ge_then_ret ?_
   refine ge_block_ret ?_
   refine ge_then_ret ?_
   refine ret1 (.inl rfl) rfl rfl _ (⟨_, ⟨fun _ => hc2 ▸ List.mem_of_getElem? ht, fun _ => by omega⟩, rfl, rfl⟩) (tO)
  ·
   replace hc2 := hs_ hc2
   refine g_skip ?_
   refine ge_block ?_
   refine ge_then ?_
   refine g_region ?_
   refine gl_v rfl (o_addR (((i + 1 : Nat) : Int)) (by rw [wr_i64 (by omega)]; omega) rfl rfl) ?_
   refine gl_v rfl (o_move rfl) ?_
   refine gl_nil ?_
   refine ge_round (i + 1) ⟨show i + 1 ≤ L.length by omega, take_no ht hq hc2⟩ (show L.length - (i + 1) < L.length - i by omega) (Keep.cons rfl (Keep.cons rfl (Keep.cons rfl (Keep.cons rfl (Keep.nil))))) (tO)
 ·
  replace hc1 := hs_ hc1
  obtain rfl : i = L.length := by omega
  rw [List.take_length] at hq
  refine g_exit ?_
  refine ge_then_exit ?_
  refine ge_then_exit ?_
  refine ge_block_exit ?_
  refine ge_then ?_
  refine g_seq ?_
  refine g_region ?_
  refine gl_v rfl (o_assign rfl) ?_
  refine gl_nil ?_
  refine ge_then ?_
  refine g_ret ?_
  refine ret1 (.inl rfl) rfl rfl _ (⟨-1, ⟨fun h => absurd h (by decide), fun h => absurd h hq⟩, rfl, rfl⟩) (tO)

set_option maxRecDepth 8000 in
set_option maxHeartbeats 1000000 in
theorem Con_str (L : List By) (b n : Nat) (x : By) (hn : L.length = n) (hn2 : n ≤ 100) : FnS Tryz.prog 113 [.slice (some ⟨b, 0, none⟩) n n, S x] [cel b 9 (L.map S)] (fun u Bs => u = .bool (decide (x ∈ L)) ∧ Bs = [cel b 9 (L.map S)]) := by
 refine fn_body Tryz.func113 rfl rfl rfl ?_
 intro W0 R
 simp only [List.zipIdx_cons, List.zipIdx_nil, List.map_cons, List.map_nil, Nat.zero_add, Nat.reduceAdd, List.cons_append, List.nil_append]
 refine g_seq ?_
 refine g_region ?_
 refine gl_v rfl (o_assign rfl) ?_
 refine gl_nil ?_
 refine ge_then ?_
 refine g_seq ?_
 refine g_region ?_
 refine gl_v rfl (o_move rfl) ?_
 refine gl_v rfl (o_move rfl) ?_
 refine gl_c rfl (o_call rfl (Idx_str L b n x hn hn2) pA) ?_
 rintro _ R ⟨_, ⟨r, hr, rfl, rfl⟩, rfl⟩
 try simp only [List.cons_append, List.nil_append]
 refine gl_v rfl (o_geq rfl rfl) ?_
 refine gl_v rfl (o_assign rfl) ?_
 refine gl_nil ?_
 refine ge_then ?_
 refine g_ret ?_
 refine ret1 (.inl rfl) rfl rfl _ (⟨bool_v (by rw [Bool.eq_iff_iff, decide_eq_true_eq, decide_eq_true_eq]; exact hr), rfl⟩) (tO)

set_option maxRecDepth 8000 in
set_option maxHeartbeats 1000000 in
theorem named_spec (l : By) (hl : l.length ≤ 9223372036854775807) : FnS Tryz.prog 38 [S l] [] (fun u Bs => u = .bool (named l) ∧ Bs = []) := by
 refine fn_body Tryz.func38 rfl rfl rfl ?_
 intro W0 R
 simp only [List.zipIdx_cons, List.zipIdx_nil, List.map_cons, List.map_nil, Nat.zero_add, Nat.reduceAdd, List.cons_append, List.nil_append]
 refine g_seq ?_
 refine g_region ?_
 refine gl_v rfl (o_assign rfl) ?_
 refine gl_nil ?_
 refine ge_then ?_
 refine g_seq ?_
 refine g_region ?_
 refine gl_v rfl (o_move rfl) ?_
 refine gl_v rfl (o_eqls rfl rfl) ?_
 refine gl_v rfl (o_move rfl) ?_
 refine gl_g rfl rfl (fun hc1 => ?_) (fun hc1 => ?_) rfl
 ·
  have hc1' := hc1
  replace hc1' := hs_ hc1'
  refine gl_v rfl (o_move rfl) ?_
  refine gl_gT rfl rfl hc1 ?_
  refine gl_c rfl (o_call rfl (Name_spec (l) (by omega)) pA) ?_
  rintro _ R ⟨_, ⟨rfl, rfl⟩, rfl⟩
  try simp only [List.cons_append, List.nil_append]
  refine gl_v rfl (o_pickF hc1 rfl rfl) ?_
  refine gl_v rfl (o_assign rfl) ?_
  refine gl_nil ?_
  refine ge_then ?_
  refine g_ret ?_
  refine ret1 (.inl rfl) rfl rfl _ (⟨bool_v (by unfold named; simp_all), rfl⟩) (tO)
 ·
  have hc1' := hc1
  replace hc1' := hs_ hc1'
  simp only [putO]
  refine gl_gF rfl rfl hc1 rfl ?_
  refine gl_v rfl (o_pickT hc1 rfl rfl) ?_
  refine gl_v rfl (o_assign rfl) ?_
  refine gl_nil ?_
  refine ge_then ?_
  refine g_ret ?_
  refine ret1 (.inl rfl) rfl rfl _ (⟨bool_v (by unfold named; simp_all), rfl⟩) (tO)

set_option maxRecDepth 8000 in
set_option maxHeartbeats 1000000 in
theorem kind1_spec (A : Assn) (c : Cas) (hc : ok63 c.reason.length) : FnS Tryz.prog 37 [.agg (casC c).toArray] [A] (fun u Bs => u = .bool (casB c) ∧ Bs = [A]) := by
 refine fn_body Tryz.func37 rfl rfl rfl ?_
 intro W0 R
 simp only [List.zipIdx_cons, List.zipIdx_nil, List.map_cons, List.map_nil, Nat.zero_add, Nat.reduceAdd, List.cons_append, List.nil_append]
 unfold ok63 at hc
 refine g_seq ?_
 refine g_region ?_
 refine gl_n rfl (o_boxA rfl) ?_
 rintro _ _ ⟨b1, rfl, rfl⟩
 refine gl_v rfl (o_assign rfl) ?_
 refine gl_nil ?_
 refine ge_then ?_
 refine g_seq ?_
 refine g_region ?_
 first | refine gl_v rfl (o_fldS rfl) ?_ | refine gl_v rfl (o_fld rfl) ?_
 first | refine gl_v rfl (o_load rfl rfl) ?_ | refine gl_v rfl (o_loadS rfl rfl) ?_ | refine gl_v rfl (o_loadC rfl) ?_
 refine gl_c rfl (o_call rfl (named_spec c.reason (by omega)) pA) ?_
 rintro _ R ⟨_, ⟨rfl, rfl⟩, rfl⟩
 try simp only [List.cons_append, List.nil_append]
 refine gl_v rfl (o_not rfl) ?_
 refine gl_v rfl (o_move rfl) ?_
 refine gl_join (d := 16) 9 (.bool (casB c)) ?_ (fun jk16 => ?_)
 rotate_left
 ·
  refine gl_g rfl rfl (fun hc1 => ?_) (fun hc1 => ?_) rfl
  ·
   have hc1' := hc1
   replace hc1' := hs_ hc1'
   first | refine gl_v rfl (o_fldS rfl) ?_ | refine gl_v rfl (o_fld rfl) ?_
   refine gl_gT rfl rfl hc1 ?_
   first | refine gl_v rfl (o_load rfl rfl) ?_ | refine gl_v rfl (o_loadS rfl rfl) ?_ | refine gl_v rfl (o_loadC rfl) ?_
   refine gl_gT rfl rfl hc1 ?_
   refine gl_v rfl (o_lss rfl rfl) ?_
   refine gl_v rfl (o_pickF hc1 rfl rfl) ?_
   refine gl_v rfl (o_move rfl) ?_
   refine gl_g rfl rfl (fun hc2 => ?_) (fun hc2 => ?_) rfl
   ·
    have hc2' := hc2
    replace hc2' := hs_ hc2'
    first | refine gl_v rfl (o_fldS rfl) ?_ | refine gl_v rfl (o_fld rfl) ?_
    refine gl_gT rfl rfl hc2 ?_
    first | refine gl_v rfl (o_load rfl rfl) ?_ | refine gl_v rfl (o_loadS rfl rfl) ?_ | refine gl_v rfl (o_loadC rfl) ?_
    refine gl_gT rfl rfl hc2 ?_
    refine gl_v rfl (o_gtr rfl rfl) ?_
    refine gl_v rfl (o_pickF hc2 rfl rfl) ?_
    first | exact jk16 _ (KeepS.top (by repeat (first | exact KeepS.refl _ | refine KeepS.push ?_ rfl)) (jval (by first | rfl | (simp only [hc1, hc2, casB, Bool.not_true, Bool.not_false, Bool.false_and, Bool.true_and, Bool.true_or, Bool.false_or]; done) | (simp [hc1, hc2, casB]; done) | simp_all))) | exact gl_imp (tO) (jk16 _ (KeepS.top (by repeat (first | exact KeepS.refl _ | refine KeepS.push ?_ rfl)) (jval (by first | rfl | (simp only [hc1, hc2, casB, Bool.not_true, Bool.not_false, Bool.false_and, Bool.true_and, Bool.true_or, Bool.false_or]; done) | (simp [hc1, hc2, casB]; done) | simp_all))))
   ·
    have hc2' := hc2
    replace hc2' := hs_ hc2'
    simp only [putO]
    refine gl_gF rfl rfl hc2 rfl ?_
    refine gl_gF rfl rfl hc2 rfl ?_
    refine gl_v rfl (o_pickT hc2 rfl rfl) ?_
    first | exact jk16 _ (KeepS.top (by repeat (first | exact KeepS.refl _ | refine KeepS.push ?_ rfl)) (jval (by first | rfl | (simp only [hc1, hc2, casB, Bool.not_true, Bool.not_false, Bool.false_and, Bool.true_and, Bool.true_or, Bool.false_or]; done) | (simp [hc1, hc2, casB]; done) | simp_all))) | exact gl_imp (tO) (jk16 _ (KeepS.top (by repeat (first | exact KeepS.refl _ | refine KeepS.push ?_ rfl)) (jval (by first | rfl | (simp only [hc1, hc2, casB, Bool.not_true, Bool.not_false, Bool.false_and, Bool.true_and, Bool.true_or, Bool.false_or]; done) | (simp [hc1, hc2, casB]; done) | simp_all))))
  ·
   have hc1' := hc1
   replace hc1' := hs_ hc1'
   simp only [putO]
   refine gl_gF rfl rfl hc1 rfl ?_
   refine gl_gF rfl rfl hc1 rfl ?_
   refine gl_v rfl (o_pickT hc1 rfl rfl) ?_
   refine gl_v rfl (o_move rfl) ?_
   refine gl_gF rfl rfl rfl rfl ?_
   refine gl_gF rfl rfl rfl rfl ?_
   refine gl_gF rfl rfl rfl rfl ?_
   refine gl_v rfl (o_pickT rfl rfl rfl) ?_
   first | exact jk16 _ (KeepS.top (by repeat (first | exact KeepS.refl _ | refine KeepS.push ?_ rfl)) (jval (by first | rfl | (simp only [hc1, casB, Bool.not_true, Bool.not_false, Bool.false_and, Bool.true_and, Bool.true_or, Bool.false_or]; done) | (simp [hc1, casB]; done) | simp_all))) | exact gl_imp (tO) (jk16 _ (KeepS.top (by repeat (first | exact KeepS.refl _ | refine KeepS.push ?_ rfl)) (jval (by first | rfl | (simp only [hc1, casB, Bool.not_true, Bool.not_false, Bool.false_and, Bool.true_and, Bool.true_or, Bool.false_or]; done) | (simp [hc1, casB]; done) | simp_all))))
 refine gl_v rfl (o_assign rfl) ?_
 refine gl_nil ?_
 refine ge_then ?_
 refine g_ret ?_
 refine ret1 (.inl rfl) rfl rfl _ (⟨rfl, rfl⟩) (tO)

set_option maxRecDepth 8000 in
set_option maxHeartbeats 1000000 in
theorem kind2_spec (A : Assn) (b : Nat) (d : Cas) (c : Cas) : FnS Tryz.prog 39 [.agg (casC d).toArray, ptr b 0] [A, cel b 75 (casC c)] (fun u Bs => u = .bool (decide (d.reason = c.reason)) ∧ Bs = [A, cel b 75 (casC c)]) := by
 refine fn_body Tryz.func39 rfl rfl rfl ?_
 intro W0 R
 simp only [List.zipIdx_cons, List.zipIdx_nil, List.map_cons, List.map_nil, Nat.zero_add, Nat.reduceAdd, List.cons_append, List.nil_append]
 refine g_seq ?_
 refine g_region ?_
 refine gl_n rfl (o_boxA rfl) ?_
 rintro _ _ ⟨b2, rfl, rfl⟩
 refine gl_v rfl (o_assign rfl) ?_
 refine gl_nil ?_
 refine ge_then ?_
 refine g_seq ?_
 refine g_region ?_
 first | refine gl_v rfl (o_fldS rfl) ?_ | refine gl_v rfl (o_fld rfl) ?_
 first | refine gl_v rfl (o_load rfl rfl) ?_ | refine gl_v rfl (o_loadS rfl rfl) ?_ | refine gl_v rfl (o_loadC rfl) ?_
 first | refine gl_v rfl (o_fldS rfl) ?_ | refine gl_v rfl (o_fld rfl) ?_
 first | refine gl_v rfl (o_load rfl rfl) ?_ | refine gl_v rfl (o_loadS rfl rfl) ?_ | refine gl_v rfl (o_loadC rfl) ?_
 refine gl_v rfl (o_eqls rfl rfl) ?_
 refine gl_v rfl (o_assign rfl) ?_
 refine gl_nil ?_
 refine ge_then ?_
 refine g_ret ?_
 refine ret1 (.inl rfl) rfl rfl _ (⟨rfl, rfl⟩) (tO)

set_option maxRecDepth 8000 in
set_option maxHeartbeats 1000000 in
theorem kind3_spec (A : Assn) (b : Nat) (d : Knd) (c : Knd) : FnS Tryz.prog 42 [.agg (kndC d).toArray, ptr b 0] [A, cel b 57 (kndC c)] (fun u Bs => u = .bool (decide (d.name = c.name)) ∧ Bs = [A, cel b 57 (kndC c)]) := by
 refine fn_body Tryz.func42 rfl rfl rfl ?_
 intro W0 R
 simp only [List.zipIdx_cons, List.zipIdx_nil, List.map_cons, List.map_nil, Nat.zero_add, Nat.reduceAdd, List.cons_append, List.nil_append]
 refine g_seq ?_
 refine g_region ?_
 refine gl_n rfl (o_boxA rfl) ?_
 rintro _ _ ⟨b2, rfl, rfl⟩
 refine gl_v rfl (o_assign rfl) ?_
 refine gl_nil ?_
 refine ge_then ?_
 refine g_seq ?_
 refine g_region ?_
 first | refine gl_v rfl (o_fldS rfl) ?_ | refine gl_v rfl (o_fld rfl) ?_
 first | refine gl_v rfl (o_load rfl rfl) ?_ | refine gl_v rfl (o_loadS rfl rfl) ?_ | refine gl_v rfl (o_loadC rfl) ?_
 first | refine gl_v rfl (o_fldS rfl) ?_ | refine gl_v rfl (o_fld rfl) ?_
 first | refine gl_v rfl (o_load rfl rfl) ?_ | refine gl_v rfl (o_loadS rfl rfl) ?_ | refine gl_v rfl (o_loadC rfl) ?_
 refine gl_v rfl (o_eqls rfl rfl) ?_
 refine gl_v rfl (o_assign rfl) ?_
 refine gl_nil ?_
 refine ge_then ?_
 refine g_ret ?_
 refine ret1 (.inl rfl) rfl rfl _ (⟨rfl, rfl⟩) (tO)

set_option maxRecDepth 8000 in
set_option maxHeartbeats 1000000 in
theorem state1_spec (A : Assn) (b : Nat) (d : Sta) (c : Sta) : FnS Tryz.prog 73 [.agg (staC d).toArray, ptr b 0] [A, cel b 79 (staC c)] (fun u Bs => u = .bool (decide (d.name = c.name)) ∧ Bs = [A, cel b 79 (staC c)]) := by
 refine fn_body Tryz.func73 rfl rfl rfl ?_
 intro W0 R
 simp only [List.zipIdx_cons, List.zipIdx_nil, List.map_cons, List.map_nil, Nat.zero_add, Nat.reduceAdd, List.cons_append, List.nil_append]
 refine g_seq ?_
 refine g_region ?_
 refine gl_n rfl (o_boxA rfl) ?_
 rintro _ _ ⟨b2, rfl, rfl⟩
 refine gl_v rfl (o_assign rfl) ?_
 refine gl_nil ?_
 refine ge_then ?_
 refine g_seq ?_
 refine g_region ?_
 first | refine gl_v rfl (o_fldS rfl) ?_ | refine gl_v rfl (o_fld rfl) ?_
 first | refine gl_v rfl (o_load rfl rfl) ?_ | refine gl_v rfl (o_loadS rfl rfl) ?_ | refine gl_v rfl (o_loadC rfl) ?_
 first | refine gl_v rfl (o_fldS rfl) ?_ | refine gl_v rfl (o_fld rfl) ?_
 first | refine gl_v rfl (o_load rfl rfl) ?_ | refine gl_v rfl (o_loadS rfl rfl) ?_ | refine gl_v rfl (o_loadC rfl) ?_
 refine gl_v rfl (o_eqls rfl rfl) ?_
 refine gl_v rfl (o_assign rfl) ?_
 refine gl_nil ?_
 refine ge_then ?_
 refine g_ret ?_
 refine ret1 (.inl rfl) rfl rfl _ (⟨rfl, rfl⟩) (tO)

set_option maxRecDepth 8000 in
set_option maxHeartbeats 1000000 in
theorem effect1_spec (A : Assn) (b : Nat) (d : Knd) (c : Eff) : FnS Tryz.prog 111 [.agg (kndC d).toArray, ptr b 0] [A, cel b 38 (effC c)] (fun u Bs => u = .bool (decide (d.name = c.name)) ∧ Bs = [A, cel b 38 (effC c)]) := by
 refine fn_body Tryz.func111 rfl rfl rfl ?_
 intro W0 R
 simp only [List.zipIdx_cons, List.zipIdx_nil, List.map_cons, List.map_nil, Nat.zero_add, Nat.reduceAdd, List.cons_append, List.nil_append]
 refine g_seq ?_
 refine g_region ?_
 refine gl_n rfl (o_boxA rfl) ?_
 rintro _ _ ⟨b2, rfl, rfl⟩
 refine gl_v rfl (o_assign rfl) ?_
 refine gl_nil ?_
 refine ge_then ?_
 refine g_seq ?_
 refine g_region ?_
 first | refine gl_v rfl (o_fldS rfl) ?_ | refine gl_v rfl (o_fld rfl) ?_
 first | refine gl_v rfl (o_load rfl rfl) ?_ | refine gl_v rfl (o_loadS rfl rfl) ?_ | refine gl_v rfl (o_loadC rfl) ?_
 first | refine gl_v rfl (o_fldS rfl) ?_ | refine gl_v rfl (o_fld rfl) ?_
 first | refine gl_v rfl (o_load rfl rfl) ?_ | refine gl_v rfl (o_loadS rfl rfl) ?_ | refine gl_v rfl (o_loadC rfl) ?_
 refine gl_v rfl (o_eqls rfl rfl) ?_
 refine gl_v rfl (o_assign rfl) ?_
 refine gl_nil ?_
 refine ge_then ?_
 refine g_ret ?_
 refine ret1 (.inl rfl) rfl rfl _ (⟨rfl, rfl⟩) (tO)

set_option maxRecDepth 8000 in
set_option maxHeartbeats 1000000 in
theorem effect2_spec (A : Assn) (b : Nat) (d : Sta) (c : Eff) : FnS Tryz.prog 112 [.agg (staC d).toArray, ptr b 0] [A, cel b 38 (effC c)] (fun u Bs => u = .bool (decide (d.name = c.name)) ∧ Bs = [A, cel b 38 (effC c)]) := by
 refine fn_body Tryz.func112 rfl rfl rfl ?_
 intro W0 R
 simp only [List.zipIdx_cons, List.zipIdx_nil, List.map_cons, List.map_nil, Nat.zero_add, Nat.reduceAdd, List.cons_append, List.nil_append]
 refine g_seq ?_
 refine g_region ?_
 refine gl_n rfl (o_boxA rfl) ?_
 rintro _ _ ⟨b2, rfl, rfl⟩
 refine gl_v rfl (o_assign rfl) ?_
 refine gl_nil ?_
 refine ge_then ?_
 refine g_seq ?_
 refine g_region ?_
 first | refine gl_v rfl (o_fldS rfl) ?_ | refine gl_v rfl (o_fld rfl) ?_
 first | refine gl_v rfl (o_load rfl rfl) ?_ | refine gl_v rfl (o_loadS rfl rfl) ?_ | refine gl_v rfl (o_loadC rfl) ?_
 first | refine gl_v rfl (o_fldS rfl) ?_ | refine gl_v rfl (o_fld rfl) ?_
 first | refine gl_v rfl (o_load rfl rfl) ?_ | refine gl_v rfl (o_loadS rfl rfl) ?_ | refine gl_v rfl (o_loadC rfl) ?_
 refine gl_v rfl (o_eqls rfl rfl) ?_
 refine gl_v rfl (o_assign rfl) ?_
 refine gl_nil ?_
 refine ge_then ?_
 refine g_ret ?_
 refine ret1 (.inl rfl) rfl rfl _ (⟨rfl, rfl⟩) (tO)

set_option maxRecDepth 8000 in
set_option maxHeartbeats 1000000 in
theorem row1_spec (A : Assn) (e : Eff) : FnS Tryz.prog 93 [.agg (effC e).toArray] [A] (fun u Bs => u = .bool (decide (e.do' = 4)) ∧ Bs = [A]) := by
 refine fn_body Tryz.func93 rfl rfl rfl ?_
 intro W0 R
 simp only [List.zipIdx_cons, List.zipIdx_nil, List.map_cons, List.map_nil, Nat.zero_add, Nat.reduceAdd, List.cons_append, List.nil_append]
 refine g_seq ?_
 refine g_region ?_
 refine gl_n rfl (o_boxA rfl) ?_
 rintro _ _ ⟨b1, rfl, rfl⟩
 refine gl_v rfl (o_assign rfl) ?_
 refine gl_nil ?_
 refine ge_then ?_
 refine g_seq ?_
 refine g_region ?_
 first | refine gl_v rfl (o_fldS rfl) ?_ | refine gl_v rfl (o_fld rfl) ?_
 first | refine gl_v rfl (o_load rfl rfl) ?_ | refine gl_v rfl (o_loadS rfl rfl) ?_ | refine gl_v rfl (o_loadC rfl) ?_
 refine gl_v rfl (o_eql rfl rfl) ?_
 refine gl_v rfl (o_assign rfl) ?_
 refine gl_nil ?_
 refine ge_then ?_
 refine g_ret ?_
 refine ret1 (.inl rfl) rfl rfl _ (⟨rfl, rfl⟩) (tO)

set_option maxRecDepth 8000 in
set_option maxHeartbeats 1000000 in
theorem row2_spec (A : Assn) (b : Nat) (d c : Row) : FnS Tryz.prog 95 [.agg (rowC d).toArray, ptr b 0] [A, cel b 83 (rowC c)] (fun u Bs => u = .bool (sameR d c) ∧ Bs = [A, cel b 83 (rowC c)]) := by
 refine fn_body Tryz.func95 rfl rfl rfl ?_
 intro W0 R
 simp only [List.zipIdx_cons, List.zipIdx_nil, List.map_cons, List.map_nil, Nat.zero_add, Nat.reduceAdd, List.cons_append, List.nil_append]
 refine g_seq ?_
 refine g_region ?_
 refine gl_n rfl (o_boxA rfl) ?_
 rintro _ _ ⟨b2, rfl, rfl⟩
 refine gl_v rfl (o_assign rfl) ?_
 refine gl_nil ?_
 refine ge_then ?_
 refine g_seq ?_
 refine g_region ?_
 first | refine gl_v rfl (o_fldS rfl) ?_ | refine gl_v rfl (o_fld rfl) ?_
 first | refine gl_v rfl (o_load rfl rfl) ?_ | refine gl_v rfl (o_loadS rfl rfl) ?_ | refine gl_v rfl (o_loadC rfl) ?_
 first | refine gl_v rfl (o_fldS rfl) ?_ | refine gl_v rfl (o_fld rfl) ?_
 first | refine gl_v rfl (o_load rfl rfl) ?_ | refine gl_v rfl (o_loadS rfl rfl) ?_ | refine gl_v rfl (o_loadC rfl) ?_
 refine gl_v rfl (o_eqls rfl rfl) ?_
 refine gl_v rfl (o_move rfl) ?_
 refine gl_join (d := 22) 13 (.bool (sameR d c)) ?_ (fun jk22 => ?_)
 rotate_left
 ·
  refine gl_g rfl rfl (fun hc1 => ?_) (fun hc1 => ?_) rfl
  ·
   have hc1' := hc1
   replace hc1' := hs_ hc1'
   first | refine gl_v rfl (o_fldS rfl) ?_ | refine gl_v rfl (o_fld rfl) ?_
   refine gl_gT rfl rfl hc1 ?_
   first | refine gl_v rfl (o_load rfl rfl) ?_ | refine gl_v rfl (o_loadS rfl rfl) ?_ | refine gl_v rfl (o_loadC rfl) ?_
   refine gl_gT rfl rfl hc1 ?_
   first | refine gl_v rfl (o_fldS rfl) ?_ | refine gl_v rfl (o_fld rfl) ?_
   refine gl_gT rfl rfl hc1 ?_
   first | refine gl_v rfl (o_load rfl rfl) ?_ | refine gl_v rfl (o_loadS rfl rfl) ?_ | refine gl_v rfl (o_loadC rfl) ?_
   refine gl_gT rfl rfl hc1 ?_
   refine gl_v rfl (o_eqlb rfl rfl) ?_
   refine gl_v rfl (o_pickT hc1 rfl rfl) ?_
   refine gl_v rfl (o_move rfl) ?_
   refine gl_g rfl rfl (fun hc2 => ?_) (fun hc2 => ?_) rfl
   ·
    have hc2' := hc2
    replace hc2' := hs_ hc2'
    first | refine gl_v rfl (o_fldS rfl) ?_ | refine gl_v rfl (o_fld rfl) ?_
    refine gl_gT rfl rfl hc2 ?_
    first | refine gl_v rfl (o_load rfl rfl) ?_ | refine gl_v rfl (o_loadS rfl rfl) ?_ | refine gl_v rfl (o_loadC rfl) ?_
    refine gl_gT rfl rfl hc2 ?_
    first | refine gl_v rfl (o_fldS rfl) ?_ | refine gl_v rfl (o_fld rfl) ?_
    refine gl_gT rfl rfl hc2 ?_
    first | refine gl_v rfl (o_load rfl rfl) ?_ | refine gl_v rfl (o_loadS rfl rfl) ?_ | refine gl_v rfl (o_loadC rfl) ?_
    refine gl_gT rfl rfl hc2 ?_
    refine gl_v rfl (o_eql rfl rfl) ?_
    refine gl_v rfl (o_pickT hc2 rfl rfl) ?_
    first | exact jk22 _ (KeepS.top (by repeat (first | exact KeepS.refl _ | refine KeepS.push ?_ rfl)) (jval (by first | rfl | (simp only [hc1, hc2, sameR, Bool.not_true, Bool.not_false, Bool.false_and, Bool.true_and, Bool.true_or, Bool.false_or]; done) | (simp [hc1, hc2, sameR]; done) | simp_all))) | exact gl_imp (tO) (jk22 _ (KeepS.top (by repeat (first | exact KeepS.refl _ | refine KeepS.push ?_ rfl)) (jval (by first | rfl | (simp only [hc1, hc2, sameR, Bool.not_true, Bool.not_false, Bool.false_and, Bool.true_and, Bool.true_or, Bool.false_or]; done) | (simp [hc1, hc2, sameR]; done) | simp_all))))
   ·
    have hc2' := hc2
    replace hc2' := hs_ hc2'
    simp only [putO]
    refine gl_gF rfl rfl hc2 rfl ?_
    refine gl_gF rfl rfl hc2 rfl ?_
    refine gl_gF rfl rfl hc2 rfl ?_
    refine gl_gF rfl rfl hc2 rfl ?_
    refine gl_v rfl (o_pickF hc2 rfl rfl) ?_
    first | exact jk22 _ (KeepS.top (by repeat (first | exact KeepS.refl _ | refine KeepS.push ?_ rfl)) (jval (by first | rfl | (simp only [hc1, hc2, sameR, Bool.not_true, Bool.not_false, Bool.false_and, Bool.true_and, Bool.true_or, Bool.false_or]; done) | (simp [hc1, hc2, sameR]; done) | simp_all))) | exact gl_imp (tO) (jk22 _ (KeepS.top (by repeat (first | exact KeepS.refl _ | refine KeepS.push ?_ rfl)) (jval (by first | rfl | (simp only [hc1, hc2, sameR, Bool.not_true, Bool.not_false, Bool.false_and, Bool.true_and, Bool.true_or, Bool.false_or]; done) | (simp [hc1, hc2, sameR]; done) | simp_all))))
  ·
   have hc1' := hc1
   replace hc1' := hs_ hc1'
   simp only [putO]
   refine gl_gF rfl rfl hc1 rfl ?_
   refine gl_gF rfl rfl hc1 rfl ?_
   refine gl_gF rfl rfl hc1 rfl ?_
   refine gl_gF rfl rfl hc1 rfl ?_
   refine gl_v rfl (o_pickF hc1 rfl rfl) ?_
   refine gl_v rfl (o_move rfl) ?_
   refine gl_gF rfl rfl rfl rfl ?_
   refine gl_gF rfl rfl rfl rfl ?_
   refine gl_gF rfl rfl rfl rfl ?_
   refine gl_gF rfl rfl rfl rfl ?_
   refine gl_gF rfl rfl rfl rfl ?_
   refine gl_v rfl (o_pickF rfl rfl rfl) ?_
   first | exact jk22 _ (KeepS.top (by repeat (first | exact KeepS.refl _ | refine KeepS.push ?_ rfl)) (jval (by first | rfl | (simp only [hc1, sameR, Bool.not_true, Bool.not_false, Bool.false_and, Bool.true_and, Bool.true_or, Bool.false_or]; done) | (simp [hc1, sameR]; done) | simp_all))) | exact gl_imp (tO) (jk22 _ (KeepS.top (by repeat (first | exact KeepS.refl _ | refine KeepS.push ?_ rfl)) (jval (by first | rfl | (simp only [hc1, sameR, Bool.not_true, Bool.not_false, Bool.false_and, Bool.true_and, Bool.true_or, Bool.false_or]; done) | (simp [hc1, sameR]; done) | simp_all))))
 refine gl_v rfl (o_assign rfl) ?_
 refine gl_nil ?_
 refine ge_then ?_
 refine g_ret ?_
 refine ret1 (.inl rfl) rfl rfl _ (⟨rfl, rfl⟩) (tO)

theorem ret5 {P : Program} {W0 : World} {n : Nat} {sl : Slots} {As R : List Assn} {fn : Func} {post : Value → List Assn → Prop} {e : Exit} (he : e = .ret ∨ e = .normal) {t1 t2 t3 t4 t5 : Nat} {v1 v2 v3 v4 v5 : Value} (hf : fn.results = #[.tmp t1, .tmp t2, .tmp t3, .tmp t4, .tmp t5]) (h1 : slk sl t1 = some v1) (h2 : slk sl t2 = some v2) (h3 : slk sl t3 = some v3) (h4 : slk sl t4 = some v4) (h5 : slk sl t5 = some v5)
    (Bs : List Assn) (hp : post (.tuple #[v1, v2, v3, v4, v5]) Bs) (hA : ∀ h, Sat As h → Sat (Bs ++ R) h) : GE W0 n sl As (FQ P W0 fn post R e) :=
  fq_ret he (fun a w hs _ => by simp [results, hf, hs.val _ _ h1, hs.val _ _ h2, hs.val _ _ h3, hs.val _ _ h4, hs.val _ _ h5]) Bs hp hA
theorem tup5 {a b c d e a' b' c' d' e' : Bool} (h1 : a = a') (h2 : b = b') (h3 : c = c') (h4 : d = d') (h5 : e = e') : Value.tuple #[.bool a, .bool b, .bool c, .bool d, .bool e] = .tuple #[.bool a', .bool b', .bool c', .bool d', .bool e'] := by subst h1 h2 h3 h4 h5; rfl

set_option maxRecDepth 8000 in
set_option maxHeartbeats 1000000 in
theorem parts_spec (d : Int) : FnS Tryz.prog 110 [I64 d] [] (fun u Bs => u = .tuple #[.bool (pR d), .bool (pS d), .bool (pN d), .bool (pV d), .bool (pD d)] ∧ Bs = []) := by
 refine fn_body Tryz.func110 rfl rfl rfl ?_
 intro W0 R
 simp only [List.zipIdx_cons, List.zipIdx_nil, List.map_cons, List.map_nil, Nat.zero_add, Nat.reduceAdd, List.cons_append, List.nil_append]
 refine g_seq ?_
 refine g_region ?_
 refine gl_v rfl (o_assign rfl) ?_
 refine gl_v rfl (o_assign rfl) ?_
 refine gl_v rfl (o_assign rfl) ?_
 refine gl_v rfl (o_assign rfl) ?_
 refine gl_v rfl (o_assign rfl) ?_
 refine gl_nil ?_
 refine ge_then ?_
 refine g_seq ?_
 refine g_seq ?_
 refine g_region ?_
 refine gl_v rfl (o_move rfl) ?_
 refine gl_nil ?_
 refine ge_then ?_
 refine g_block ?_
 refine g_seq ?_
 refine g_block ?_
 refine g_seq ?_
 refine g_block ?_
 refine g_seq ?_
 refine g_block ?_
 refine g_seq ?_
 refine g_block ?_
 refine g_seq ?_
 refine g_block ?_
 refine g_seq ?_
 refine g_block ?_
 refine g_seq ?_
 refine g_seq ?_
 refine g_seq ?_
 refine g_region ?_
 refine gl_v rfl (o_eql rfl rfl) ?_
 refine gl_v rfl (o_assign rfl) ?_
 refine gl_nil ?_
 refine ge_then ?_
 refine g_cond rfl (fun hc1 => ?_) (fun hc1 => ?_)
 ·
  replace hc1 := hs_ hc1
  refine g_exit ?_
  refine ge_then_exit ?_
  refine ge_then_exit ?_
  refine ge_block_exit ?_
  refine ge_then ?_
  refine g_seq ?_
  refine g_region ?_
  refine gl_v rfl (o_assign rfl) ?_
  refine gl_v rfl (o_assign rfl) ?_
  refine gl_v rfl (o_assign rfl) ?_
  refine gl_nil ?_
  refine ge_then ?_
  refine g_exit ?_
  refine ge_block_pass rfl ?_
  refine ge_then_exit ?_
  refine ge_block_pass rfl ?_
  refine ge_then_exit ?_
  refine ge_block_pass rfl ?_
  refine ge_then_exit ?_
  refine ge_block_pass rfl ?_
  refine ge_then_exit ?_
  refine ge_block_pass rfl ?_
  refine ge_then_exit ?_
  refine ge_block_exit ?_
  refine ge_then ?_
  refine g_ret ?_
  refine ret5 (.inl rfl) rfl rfl rfl rfl rfl rfl [] ⟨by (try simp only [decide_eq_true_eq, decide_eq_false_iff_not] at *); first | (subst_vars; rfl) | exact tup5 (by simp [pR]; omega) (by simp [pS]; omega) (by simp [pN]; omega) (by simp [pV]; omega) (by simp [pD]; omega), rfl⟩ (tO)
 ·
  replace hc1 := hs_ hc1
  refine g_skip ?_
  refine ge_then ?_
  refine g_seq ?_
  refine g_seq ?_
  refine g_region ?_
  refine gl_v rfl (o_eql rfl rfl) ?_
  refine gl_v rfl (o_assign rfl) ?_
  refine gl_nil ?_
  refine ge_then ?_
  refine g_cond rfl (fun hc2 => ?_) (fun hc2 => ?_)
  ·
   replace hc2 := hs_ hc2
   refine g_exit ?_
   refine ge_then_exit ?_
   refine ge_then_exit ?_
   refine ge_block_pass rfl ?_
   refine ge_then_exit ?_
   refine ge_block_exit ?_
   refine ge_then ?_
   refine g_region ?_
   refine gl_v rfl (o_assign rfl) ?_
   refine gl_v rfl (o_assign rfl) ?_
   refine gl_nil ?_
   refine ge_block ?_
   refine ge_then ?_
   refine g_seq ?_
   refine g_region ?_
   refine gl_v rfl (o_assign rfl) ?_
   refine gl_nil ?_
   refine ge_then ?_
   refine g_exit ?_
   refine ge_block_pass rfl ?_
   refine ge_then_exit ?_
   refine ge_block_pass rfl ?_
   refine ge_then_exit ?_
   refine ge_block_pass rfl ?_
   refine ge_then_exit ?_
   refine ge_block_exit ?_
   refine ge_then ?_
   refine g_ret ?_
   refine ret5 (.inl rfl) rfl rfl rfl rfl rfl rfl [] ⟨by (try simp only [decide_eq_true_eq, decide_eq_false_iff_not] at *); first | (subst_vars; rfl) | exact tup5 (by simp [pR]; omega) (by simp [pS]; omega) (by simp [pN]; omega) (by simp [pV]; omega) (by simp [pD]; omega), rfl⟩ (tO)
  ·
   replace hc2 := hs_ hc2
   refine g_skip ?_
   refine ge_then ?_
   refine g_seq ?_
   refine g_seq ?_
   refine g_seq ?_
   refine g_region ?_
   refine gl_v rfl (o_eql rfl rfl) ?_
   refine gl_v rfl (o_assign rfl) ?_
   refine gl_nil ?_
   refine ge_then ?_
   refine g_cond rfl (fun hc3 => ?_) (fun hc3 => ?_)
   ·
    replace hc3 := hs_ hc3
    refine g_skip ?_
    refine ge_then ?_
    refine g_cond rfl (fun hc4 => ?_) (fun hc4 => ?_)
    ·
     replace hc4 := hs_ hc4
     refine g_exit ?_
     refine ge_then_exit ?_
     refine ge_then_exit ?_
     refine ge_block_pass rfl ?_
     refine ge_then_exit ?_
     refine ge_block_pass rfl ?_
     refine ge_then_exit ?_
     refine ge_block_exit ?_
     refine ge_then ?_
     refine g_seq ?_
     refine g_region ?_
     refine gl_v rfl (o_assign rfl) ?_
     refine gl_nil ?_
     refine ge_then ?_
     refine g_exit ?_
     refine ge_block_pass rfl ?_
     refine ge_then_exit ?_
     refine ge_block_pass rfl ?_
     refine ge_then_exit ?_
     refine ge_block_pass rfl ?_
     refine ge_then_exit ?_
     refine ge_block_exit ?_
     refine ge_then ?_
     refine g_ret ?_
     refine ret5 (.inl rfl) rfl rfl rfl rfl rfl rfl [] ⟨by (try simp only [decide_eq_true_eq, decide_eq_false_iff_not] at *); first | (subst_vars; rfl) | exact tup5 (by simp [pR]; omega) (by simp [pS]; omega) (by simp [pN]; omega) (by simp [pV]; omega) (by simp [pD]; omega), rfl⟩ (tO)
    ·
     replace hc4 := hs_ hc4
     refine g_skip ?_
     refine ge_then ?_
     refine g_seq ?_
     refine g_seq ?_
     refine g_region ?_
     refine gl_v rfl (o_eql rfl rfl) ?_
     refine gl_v rfl (o_assign rfl) ?_
     refine gl_nil ?_
     refine ge_then ?_
     refine g_cond rfl (fun hc5 => ?_) (fun hc5 => ?_)
     ·
      replace hc5 := hs_ hc5
      refine g_exit ?_
      refine ge_then_exit ?_
      refine ge_then_exit ?_
      refine ge_block_pass rfl ?_
      refine ge_then_exit ?_
      refine ge_block_pass rfl ?_
      refine ge_then_exit ?_
      refine ge_block_pass rfl ?_
      refine ge_then_exit ?_
      refine ge_block_exit ?_
      refine ge_then ?_
      refine g_region ?_
      refine gl_v rfl (o_assign rfl) ?_
      refine gl_nil ?_
      refine ge_block ?_
      refine ge_then ?_
      refine g_seq ?_
      refine g_region ?_
      refine gl_v rfl (o_assign rfl) ?_
      refine gl_nil ?_
      refine ge_then ?_
      refine g_exit ?_
      refine ge_block_pass rfl ?_
      refine ge_then_exit ?_
      refine ge_block_exit ?_
      refine ge_then ?_
      refine g_ret ?_
      refine ret5 (.inl rfl) rfl rfl rfl rfl rfl rfl [] ⟨by (try simp only [decide_eq_true_eq, decide_eq_false_iff_not] at *); first | (subst_vars; rfl) | exact tup5 (by simp [pR]; omega) (by simp [pS]; omega) (by simp [pN]; omega) (by simp [pV]; omega) (by simp [pD]; omega), rfl⟩ (tO)
     ·
      replace hc5 := hs_ hc5
      refine g_skip ?_
      refine ge_then ?_
      refine g_seq ?_
      refine g_seq ?_
      refine g_region ?_
      refine gl_v rfl (o_eql rfl rfl) ?_
      refine gl_v rfl (o_assign rfl) ?_
      refine gl_nil ?_
      refine ge_then ?_
      refine g_cond rfl (fun hc6 => ?_) (fun hc6 => ?_)
      ·
       replace hc6 := hs_ hc6
       refine g_exit ?_
       refine ge_then_exit ?_
       refine ge_then_exit ?_
       refine ge_block_pass rfl ?_
       refine ge_then_exit ?_
       refine ge_block_pass rfl ?_
       refine ge_then_exit ?_
       refine ge_block_pass rfl ?_
       refine ge_then_exit ?_
       refine ge_block_pass rfl ?_
       refine ge_then_exit ?_
       refine ge_block_exit ?_
       refine ge_then ?_
       refine g_seq ?_
       refine g_region ?_
       refine gl_v rfl (o_assign rfl) ?_
       refine gl_nil ?_
       refine ge_then ?_
       refine g_exit ?_
       refine ge_block_pass rfl ?_
       refine ge_then_exit ?_
       refine ge_block_exit ?_
       refine ge_then ?_
       refine g_ret ?_
       refine ret5 (.inl rfl) rfl rfl rfl rfl rfl rfl [] ⟨by (try simp only [decide_eq_true_eq, decide_eq_false_iff_not] at *); first | (subst_vars; rfl) | exact tup5 (by simp [pR]; omega) (by simp [pS]; omega) (by simp [pN]; omega) (by simp [pV]; omega) (by simp [pD]; omega), rfl⟩ (tO)
      ·
       replace hc6 := hs_ hc6
       refine g_skip ?_
       refine ge_then ?_
       refine g_seq ?_
       refine g_seq ?_
       refine g_region ?_
       refine gl_v rfl (o_eql rfl rfl) ?_
       refine gl_v rfl (o_assign rfl) ?_
       refine gl_nil ?_
       refine ge_then ?_
       refine g_cond rfl (fun hc7 => ?_) (fun hc7 => ?_)
       ·
        replace hc7 := hs_ hc7
        refine g_skip ?_
        refine ge_then ?_
        refine g_cond rfl (fun hc8 => ?_) (fun hc8 => ?_)
        ·
         replace hc8 := hs_ hc8
         refine g_exit ?_
         refine ge_then_exit ?_
         refine ge_block_pass rfl ?_
         refine ge_then_exit ?_
         refine ge_block_pass rfl ?_
         refine ge_then_exit ?_
         refine ge_block_pass rfl ?_
         refine ge_then_exit ?_
         refine ge_block_pass rfl ?_
         refine ge_then_exit ?_
         refine ge_block_pass rfl ?_
         refine ge_then_exit ?_
         refine ge_block_exit ?_
         refine ge_then ?_
         refine g_seq ?_
         refine g_region ?_
         refine gl_v rfl (o_assign rfl) ?_
         refine gl_nil ?_
         refine ge_then ?_
         refine g_exit ?_
         refine ge_block_exit ?_
         refine ge_then ?_
         refine g_ret ?_
         refine ret5 (.inl rfl) rfl rfl rfl rfl rfl rfl [] ⟨by (try simp only [decide_eq_true_eq, decide_eq_false_iff_not] at *); first | (subst_vars; rfl) | exact tup5 (by simp [pR]; omega) (by simp [pS]; omega) (by simp [pN]; omega) (by simp [pV]; omega) (by simp [pD]; omega), rfl⟩ (tO)
        ·
         replace hc8 := hs_ hc8
         refine g_skip ?_
         refine ge_then ?_
         refine g_exit ?_
         refine ge_block_pass rfl ?_
         refine ge_then_exit ?_
         refine ge_block_pass rfl ?_
         refine ge_then_exit ?_
         refine ge_block_pass rfl ?_
         refine ge_then_exit ?_
         refine ge_block_pass rfl ?_
         refine ge_then_exit ?_
         refine ge_block_pass rfl ?_
         refine ge_then_exit ?_
         refine ge_block_pass rfl ?_
         refine ge_then_exit ?_
         refine ge_block_exit ?_
         refine ge_then ?_
         refine g_ret ?_
         refine ret5 (.inl rfl) rfl rfl rfl rfl rfl rfl [] ⟨by (try simp only [decide_eq_true_eq, decide_eq_false_iff_not] at *); first | (subst_vars; rfl) | exact tup5 (by simp [pR]; omega) (by simp [pS]; omega) (by simp [pN]; omega) (by simp [pV]; omega) (by simp [pD]; omega), rfl⟩ (tO)
       ·
        replace hc7 := hs_ hc7
        refine g_seq ?_
        refine g_region ?_
        refine gl_v rfl (o_eql rfl rfl) ?_
        refine gl_v rfl (o_assign rfl) ?_
        refine gl_nil ?_
        refine ge_then ?_
        refine g_cond rfl (fun hc9 => ?_) (fun hc9 => ?_)
        ·
         replace hc9 := hs_ hc9
         refine g_skip ?_
         refine ge_then ?_
         refine g_cond rfl (fun hc10 => ?_) (fun hc10 => ?_)
         ·
          replace hc10 := hs_ hc10
          refine g_exit ?_
          refine ge_then_exit ?_
          refine ge_block_pass rfl ?_
          refine ge_then_exit ?_
          refine ge_block_pass rfl ?_
          refine ge_then_exit ?_
          refine ge_block_pass rfl ?_
          refine ge_then_exit ?_
          refine ge_block_pass rfl ?_
          refine ge_then_exit ?_
          refine ge_block_pass rfl ?_
          refine ge_then_exit ?_
          refine ge_block_exit ?_
          refine ge_then ?_
          refine g_seq ?_
          refine g_region ?_
          refine gl_v rfl (o_assign rfl) ?_
          refine gl_nil ?_
          refine ge_then ?_
          refine g_exit ?_
          refine ge_block_exit ?_
          refine ge_then ?_
          refine g_ret ?_
          refine ret5 (.inl rfl) rfl rfl rfl rfl rfl rfl [] ⟨by (try simp only [decide_eq_true_eq, decide_eq_false_iff_not] at *); first | (subst_vars; rfl) | exact tup5 (by simp [pR]; omega) (by simp [pS]; omega) (by simp [pN]; omega) (by simp [pV]; omega) (by simp [pD]; omega), rfl⟩ (tO)
         ·
          replace hc10 := hs_ hc10
          refine g_skip ?_
          refine ge_then ?_
          refine g_exit ?_
          refine ge_block_pass rfl ?_
          refine ge_then_exit ?_
          refine ge_block_pass rfl ?_
          refine ge_then_exit ?_
          refine ge_block_pass rfl ?_
          refine ge_then_exit ?_
          refine ge_block_pass rfl ?_
          refine ge_then_exit ?_
          refine ge_block_pass rfl ?_
          refine ge_then_exit ?_
          refine ge_block_pass rfl ?_
          refine ge_then_exit ?_
          refine ge_block_exit ?_
          refine ge_then ?_
          refine g_ret ?_
          refine ret5 (.inl rfl) rfl rfl rfl rfl rfl rfl [] ⟨by (try simp only [decide_eq_true_eq, decide_eq_false_iff_not] at *); first | (subst_vars; rfl) | exact tup5 (by simp [pR]; omega) (by simp [pS]; omega) (by simp [pN]; omega) (by simp [pV]; omega) (by simp [pD]; omega), rfl⟩ (tO)
        ·
         replace hc9 := hs_ hc9
         refine g_region ?_
         refine gl_v rfl (o_eql rfl rfl) ?_
         refine gl_v rfl (o_assign rfl) ?_
         refine gl_nil ?_
         refine ge_then ?_
         refine g_cond rfl (fun hc11 => ?_) (fun hc11 => ?_)
         ·
          replace hc11 := hs_ hc11
          refine g_exit ?_
          refine ge_then_exit ?_
          refine ge_block_pass rfl ?_
          refine ge_then_exit ?_
          refine ge_block_pass rfl ?_
          refine ge_then_exit ?_
          refine ge_block_pass rfl ?_
          refine ge_then_exit ?_
          refine ge_block_pass rfl ?_
          refine ge_then_exit ?_
          refine ge_block_pass rfl ?_
          refine ge_then_exit ?_
          refine ge_block_exit ?_
          refine ge_then ?_
          refine g_seq ?_
          refine g_region ?_
          refine gl_v rfl (o_assign rfl) ?_
          refine gl_nil ?_
          refine ge_then ?_
          refine g_exit ?_
          refine ge_block_exit ?_
          refine ge_then ?_
          refine g_ret ?_
          refine ret5 (.inl rfl) rfl rfl rfl rfl rfl rfl [] ⟨by (try simp only [decide_eq_true_eq, decide_eq_false_iff_not] at *); first | (subst_vars; rfl) | exact tup5 (by simp [pR]; omega) (by simp [pS]; omega) (by simp [pN]; omega) (by simp [pV]; omega) (by simp [pD]; omega), rfl⟩ (tO)
         ·
          replace hc11 := hs_ hc11
          refine g_skip ?_
          refine ge_then ?_
          refine g_exit ?_
          refine ge_block_pass rfl ?_
          refine ge_then_exit ?_
          refine ge_block_pass rfl ?_
          refine ge_then_exit ?_
          refine ge_block_pass rfl ?_
          refine ge_then_exit ?_
          refine ge_block_pass rfl ?_
          refine ge_then_exit ?_
          refine ge_block_pass rfl ?_
          refine ge_then_exit ?_
          refine ge_block_pass rfl ?_
          refine ge_then_exit ?_
          refine ge_block_exit ?_
          refine ge_then ?_
          refine g_ret ?_
          refine ret5 (.inl rfl) rfl rfl rfl rfl rfl rfl [] ⟨by (try simp only [decide_eq_true_eq, decide_eq_false_iff_not] at *); first | (subst_vars; rfl) | exact tup5 (by simp [pR]; omega) (by simp [pS]; omega) (by simp [pN]; omega) (by simp [pV]; omega) (by simp [pD]; omega), rfl⟩ (tO)
   ·
    replace hc3 := hs_ hc3
    refine g_region ?_
    refine gl_v rfl (o_eql rfl rfl) ?_
    refine gl_v rfl (o_assign rfl) ?_
    refine gl_nil ?_
    refine ge_then ?_
    refine g_cond rfl (fun hc12 => ?_) (fun hc12 => ?_)
    ·
     replace hc12 := hs_ hc12
     refine g_exit ?_
     refine ge_then_exit ?_
     refine ge_then_exit ?_
     refine ge_block_pass rfl ?_
     refine ge_then_exit ?_
     refine ge_block_pass rfl ?_
     refine ge_then_exit ?_
     refine ge_block_exit ?_
     refine ge_then ?_
     refine g_seq ?_
     refine g_region ?_
     refine gl_v rfl (o_assign rfl) ?_
     refine gl_nil ?_
     refine ge_then ?_
     refine g_exit ?_
     refine ge_block_pass rfl ?_
     refine ge_then_exit ?_
     refine ge_block_pass rfl ?_
     refine ge_then_exit ?_
     refine ge_block_pass rfl ?_
     refine ge_then_exit ?_
     refine ge_block_exit ?_
     refine ge_then ?_
     refine g_ret ?_
     refine ret5 (.inl rfl) rfl rfl rfl rfl rfl rfl [] ⟨by (try simp only [decide_eq_true_eq, decide_eq_false_iff_not] at *); first | (subst_vars; rfl) | exact tup5 (by simp [pR]; omega) (by simp [pS]; omega) (by simp [pN]; omega) (by simp [pV]; omega) (by simp [pD]; omega), rfl⟩ (tO)
    ·
     replace hc12 := hs_ hc12
     refine g_skip ?_
     refine ge_then ?_
     refine g_seq ?_
     refine g_seq ?_
     refine g_region ?_
     refine gl_v rfl (o_eql rfl rfl) ?_
     refine gl_v rfl (o_assign rfl) ?_
     refine gl_nil ?_
     refine ge_then ?_
     refine g_cond rfl (fun hc13 => ?_) (fun hc13 => ?_)
     ·
      replace hc13 := hs_ hc13
      refine g_exit ?_
      refine ge_then_exit ?_
      refine ge_then_exit ?_
      refine ge_block_pass rfl ?_
      refine ge_then_exit ?_
      refine ge_block_pass rfl ?_
      refine ge_then_exit ?_
      refine ge_block_pass rfl ?_
      refine ge_then_exit ?_
      refine ge_block_exit ?_
      refine ge_then ?_
      refine g_region ?_
      refine gl_v rfl (o_assign rfl) ?_
      refine gl_nil ?_
      refine ge_block ?_
      refine ge_then ?_
      refine g_seq ?_
      refine g_region ?_
      refine gl_v rfl (o_assign rfl) ?_
      refine gl_nil ?_
      refine ge_then ?_
      refine g_exit ?_
      refine ge_block_pass rfl ?_
      refine ge_then_exit ?_
      refine ge_block_exit ?_
      refine ge_then ?_
      refine g_ret ?_
      refine ret5 (.inl rfl) rfl rfl rfl rfl rfl rfl [] ⟨by (try simp only [decide_eq_true_eq, decide_eq_false_iff_not] at *); first | (subst_vars; rfl) | exact tup5 (by simp [pR]; omega) (by simp [pS]; omega) (by simp [pN]; omega) (by simp [pV]; omega) (by simp [pD]; omega), rfl⟩ (tO)
     ·
      replace hc13 := hs_ hc13
      refine g_skip ?_
      refine ge_then ?_
      refine g_seq ?_
      refine g_seq ?_
      refine g_region ?_
      refine gl_v rfl (o_eql rfl rfl) ?_
      refine gl_v rfl (o_assign rfl) ?_
      refine gl_nil ?_
      refine ge_then ?_
      refine g_cond rfl (fun hc14 => ?_) (fun hc14 => ?_)
      ·
       replace hc14 := hs_ hc14
       refine g_exit ?_
       refine ge_then_exit ?_
       refine ge_then_exit ?_
       refine ge_block_pass rfl ?_
       refine ge_then_exit ?_
       refine ge_block_pass rfl ?_
       refine ge_then_exit ?_
       refine ge_block_pass rfl ?_
       refine ge_then_exit ?_
       refine ge_block_pass rfl ?_
       refine ge_then_exit ?_
       refine ge_block_exit ?_
       refine ge_then ?_
       refine g_seq ?_
       refine g_region ?_
       refine gl_v rfl (o_assign rfl) ?_
       refine gl_nil ?_
       refine ge_then ?_
       refine g_exit ?_
       refine ge_block_pass rfl ?_
       refine ge_then_exit ?_
       refine ge_block_exit ?_
       refine ge_then ?_
       refine g_ret ?_
       refine ret5 (.inl rfl) rfl rfl rfl rfl rfl rfl [] ⟨by (try simp only [decide_eq_true_eq, decide_eq_false_iff_not] at *); first | (subst_vars; rfl) | exact tup5 (by simp [pR]; omega) (by simp [pS]; omega) (by simp [pN]; omega) (by simp [pV]; omega) (by simp [pD]; omega), rfl⟩ (tO)
      ·
       replace hc14 := hs_ hc14
       refine g_skip ?_
       refine ge_then ?_
       refine g_seq ?_
       refine g_seq ?_
       refine g_region ?_
       refine gl_v rfl (o_eql rfl rfl) ?_
       refine gl_v rfl (o_assign rfl) ?_
       refine gl_nil ?_
       refine ge_then ?_
       refine g_cond rfl (fun hc15 => ?_) (fun hc15 => ?_)
       ·
        replace hc15 := hs_ hc15
        refine g_skip ?_
        refine ge_then ?_
        refine g_cond rfl (fun hc16 => ?_) (fun hc16 => ?_)
        ·
         replace hc16 := hs_ hc16
         refine g_exit ?_
         refine ge_then_exit ?_
         refine ge_block_pass rfl ?_
         refine ge_then_exit ?_
         refine ge_block_pass rfl ?_
         refine ge_then_exit ?_
         refine ge_block_pass rfl ?_
         refine ge_then_exit ?_
         refine ge_block_pass rfl ?_
         refine ge_then_exit ?_
         refine ge_block_pass rfl ?_
         refine ge_then_exit ?_
         refine ge_block_exit ?_
         refine ge_then ?_
         refine g_seq ?_
         refine g_region ?_
         refine gl_v rfl (o_assign rfl) ?_
         refine gl_nil ?_
         refine ge_then ?_
         refine g_exit ?_
         refine ge_block_exit ?_
         refine ge_then ?_
         refine g_ret ?_
         refine ret5 (.inl rfl) rfl rfl rfl rfl rfl rfl [] ⟨by (try simp only [decide_eq_true_eq, decide_eq_false_iff_not] at *); first | (subst_vars; rfl) | exact tup5 (by simp [pR]; omega) (by simp [pS]; omega) (by simp [pN]; omega) (by simp [pV]; omega) (by simp [pD]; omega), rfl⟩ (tO)
        ·
         replace hc16 := hs_ hc16
         refine g_skip ?_
         refine ge_then ?_
         refine g_exit ?_
         refine ge_block_pass rfl ?_
         refine ge_then_exit ?_
         refine ge_block_pass rfl ?_
         refine ge_then_exit ?_
         refine ge_block_pass rfl ?_
         refine ge_then_exit ?_
         refine ge_block_pass rfl ?_
         refine ge_then_exit ?_
         refine ge_block_pass rfl ?_
         refine ge_then_exit ?_
         refine ge_block_pass rfl ?_
         refine ge_then_exit ?_
         refine ge_block_exit ?_
         refine ge_then ?_
         refine g_ret ?_
         refine ret5 (.inl rfl) rfl rfl rfl rfl rfl rfl [] ⟨by (try simp only [decide_eq_true_eq, decide_eq_false_iff_not] at *); first | (subst_vars; rfl) | exact tup5 (by simp [pR]; omega) (by simp [pS]; omega) (by simp [pN]; omega) (by simp [pV]; omega) (by simp [pD]; omega), rfl⟩ (tO)
       ·
        replace hc15 := hs_ hc15
        refine g_seq ?_
        refine g_region ?_
        refine gl_v rfl (o_eql rfl rfl) ?_
        refine gl_v rfl (o_assign rfl) ?_
        refine gl_nil ?_
        refine ge_then ?_
        refine g_cond rfl (fun hc17 => ?_) (fun hc17 => ?_)
        ·
         replace hc17 := hs_ hc17
         refine g_skip ?_
         refine ge_then ?_
         refine g_cond rfl (fun hc18 => ?_) (fun hc18 => ?_)
         ·
          replace hc18 := hs_ hc18
          refine g_exit ?_
          refine ge_then_exit ?_
          refine ge_block_pass rfl ?_
          refine ge_then_exit ?_
          refine ge_block_pass rfl ?_
          refine ge_then_exit ?_
          refine ge_block_pass rfl ?_
          refine ge_then_exit ?_
          refine ge_block_pass rfl ?_
          refine ge_then_exit ?_
          refine ge_block_pass rfl ?_
          refine ge_then_exit ?_
          refine ge_block_exit ?_
          refine ge_then ?_
          refine g_seq ?_
          refine g_region ?_
          refine gl_v rfl (o_assign rfl) ?_
          refine gl_nil ?_
          refine ge_then ?_
          refine g_exit ?_
          refine ge_block_exit ?_
          refine ge_then ?_
          refine g_ret ?_
          refine ret5 (.inl rfl) rfl rfl rfl rfl rfl rfl [] ⟨by (try simp only [decide_eq_true_eq, decide_eq_false_iff_not] at *); first | (subst_vars; rfl) | exact tup5 (by simp [pR]; omega) (by simp [pS]; omega) (by simp [pN]; omega) (by simp [pV]; omega) (by simp [pD]; omega), rfl⟩ (tO)
         ·
          replace hc18 := hs_ hc18
          refine g_skip ?_
          refine ge_then ?_
          refine g_exit ?_
          refine ge_block_pass rfl ?_
          refine ge_then_exit ?_
          refine ge_block_pass rfl ?_
          refine ge_then_exit ?_
          refine ge_block_pass rfl ?_
          refine ge_then_exit ?_
          refine ge_block_pass rfl ?_
          refine ge_then_exit ?_
          refine ge_block_pass rfl ?_
          refine ge_then_exit ?_
          refine ge_block_pass rfl ?_
          refine ge_then_exit ?_
          refine ge_block_exit ?_
          refine ge_then ?_
          refine g_ret ?_
          refine ret5 (.inl rfl) rfl rfl rfl rfl rfl rfl [] ⟨by (try simp only [decide_eq_true_eq, decide_eq_false_iff_not] at *); first | (subst_vars; rfl) | exact tup5 (by simp [pR]; omega) (by simp [pS]; omega) (by simp [pN]; omega) (by simp [pV]; omega) (by simp [pD]; omega), rfl⟩ (tO)
        ·
         replace hc17 := hs_ hc17
         refine g_region ?_
         refine gl_v rfl (o_eql rfl rfl) ?_
         refine gl_v rfl (o_assign rfl) ?_
         refine gl_nil ?_
         refine ge_then ?_
         refine g_cond rfl (fun hc19 => ?_) (fun hc19 => ?_)
         ·
          replace hc19 := hs_ hc19
          refine g_exit ?_
          refine ge_then_exit ?_
          refine ge_block_pass rfl ?_
          refine ge_then_exit ?_
          refine ge_block_pass rfl ?_
          refine ge_then_exit ?_
          refine ge_block_pass rfl ?_
          refine ge_then_exit ?_
          refine ge_block_pass rfl ?_
          refine ge_then_exit ?_
          refine ge_block_pass rfl ?_
          refine ge_then_exit ?_
          refine ge_block_exit ?_
          refine ge_then ?_
          refine g_seq ?_
          refine g_region ?_
          refine gl_v rfl (o_assign rfl) ?_
          refine gl_nil ?_
          refine ge_then ?_
          refine g_exit ?_
          refine ge_block_exit ?_
          refine ge_then ?_
          refine g_ret ?_
          refine ret5 (.inl rfl) rfl rfl rfl rfl rfl rfl [] ⟨by (try simp only [decide_eq_true_eq, decide_eq_false_iff_not] at *); first | (subst_vars; rfl) | exact tup5 (by simp [pR]; omega) (by simp [pS]; omega) (by simp [pN]; omega) (by simp [pV]; omega) (by simp [pD]; omega), rfl⟩ (tO)
         ·
          replace hc19 := hs_ hc19
          refine g_skip ?_
          refine ge_then ?_
          refine g_exit ?_
          refine ge_block_pass rfl ?_
          refine ge_then_exit ?_
          refine ge_block_pass rfl ?_
          refine ge_then_exit ?_
          refine ge_block_pass rfl ?_
          refine ge_then_exit ?_
          refine ge_block_pass rfl ?_
          refine ge_then_exit ?_
          refine ge_block_pass rfl ?_
          refine ge_then_exit ?_
          refine ge_block_pass rfl ?_
          refine ge_then_exit ?_
          refine ge_block_exit ?_
          refine ge_then ?_
          refine g_ret ?_
          refine ret5 (.inl rfl) rfl rfl rfl rfl rfl rfl [] ⟨by (try simp only [decide_eq_true_eq, decide_eq_false_iff_not] at *); first | (subst_vars; rfl) | exact tup5 (by simp [pR]; omega) (by simp [pS]; omega) (by simp [pN]; omega) (by simp [pV]; omega) (by simp [pD]; omega), rfl⟩ (tO)

set_option maxRecDepth 8000 in
set_option maxHeartbeats 4000000 in
theorem effect_spec (pa : Option Addr) (pc : Nat) (KK : List Knd) (A : Assn) (hA : ∀ h, A h → PrgOk h pa pc KK) (hb : ∃ h, PrgOk h pa pc KK) (k : Knd) (hk : k ∈ KK) (e : Eff) (he : EffOk e) (last : Bool) : FnS Tryz.prog 97 [.agg #[.slice pa KK.length pc], .agg (kndC k).toArray, .agg (effC e).toArray, .bool last] [A] (fun u Bs => u = I64 (effE KK k.states e last) ∧ Bs = [A]) := by
 refine fn_body Tryz.func97 rfl rfl rfl ?_
 intro W0 R
 simp only [List.zipIdx_cons, List.zipIdx_nil, List.map_cons, List.map_nil, Nat.zero_add, Nat.reduceAdd, List.cons_append, List.nil_append]
 haveI rK : RdA (.slice pa KK.length pc) A KK.length (KK.flatMap kndC) := ⟨fun h => (hA _ h).rd.1⟩
 obtain ⟨h0, hb0⟩ := hb
 have hKn := hb0.len
 unfold ok63 at hKn
 have hB := hb0.kinds k hk
 have hSn := hB.lens; have hCn := hB.lenc; have hkn := hB.name
 unfold ok63 at hSn hCn hkn
 haveI rS : RdA (.slice k.sa k.states.length k.sc) A k.states.length (k.states.flatMap staC) := ⟨fun h => ((hA _ h).kinds k hk).rds.1⟩
 haveI rC : RdA (.slice k.ca k.cases.length k.cc) A k.cases.length (k.cases.flatMap casC) := ⟨fun h => ((hA _ h).kinds k hk).rdc.1⟩
 obtain ⟨he1, he2, he3⟩ := he
 unfold ok63 at he1 he2 he3
 refine g_seq ?_
 refine g_region ?_
 refine gl_n rfl (o_boxA rfl) ?_
 rintro _ _ ⟨b4, rfl, rfl⟩
 refine gl_n rfl (o_boxA rfl) ?_
 rintro _ _ ⟨b5, rfl, rfl⟩
 refine gl_n rfl (o_boxA rfl) ?_
 rintro _ _ ⟨b6, rfl, rfl⟩
 refine gl_v rfl (o_assign rfl) ?_
 refine gl_nil ?_
 refine ge_then ?_
 refine g_seq ?_
 refine g_region ?_
 first | refine gl_v rfl (o_fldS rfl) ?_ | refine gl_v rfl (o_fld rfl) ?_
 first | refine gl_v rfl (o_load rfl rfl) ?_ | refine gl_v rfl (o_loadS rfl rfl) ?_ | refine gl_v rfl (o_loadC rfl) ?_
 refine gl_c rfl (o_call rfl (parts_spec e.do') pA) ?_
 rintro _ R ⟨_, ⟨rfl, rfl⟩, rfl⟩
 try simp only [List.cons_append, List.nil_append]
 refine gl_v rfl (o_move rfl) ?_
 refine gl_v rfl (o_extract rfl rfl) ?_
 refine gl_v rfl (o_extract rfl rfl) ?_
 refine gl_v rfl (o_extract rfl rfl) ?_
 refine gl_v rfl (o_extract rfl rfl) ?_
 refine gl_v rfl (o_extract rfl rfl) ?_
 refine gl_v rfl (o_assign rfl) ?_
 refine gl_v rfl (o_assign rfl) ?_
 refine gl_v rfl (o_assign rfl) ?_
 refine gl_v rfl (o_assign rfl) ?_
 refine gl_v rfl (o_assign rfl) ?_
 refine gl_nil ?_
 refine ge_then ?_
 refine g_seq ?_
 refine g_region ?_
 first | refine gl_v rfl (o_fldS rfl) ?_ | refine gl_v rfl (o_fld rfl) ?_
 first | refine gl_v rfl (o_load rfl rfl) ?_ | refine gl_v rfl (o_loadS rfl rfl) ?_ | refine gl_v rfl (o_loadC rfl) ?_
 refine gl_v rfl (o_func rfl rfl) ?_
 refine gl_c rfl (o_call rfl (ConF_Knd KK pa pc 111 [ptr b6 0] [A, cel b6 38 (effC e)] (fun d => decide (d.name = e.name)) (by omega) (rd_head fun h a => (hA h a).rd.1) (fun d _ => effect1_spec A b6 d e)) pA) ?_
 rintro _ R ⟨_, ⟨rfl, rfl⟩, rfl⟩
 try simp only [List.cons_append, List.nil_append]
 refine gl_v rfl (o_assign rfl) ?_
 refine gl_nil ?_
 refine ge_then ?_
 refine g_seq ?_
 refine g_region ?_
 first | refine gl_v rfl (o_fldS rfl) ?_ | refine gl_v rfl (o_fld rfl) ?_
 first | refine gl_v rfl (o_load rfl rfl) ?_ | refine gl_v rfl (o_loadS rfl rfl) ?_ | refine gl_v rfl (o_loadC rfl) ?_
 refine gl_v rfl (o_func rfl rfl) ?_
 refine gl_c rfl (o_call rfl (ConF_Sta k.states k.sa k.sc 112 [ptr b6 0] [A, cel b6 38 (effC e)] (fun d => decide (d.name = e.name)) (by omega) (rd_head fun h a => ((hA h a).kinds k hk).rds.1) (fun d _ => effect2_spec A b6 d e)) pA) ?_
 rintro _ R ⟨_, ⟨rfl, rfl⟩, rfl⟩
 try simp only [List.cons_append, List.nil_append]
 refine gl_v rfl (o_assign rfl) ?_
 refine gl_nil ?_
 refine ge_then ?_
 refine g_seq ?_
 refine g_region ?_
 first | refine gl_v rfl (o_fldS rfl) ?_ | refine gl_v rfl (o_fld rfl) ?_
 first | refine gl_v rfl (o_load rfl rfl) ?_ | refine gl_v rfl (o_loadS rfl rfl) ?_ | refine gl_v rfl (o_loadC rfl) ?_
 refine gl_v rfl (o_eql rfl rfl) ?_
 refine gl_v rfl (o_assign rfl) ?_
 refine gl_nil ?_
 refine ge_then ?_
 refine g_seq ?_
 refine g_treeM [11, 14, 29, 32, 49, 149, 150] [11, 14, 29, 32, 49] (.loc 0 (.loc 1 (.loc 2 (.loc 3 (.loc 9 (.loc 10 (.stab 27 (.stab 45 (.stab 62 (.stab 83 (.stab 84 (.stab 85 (.stab 101 (.stab 102 (.stab 103 (.stab 119 (.stab 120 (.stab 121 (.stab 136 (.stab 137 (.stab 138 (.stab 4 (.stab 5 (.stab 6 (.stab 7 (.stab 8 (.stab 12 (.stab 13 (.eff 11 (.eff 14 (.loc 15 (.loc 16 (.loc 17 (.loc 18 (.loc 19 (.loc 20 (.stab 21 (.stab 22 (.stab 23 (.stab 24 (.stab 25 (.stab 26 (.loc 28 (.stab 30 (.stab 31 (.eff 29 (.eff 32 (.loc 33 (.loc 34 (.loc 35 (.loc 36 (.loc 37 (.loc 38 (.stab 39 (.stab 40 (.stab 41 (.stab 42 (.stab 43 (.stab 44 (.loc 46 (.loc 47 (.loc 48 (.eff 49 (.loc 50 (.loc 51 (.loc 52 (.loc 53 (.loc 54 (.loc 55 (.loc 56 (.loc 57 (.loc 58 (.loc 59 (.loc 60 (.loc 61 (.loc 63 (.loc 64 (.loc 65 (.loc 66 (.loc 67 (.loc 68 (.loc 69 (.loc 70 (.loc 71 (.loc 72 (.loc 73 (.loc 74 (.loc 75 (.loc 76 (.loc 77 (.loc 78 (.loc 79 (.loc 80 (.loc 81 (.loc 82 (.loc 86 (.loc 87 (.loc 88 (.loc 89 (.loc 90 (.loc 91 (.loc 92 (.loc 93 (.loc 94 (.loc 95 (.loc 96 (.loc 97 (.loc 98 (.loc 99 (.loc 100 (.loc 104 (.loc 105 (.loc 106 (.loc 107 (.loc 108 (.loc 109 (.loc 110 (.loc 111 (.loc 112 (.loc 113 (.loc 114 (.loc 115 (.loc 116 (.loc 117 (.loc 118 (.loc 122 (.loc 123 (.loc 124 (.loc 125 (.loc 126 (.loc 127 (.loc 128 (.loc 129 (.loc 130 (.loc 131 (.loc 132 (.loc 133 (.loc 134 (.loc 135 (.loc 139 (.loc 140 (.loc 141 (.loc 142 (.loc 143 (.loc 144 (.loc 145 (.loc 146 (.loc 147 (.loc 148 (.eff 149 (.eff 150 (.loc 151 .nil) .nil) .nil))))))))))))))))))))))))))))))))))))))))))))))))))))))))))))))))))))))))))))))))))))))) .nil)))))))))))))))) .nil) .nil)))))))))))))))) .nil) .nil))))))))))))))))))))))))))))) [cel b6 38 (effC e)] mixed (by kernel_rfl) ?_
 first | refine gt_v rfl .none rfl (o_fldS rfl) ?_ | refine gt_v rfl .none rfl (o_fld rfl) ?_
 first | refine gt_v rfl .none rfl (o_load rfl rfl) ?_ | refine gt_v rfl .none rfl (o_loadS rfl rfl) ?_ | refine gt_v rfl .none rfl (o_loadC rfl) ?_
 refine gt_v rfl .none rfl (o_lss rfl rfl) ?_
 refine gt_v rfl .none rfl (o_move rfl) ?_
 refine gt_v rfl .none rfl (o_move rfl) ?_
 refine gt_v rfl .none rfl (o_move rfl) ?_
 refine gt_vs rfl .none rfl (o_move rfl) (tO) ?_
 refine gt_vs rfl .none rfl (o_move rfl) (tO) ?_
 refine gt_vs rfl .none rfl (o_move rfl) (tO) ?_
 first | refine gt_vs rfl .none rfl (o_fldS rfl) (tO) ?_ | refine gt_vs rfl .none rfl (o_fld rfl) (tO) ?_
 first | refine gt_vs rfl .none rfl (o_load rfl rfl) (tO) ?_ | refine gt_vs rfl .none rfl (o_loadS rfl rfl) (tO) ?_ | refine gt_vs rfl .none rfl (o_loadC rfl) (tO) ?_
 refine gt_vs rfl .none rfl (o_lss rfl rfl) (tO) ?_
 first | refine gt_vs rfl .none rfl (o_fldS rfl) (tO) ?_ | refine gt_vs rfl .none rfl (o_fld rfl) (tO) ?_
 first | refine gt_vs rfl .none rfl (o_load rfl rfl) (tO) ?_ | refine gt_vs rfl .none rfl (o_loadS rfl rfl) (tO) ?_ | refine gt_vs rfl .none rfl (o_loadC rfl) (tO) ?_
 refine gt_vs rfl .none rfl (o_lss rfl rfl) (tO) ?_
 first | refine gt_vs rfl .none rfl (o_fldS rfl) (tO) ?_ | refine gt_vs rfl .none rfl (o_fld rfl) (tO) ?_
 first | refine gt_vs rfl .none rfl (o_load rfl rfl) (tO) ?_ | refine gt_vs rfl .none rfl (o_loadS rfl rfl) (tO) ?_ | refine gt_vs rfl .none rfl (o_loadC rfl) (tO) ?_
 refine gt_vs rfl .none rfl (o_eql rfl rfl) (tO) ?_
 first | refine gt_vs rfl .none rfl (o_fldS rfl) (tO) ?_ | refine gt_vs rfl .none rfl (o_fld rfl) (tO) ?_
 first | refine gt_vs rfl .none rfl (o_load rfl rfl) (tO) ?_ | refine gt_vs rfl .none rfl (o_loadS rfl rfl) (tO) ?_ | refine gt_vs rfl .none rfl (o_loadC rfl) (tO) ?_
 refine gt_vs rfl .none rfl (o_eql rfl rfl) (tO) ?_
 refine gt_join (d := 44) (.stab 8 (.stab 12 (.stab 13 (.eff 11 (.eff 14 (.loc 15 (.loc 16 (.loc 17 (.loc 18 (.loc 19 (.loc 20 (.stab 21 (.stab 22 (.stab 23 (.stab 24 (.stab 25 (.stab 26 (.loc 28 (.stab 30 (.stab 31 (.eff 29 (.eff 32 (.loc 33 (.loc 34 (.loc 35 (.loc 36 (.loc 37 (.loc 38 (.stab 39 (.stab 40 (.stab 41 (.stab 42 (.stab 43 (.stab 44 (.loc 46 (.loc 47 (.loc 48 (.eff 49 (.loc 50 (.loc 51 (.loc 52 (.loc 53 (.loc 54 (.loc 55 (.loc 56 (.loc 57 (.loc 58 (.loc 59 (.loc 60 (.loc 61 (.loc 63 (.loc 64 (.loc 65 (.loc 66 (.loc 67 (.loc 68 (.loc 69 (.loc 70 (.loc 71 (.loc 72 (.loc 73 (.loc 74 (.loc 75 (.loc 76 (.loc 77 (.loc 78 (.loc 79 (.loc 80 (.loc 81 (.loc 82 (.loc 86 (.loc 87 (.loc 88 (.loc 89 (.loc 90 (.loc 91 (.loc 92 (.loc 93 (.loc 94 (.loc 95 (.loc 96 (.loc 97 (.loc 98 (.loc 99 (.loc 100 (.loc 104 (.loc 105 (.loc 106 (.loc 107 (.loc 108 (.loc 109 (.loc 110 (.loc 111 (.loc 112 (.loc 113 (.loc 114 (.loc 115 (.loc 116 (.loc 117 (.loc 118 (.loc 122 (.loc 123 (.loc 124 (.loc 125 (.loc 126 (.loc 127 (.loc 128 (.loc 129 (.loc 130 (.loc 131 (.loc 132 (.loc 133 (.loc 134 (.loc 135 (.loc 139 (.loc 140 (.loc 141 (.loc 142 (.loc 143 (.loc 144 (.loc 145 (.loc 146 (.loc 147 (.loc 148 (.eff 149 (.eff 150 (.loc 151 .nil) .nil) .nil))))))))))))))))))))))))))))))))))))))))))))))))))))))))))))))))))))))))))))))))))))))) .nil)))))))))))))))) .nil) .nil)))))))))))))))) .nil) .nil)))) (.bool (e1 e)) ?_ (fun jk44 => ?_)
 rotate_left
 ·
  refine gt_split (j := 3) rfl rfl (fun hc1 => ?_) (fun hc1 => ?_)
  ·
   have hc1' := hc1
   replace hc1' := hs_ hc1'
   refine gt_skipS rfl (.no rfl rfl hc1) rfl ?_
   refine gt_skipS rfl (.no rfl rfl hc1) rfl ?_
   refine gt_skipS rfl (.no rfl rfl hc1) rfl ?_
   refine gt_vs rfl .none rfl (o_pickT hc1 rfl rfl) (tO) ?_
   first | exact jk44 _ (KeepS.top (by repeat (first | exact KeepS.refl _ | refine KeepS.push ?_ rfl)) (jval (by first | rfl | (simp only [hc1, e1, Bool.not_true, Bool.not_false, Bool.false_and, Bool.true_and, Bool.true_or, Bool.false_or]; done) | (simp [hc1, e1]; done) | simp_all))) | exact gt_imp (tO) (jk44 _ (KeepS.top (by repeat (first | exact KeepS.refl _ | refine KeepS.push ?_ rfl)) (jval (by first | rfl | (simp only [hc1, e1, Bool.not_true, Bool.not_false, Bool.false_and, Bool.true_and, Bool.true_or, Bool.false_or]; done) | (simp [hc1, e1]; done) | simp_all))))
  ·
   have hc1' := hc1
   replace hc1' := hs_ hc1'
   first | refine gt_vs rfl (.yes rfl rfl hc1) rfl (o_fldS rfl) (tO) ?_ | refine gt_vs rfl (.yes rfl rfl hc1) rfl (o_fld rfl) (tO) ?_
   first | refine gt_vs rfl (.yes rfl rfl hc1) rfl (o_load rfl rfl) (tO) ?_ | refine gt_vs rfl (.yes rfl rfl hc1) rfl (o_loadS rfl rfl) (tO) ?_ | refine gt_vs rfl (.yes rfl rfl hc1) rfl (o_loadC rfl) (tO) ?_
   refine gt_vs rfl (.yes rfl rfl hc1) rfl (o_gtr rfl rfl) (tO) ?_
   refine gt_vs rfl .none rfl (o_pickF hc1 rfl rfl) (tO) ?_
   first | exact jk44 _ (KeepS.top (by repeat (first | exact KeepS.refl _ | refine KeepS.push ?_ rfl)) (jval (by first | rfl | (simp only [hc1, e1, Bool.not_true, Bool.not_false, Bool.false_and, Bool.true_and, Bool.true_or, Bool.false_or]; done) | (simp [hc1, e1]; done) | simp_all))) | exact gt_imp (tO) (jk44 _ (KeepS.top (by repeat (first | exact KeepS.refl _ | refine KeepS.push ?_ rfl)) (jval (by first | rfl | (simp only [hc1, e1, Bool.not_true, Bool.not_false, Bool.false_and, Bool.true_and, Bool.true_or, Bool.false_or]; done) | (simp [hc1, e1]; done) | simp_all))))
 refine gt_keep (Keep.cons (t := 175) rfl (Keep.cons (t := 158) rfl (Keep.cons (t := 140) rfl (Keep.cons (t := 122) rfl (Keep.cons (t := 99) rfl (Keep.cons (t := 82) rfl (Keep.cons (t := 64) rfl (Keep.cons (t := 47) rfl (Keep.cons (t := 44) rfl (Keep.cons (t := 36) rfl (Keep.cons (t := 35) rfl (Keep.cons (t := 34) rfl (Keep.cons (t := 33) rfl (Keep.cons (t := 32) rfl (Keep.cons (t := 31) rfl (Keep.cons (t := 30) rfl (Keep.cons (t := 29) rfl (Keep.cons (t := 28) rfl (Keep.cons (t := 27) rfl (Keep.cons (t := 26) rfl (Keep.cons (t := 25) rfl (Keep.cons (t := 24) rfl (Keep.cons (t := 23) rfl (Keep.cons (t := 22) rfl (Keep.cons (t := 21) rfl (Keep.cons (t := 20) rfl (Keep.cons (t := 19) rfl (Keep.cons (t := 18) rfl (Keep.cons (t := 17) rfl (Keep.cons (t := 16) rfl (Keep.cons (t := 15) rfl (Keep.cons (t := 14) rfl (Keep.cons (t := 13) rfl (Keep.cons (t := 12) rfl (Keep.cons (t := 11) rfl (Keep.cons (t := 10) rfl (Keep.cons (t := 9) rfl (Keep.cons (t := 8) rfl (Keep.cons (t := 6) rfl (Keep.cons (t := 5) rfl (Keep.cons (t := 4) rfl (Keep.cons (t := 3) rfl (Keep.cons (t := 2) rfl (Keep.cons (t := 1) rfl (Keep.cons (t := 0) rfl (Keep.nil)))))))))))))))))))))))))))))))))))))))))))))) ?_
 refine gt_vs rfl .none rfl (o_build rfl rfl) (tO) ?_
 refine gt_join (d := 62) (.stab 26 (.loc 28 (.stab 30 (.stab 31 (.eff 29 (.eff 32 (.loc 33 (.loc 34 (.loc 35 (.loc 36 (.loc 37 (.loc 38 (.stab 39 (.stab 40 (.stab 41 (.stab 42 (.stab 43 (.stab 44 (.loc 46 (.loc 47 (.loc 48 (.eff 49 (.loc 50 (.loc 51 (.loc 52 (.loc 53 (.loc 54 (.loc 55 (.loc 56 (.loc 57 (.loc 58 (.loc 59 (.loc 60 (.loc 61 (.loc 63 (.loc 64 (.loc 65 (.loc 66 (.loc 67 (.loc 68 (.loc 69 (.loc 70 (.loc 71 (.loc 72 (.loc 73 (.loc 74 (.loc 75 (.loc 76 (.loc 77 (.loc 78 (.loc 79 (.loc 80 (.loc 81 (.loc 82 (.loc 86 (.loc 87 (.loc 88 (.loc 89 (.loc 90 (.loc 91 (.loc 92 (.loc 93 (.loc 94 (.loc 95 (.loc 96 (.loc 97 (.loc 98 (.loc 99 (.loc 100 (.loc 104 (.loc 105 (.loc 106 (.loc 107 (.loc 108 (.loc 109 (.loc 110 (.loc 111 (.loc 112 (.loc 113 (.loc 114 (.loc 115 (.loc 116 (.loc 117 (.loc 118 (.loc 122 (.loc 123 (.loc 124 (.loc 125 (.loc 126 (.loc 127 (.loc 128 (.loc 129 (.loc 130 (.loc 131 (.loc 132 (.loc 133 (.loc 134 (.loc 135 (.loc 139 (.loc 140 (.loc 141 (.loc 142 (.loc 143 (.loc 144 (.loc 145 (.loc 146 (.loc 147 (.loc 148 (.eff 149 (.eff 150 (.loc 151 .nil) .nil) .nil))))))))))))))))))))))))))))))))))))))))))))))))))))))))))))))))))))))))))))))))))))))) .nil)))))))))))))))) .nil) .nil))))) (.bool (e2 e)) ?_ (fun jk62 => ?_)
 rotate_left
 ·
  refine gt_split (j := 10) rfl rfl (fun hc2 => ?_) (fun hc2 => ?_)
  ·
   have hc2' := hc2
   replace hc2' := hs_ hc2'
   first | refine gt_vs rfl (.yes rfl rfl hc2) rfl (o_fldS rfl) (tO) ?_ | refine gt_vs rfl (.yes rfl rfl hc2) rfl (o_fld rfl) (tO) ?_
   first | refine gt_vs rfl (.yes rfl rfl hc2) rfl (o_load rfl rfl) (tO) ?_ | refine gt_vs rfl (.yes rfl rfl hc2) rfl (o_loadS rfl rfl) (tO) ?_ | refine gt_vs rfl (.yes rfl rfl hc2) rfl (o_loadC rfl) (tO) ?_
   refine gt_n rfl (.yes rfl rfl hc2) rfl (o_buildS (cs := refs7.map S) rfl rfl rfl rfl) ?_
   rintro _ _ ⟨b48, rfl, rfl⟩
   refine ⟨(fun _ => (tO)), ?_⟩
   refine gt_c rfl (.yes rfl rfl hc2) rfl (o_call rfl (Con_str refs7 b48 7 e.ref rfl (by decide)) pA) ?_
   rintro _ R ⟨_, ⟨rfl, rfl⟩, rfl⟩
   try simp only [List.cons_append, List.nil_append]
   refine ⟨(fun _ => (tO)), ?_⟩
   refine gt_v rfl (.yes rfl rfl hc2) rfl (o_not rfl) ?_
   refine gt_v rfl .none rfl (o_pickT hc2 rfl rfl) ?_
   refine gt_v rfl .none rfl (o_move rfl) ?_
   refine gt_split (j := 17) rfl rfl (fun hc3 => ?_) (fun hc3 => ?_)
   ·
    have hc3' := hc3
    replace hc3' := hs_ hc3'
    refine gt_skipL rfl (.no rfl rfl hc3) rfl ?_
    refine gt_skipL rfl (.no rfl rfl hc3) rfl ?_
    refine gt_skipL rfl (.no rfl rfl hc3) rfl ?_
    refine gt_skipS rfl (.un rfl rfl) rfl ?_
    refine gt_skipS rfl (.un rfl rfl) rfl ?_
    refine gt_skipS rfl (.un rfl rfl) rfl ?_
    refine gt_skipS rfl (.no rfl rfl hc3) rfl ?_
    refine gt_vs rfl .none rfl (o_pickT hc3 rfl rfl) (tO) ?_
    first | exact jk62 _ (KeepS.top (by repeat (first | exact KeepS.refl _ | refine KeepS.push ?_ rfl)) (jval (by first | rfl | (simp only [hc2, hc3, e2, Bool.not_true, Bool.not_false, Bool.false_and, Bool.true_and, Bool.true_or, Bool.false_or]; done) | (simp [hc2, hc3, e2]; done) | simp_all))) | exact gt_imp (tO) (jk62 _ (KeepS.top (by repeat (first | exact KeepS.refl _ | refine KeepS.push ?_ rfl)) (jval (by first | rfl | (simp only [hc2, hc3, e2, Bool.not_true, Bool.not_false, Bool.false_and, Bool.true_and, Bool.true_or, Bool.false_or]; done) | (simp [hc2, hc3, e2]; done) | simp_all))))
   ·
    have hc3' := hc3
    replace hc3' := hs_ hc3'
    refine gt_v rfl (.yes rfl rfl hc3) rfl (o_move rfl) ?_
    refine gt_v rfl (.yes rfl rfl hc3) rfl (o_not rfl) ?_
    refine gt_v rfl (.yes rfl rfl hc3) rfl (o_move rfl) ?_
    refine gt_split (j := 20) rfl rfl (fun hc4 => ?_) (fun hc4 => ?_)
    ·
     have hc4' := hc4
     replace hc4' := hs_ hc4'
     first | refine gt_vs rfl (.yes rfl rfl hc4) rfl (o_fldS rfl) (tO) ?_ | refine gt_vs rfl (.yes rfl rfl hc4) rfl (o_fld rfl) (tO) ?_
     first | refine gt_vs rfl (.yes rfl rfl hc4) rfl (o_load rfl rfl) (tO) ?_ | refine gt_vs rfl (.yes rfl rfl hc4) rfl (o_loadS rfl rfl) (tO) ?_ | refine gt_vs rfl (.yes rfl rfl hc4) rfl (o_loadC rfl) (tO) ?_
     refine gt_vs rfl (.yes rfl rfl hc4) rfl (o_neqs rfl rfl) (tO) ?_
     refine gt_vs rfl (.yes rfl rfl hc3) rfl (o_pickT hc4 rfl rfl) (tO) ?_
     refine gt_vs rfl .none rfl (o_pickF hc3 rfl rfl) (tO) ?_
     first | exact jk62 _ (KeepS.top (by repeat (first | exact KeepS.refl _ | refine KeepS.push ?_ rfl)) (jval (by first | rfl | (simp only [hc2, hc3, hc4, e2, Bool.not_true, Bool.not_false, Bool.false_and, Bool.true_and, Bool.true_or, Bool.false_or]; done) | (simp [hc2, hc3, hc4, e2]; done) | simp_all))) | exact gt_imp (tO) (jk62 _ (KeepS.top (by repeat (first | exact KeepS.refl _ | refine KeepS.push ?_ rfl)) (jval (by first | rfl | (simp only [hc2, hc3, hc4, e2, Bool.not_true, Bool.not_false, Bool.false_and, Bool.true_and, Bool.true_or, Bool.false_or]; done) | (simp [hc2, hc3, hc4, e2]; done) | simp_all))))
    ·
     have hc4' := hc4
     replace hc4' := hs_ hc4'
     refine gt_skipS rfl (.no rfl rfl hc4) rfl ?_
     refine gt_skipS rfl (.no rfl rfl hc4) rfl ?_
     refine gt_skipS rfl (.no rfl rfl hc4) rfl ?_
     refine gt_vs rfl (.yes rfl rfl hc3) rfl (o_pickF hc4 rfl rfl) (tO) ?_
     refine gt_vs rfl .none rfl (o_pickF hc3 rfl rfl) (tO) ?_
     first | exact jk62 _ (KeepS.top (by repeat (first | exact KeepS.refl _ | refine KeepS.push ?_ rfl)) (jval (by first | rfl | (simp only [hc2, hc3, hc4, e2, Bool.not_true, Bool.not_false, Bool.false_and, Bool.true_and, Bool.true_or, Bool.false_or]; done) | (simp [hc2, hc3, hc4, e2]; done) | simp_all))) | exact gt_imp (tO) (jk62 _ (KeepS.top (by repeat (first | exact KeepS.refl _ | refine KeepS.push ?_ rfl)) (jval (by first | rfl | (simp only [hc2, hc3, hc4, e2, Bool.not_true, Bool.not_false, Bool.false_and, Bool.true_and, Bool.true_or, Bool.false_or]; done) | (simp [hc2, hc3, hc4, e2]; done) | simp_all))))
  ·
   have hc2' := hc2
   replace hc2' := hs_ hc2'
   refine gt_skipS rfl (.no rfl rfl hc2) rfl ?_
   refine gt_skipS rfl (.no rfl rfl hc2) rfl ?_
   refine gt_skipE rfl (.no rfl rfl hc2) rfl ?_
   refine gt_skipE rfl (.no rfl rfl hc2) rfl ?_
   refine gt_skipL rfl (.no rfl rfl hc2) rfl ?_
   refine gt_v rfl .none rfl (o_pickF hc2 rfl rfl) ?_
   refine gt_v rfl .none rfl (o_move rfl) ?_
   refine gt_v rfl (.yes rfl rfl rfl) rfl (o_move rfl) ?_
   refine gt_v rfl (.yes rfl rfl rfl) rfl (o_not rfl) ?_
   refine gt_v rfl (.yes rfl rfl rfl) rfl (o_move rfl) ?_
   refine gt_split (j := 20) rfl rfl (fun hc5 => ?_) (fun hc5 => ?_)
   ·
    have hc5' := hc5
    replace hc5' := hs_ hc5'
    first | refine gt_vs rfl (.yes rfl rfl hc5) rfl (o_fldS rfl) (tO) ?_ | refine gt_vs rfl (.yes rfl rfl hc5) rfl (o_fld rfl) (tO) ?_
    first | refine gt_vs rfl (.yes rfl rfl hc5) rfl (o_load rfl rfl) (tO) ?_ | refine gt_vs rfl (.yes rfl rfl hc5) rfl (o_loadS rfl rfl) (tO) ?_ | refine gt_vs rfl (.yes rfl rfl hc5) rfl (o_loadC rfl) (tO) ?_
    refine gt_vs rfl (.yes rfl rfl hc5) rfl (o_neqs rfl rfl) (tO) ?_
    refine gt_vs rfl (.yes rfl rfl rfl) rfl (o_pickT hc5 rfl rfl) (tO) ?_
    refine gt_vs rfl .none rfl (o_pickF rfl rfl rfl) (tO) ?_
    first | exact jk62 _ (KeepS.top (by repeat (first | exact KeepS.refl _ | refine KeepS.push ?_ rfl)) (jval (by first | rfl | (simp only [hc2, hc5, e2, Bool.not_true, Bool.not_false, Bool.false_and, Bool.true_and, Bool.true_or, Bool.false_or]; done) | (simp [hc2, hc5, e2]; done) | simp_all))) | exact gt_imp (tO) (jk62 _ (KeepS.top (by repeat (first | exact KeepS.refl _ | refine KeepS.push ?_ rfl)) (jval (by first | rfl | (simp only [hc2, hc5, e2, Bool.not_true, Bool.not_false, Bool.false_and, Bool.true_and, Bool.true_or, Bool.false_or]; done) | (simp [hc2, hc5, e2]; done) | simp_all))))
   ·
    have hc5' := hc5
    replace hc5' := hs_ hc5'
    refine gt_skipS rfl (.no rfl rfl hc5) rfl ?_
    refine gt_skipS rfl (.no rfl rfl hc5) rfl ?_
    refine gt_skipS rfl (.no rfl rfl hc5) rfl ?_
    refine gt_vs rfl (.yes rfl rfl rfl) rfl (o_pickF hc5 rfl rfl) (tO) ?_
    refine gt_vs rfl .none rfl (o_pickF rfl rfl rfl) (tO) ?_
    first | exact jk62 _ (KeepS.top (by repeat (first | exact KeepS.refl _ | refine KeepS.push ?_ rfl)) (jval (by first | rfl | (simp only [hc2, hc5, e2, Bool.not_true, Bool.not_false, Bool.false_and, Bool.true_and, Bool.true_or, Bool.false_or]; done) | (simp [hc2, hc5, e2]; done) | simp_all))) | exact gt_imp (tO) (jk62 _ (KeepS.top (by repeat (first | exact KeepS.refl _ | refine KeepS.push ?_ rfl)) (jval (by first | rfl | (simp only [hc2, hc5, e2, Bool.not_true, Bool.not_false, Bool.false_and, Bool.true_and, Bool.true_or, Bool.false_or]; done) | (simp [hc2, hc5, e2]; done) | simp_all))))
 refine gt_keep (Keep.cons (t := 175) rfl (Keep.cons (t := 158) rfl (Keep.cons (t := 140) rfl (Keep.cons (t := 122) rfl (Keep.cons (t := 99) rfl (Keep.cons (t := 82) rfl (Keep.cons (t := 64) rfl (Keep.cons (t := 62) rfl (Keep.cons (t := 45) rfl (Keep.cons (t := 36) rfl (Keep.cons (t := 35) rfl (Keep.cons (t := 34) rfl (Keep.cons (t := 33) rfl (Keep.cons (t := 32) rfl (Keep.cons (t := 31) rfl (Keep.cons (t := 30) rfl (Keep.cons (t := 29) rfl (Keep.cons (t := 28) rfl (Keep.cons (t := 27) rfl (Keep.cons (t := 26) rfl (Keep.cons (t := 25) rfl (Keep.cons (t := 24) rfl (Keep.cons (t := 23) rfl (Keep.cons (t := 22) rfl (Keep.cons (t := 21) rfl (Keep.cons (t := 20) rfl (Keep.cons (t := 19) rfl (Keep.cons (t := 18) rfl (Keep.cons (t := 17) rfl (Keep.cons (t := 16) rfl (Keep.cons (t := 15) rfl (Keep.cons (t := 14) rfl (Keep.cons (t := 13) rfl (Keep.cons (t := 12) rfl (Keep.cons (t := 11) rfl (Keep.cons (t := 10) rfl (Keep.cons (t := 9) rfl (Keep.cons (t := 8) rfl (Keep.cons (t := 6) rfl (Keep.cons (t := 5) rfl (Keep.cons (t := 4) rfl (Keep.cons (t := 3) rfl (Keep.cons (t := 2) rfl (Keep.cons (t := 1) rfl (Keep.cons (t := 0) rfl (Keep.nil)))))))))))))))))))))))))))))))))))))))))))))) ?_
 refine gt_vs rfl .none rfl (o_build rfl rfl) (tO) ?_
 refine gt_v rfl .none rfl (o_move rfl) ?_
 refine gt_join (d := 80) (.stab 44 (.loc 46 (.loc 47 (.loc 48 (.eff 49 (.loc 50 (.loc 51 (.loc 52 (.loc 53 (.loc 54 (.loc 55 (.loc 56 (.loc 57 (.loc 58 (.loc 59 (.loc 60 (.loc 61 (.loc 63 (.loc 64 (.loc 65 (.loc 66 (.loc 67 (.loc 68 (.loc 69 (.loc 70 (.loc 71 (.loc 72 (.loc 73 (.loc 74 (.loc 75 (.loc 76 (.loc 77 (.loc 78 (.loc 79 (.loc 80 (.loc 81 (.loc 82 (.loc 86 (.loc 87 (.loc 88 (.loc 89 (.loc 90 (.loc 91 (.loc 92 (.loc 93 (.loc 94 (.loc 95 (.loc 96 (.loc 97 (.loc 98 (.loc 99 (.loc 100 (.loc 104 (.loc 105 (.loc 106 (.loc 107 (.loc 108 (.loc 109 (.loc 110 (.loc 111 (.loc 112 (.loc 113 (.loc 114 (.loc 115 (.loc 116 (.loc 117 (.loc 118 (.loc 122 (.loc 123 (.loc 124 (.loc 125 (.loc 126 (.loc 127 (.loc 128 (.loc 129 (.loc 130 (.loc 131 (.loc 132 (.loc 133 (.loc 134 (.loc 135 (.loc 139 (.loc 140 (.loc 141 (.loc 142 (.loc 143 (.loc 144 (.loc 145 (.loc 146 (.loc 147 (.loc 148 (.eff 149 (.eff 150 (.loc 151 .nil) .nil) .nil))))))))))))))))))))))))))))))))))))))))))))))))))))))))))))))))))))))))))))))))))))))) .nil))))) (.bool (e3 e)) ?_ (fun jk80 => ?_)
 rotate_left
 ·
  refine gt_split (j := 28) rfl rfl (fun hc6 => ?_) (fun hc6 => ?_)
  ·
   have hc6' := hc6
   replace hc6' := hs_ hc6'
   first | refine gt_vs rfl (.yes rfl rfl hc6) rfl (o_fldS rfl) (tO) ?_ | refine gt_vs rfl (.yes rfl rfl hc6) rfl (o_fld rfl) (tO) ?_
   first | refine gt_vs rfl (.yes rfl rfl hc6) rfl (o_load rfl rfl) (tO) ?_ | refine gt_vs rfl (.yes rfl rfl hc6) rfl (o_loadS rfl rfl) (tO) ?_ | refine gt_vs rfl (.yes rfl rfl hc6) rfl (o_loadC rfl) (tO) ?_
   refine gt_n rfl (.yes rfl rfl hc6) rfl (o_buildS (cs := slots4.map S) rfl rfl rfl rfl) ?_
   rintro _ _ ⟨b66, rfl, rfl⟩
   refine ⟨(fun _ => (tO)), ?_⟩
   refine gt_c rfl (.yes rfl rfl hc6) rfl (o_call rfl (Con_str slots4 b66 4 e.slot rfl (by decide)) pA) ?_
   rintro _ R ⟨_, ⟨rfl, rfl⟩, rfl⟩
   try simp only [List.cons_append, List.nil_append]
   refine ⟨(fun _ => (tO)), ?_⟩
   refine gt_v rfl (.yes rfl rfl hc6) rfl (o_not rfl) ?_
   refine gt_v rfl .none rfl (o_pickT hc6 rfl rfl) ?_
   refine gt_v rfl .none rfl (o_move rfl) ?_
   refine gt_split (j := 35) rfl rfl (fun hc7 => ?_) (fun hc7 => ?_)
   ·
    have hc7' := hc7
    replace hc7' := hs_ hc7'
    refine gt_skipL rfl (.no rfl rfl hc7) rfl ?_
    refine gt_skipL rfl (.no rfl rfl hc7) rfl ?_
    refine gt_skipL rfl (.no rfl rfl hc7) rfl ?_
    refine gt_skipS rfl (.un rfl rfl) rfl ?_
    refine gt_skipS rfl (.un rfl rfl) rfl ?_
    refine gt_skipS rfl (.un rfl rfl) rfl ?_
    refine gt_skipS rfl (.no rfl rfl hc7) rfl ?_
    refine gt_vs rfl .none rfl (o_pickT hc7 rfl rfl) (tO) ?_
    first | exact jk80 _ (KeepS.top (by repeat (first | exact KeepS.refl _ | refine KeepS.push ?_ rfl)) (jval (by first | rfl | (simp only [hc6, hc7, e3, Bool.not_true, Bool.not_false, Bool.false_and, Bool.true_and, Bool.true_or, Bool.false_or]; done) | (simp [hc6, hc7, e3]; done) | simp_all))) | exact gt_imp (tO) (jk80 _ (KeepS.top (by repeat (first | exact KeepS.refl _ | refine KeepS.push ?_ rfl)) (jval (by first | rfl | (simp only [hc6, hc7, e3, Bool.not_true, Bool.not_false, Bool.false_and, Bool.true_and, Bool.true_or, Bool.false_or]; done) | (simp [hc6, hc7, e3]; done) | simp_all))))
   ·
    have hc7' := hc7
    replace hc7' := hs_ hc7'
    refine gt_v rfl (.yes rfl rfl hc7) rfl (o_move rfl) ?_
    refine gt_v rfl (.yes rfl rfl hc7) rfl (o_not rfl) ?_
    refine gt_v rfl (.yes rfl rfl hc7) rfl (o_move rfl) ?_
    refine gt_split (j := 38) rfl rfl (fun hc8 => ?_) (fun hc8 => ?_)
    ·
     have hc8' := hc8
     replace hc8' := hs_ hc8'
     first | refine gt_vs rfl (.yes rfl rfl hc8) rfl (o_fldS rfl) (tO) ?_ | refine gt_vs rfl (.yes rfl rfl hc8) rfl (o_fld rfl) (tO) ?_
     first | refine gt_vs rfl (.yes rfl rfl hc8) rfl (o_load rfl rfl) (tO) ?_ | refine gt_vs rfl (.yes rfl rfl hc8) rfl (o_loadS rfl rfl) (tO) ?_ | refine gt_vs rfl (.yes rfl rfl hc8) rfl (o_loadC rfl) (tO) ?_
     refine gt_vs rfl (.yes rfl rfl hc8) rfl (o_neqs rfl rfl) (tO) ?_
     refine gt_vs rfl (.yes rfl rfl hc7) rfl (o_pickT hc8 rfl rfl) (tO) ?_
     refine gt_vs rfl .none rfl (o_pickF hc7 rfl rfl) (tO) ?_
     first | exact jk80 _ (KeepS.top (by repeat (first | exact KeepS.refl _ | refine KeepS.push ?_ rfl)) (jval (by first | rfl | (simp only [hc6, hc7, hc8, e3, Bool.not_true, Bool.not_false, Bool.false_and, Bool.true_and, Bool.true_or, Bool.false_or]; done) | (simp [hc6, hc7, hc8, e3]; done) | simp_all))) | exact gt_imp (tO) (jk80 _ (KeepS.top (by repeat (first | exact KeepS.refl _ | refine KeepS.push ?_ rfl)) (jval (by first | rfl | (simp only [hc6, hc7, hc8, e3, Bool.not_true, Bool.not_false, Bool.false_and, Bool.true_and, Bool.true_or, Bool.false_or]; done) | (simp [hc6, hc7, hc8, e3]; done) | simp_all))))
    ·
     have hc8' := hc8
     replace hc8' := hs_ hc8'
     refine gt_skipS rfl (.no rfl rfl hc8) rfl ?_
     refine gt_skipS rfl (.no rfl rfl hc8) rfl ?_
     refine gt_skipS rfl (.no rfl rfl hc8) rfl ?_
     refine gt_vs rfl (.yes rfl rfl hc7) rfl (o_pickF hc8 rfl rfl) (tO) ?_
     refine gt_vs rfl .none rfl (o_pickF hc7 rfl rfl) (tO) ?_
     first | exact jk80 _ (KeepS.top (by repeat (first | exact KeepS.refl _ | refine KeepS.push ?_ rfl)) (jval (by first | rfl | (simp only [hc6, hc7, hc8, e3, Bool.not_true, Bool.not_false, Bool.false_and, Bool.true_and, Bool.true_or, Bool.false_or]; done) | (simp [hc6, hc7, hc8, e3]; done) | simp_all))) | exact gt_imp (tO) (jk80 _ (KeepS.top (by repeat (first | exact KeepS.refl _ | refine KeepS.push ?_ rfl)) (jval (by first | rfl | (simp only [hc6, hc7, hc8, e3, Bool.not_true, Bool.not_false, Bool.false_and, Bool.true_and, Bool.true_or, Bool.false_or]; done) | (simp [hc6, hc7, hc8, e3]; done) | simp_all))))
  ·
   have hc6' := hc6
   replace hc6' := hs_ hc6'
   refine gt_skipS rfl (.no rfl rfl hc6) rfl ?_
   refine gt_skipS rfl (.no rfl rfl hc6) rfl ?_
   refine gt_skipE rfl (.no rfl rfl hc6) rfl ?_
   refine gt_skipE rfl (.no rfl rfl hc6) rfl ?_
   refine gt_skipL rfl (.no rfl rfl hc6) rfl ?_
   refine gt_v rfl .none rfl (o_pickF hc6 rfl rfl) ?_
   refine gt_v rfl .none rfl (o_move rfl) ?_
   refine gt_v rfl (.yes rfl rfl rfl) rfl (o_move rfl) ?_
   refine gt_v rfl (.yes rfl rfl rfl) rfl (o_not rfl) ?_
   refine gt_v rfl (.yes rfl rfl rfl) rfl (o_move rfl) ?_
   refine gt_split (j := 38) rfl rfl (fun hc9 => ?_) (fun hc9 => ?_)
   ·
    have hc9' := hc9
    replace hc9' := hs_ hc9'
    first | refine gt_vs rfl (.yes rfl rfl hc9) rfl (o_fldS rfl) (tO) ?_ | refine gt_vs rfl (.yes rfl rfl hc9) rfl (o_fld rfl) (tO) ?_
    first | refine gt_vs rfl (.yes rfl rfl hc9) rfl (o_load rfl rfl) (tO) ?_ | refine gt_vs rfl (.yes rfl rfl hc9) rfl (o_loadS rfl rfl) (tO) ?_ | refine gt_vs rfl (.yes rfl rfl hc9) rfl (o_loadC rfl) (tO) ?_
    refine gt_vs rfl (.yes rfl rfl hc9) rfl (o_neqs rfl rfl) (tO) ?_
    refine gt_vs rfl (.yes rfl rfl rfl) rfl (o_pickT hc9 rfl rfl) (tO) ?_
    refine gt_vs rfl .none rfl (o_pickF rfl rfl rfl) (tO) ?_
    first | exact jk80 _ (KeepS.top (by repeat (first | exact KeepS.refl _ | refine KeepS.push ?_ rfl)) (jval (by first | rfl | (simp only [hc6, hc9, e3, Bool.not_true, Bool.not_false, Bool.false_and, Bool.true_and, Bool.true_or, Bool.false_or]; done) | (simp [hc6, hc9, e3]; done) | simp_all))) | exact gt_imp (tO) (jk80 _ (KeepS.top (by repeat (first | exact KeepS.refl _ | refine KeepS.push ?_ rfl)) (jval (by first | rfl | (simp only [hc6, hc9, e3, Bool.not_true, Bool.not_false, Bool.false_and, Bool.true_and, Bool.true_or, Bool.false_or]; done) | (simp [hc6, hc9, e3]; done) | simp_all))))
   ·
    have hc9' := hc9
    replace hc9' := hs_ hc9'
    refine gt_skipS rfl (.no rfl rfl hc9) rfl ?_
    refine gt_skipS rfl (.no rfl rfl hc9) rfl ?_
    refine gt_skipS rfl (.no rfl rfl hc9) rfl ?_
    refine gt_vs rfl (.yes rfl rfl rfl) rfl (o_pickF hc9 rfl rfl) (tO) ?_
    refine gt_vs rfl .none rfl (o_pickF rfl rfl rfl) (tO) ?_
    first | exact jk80 _ (KeepS.top (by repeat (first | exact KeepS.refl _ | refine KeepS.push ?_ rfl)) (jval (by first | rfl | (simp only [hc6, hc9, e3, Bool.not_true, Bool.not_false, Bool.false_and, Bool.true_and, Bool.true_or, Bool.false_or]; done) | (simp [hc6, hc9, e3]; done) | simp_all))) | exact gt_imp (tO) (jk80 _ (KeepS.top (by repeat (first | exact KeepS.refl _ | refine KeepS.push ?_ rfl)) (jval (by first | rfl | (simp only [hc6, hc9, e3, Bool.not_true, Bool.not_false, Bool.false_and, Bool.true_and, Bool.true_or, Bool.false_or]; done) | (simp [hc6, hc9, e3]; done) | simp_all))))
 refine gt_keep (Keep.cons (t := 175) rfl (Keep.cons (t := 158) rfl (Keep.cons (t := 140) rfl (Keep.cons (t := 122) rfl (Keep.cons (t := 99) rfl (Keep.cons (t := 82) rfl (Keep.cons (t := 80) rfl (Keep.cons (t := 63) rfl (Keep.cons (t := 45) rfl (Keep.cons (t := 36) rfl (Keep.cons (t := 35) rfl (Keep.cons (t := 34) rfl (Keep.cons (t := 33) rfl (Keep.cons (t := 32) rfl (Keep.cons (t := 31) rfl (Keep.cons (t := 30) rfl (Keep.cons (t := 29) rfl (Keep.cons (t := 28) rfl (Keep.cons (t := 27) rfl (Keep.cons (t := 26) rfl (Keep.cons (t := 25) rfl (Keep.cons (t := 24) rfl (Keep.cons (t := 23) rfl (Keep.cons (t := 22) rfl (Keep.cons (t := 21) rfl (Keep.cons (t := 20) rfl (Keep.cons (t := 19) rfl (Keep.cons (t := 18) rfl (Keep.cons (t := 17) rfl (Keep.cons (t := 16) rfl (Keep.cons (t := 15) rfl (Keep.cons (t := 14) rfl (Keep.cons (t := 13) rfl (Keep.cons (t := 12) rfl (Keep.cons (t := 11) rfl (Keep.cons (t := 10) rfl (Keep.cons (t := 9) rfl (Keep.cons (t := 8) rfl (Keep.cons (t := 6) rfl (Keep.cons (t := 5) rfl (Keep.cons (t := 4) rfl (Keep.cons (t := 3) rfl (Keep.cons (t := 2) rfl (Keep.cons (t := 1) rfl (Keep.cons (t := 0) rfl (Keep.nil)))))))))))))))))))))))))))))))))))))))))))))) ?_
 refine gt_vs rfl .none rfl (o_build rfl rfl) (tO) ?_
 refine gt_v rfl .none rfl (o_move rfl) ?_
 refine gt_join (d := 97) (.loc 61 (.loc 63 (.loc 64 (.loc 65 (.loc 66 (.loc 67 (.loc 68 (.loc 69 (.loc 70 (.loc 71 (.loc 72 (.loc 73 (.loc 74 (.loc 75 (.loc 76 (.loc 77 (.loc 78 (.loc 79 (.loc 80 (.loc 81 (.loc 82 (.loc 86 (.loc 87 (.loc 88 (.loc 89 (.loc 90 (.loc 91 (.loc 92 (.loc 93 (.loc 94 (.loc 95 (.loc 96 (.loc 97 (.loc 98 (.loc 99 (.loc 100 (.loc 104 (.loc 105 (.loc 106 (.loc 107 (.loc 108 (.loc 109 (.loc 110 (.loc 111 (.loc 112 (.loc 113 (.loc 114 (.loc 115 (.loc 116 (.loc 117 (.loc 118 (.loc 122 (.loc 123 (.loc 124 (.loc 125 (.loc 126 (.loc 127 (.loc 128 (.loc 129 (.loc 130 (.loc 131 (.loc 132 (.loc 133 (.loc 134 (.loc 135 (.loc 139 (.loc 140 (.loc 141 (.loc 142 (.loc 143 (.loc 144 (.loc 145 (.loc 146 (.loc 147 (.loc 148 (.eff 149 (.eff 150 (.loc 151 .nil) .nil) .nil)))))))))))))))))))))))))))))))))))))))))))))))))))))))))))))))))))))))))))) (.bool (e4 e)) ?_ (fun jk97 => ?_)
 rotate_left
 ·
  refine gt_split (j := 46) rfl rfl (fun hc10 => ?_) (fun hc10 => ?_)
  ·
   have hc10' := hc10
   replace hc10' := hs_ hc10'
   first | refine gt_v rfl (.yes rfl rfl hc10) rfl (o_fldS rfl) ?_ | refine gt_v rfl (.yes rfl rfl hc10) rfl (o_fld rfl) ?_
   first | refine gt_v rfl (.yes rfl rfl hc10) rfl (o_load rfl rfl) ?_ | refine gt_v rfl (.yes rfl rfl hc10) rfl (o_loadS rfl rfl) ?_ | refine gt_v rfl (.yes rfl rfl hc10) rfl (o_loadC rfl) ?_
   refine gt_c rfl (.yes rfl rfl hc10) rfl (o_call rfl (Name_spec (e.name) (by omega)) pA) ?_
   rintro _ R ⟨_, ⟨rfl, rfl⟩, rfl⟩
   try simp only [List.cons_append, List.nil_append]
   refine ⟨(fun _ => (tO)), ?_⟩
   refine gt_v rfl (.yes rfl rfl hc10) rfl (o_not rfl) ?_
   refine gt_v rfl .none rfl (o_pickT hc10 rfl rfl) ?_
   refine gt_v rfl .none rfl (o_move rfl) ?_
   refine gt_split (j := 52) rfl rfl (fun hc11 => ?_) (fun hc11 => ?_)
   ·
    have hc11' := hc11
    replace hc11' := hs_ hc11'
    refine gt_skipL rfl (.no rfl rfl hc11) rfl ?_
    refine gt_skipL rfl (.no rfl rfl hc11) rfl ?_
    refine gt_skipL rfl (.no rfl rfl hc11) rfl ?_
    refine gt_skipL rfl (.un rfl rfl) rfl ?_
    refine gt_skipL rfl (.un rfl rfl) rfl ?_
    refine gt_skipL rfl (.un rfl rfl) rfl ?_
    refine gt_skipL rfl (.no rfl rfl hc11) rfl ?_
    refine gt_v rfl .none rfl (o_pickT hc11 rfl rfl) ?_
    first | exact jk97 _ (KeepS.top (by repeat (first | exact KeepS.refl _ | refine KeepS.push ?_ rfl)) (jval (by first | rfl | (simp only [hc10, hc11, e4, Bool.not_true, Bool.not_false, Bool.false_and, Bool.true_and, Bool.true_or, Bool.false_or]; done) | (simp [hc10, hc11, e4]; done) | simp_all))) | exact gt_imp (tO) (jk97 _ (KeepS.top (by repeat (first | exact KeepS.refl _ | refine KeepS.push ?_ rfl)) (jval (by first | rfl | (simp only [hc10, hc11, e4, Bool.not_true, Bool.not_false, Bool.false_and, Bool.true_and, Bool.true_or, Bool.false_or]; done) | (simp [hc10, hc11, e4]; done) | simp_all))))
   ·
    have hc11' := hc11
    replace hc11' := hs_ hc11'
    refine gt_v rfl (.yes rfl rfl hc11) rfl (o_move rfl) ?_
    refine gt_v rfl (.yes rfl rfl hc11) rfl (o_not rfl) ?_
    refine gt_v rfl (.yes rfl rfl hc11) rfl (o_move rfl) ?_
    refine gt_split (j := 55) rfl rfl (fun hc12 => ?_) (fun hc12 => ?_)
    ·
     have hc12' := hc12
     replace hc12' := hs_ hc12'
     first | refine gt_v rfl (.yes rfl rfl hc12) rfl (o_fldS rfl) ?_ | refine gt_v rfl (.yes rfl rfl hc12) rfl (o_fld rfl) ?_
     first | refine gt_v rfl (.yes rfl rfl hc12) rfl (o_load rfl rfl) ?_ | refine gt_v rfl (.yes rfl rfl hc12) rfl (o_loadS rfl rfl) ?_ | refine gt_v rfl (.yes rfl rfl hc12) rfl (o_loadC rfl) ?_
     refine gt_v rfl (.yes rfl rfl hc12) rfl (o_neqs rfl rfl) ?_
     refine gt_v rfl (.yes rfl rfl hc11) rfl (o_pickT hc12 rfl rfl) ?_
     refine gt_v rfl .none rfl (o_pickF hc11 rfl rfl) ?_
     first | exact jk97 _ (KeepS.top (by repeat (first | exact KeepS.refl _ | refine KeepS.push ?_ rfl)) (jval (by first | rfl | (simp only [hc10, hc11, hc12, e4, Bool.not_true, Bool.not_false, Bool.false_and, Bool.true_and, Bool.true_or, Bool.false_or]; done) | (simp [hc10, hc11, hc12, e4]; done) | simp_all))) | exact gt_imp (tO) (jk97 _ (KeepS.top (by repeat (first | exact KeepS.refl _ | refine KeepS.push ?_ rfl)) (jval (by first | rfl | (simp only [hc10, hc11, hc12, e4, Bool.not_true, Bool.not_false, Bool.false_and, Bool.true_and, Bool.true_or, Bool.false_or]; done) | (simp [hc10, hc11, hc12, e4]; done) | simp_all))))
    ·
     have hc12' := hc12
     replace hc12' := hs_ hc12'
     refine gt_skipL rfl (.no rfl rfl hc12) rfl ?_
     refine gt_skipL rfl (.no rfl rfl hc12) rfl ?_
     refine gt_skipL rfl (.no rfl rfl hc12) rfl ?_
     refine gt_v rfl (.yes rfl rfl hc11) rfl (o_pickF hc12 rfl rfl) ?_
     refine gt_v rfl .none rfl (o_pickF hc11 rfl rfl) ?_
     first | exact jk97 _ (KeepS.top (by repeat (first | exact KeepS.refl _ | refine KeepS.push ?_ rfl)) (jval (by first | rfl | (simp only [hc10, hc11, hc12, e4, Bool.not_true, Bool.not_false, Bool.false_and, Bool.true_and, Bool.true_or, Bool.false_or]; done) | (simp [hc10, hc11, hc12, e4]; done) | simp_all))) | exact gt_imp (tO) (jk97 _ (KeepS.top (by repeat (first | exact KeepS.refl _ | refine KeepS.push ?_ rfl)) (jval (by first | rfl | (simp only [hc10, hc11, hc12, e4, Bool.not_true, Bool.not_false, Bool.false_and, Bool.true_and, Bool.true_or, Bool.false_or]; done) | (simp [hc10, hc11, hc12, e4]; done) | simp_all))))
  ·
   have hc10' := hc10
   replace hc10' := hs_ hc10'
   refine gt_skipL rfl (.no rfl rfl hc10) rfl ?_
   refine gt_skipL rfl (.no rfl rfl hc10) rfl ?_
   refine gt_skipE rfl (.no rfl rfl hc10) rfl ?_
   refine gt_skipL rfl (.no rfl rfl hc10) rfl ?_
   refine gt_v rfl .none rfl (o_pickF hc10 rfl rfl) ?_
   refine gt_v rfl .none rfl (o_move rfl) ?_
   refine gt_v rfl (.yes rfl rfl rfl) rfl (o_move rfl) ?_
   refine gt_v rfl (.yes rfl rfl rfl) rfl (o_not rfl) ?_
   refine gt_v rfl (.yes rfl rfl rfl) rfl (o_move rfl) ?_
   refine gt_split (j := 55) rfl rfl (fun hc13 => ?_) (fun hc13 => ?_)
   ·
    have hc13' := hc13
    replace hc13' := hs_ hc13'
    first | refine gt_v rfl (.yes rfl rfl hc13) rfl (o_fldS rfl) ?_ | refine gt_v rfl (.yes rfl rfl hc13) rfl (o_fld rfl) ?_
    first | refine gt_v rfl (.yes rfl rfl hc13) rfl (o_load rfl rfl) ?_ | refine gt_v rfl (.yes rfl rfl hc13) rfl (o_loadS rfl rfl) ?_ | refine gt_v rfl (.yes rfl rfl hc13) rfl (o_loadC rfl) ?_
    refine gt_v rfl (.yes rfl rfl hc13) rfl (o_neqs rfl rfl) ?_
    refine gt_v rfl (.yes rfl rfl rfl) rfl (o_pickT hc13 rfl rfl) ?_
    refine gt_v rfl .none rfl (o_pickF rfl rfl rfl) ?_
    first | exact jk97 _ (KeepS.top (by repeat (first | exact KeepS.refl _ | refine KeepS.push ?_ rfl)) (jval (by first | rfl | (simp only [hc10, hc13, e4, Bool.not_true, Bool.not_false, Bool.false_and, Bool.true_and, Bool.true_or, Bool.false_or]; done) | (simp [hc10, hc13, e4]; done) | simp_all))) | exact gt_imp (tO) (jk97 _ (KeepS.top (by repeat (first | exact KeepS.refl _ | refine KeepS.push ?_ rfl)) (jval (by first | rfl | (simp only [hc10, hc13, e4, Bool.not_true, Bool.not_false, Bool.false_and, Bool.true_and, Bool.true_or, Bool.false_or]; done) | (simp [hc10, hc13, e4]; done) | simp_all))))
   ·
    have hc13' := hc13
    replace hc13' := hs_ hc13'
    refine gt_skipL rfl (.no rfl rfl hc13) rfl ?_
    refine gt_skipL rfl (.no rfl rfl hc13) rfl ?_
    refine gt_skipL rfl (.no rfl rfl hc13) rfl ?_
    refine gt_v rfl (.yes rfl rfl rfl) rfl (o_pickF hc13 rfl rfl) ?_
    refine gt_v rfl .none rfl (o_pickF rfl rfl rfl) ?_
    first | exact jk97 _ (KeepS.top (by repeat (first | exact KeepS.refl _ | refine KeepS.push ?_ rfl)) (jval (by first | rfl | (simp only [hc10, hc13, e4, Bool.not_true, Bool.not_false, Bool.false_and, Bool.true_and, Bool.true_or, Bool.false_or]; done) | (simp [hc10, hc13, e4]; done) | simp_all))) | exact gt_imp (tO) (jk97 _ (KeepS.top (by repeat (first | exact KeepS.refl _ | refine KeepS.push ?_ rfl)) (jval (by first | rfl | (simp only [hc10, hc13, e4, Bool.not_true, Bool.not_false, Bool.false_and, Bool.true_and, Bool.true_or, Bool.false_or]; done) | (simp [hc10, hc13, e4]; done) | simp_all))))
 refine gt_keep (Keep.cons (t := 175) rfl (Keep.cons (t := 158) rfl (Keep.cons (t := 140) rfl (Keep.cons (t := 122) rfl (Keep.cons (t := 99) rfl (Keep.cons (t := 97) rfl (Keep.cons (t := 81) rfl (Keep.cons (t := 63) rfl (Keep.cons (t := 45) rfl (Keep.cons (t := 36) rfl (Keep.cons (t := 35) rfl (Keep.cons (t := 34) rfl (Keep.cons (t := 33) rfl (Keep.cons (t := 32) rfl (Keep.cons (t := 31) rfl (Keep.cons (t := 30) rfl (Keep.cons (t := 29) rfl (Keep.cons (t := 28) rfl (Keep.cons (t := 27) rfl (Keep.cons (t := 26) rfl (Keep.cons (t := 25) rfl (Keep.cons (t := 24) rfl (Keep.cons (t := 23) rfl (Keep.cons (t := 22) rfl (Keep.cons (t := 21) rfl (Keep.cons (t := 20) rfl (Keep.cons (t := 19) rfl (Keep.cons (t := 18) rfl (Keep.cons (t := 17) rfl (Keep.cons (t := 16) rfl (Keep.cons (t := 15) rfl (Keep.cons (t := 14) rfl (Keep.cons (t := 13) rfl (Keep.cons (t := 12) rfl (Keep.cons (t := 11) rfl (Keep.cons (t := 10) rfl (Keep.cons (t := 9) rfl (Keep.cons (t := 8) rfl (Keep.cons (t := 6) rfl (Keep.cons (t := 5) rfl (Keep.cons (t := 4) rfl (Keep.cons (t := 3) rfl (Keep.cons (t := 2) rfl (Keep.cons (t := 1) rfl (Keep.cons (t := 0) rfl (Keep.nil)))))))))))))))))))))))))))))))))))))))))))))) ?_
 refine gt_v rfl .none rfl (o_build rfl rfl) ?_
 refine gt_v rfl .none rfl (o_move rfl) ?_
 refine gt_join (d := 118) (.loc 82 (.loc 86 (.loc 87 (.loc 88 (.loc 89 (.loc 90 (.loc 91 (.loc 92 (.loc 93 (.loc 94 (.loc 95 (.loc 96 (.loc 97 (.loc 98 (.loc 99 (.loc 100 (.loc 104 (.loc 105 (.loc 106 (.loc 107 (.loc 108 (.loc 109 (.loc 110 (.loc 111 (.loc 112 (.loc 113 (.loc 114 (.loc 115 (.loc 116 (.loc 117 (.loc 118 (.loc 122 (.loc 123 (.loc 124 (.loc 125 (.loc 126 (.loc 127 (.loc 128 (.loc 129 (.loc 130 (.loc 131 (.loc 132 (.loc 133 (.loc 134 (.loc 135 (.loc 139 (.loc 140 (.loc 141 (.loc 142 (.loc 143 (.loc 144 (.loc 145 (.loc 146 (.loc 147 (.loc 148 (.eff 149 (.eff 150 (.loc 151 .nil) .nil) .nil)))))))))))))))))))))))))))))))))))))))))))))))))))))))) (.bool (e5 e)) ?_ (fun jk118 => ?_)
 rotate_left
 ·
  refine gt_split (j := 63) rfl rfl (fun hc14 => ?_) (fun hc14 => ?_)
  ·
   have hc14' := hc14
   replace hc14' := hs_ hc14'
   first | refine gt_v rfl (.yes rfl rfl hc14) rfl (o_fldS rfl) ?_ | refine gt_v rfl (.yes rfl rfl hc14) rfl (o_fld rfl) ?_
   first | refine gt_v rfl (.yes rfl rfl hc14) rfl (o_load rfl rfl) ?_ | refine gt_v rfl (.yes rfl rfl hc14) rfl (o_loadS rfl rfl) ?_ | refine gt_v rfl (.yes rfl rfl hc14) rfl (o_loadC rfl) ?_
   refine gt_v rfl (.yes rfl rfl hc14) rfl (o_lss rfl rfl) ?_
   refine gt_v rfl (.yes rfl rfl hc14) rfl (o_move rfl) ?_
   refine gt_split (j := 67) rfl rfl (fun hc15 => ?_) (fun hc15 => ?_)
   ·
    have hc15' := hc15
    replace hc15' := hs_ hc15'
    refine gt_skipL rfl (.no rfl rfl hc15) rfl ?_
    refine gt_skipL rfl (.no rfl rfl hc15) rfl ?_
    refine gt_skipL rfl (.no rfl rfl hc15) rfl ?_
    refine gt_v rfl (.yes rfl rfl hc14) rfl (o_pickT hc15 rfl rfl) ?_
    refine gt_v rfl .none rfl (o_pickT hc14 rfl rfl) ?_
    refine gt_v rfl .none rfl (o_move rfl) ?_
    refine gt_skipL rfl (.no rfl rfl rfl) rfl ?_
    refine gt_skipL rfl (.no rfl rfl rfl) rfl ?_
    refine gt_skipL rfl (.no rfl rfl rfl) rfl ?_
    refine gt_skipL rfl (.un rfl rfl) rfl ?_
    refine gt_skipL rfl (.un rfl rfl) rfl ?_
    refine gt_skipL rfl (.un rfl rfl) rfl ?_
    refine gt_skipL rfl (.no rfl rfl rfl) rfl ?_
    refine gt_v rfl .none rfl (o_pickT rfl rfl rfl) ?_
    first | exact jk118 _ (KeepS.top (by repeat (first | exact KeepS.refl _ | refine KeepS.push ?_ rfl)) (jval (by first | rfl | (simp only [hc14, hc15, e5, Bool.not_true, Bool.not_false, Bool.false_and, Bool.true_and, Bool.true_or, Bool.false_or]; done) | (simp [hc14, hc15, e5]; done) | simp_all))) | exact gt_imp (tO) (jk118 _ (KeepS.top (by repeat (first | exact KeepS.refl _ | refine KeepS.push ?_ rfl)) (jval (by first | rfl | (simp only [hc14, hc15, e5, Bool.not_true, Bool.not_false, Bool.false_and, Bool.true_and, Bool.true_or, Bool.false_or]; done) | (simp [hc14, hc15, e5]; done) | simp_all))))
   ·
    have hc15' := hc15
    replace hc15' := hs_ hc15'
    first | refine gt_v rfl (.yes rfl rfl hc15) rfl (o_fldS rfl) ?_ | refine gt_v rfl (.yes rfl rfl hc15) rfl (o_fld rfl) ?_
    first | refine gt_v rfl (.yes rfl rfl hc15) rfl (o_load rfl rfl) ?_ | refine gt_v rfl (.yes rfl rfl hc15) rfl (o_loadS rfl rfl) ?_ | refine gt_v rfl (.yes rfl rfl hc15) rfl (o_loadC rfl) ?_
    refine gt_v rfl (.yes rfl rfl hc15) rfl (o_gtr rfl rfl) ?_
    refine gt_v rfl (.yes rfl rfl hc14) rfl (o_pickF hc15 rfl rfl) ?_
    refine gt_v rfl .none rfl (o_pickT hc14 rfl rfl) ?_
    refine gt_v rfl .none rfl (o_move rfl) ?_
    refine gt_split (j := 73) rfl rfl (fun hc16 => ?_) (fun hc16 => ?_)
    ·
     have hc16' := hc16
     replace hc16' := hs_ hc16'
     refine gt_skipL rfl (.no rfl rfl hc16) rfl ?_
     refine gt_skipL rfl (.no rfl rfl hc16) rfl ?_
     refine gt_skipL rfl (.no rfl rfl hc16) rfl ?_
     refine gt_skipL rfl (.un rfl rfl) rfl ?_
     refine gt_skipL rfl (.un rfl rfl) rfl ?_
     refine gt_skipL rfl (.un rfl rfl) rfl ?_
     refine gt_skipL rfl (.no rfl rfl hc16) rfl ?_
     refine gt_v rfl .none rfl (o_pickT hc16 rfl rfl) ?_
     first | exact jk118 _ (KeepS.top (by repeat (first | exact KeepS.refl _ | refine KeepS.push ?_ rfl)) (jval (by first | rfl | (simp only [hc14, hc15, hc16, e5, Bool.not_true, Bool.not_false, Bool.false_and, Bool.true_and, Bool.true_or, Bool.false_or]; done) | (simp [hc14, hc15, hc16, e5]; done) | simp_all))) | exact gt_imp (tO) (jk118 _ (KeepS.top (by repeat (first | exact KeepS.refl _ | refine KeepS.push ?_ rfl)) (jval (by first | rfl | (simp only [hc14, hc15, hc16, e5, Bool.not_true, Bool.not_false, Bool.false_and, Bool.true_and, Bool.true_or, Bool.false_or]; done) | (simp [hc14, hc15, hc16, e5]; done) | simp_all))))
    ·
     have hc16' := hc16
     replace hc16' := hs_ hc16'
     refine gt_v rfl (.yes rfl rfl hc16) rfl (o_move rfl) ?_
     refine gt_v rfl (.yes rfl rfl hc16) rfl (o_not rfl) ?_
     refine gt_v rfl (.yes rfl rfl hc16) rfl (o_move rfl) ?_
     refine gt_split (j := 76) rfl rfl (fun hc17 => ?_) (fun hc17 => ?_)
     ·
      have hc17' := hc17
      replace hc17' := hs_ hc17'
      first | refine gt_v rfl (.yes rfl rfl hc17) rfl (o_fldS rfl) ?_ | refine gt_v rfl (.yes rfl rfl hc17) rfl (o_fld rfl) ?_
      first | refine gt_v rfl (.yes rfl rfl hc17) rfl (o_load rfl rfl) ?_ | refine gt_v rfl (.yes rfl rfl hc17) rfl (o_loadS rfl rfl) ?_ | refine gt_v rfl (.yes rfl rfl hc17) rfl (o_loadC rfl) ?_
      refine gt_v rfl (.yes rfl rfl hc17) rfl (o_neq rfl rfl) ?_
      refine gt_v rfl (.yes rfl rfl hc16) rfl (o_pickT hc17 rfl rfl) ?_
      refine gt_v rfl .none rfl (o_pickF hc16 rfl rfl) ?_
      first | exact jk118 _ (KeepS.top (by repeat (first | exact KeepS.refl _ | refine KeepS.push ?_ rfl)) (jval (by first | rfl | (simp only [hc14, hc15, hc16, hc17, e5, Bool.not_true, Bool.not_false, Bool.false_and, Bool.true_and, Bool.true_or, Bool.false_or]; done) | (simp [hc14, hc15, hc16, hc17, e5]; done) | simp_all))) | exact gt_imp (tO) (jk118 _ (KeepS.top (by repeat (first | exact KeepS.refl _ | refine KeepS.push ?_ rfl)) (jval (by first | rfl | (simp only [hc14, hc15, hc16, hc17, e5, Bool.not_true, Bool.not_false, Bool.false_and, Bool.true_and, Bool.true_or, Bool.false_or]; done) | (simp [hc14, hc15, hc16, hc17, e5]; done) | simp_all))))
     ·
      have hc17' := hc17
      replace hc17' := hs_ hc17'
      refine gt_skipL rfl (.no rfl rfl hc17) rfl ?_
      refine gt_skipL rfl (.no rfl rfl hc17) rfl ?_
      refine gt_skipL rfl (.no rfl rfl hc17) rfl ?_
      refine gt_v rfl (.yes rfl rfl hc16) rfl (o_pickF hc17 rfl rfl) ?_
      refine gt_v rfl .none rfl (o_pickF hc16 rfl rfl) ?_
      first | exact jk118 _ (KeepS.top (by repeat (first | exact KeepS.refl _ | refine KeepS.push ?_ rfl)) (jval (by first | rfl | (simp only [hc14, hc15, hc16, hc17, e5, Bool.not_true, Bool.not_false, Bool.false_and, Bool.true_and, Bool.true_or, Bool.false_or]; done) | (simp [hc14, hc15, hc16, hc17, e5]; done) | simp_all))) | exact gt_imp (tO) (jk118 _ (KeepS.top (by repeat (first | exact KeepS.refl _ | refine KeepS.push ?_ rfl)) (jval (by first | rfl | (simp only [hc14, hc15, hc16, hc17, e5, Bool.not_true, Bool.not_false, Bool.false_and, Bool.true_and, Bool.true_or, Bool.false_or]; done) | (simp [hc14, hc15, hc16, hc17, e5]; done) | simp_all))))
  ·
   have hc14' := hc14
   replace hc14' := hs_ hc14'
   refine gt_skipL rfl (.no rfl rfl hc14) rfl ?_
   refine gt_skipL rfl (.no rfl rfl hc14) rfl ?_
   refine gt_skipL rfl (.no rfl rfl hc14) rfl ?_
   refine gt_skipL rfl (.no rfl rfl hc14) rfl ?_
   refine gt_skipL rfl (.un rfl rfl) rfl ?_
   refine gt_skipL rfl (.un rfl rfl) rfl ?_
   refine gt_skipL rfl (.un rfl rfl) rfl ?_
   refine gt_skipL rfl (.no rfl rfl hc14) rfl ?_
   refine gt_v rfl .none rfl (o_pickF hc14 rfl rfl) ?_
   refine gt_v rfl .none rfl (o_move rfl) ?_
   refine gt_v rfl (.yes rfl rfl rfl) rfl (o_move rfl) ?_
   refine gt_v rfl (.yes rfl rfl rfl) rfl (o_not rfl) ?_
   refine gt_v rfl (.yes rfl rfl rfl) rfl (o_move rfl) ?_
   refine gt_split (j := 76) rfl rfl (fun hc18 => ?_) (fun hc18 => ?_)
   ·
    have hc18' := hc18
    replace hc18' := hs_ hc18'
    first | refine gt_v rfl (.yes rfl rfl hc18) rfl (o_fldS rfl) ?_ | refine gt_v rfl (.yes rfl rfl hc18) rfl (o_fld rfl) ?_
    first | refine gt_v rfl (.yes rfl rfl hc18) rfl (o_load rfl rfl) ?_ | refine gt_v rfl (.yes rfl rfl hc18) rfl (o_loadS rfl rfl) ?_ | refine gt_v rfl (.yes rfl rfl hc18) rfl (o_loadC rfl) ?_
    refine gt_v rfl (.yes rfl rfl hc18) rfl (o_neq rfl rfl) ?_
    refine gt_v rfl (.yes rfl rfl rfl) rfl (o_pickT hc18 rfl rfl) ?_
    refine gt_v rfl .none rfl (o_pickF rfl rfl rfl) ?_
    first | exact jk118 _ (KeepS.top (by repeat (first | exact KeepS.refl _ | refine KeepS.push ?_ rfl)) (jval (by first | rfl | (simp only [hc14, hc18, e5, Bool.not_true, Bool.not_false, Bool.false_and, Bool.true_and, Bool.true_or, Bool.false_or]; done) | (simp [hc14, hc18, e5]; done) | simp_all))) | exact gt_imp (tO) (jk118 _ (KeepS.top (by repeat (first | exact KeepS.refl _ | refine KeepS.push ?_ rfl)) (jval (by first | rfl | (simp only [hc14, hc18, e5, Bool.not_true, Bool.not_false, Bool.false_and, Bool.true_and, Bool.true_or, Bool.false_or]; done) | (simp [hc14, hc18, e5]; done) | simp_all))))
   ·
    have hc18' := hc18
    replace hc18' := hs_ hc18'
    refine gt_skipL rfl (.no rfl rfl hc18) rfl ?_
    refine gt_skipL rfl (.no rfl rfl hc18) rfl ?_
    refine gt_skipL rfl (.no rfl rfl hc18) rfl ?_
    refine gt_v rfl (.yes rfl rfl rfl) rfl (o_pickF hc18 rfl rfl) ?_
    refine gt_v rfl .none rfl (o_pickF rfl rfl rfl) ?_
    first | exact jk118 _ (KeepS.top (by repeat (first | exact KeepS.refl _ | refine KeepS.push ?_ rfl)) (jval (by first | rfl | (simp only [hc14, hc18, e5, Bool.not_true, Bool.not_false, Bool.false_and, Bool.true_and, Bool.true_or, Bool.false_or]; done) | (simp [hc14, hc18, e5]; done) | simp_all))) | exact gt_imp (tO) (jk118 _ (KeepS.top (by repeat (first | exact KeepS.refl _ | refine KeepS.push ?_ rfl)) (jval (by first | rfl | (simp only [hc14, hc18, e5, Bool.not_true, Bool.not_false, Bool.false_and, Bool.true_and, Bool.true_or, Bool.false_or]; done) | (simp [hc14, hc18, e5]; done) | simp_all))))
 refine gt_keep (Keep.cons (t := 175) rfl (Keep.cons (t := 158) rfl (Keep.cons (t := 140) rfl (Keep.cons (t := 122) rfl (Keep.cons (t := 118) rfl (Keep.cons (t := 98) rfl (Keep.cons (t := 81) rfl (Keep.cons (t := 63) rfl (Keep.cons (t := 45) rfl (Keep.cons (t := 36) rfl (Keep.cons (t := 35) rfl (Keep.cons (t := 34) rfl (Keep.cons (t := 33) rfl (Keep.cons (t := 32) rfl (Keep.cons (t := 31) rfl (Keep.cons (t := 30) rfl (Keep.cons (t := 29) rfl (Keep.cons (t := 28) rfl (Keep.cons (t := 27) rfl (Keep.cons (t := 26) rfl (Keep.cons (t := 25) rfl (Keep.cons (t := 24) rfl (Keep.cons (t := 23) rfl (Keep.cons (t := 22) rfl (Keep.cons (t := 21) rfl (Keep.cons (t := 20) rfl (Keep.cons (t := 19) rfl (Keep.cons (t := 18) rfl (Keep.cons (t := 17) rfl (Keep.cons (t := 16) rfl (Keep.cons (t := 15) rfl (Keep.cons (t := 14) rfl (Keep.cons (t := 13) rfl (Keep.cons (t := 12) rfl (Keep.cons (t := 11) rfl (Keep.cons (t := 10) rfl (Keep.cons (t := 9) rfl (Keep.cons (t := 8) rfl (Keep.cons (t := 6) rfl (Keep.cons (t := 5) rfl (Keep.cons (t := 4) rfl (Keep.cons (t := 3) rfl (Keep.cons (t := 2) rfl (Keep.cons (t := 1) rfl (Keep.cons (t := 0) rfl (Keep.nil)))))))))))))))))))))))))))))))))))))))))))))) ?_
 refine gt_v rfl .none rfl (o_build rfl rfl) ?_
 refine gt_v rfl .none rfl (o_move rfl) ?_
 refine gt_join (d := 136) (.loc 100 (.loc 104 (.loc 105 (.loc 106 (.loc 107 (.loc 108 (.loc 109 (.loc 110 (.loc 111 (.loc 112 (.loc 113 (.loc 114 (.loc 115 (.loc 116 (.loc 117 (.loc 118 (.loc 122 (.loc 123 (.loc 124 (.loc 125 (.loc 126 (.loc 127 (.loc 128 (.loc 129 (.loc 130 (.loc 131 (.loc 132 (.loc 133 (.loc 134 (.loc 135 (.loc 139 (.loc 140 (.loc 141 (.loc 142 (.loc 143 (.loc 144 (.loc 145 (.loc 146 (.loc 147 (.loc 148 (.eff 149 (.eff 150 (.loc 151 .nil) .nil) .nil))))))))))))))))))))))))))))))))))))))))) (.bool (e6 e)) ?_ (fun jk136 => ?_)
 rotate_left
 ·
  refine gt_split (j := 86) rfl rfl (fun hc19 => ?_) (fun hc19 => ?_)
  ·
   have hc19' := hc19
   replace hc19' := hs_ hc19'
   refine gt_skipL rfl (.no rfl rfl hc19) rfl ?_
   refine gt_skipL rfl (.no rfl rfl hc19) rfl ?_
   refine gt_skipL rfl (.no rfl rfl hc19) rfl ?_
   refine gt_v rfl .none rfl (o_pickT hc19 rfl rfl) ?_
   refine gt_v rfl .none rfl (o_move rfl) ?_
   refine gt_skipL rfl (.no rfl rfl rfl) rfl ?_
   refine gt_skipL rfl (.no rfl rfl rfl) rfl ?_
   refine gt_skipL rfl (.no rfl rfl rfl) rfl ?_
   refine gt_skipL rfl (.un rfl rfl) rfl ?_
   refine gt_skipL rfl (.un rfl rfl) rfl ?_
   refine gt_skipL rfl (.un rfl rfl) rfl ?_
   refine gt_skipL rfl (.no rfl rfl rfl) rfl ?_
   refine gt_v rfl .none rfl (o_pickT rfl rfl rfl) ?_
   first | exact jk136 _ (KeepS.top (by repeat (first | exact KeepS.refl _ | refine KeepS.push ?_ rfl)) (jval (by first | rfl | (simp only [hc19, e6, Bool.not_true, Bool.not_false, Bool.false_and, Bool.true_and, Bool.true_or, Bool.false_or]; done) | (simp [hc19, e6]; done) | simp_all))) | exact gt_imp (tO) (jk136 _ (KeepS.top (by repeat (first | exact KeepS.refl _ | refine KeepS.push ?_ rfl)) (jval (by first | rfl | (simp only [hc19, e6, Bool.not_true, Bool.not_false, Bool.false_and, Bool.true_and, Bool.true_or, Bool.false_or]; done) | (simp [hc19, e6]; done) | simp_all))))
  ·
   have hc19' := hc19
   replace hc19' := hs_ hc19'
   first | refine gt_v rfl (.yes rfl rfl hc19) rfl (o_fldS rfl) ?_ | refine gt_v rfl (.yes rfl rfl hc19) rfl (o_fld rfl) ?_
   first | refine gt_v rfl (.yes rfl rfl hc19) rfl (o_load rfl rfl) ?_ | refine gt_v rfl (.yes rfl rfl hc19) rfl (o_loadS rfl rfl) ?_ | refine gt_v rfl (.yes rfl rfl hc19) rfl (o_loadC rfl) ?_
   refine gt_v rfl (.yes rfl rfl hc19) rfl (o_gtr rfl rfl) ?_
   refine gt_v rfl .none rfl (o_pickF hc19 rfl rfl) ?_
   refine gt_v rfl .none rfl (o_move rfl) ?_
   refine gt_split (j := 91) rfl rfl (fun hc20 => ?_) (fun hc20 => ?_)
   ·
    have hc20' := hc20
    replace hc20' := hs_ hc20'
    refine gt_skipL rfl (.no rfl rfl hc20) rfl ?_
    refine gt_skipL rfl (.no rfl rfl hc20) rfl ?_
    refine gt_skipL rfl (.no rfl rfl hc20) rfl ?_
    refine gt_skipL rfl (.un rfl rfl) rfl ?_
    refine gt_skipL rfl (.un rfl rfl) rfl ?_
    refine gt_skipL rfl (.un rfl rfl) rfl ?_
    refine gt_skipL rfl (.no rfl rfl hc20) rfl ?_
    refine gt_v rfl .none rfl (o_pickT hc20 rfl rfl) ?_
    first | exact jk136 _ (KeepS.top (by repeat (first | exact KeepS.refl _ | refine KeepS.push ?_ rfl)) (jval (by first | rfl | (simp only [hc19, hc20, e6, Bool.not_true, Bool.not_false, Bool.false_and, Bool.true_and, Bool.true_or, Bool.false_or]; done) | (simp [hc19, hc20, e6]; done) | simp_all))) | exact gt_imp (tO) (jk136 _ (KeepS.top (by repeat (first | exact KeepS.refl _ | refine KeepS.push ?_ rfl)) (jval (by first | rfl | (simp only [hc19, hc20, e6, Bool.not_true, Bool.not_false, Bool.false_and, Bool.true_and, Bool.true_or, Bool.false_or]; done) | (simp [hc19, hc20, e6]; done) | simp_all))))
   ·
    have hc20' := hc20
    replace hc20' := hs_ hc20'
    refine gt_v rfl (.yes rfl rfl hc20) rfl (o_move rfl) ?_
    refine gt_v rfl (.yes rfl rfl hc20) rfl (o_not rfl) ?_
    refine gt_v rfl (.yes rfl rfl hc20) rfl (o_move rfl) ?_
    refine gt_split (j := 94) rfl rfl (fun hc21 => ?_) (fun hc21 => ?_)
    ·
     have hc21' := hc21
     replace hc21' := hs_ hc21'
     first | refine gt_v rfl (.yes rfl rfl hc21) rfl (o_fldS rfl) ?_ | refine gt_v rfl (.yes rfl rfl hc21) rfl (o_fld rfl) ?_
     first | refine gt_v rfl (.yes rfl rfl hc21) rfl (o_load rfl rfl) ?_ | refine gt_v rfl (.yes rfl rfl hc21) rfl (o_loadS rfl rfl) ?_ | refine gt_v rfl (.yes rfl rfl hc21) rfl (o_loadC rfl) ?_
     refine gt_v rfl (.yes rfl rfl hc21) rfl (o_neq rfl rfl) ?_
     refine gt_v rfl (.yes rfl rfl hc20) rfl (o_pickT hc21 rfl rfl) ?_
     refine gt_v rfl .none rfl (o_pickF hc20 rfl rfl) ?_
     first | exact jk136 _ (KeepS.top (by repeat (first | exact KeepS.refl _ | refine KeepS.push ?_ rfl)) (jval (by first | rfl | (simp only [hc19, hc20, hc21, e6, Bool.not_true, Bool.not_false, Bool.false_and, Bool.true_and, Bool.true_or, Bool.false_or]; done) | (simp [hc19, hc20, hc21, e6]; done) | simp_all))) | exact gt_imp (tO) (jk136 _ (KeepS.top (by repeat (first | exact KeepS.refl _ | refine KeepS.push ?_ rfl)) (jval (by first | rfl | (simp only [hc19, hc20, hc21, e6, Bool.not_true, Bool.not_false, Bool.false_and, Bool.true_and, Bool.true_or, Bool.false_or]; done) | (simp [hc19, hc20, hc21, e6]; done) | simp_all))))
    ·
     have hc21' := hc21
     replace hc21' := hs_ hc21'
     refine gt_skipL rfl (.no rfl rfl hc21) rfl ?_
     refine gt_skipL rfl (.no rfl rfl hc21) rfl ?_
     refine gt_skipL rfl (.no rfl rfl hc21) rfl ?_
     refine gt_v rfl (.yes rfl rfl hc20) rfl (o_pickF hc21 rfl rfl) ?_
     refine gt_v rfl .none rfl (o_pickF hc20 rfl rfl) ?_
     first | exact jk136 _ (KeepS.top (by repeat (first | exact KeepS.refl _ | refine KeepS.push ?_ rfl)) (jval (by first | rfl | (simp only [hc19, hc20, hc21, e6, Bool.not_true, Bool.not_false, Bool.false_and, Bool.true_and, Bool.true_or, Bool.false_or]; done) | (simp [hc19, hc20, hc21, e6]; done) | simp_all))) | exact gt_imp (tO) (jk136 _ (KeepS.top (by repeat (first | exact KeepS.refl _ | refine KeepS.push ?_ rfl)) (jval (by first | rfl | (simp only [hc19, hc20, hc21, e6, Bool.not_true, Bool.not_false, Bool.false_and, Bool.true_and, Bool.true_or, Bool.false_or]; done) | (simp [hc19, hc20, hc21, e6]; done) | simp_all))))
 refine gt_keep (Keep.cons (t := 175) rfl (Keep.cons (t := 158) rfl (Keep.cons (t := 140) rfl (Keep.cons (t := 136) rfl (Keep.cons (t := 119) rfl (Keep.cons (t := 98) rfl (Keep.cons (t := 81) rfl (Keep.cons (t := 63) rfl (Keep.cons (t := 45) rfl (Keep.cons (t := 36) rfl (Keep.cons (t := 35) rfl (Keep.cons (t := 34) rfl (Keep.cons (t := 33) rfl (Keep.cons (t := 32) rfl (Keep.cons (t := 31) rfl (Keep.cons (t := 30) rfl (Keep.cons (t := 29) rfl (Keep.cons (t := 28) rfl (Keep.cons (t := 27) rfl (Keep.cons (t := 26) rfl (Keep.cons (t := 25) rfl (Keep.cons (t := 24) rfl (Keep.cons (t := 23) rfl (Keep.cons (t := 22) rfl (Keep.cons (t := 21) rfl (Keep.cons (t := 20) rfl (Keep.cons (t := 19) rfl (Keep.cons (t := 18) rfl (Keep.cons (t := 17) rfl (Keep.cons (t := 16) rfl (Keep.cons (t := 15) rfl (Keep.cons (t := 14) rfl (Keep.cons (t := 13) rfl (Keep.cons (t := 12) rfl (Keep.cons (t := 11) rfl (Keep.cons (t := 10) rfl (Keep.cons (t := 9) rfl (Keep.cons (t := 8) rfl (Keep.cons (t := 6) rfl (Keep.cons (t := 5) rfl (Keep.cons (t := 4) rfl (Keep.cons (t := 3) rfl (Keep.cons (t := 2) rfl (Keep.cons (t := 1) rfl (Keep.cons (t := 0) rfl (Keep.nil)))))))))))))))))))))))))))))))))))))))))))))) ?_
 refine gt_v rfl .none rfl (o_build rfl rfl) ?_
 refine gt_v rfl .none rfl (o_move rfl) ?_
 refine gt_join (d := 154) (.loc 118 (.loc 122 (.loc 123 (.loc 124 (.loc 125 (.loc 126 (.loc 127 (.loc 128 (.loc 129 (.loc 130 (.loc 131 (.loc 132 (.loc 133 (.loc 134 (.loc 135 (.loc 139 (.loc 140 (.loc 141 (.loc 142 (.loc 143 (.loc 144 (.loc 145 (.loc 146 (.loc 147 (.loc 148 (.eff 149 (.eff 150 (.loc 151 .nil) .nil) .nil)))))))))))))))))))))))))) (.bool (e7 e)) ?_ (fun jk154 => ?_)
 rotate_left
 ·
  refine gt_split (j := 104) rfl rfl (fun hc22 => ?_) (fun hc22 => ?_)
  ·
   have hc22' := hc22
   replace hc22' := hs_ hc22'
   refine gt_skipL rfl (.no rfl rfl hc22) rfl ?_
   refine gt_skipL rfl (.no rfl rfl hc22) rfl ?_
   refine gt_skipL rfl (.no rfl rfl hc22) rfl ?_
   refine gt_v rfl .none rfl (o_pickT hc22 rfl rfl) ?_
   refine gt_v rfl .none rfl (o_move rfl) ?_
   refine gt_skipL rfl (.no rfl rfl rfl) rfl ?_
   refine gt_skipL rfl (.no rfl rfl rfl) rfl ?_
   refine gt_skipL rfl (.no rfl rfl rfl) rfl ?_
   refine gt_skipL rfl (.un rfl rfl) rfl ?_
   refine gt_skipL rfl (.un rfl rfl) rfl ?_
   refine gt_skipL rfl (.un rfl rfl) rfl ?_
   refine gt_skipL rfl (.no rfl rfl rfl) rfl ?_
   refine gt_v rfl .none rfl (o_pickT rfl rfl rfl) ?_
   first | exact jk154 _ (KeepS.top (by repeat (first | exact KeepS.refl _ | refine KeepS.push ?_ rfl)) (jval (by first | rfl | (simp only [hc22, e7, Bool.not_true, Bool.not_false, Bool.false_and, Bool.true_and, Bool.true_or, Bool.false_or]; done) | (simp [hc22, e7]; done) | simp_all))) | exact gt_imp (tO) (jk154 _ (KeepS.top (by repeat (first | exact KeepS.refl _ | refine KeepS.push ?_ rfl)) (jval (by first | rfl | (simp only [hc22, e7, Bool.not_true, Bool.not_false, Bool.false_and, Bool.true_and, Bool.true_or, Bool.false_or]; done) | (simp [hc22, e7]; done) | simp_all))))
  ·
   have hc22' := hc22
   replace hc22' := hs_ hc22'
   first | refine gt_v rfl (.yes rfl rfl hc22) rfl (o_fldS rfl) ?_ | refine gt_v rfl (.yes rfl rfl hc22) rfl (o_fld rfl) ?_
   first | refine gt_v rfl (.yes rfl rfl hc22) rfl (o_load rfl rfl) ?_ | refine gt_v rfl (.yes rfl rfl hc22) rfl (o_loadS rfl rfl) ?_ | refine gt_v rfl (.yes rfl rfl hc22) rfl (o_loadC rfl) ?_
   refine gt_v rfl (.yes rfl rfl hc22) rfl (o_gtr rfl rfl) ?_
   refine gt_v rfl .none rfl (o_pickF hc22 rfl rfl) ?_
   refine gt_v rfl .none rfl (o_move rfl) ?_
   refine gt_split (j := 109) rfl rfl (fun hc23 => ?_) (fun hc23 => ?_)
   ·
    have hc23' := hc23
    replace hc23' := hs_ hc23'
    refine gt_skipL rfl (.no rfl rfl hc23) rfl ?_
    refine gt_skipL rfl (.no rfl rfl hc23) rfl ?_
    refine gt_skipL rfl (.no rfl rfl hc23) rfl ?_
    refine gt_skipL rfl (.un rfl rfl) rfl ?_
    refine gt_skipL rfl (.un rfl rfl) rfl ?_
    refine gt_skipL rfl (.un rfl rfl) rfl ?_
    refine gt_skipL rfl (.no rfl rfl hc23) rfl ?_
    refine gt_v rfl .none rfl (o_pickT hc23 rfl rfl) ?_
    first | exact jk154 _ (KeepS.top (by repeat (first | exact KeepS.refl _ | refine KeepS.push ?_ rfl)) (jval (by first | rfl | (simp only [hc22, hc23, e7, Bool.not_true, Bool.not_false, Bool.false_and, Bool.true_and, Bool.true_or, Bool.false_or]; done) | (simp [hc22, hc23, e7]; done) | simp_all))) | exact gt_imp (tO) (jk154 _ (KeepS.top (by repeat (first | exact KeepS.refl _ | refine KeepS.push ?_ rfl)) (jval (by first | rfl | (simp only [hc22, hc23, e7, Bool.not_true, Bool.not_false, Bool.false_and, Bool.true_and, Bool.true_or, Bool.false_or]; done) | (simp [hc22, hc23, e7]; done) | simp_all))))
   ·
    have hc23' := hc23
    replace hc23' := hs_ hc23'
    refine gt_v rfl (.yes rfl rfl hc23) rfl (o_move rfl) ?_
    refine gt_v rfl (.yes rfl rfl hc23) rfl (o_not rfl) ?_
    refine gt_v rfl (.yes rfl rfl hc23) rfl (o_move rfl) ?_
    refine gt_split (j := 112) rfl rfl (fun hc24 => ?_) (fun hc24 => ?_)
    ·
     have hc24' := hc24
     replace hc24' := hs_ hc24'
     first | refine gt_v rfl (.yes rfl rfl hc24) rfl (o_fldS rfl) ?_ | refine gt_v rfl (.yes rfl rfl hc24) rfl (o_fld rfl) ?_
     first | refine gt_v rfl (.yes rfl rfl hc24) rfl (o_load rfl rfl) ?_ | refine gt_v rfl (.yes rfl rfl hc24) rfl (o_loadS rfl rfl) ?_ | refine gt_v rfl (.yes rfl rfl hc24) rfl (o_loadC rfl) ?_
     refine gt_v rfl (.yes rfl rfl hc24) rfl (o_neq rfl rfl) ?_
     refine gt_v rfl (.yes rfl rfl hc23) rfl (o_pickT hc24 rfl rfl) ?_
     refine gt_v rfl .none rfl (o_pickF hc23 rfl rfl) ?_
     first | exact jk154 _ (KeepS.top (by repeat (first | exact KeepS.refl _ | refine KeepS.push ?_ rfl)) (jval (by first | rfl | (simp only [hc22, hc23, hc24, e7, Bool.not_true, Bool.not_false, Bool.false_and, Bool.true_and, Bool.true_or, Bool.false_or]; done) | (simp [hc22, hc23, hc24, e7]; done) | simp_all))) | exact gt_imp (tO) (jk154 _ (KeepS.top (by repeat (first | exact KeepS.refl _ | refine KeepS.push ?_ rfl)) (jval (by first | rfl | (simp only [hc22, hc23, hc24, e7, Bool.not_true, Bool.not_false, Bool.false_and, Bool.true_and, Bool.true_or, Bool.false_or]; done) | (simp [hc22, hc23, hc24, e7]; done) | simp_all))))
    ·
     have hc24' := hc24
     replace hc24' := hs_ hc24'
     refine gt_skipL rfl (.no rfl rfl hc24) rfl ?_
     refine gt_skipL rfl (.no rfl rfl hc24) rfl ?_
     refine gt_skipL rfl (.no rfl rfl hc24) rfl ?_
     refine gt_v rfl (.yes rfl rfl hc23) rfl (o_pickF hc24 rfl rfl) ?_
     refine gt_v rfl .none rfl (o_pickF hc23 rfl rfl) ?_
     first | exact jk154 _ (KeepS.top (by repeat (first | exact KeepS.refl _ | refine KeepS.push ?_ rfl)) (jval (by first | rfl | (simp only [hc22, hc23, hc24, e7, Bool.not_true, Bool.not_false, Bool.false_and, Bool.true_and, Bool.true_or, Bool.false_or]; done) | (simp [hc22, hc23, hc24, e7]; done) | simp_all))) | exact gt_imp (tO) (jk154 _ (KeepS.top (by repeat (first | exact KeepS.refl _ | refine KeepS.push ?_ rfl)) (jval (by first | rfl | (simp only [hc22, hc23, hc24, e7, Bool.not_true, Bool.not_false, Bool.false_and, Bool.true_and, Bool.true_or, Bool.false_or]; done) | (simp [hc22, hc23, hc24, e7]; done) | simp_all))))
 refine gt_keep (Keep.cons (t := 175) rfl (Keep.cons (t := 158) rfl (Keep.cons (t := 154) rfl (Keep.cons (t := 137) rfl (Keep.cons (t := 119) rfl (Keep.cons (t := 98) rfl (Keep.cons (t := 81) rfl (Keep.cons (t := 63) rfl (Keep.cons (t := 45) rfl (Keep.cons (t := 36) rfl (Keep.cons (t := 35) rfl (Keep.cons (t := 34) rfl (Keep.cons (t := 33) rfl (Keep.cons (t := 32) rfl (Keep.cons (t := 31) rfl (Keep.cons (t := 30) rfl (Keep.cons (t := 29) rfl (Keep.cons (t := 28) rfl (Keep.cons (t := 27) rfl (Keep.cons (t := 26) rfl (Keep.cons (t := 25) rfl (Keep.cons (t := 24) rfl (Keep.cons (t := 23) rfl (Keep.cons (t := 22) rfl (Keep.cons (t := 21) rfl (Keep.cons (t := 20) rfl (Keep.cons (t := 19) rfl (Keep.cons (t := 18) rfl (Keep.cons (t := 17) rfl (Keep.cons (t := 16) rfl (Keep.cons (t := 15) rfl (Keep.cons (t := 14) rfl (Keep.cons (t := 13) rfl (Keep.cons (t := 12) rfl (Keep.cons (t := 11) rfl (Keep.cons (t := 10) rfl (Keep.cons (t := 9) rfl (Keep.cons (t := 8) rfl (Keep.cons (t := 6) rfl (Keep.cons (t := 5) rfl (Keep.cons (t := 4) rfl (Keep.cons (t := 3) rfl (Keep.cons (t := 2) rfl (Keep.cons (t := 1) rfl (Keep.cons (t := 0) rfl (Keep.nil)))))))))))))))))))))))))))))))))))))))))))))) ?_
 refine gt_v rfl .none rfl (o_build rfl rfl) ?_
 refine gt_v rfl .none rfl (o_move rfl) ?_
 refine gt_join (d := 171) (.loc 135 (.loc 139 (.loc 140 (.loc 141 (.loc 142 (.loc 143 (.loc 144 (.loc 145 (.loc 146 (.loc 147 (.loc 148 (.eff 149 (.eff 150 (.loc 151 .nil) .nil) .nil)))))))))))) (.bool (e8 KK k.states e)) ?_ (fun jk171 => ?_)
 rotate_left
 ·
  refine gt_split (j := 122) rfl rfl (fun hc25 => ?_) (fun hc25 => ?_)
  ·
   have hc25' := hc25
   replace hc25' := hs_ hc25'
   refine gt_v rfl (.yes rfl rfl hc25) rfl (o_move rfl) ?_
   refine gt_v rfl (.yes rfl rfl hc25) rfl (o_not rfl) ?_
   refine gt_v rfl .none rfl (o_pickT hc25 rfl rfl) ?_
   refine gt_v rfl .none rfl (o_move rfl) ?_
   refine gt_split (j := 126) rfl rfl (fun hc26 => ?_) (fun hc26 => ?_)
   ·
    have hc26' := hc26
    replace hc26' := hs_ hc26'
    refine gt_skipL rfl (.no rfl rfl hc26) rfl ?_
    refine gt_skipL rfl (.no rfl rfl hc26) rfl ?_
    refine gt_skipL rfl (.no rfl rfl hc26) rfl ?_
    refine gt_skipL rfl (.no rfl rfl hc26) rfl ?_
    refine gt_skipL rfl (.un rfl rfl) rfl ?_
    refine gt_skipL rfl (.un rfl rfl) rfl ?_
    refine gt_skipL rfl (.no rfl rfl hc26) rfl ?_
    refine gt_v rfl .none rfl (o_pickT hc26 rfl rfl) ?_
    first | exact jk171 _ (KeepS.top (by repeat (first | exact KeepS.refl _ | refine KeepS.push ?_ rfl)) (jval (by first | rfl | (simp only [hc25, hc26, e8, hasK, hasS, Bool.not_true, Bool.not_false, Bool.false_and, Bool.true_and, Bool.true_or, Bool.false_or]; done) | (simp [hc25, hc26, e8, hasK, hasS]; done) | simp_all))) | exact gt_imp (tO) (jk171 _ (KeepS.top (by repeat (first | exact KeepS.refl _ | refine KeepS.push ?_ rfl)) (jval (by first | rfl | (simp only [hc25, hc26, e8, hasK, hasS, Bool.not_true, Bool.not_false, Bool.false_and, Bool.true_and, Bool.true_or, Bool.false_or]; done) | (simp [hc25, hc26, e8, hasK, hasS]; done) | simp_all))))
   ·
    have hc26' := hc26
    replace hc26' := hs_ hc26'
    first | refine gt_v rfl (.yes rfl rfl hc26) rfl (o_fldS rfl) ?_ | refine gt_v rfl (.yes rfl rfl hc26) rfl (o_fld rfl) ?_
    first | refine gt_v rfl (.yes rfl rfl hc26) rfl (o_load rfl rfl) ?_ | refine gt_v rfl (.yes rfl rfl hc26) rfl (o_loadS rfl rfl) ?_ | refine gt_v rfl (.yes rfl rfl hc26) rfl (o_loadC rfl) ?_
    refine gt_v rfl (.yes rfl rfl hc26) rfl (o_eql rfl rfl) ?_
    refine gt_v rfl (.yes rfl rfl hc26) rfl (o_move rfl) ?_
    refine gt_split (j := 130) rfl rfl (fun hc27 => ?_) (fun hc27 => ?_)
    ·
     have hc27' := hc27
     replace hc27' := hs_ hc27'
     refine gt_v rfl (.yes rfl rfl hc27) rfl (o_move rfl) ?_
     refine gt_v rfl (.yes rfl rfl hc27) rfl (o_not rfl) ?_
     refine gt_v rfl (.yes rfl rfl hc26) rfl (o_pickT hc27 rfl rfl) ?_
     refine gt_v rfl .none rfl (o_pickF hc26 rfl rfl) ?_
     first | exact jk171 _ (KeepS.top (by repeat (first | exact KeepS.refl _ | refine KeepS.push ?_ rfl)) (jval (by first | rfl | (simp only [hc25, hc26, hc27, e8, hasK, hasS, Bool.not_true, Bool.not_false, Bool.false_and, Bool.true_and, Bool.true_or, Bool.false_or]; done) | (simp [hc25, hc26, hc27, e8, hasK, hasS]; done) | simp_all))) | exact gt_imp (tO) (jk171 _ (KeepS.top (by repeat (first | exact KeepS.refl _ | refine KeepS.push ?_ rfl)) (jval (by first | rfl | (simp only [hc25, hc26, hc27, e8, hasK, hasS, Bool.not_true, Bool.not_false, Bool.false_and, Bool.true_and, Bool.true_or, Bool.false_or]; done) | (simp [hc25, hc26, hc27, e8, hasK, hasS]; done) | simp_all))))
    ·
     have hc27' := hc27
     replace hc27' := hs_ hc27'
     refine gt_skipL rfl (.no rfl rfl hc27) rfl ?_
     refine gt_skipL rfl (.no rfl rfl hc27) rfl ?_
     refine gt_v rfl (.yes rfl rfl hc26) rfl (o_pickF hc27 rfl rfl) ?_
     refine gt_v rfl .none rfl (o_pickF hc26 rfl rfl) ?_
     first | exact jk171 _ (KeepS.top (by repeat (first | exact KeepS.refl _ | refine KeepS.push ?_ rfl)) (jval (by first | rfl | (simp only [hc25, hc26, hc27, e8, hasK, hasS, Bool.not_true, Bool.not_false, Bool.false_and, Bool.true_and, Bool.true_or, Bool.false_or]; done) | (simp [hc25, hc26, hc27, e8, hasK, hasS]; done) | simp_all))) | exact gt_imp (tO) (jk171 _ (KeepS.top (by repeat (first | exact KeepS.refl _ | refine KeepS.push ?_ rfl)) (jval (by first | rfl | (simp only [hc25, hc26, hc27, e8, hasK, hasS, Bool.not_true, Bool.not_false, Bool.false_and, Bool.true_and, Bool.true_or, Bool.false_or]; done) | (simp [hc25, hc26, hc27, e8, hasK, hasS]; done) | simp_all))))
  ·
   have hc25' := hc25
   replace hc25' := hs_ hc25'
   refine gt_skipL rfl (.no rfl rfl hc25) rfl ?_
   refine gt_skipL rfl (.no rfl rfl hc25) rfl ?_
   refine gt_v rfl .none rfl (o_pickF hc25 rfl rfl) ?_
   refine gt_v rfl .none rfl (o_move rfl) ?_
   first | refine gt_v rfl (.yes rfl rfl rfl) rfl (o_fldS rfl) ?_ | refine gt_v rfl (.yes rfl rfl rfl) rfl (o_fld rfl) ?_
   first | refine gt_v rfl (.yes rfl rfl rfl) rfl (o_load rfl rfl) ?_ | refine gt_v rfl (.yes rfl rfl rfl) rfl (o_loadS rfl rfl) ?_ | refine gt_v rfl (.yes rfl rfl rfl) rfl (o_loadC rfl) ?_
   refine gt_v rfl (.yes rfl rfl rfl) rfl (o_eql rfl rfl) ?_
   refine gt_v rfl (.yes rfl rfl rfl) rfl (o_move rfl) ?_
   refine gt_split (j := 130) rfl rfl (fun hc28 => ?_) (fun hc28 => ?_)
   ·
    have hc28' := hc28
    replace hc28' := hs_ hc28'
    refine gt_v rfl (.yes rfl rfl hc28) rfl (o_move rfl) ?_
    refine gt_v rfl (.yes rfl rfl hc28) rfl (o_not rfl) ?_
    refine gt_v rfl (.yes rfl rfl rfl) rfl (o_pickT hc28 rfl rfl) ?_
    refine gt_v rfl .none rfl (o_pickF rfl rfl rfl) ?_
    first | exact jk171 _ (KeepS.top (by repeat (first | exact KeepS.refl _ | refine KeepS.push ?_ rfl)) (jval (by first | rfl | (simp only [hc25, hc28, e8, hasK, hasS, Bool.not_true, Bool.not_false, Bool.false_and, Bool.true_and, Bool.true_or, Bool.false_or]; done) | (simp [hc25, hc28, e8, hasK, hasS]; done) | simp_all))) | exact gt_imp (tO) (jk171 _ (KeepS.top (by repeat (first | exact KeepS.refl _ | refine KeepS.push ?_ rfl)) (jval (by first | rfl | (simp only [hc25, hc28, e8, hasK, hasS, Bool.not_true, Bool.not_false, Bool.false_and, Bool.true_and, Bool.true_or, Bool.false_or]; done) | (simp [hc25, hc28, e8, hasK, hasS]; done) | simp_all))))
   ·
    have hc28' := hc28
    replace hc28' := hs_ hc28'
    refine gt_skipL rfl (.no rfl rfl hc28) rfl ?_
    refine gt_skipL rfl (.no rfl rfl hc28) rfl ?_
    refine gt_v rfl (.yes rfl rfl rfl) rfl (o_pickF hc28 rfl rfl) ?_
    refine gt_v rfl .none rfl (o_pickF rfl rfl rfl) ?_
    first | exact jk171 _ (KeepS.top (by repeat (first | exact KeepS.refl _ | refine KeepS.push ?_ rfl)) (jval (by first | rfl | (simp only [hc25, hc28, e8, hasK, hasS, Bool.not_true, Bool.not_false, Bool.false_and, Bool.true_and, Bool.true_or, Bool.false_or]; done) | (simp [hc25, hc28, e8, hasK, hasS]; done) | simp_all))) | exact gt_imp (tO) (jk171 _ (KeepS.top (by repeat (first | exact KeepS.refl _ | refine KeepS.push ?_ rfl)) (jval (by first | rfl | (simp only [hc25, hc28, e8, hasK, hasS, Bool.not_true, Bool.not_false, Bool.false_and, Bool.true_and, Bool.true_or, Bool.false_or]; done) | (simp [hc25, hc28, e8, hasK, hasS]; done) | simp_all))))
 refine gt_keep (Keep.cons (t := 175) rfl (Keep.cons (t := 171) rfl (Keep.cons (t := 155) rfl (Keep.cons (t := 137) rfl (Keep.cons (t := 119) rfl (Keep.cons (t := 98) rfl (Keep.cons (t := 81) rfl (Keep.cons (t := 63) rfl (Keep.cons (t := 45) rfl (Keep.cons (t := 36) rfl (Keep.cons (t := 35) rfl (Keep.cons (t := 34) rfl (Keep.cons (t := 33) rfl (Keep.cons (t := 32) rfl (Keep.cons (t := 31) rfl (Keep.cons (t := 30) rfl (Keep.cons (t := 29) rfl (Keep.cons (t := 28) rfl (Keep.cons (t := 27) rfl (Keep.cons (t := 26) rfl (Keep.cons (t := 25) rfl (Keep.cons (t := 24) rfl (Keep.cons (t := 23) rfl (Keep.cons (t := 22) rfl (Keep.cons (t := 21) rfl (Keep.cons (t := 20) rfl (Keep.cons (t := 19) rfl (Keep.cons (t := 18) rfl (Keep.cons (t := 17) rfl (Keep.cons (t := 16) rfl (Keep.cons (t := 15) rfl (Keep.cons (t := 14) rfl (Keep.cons (t := 13) rfl (Keep.cons (t := 12) rfl (Keep.cons (t := 11) rfl (Keep.cons (t := 10) rfl (Keep.cons (t := 9) rfl (Keep.cons (t := 8) rfl (Keep.cons (t := 6) rfl (Keep.cons (t := 5) rfl (Keep.cons (t := 4) rfl (Keep.cons (t := 3) rfl (Keep.cons (t := 2) rfl (Keep.cons (t := 1) rfl (Keep.cons (t := 0) rfl (Keep.nil)))))))))))))))))))))))))))))))))))))))))))))) ?_
 refine gt_v rfl .none rfl (o_build rfl rfl) ?_
 refine gt_v rfl .none rfl (o_move rfl) ?_
 refine gt_join (d := 184) (.loc 148 (.eff 149 (.eff 150 (.loc 151 .nil) .nil) .nil)) (.bool (e9 e last)) ?_ (fun jk184 => ?_)
 rotate_left
 ·
  refine gt_split (j := 139) rfl rfl (fun hc29 => ?_) (fun hc29 => ?_)
  ·
   have hc29' := hc29
   replace hc29' := hs_ hc29'
   refine gt_skipL rfl (.no rfl rfl hc29) rfl ?_
   refine gt_skipL rfl (.no rfl rfl hc29) rfl ?_
   refine gt_skipL rfl (.no rfl rfl hc29) rfl ?_
   refine gt_v rfl .none rfl (o_pickT hc29 rfl rfl) ?_
   refine gt_v rfl .none rfl (o_move rfl) ?_
   refine gt_v rfl (.yes rfl rfl rfl) rfl (o_move rfl) ?_
   refine gt_v rfl (.yes rfl rfl rfl) rfl (o_not rfl) ?_
   refine gt_v rfl .none rfl (o_pickT rfl rfl rfl) ?_
   first | exact jk184 _ (KeepS.top (by repeat (first | exact KeepS.refl _ | refine KeepS.push ?_ rfl)) (jval (by first | rfl | (simp only [hc29, e9, Bool.not_true, Bool.not_false, Bool.false_and, Bool.true_and, Bool.true_or, Bool.false_or]; done) | (simp [hc29, e9]; done) | simp_all))) | exact gt_imp (tO) (jk184 _ (KeepS.top (by repeat (first | exact KeepS.refl _ | refine KeepS.push ?_ rfl)) (jval (by first | rfl | (simp only [hc29, e9, Bool.not_true, Bool.not_false, Bool.false_and, Bool.true_and, Bool.true_or, Bool.false_or]; done) | (simp [hc29, e9]; done) | simp_all))))
  ·
   have hc29' := hc29
   replace hc29' := hs_ hc29'
   first | refine gt_v rfl (.yes rfl rfl hc29) rfl (o_fldS rfl) ?_ | refine gt_v rfl (.yes rfl rfl hc29) rfl (o_fld rfl) ?_
   first | refine gt_v rfl (.yes rfl rfl hc29) rfl (o_load rfl rfl) ?_ | refine gt_v rfl (.yes rfl rfl hc29) rfl (o_loadS rfl rfl) ?_ | refine gt_v rfl (.yes rfl rfl hc29) rfl (o_loadC rfl) ?_
   refine gt_v rfl (.yes rfl rfl hc29) rfl (o_eql rfl rfl) ?_
   refine gt_v rfl .none rfl (o_pickF hc29 rfl rfl) ?_
   refine gt_v rfl .none rfl (o_move rfl) ?_
   refine gt_split (j := 144) rfl rfl (fun hc30 => ?_) (fun hc30 => ?_)
   ·
    have hc30' := hc30
    replace hc30' := hs_ hc30'
    refine gt_v rfl (.yes rfl rfl hc30) rfl (o_move rfl) ?_
    refine gt_v rfl (.yes rfl rfl hc30) rfl (o_not rfl) ?_
    refine gt_v rfl .none rfl (o_pickT hc30 rfl rfl) ?_
    first | exact jk184 _ (KeepS.top (by repeat (first | exact KeepS.refl _ | refine KeepS.push ?_ rfl)) (jval (by first | rfl | (simp only [hc29, hc30, e9, Bool.not_true, Bool.not_false, Bool.false_and, Bool.true_and, Bool.true_or, Bool.false_or]; done) | (simp [hc29, hc30, e9]; done) | simp_all))) | exact gt_imp (tO) (jk184 _ (KeepS.top (by repeat (first | exact KeepS.refl _ | refine KeepS.push ?_ rfl)) (jval (by first | rfl | (simp only [hc29, hc30, e9, Bool.not_true, Bool.not_false, Bool.false_and, Bool.true_and, Bool.true_or, Bool.false_or]; done) | (simp [hc29, hc30, e9]; done) | simp_all))))
   ·
    have hc30' := hc30
    replace hc30' := hs_ hc30'
    refine gt_skipL rfl (.no rfl rfl hc30) rfl ?_
    refine gt_skipL rfl (.no rfl rfl hc30) rfl ?_
    refine gt_v rfl .none rfl (o_pickF hc30 rfl rfl) ?_
    first | exact jk184 _ (KeepS.top (by repeat (first | exact KeepS.refl _ | refine KeepS.push ?_ rfl)) (jval (by first | rfl | (simp only [hc29, hc30, e9, Bool.not_true, Bool.not_false, Bool.false_and, Bool.true_and, Bool.true_or, Bool.false_or]; done) | (simp [hc29, hc30, e9]; done) | simp_all))) | exact gt_imp (tO) (jk184 _ (KeepS.top (by repeat (first | exact KeepS.refl _ | refine KeepS.push ?_ rfl)) (jval (by first | rfl | (simp only [hc29, hc30, e9, Bool.not_true, Bool.not_false, Bool.false_and, Bool.true_and, Bool.true_or, Bool.false_or]; done) | (simp [hc29, hc30, e9]; done) | simp_all))))
 refine gt_keep (Keep.cons (t := 184) rfl (Keep.cons (t := 172) rfl (Keep.cons (t := 155) rfl (Keep.cons (t := 137) rfl (Keep.cons (t := 119) rfl (Keep.cons (t := 98) rfl (Keep.cons (t := 81) rfl (Keep.cons (t := 63) rfl (Keep.cons (t := 45) rfl (Keep.cons (t := 36) rfl (Keep.cons (t := 35) rfl (Keep.cons (t := 34) rfl (Keep.cons (t := 33) rfl (Keep.cons (t := 32) rfl (Keep.cons (t := 31) rfl (Keep.cons (t := 30) rfl (Keep.cons (t := 29) rfl (Keep.cons (t := 28) rfl (Keep.cons (t := 27) rfl (Keep.cons (t := 26) rfl (Keep.cons (t := 25) rfl (Keep.cons (t := 24) rfl (Keep.cons (t := 23) rfl (Keep.cons (t := 22) rfl (Keep.cons (t := 21) rfl (Keep.cons (t := 20) rfl (Keep.cons (t := 19) rfl (Keep.cons (t := 18) rfl (Keep.cons (t := 17) rfl (Keep.cons (t := 16) rfl (Keep.cons (t := 15) rfl (Keep.cons (t := 14) rfl (Keep.cons (t := 13) rfl (Keep.cons (t := 12) rfl (Keep.cons (t := 11) rfl (Keep.cons (t := 10) rfl (Keep.cons (t := 9) rfl (Keep.cons (t := 8) rfl (Keep.cons (t := 6) rfl (Keep.cons (t := 5) rfl (Keep.cons (t := 4) rfl (Keep.cons (t := 2) rfl (Keep.cons (t := 1) rfl (Keep.cons (t := 0) rfl (Keep.nil))))))))))))))))))))))))))))))))))))))))))))) ?_
 refine gt_v rfl .none rfl (o_build rfl rfl) ?_
 refine gt_n rfl .none rfl (o_buildS (cs := [(e1 e, 43), (e2 e, 43), (e3 e, 43), (e4 e, 43), (e5 e, 43), (e6 e, 43), (e7 e, 43), (e8 KK k.states e, 42), (e9 e last, 44)].flatMap ruC) rfl rfl rfl rfl) ?_
 rintro _ _ ⟨b186, rfl, rfl⟩
 refine ⟨(fun hG => absurd hG (by decide)), ?_⟩
 refine gt_c rfl .none rfl (o_call rfl (first_spec [(e1 e, 43), (e2 e, 43), (e3 e, 43), (e4 e, 43), (e5 e, 43), (e6 e, 43), (e7 e, 43), (e8 KK k.states e, 42), (e9 e last, 44)] b186 (by simp)) pA) ?_
 rintro _ R ⟨_, ⟨rfl, rfl⟩, rfl⟩
 try simp only [List.cons_append, List.nil_append]
 refine ⟨(fun hG => absurd hG (by decide)), ?_⟩
 refine gt_v rfl .none rfl (o_assign rfl) ?_
 refine gt_nil ?_
 refine ge_then ?_
 refine g_ret ?_
 refine ret1 (.inl rfl) rfl rfl _ (⟨rfl, rfl⟩) (tO)

end Go.Proofs.YtgmdlhlmffdbhaaGreatDoor.C
