/-
  Check: the the parts that the law CheckBack needs. Own work, printed in part by a program of its own.
-/
import Derived.Test.YtgmdlhlmffdbhaaGreatDoorChkC
set_option linter.unusedSimpArgs false
set_option linter.unusedVariables false
set_option linter.unusedSectionVars false
namespace Go.Proofs.YtgmdlhlmffdbhaaGreatDoor.C
open Go.Proofs.YtgmdlhlmffdbhaaGreatDoor.L Go.L Go.L.Lx Go.L.Pg
attribute [local irreducible] isName
set_option maxRecDepth 8000 in
set_option maxHeartbeats 1000000 in
theorem Ints_spec (xs ys : List Int) (a b : Option Addr) (c d : Nat) (A B : Assn) (hx : xs.length ≤ 9223372036854775807) (hy : ys.length ≤ 9223372036854775807) [RdA (.slice a xs.length c) A xs.length (xs.map I64)] [RdA (.slice b ys.length d) B ys.length (ys.map I64)] : FnS Tryz.prog 12 [.slice a xs.length c, .slice b ys.length d] [A, B] (fun u Bs => u = .bool (decide (xs = ys)) ∧ Bs = [A, B]) := by
 refine fn_body Tryz.func12 rfl rfl rfl ?_
 intro W0 R
 simp only [List.zipIdx_cons, List.zipIdx_nil, List.map_cons, List.map_nil, Nat.zero_add, Nat.reduceAdd, List.cons_append, List.nil_append]
 refine g_seq ?_
 refine g_region ?_
 refine gl_v rfl (o_assign rfl) ?_
 refine gl_nil ?_
 refine ge_then ?_
 refine g_seq ?_
 refine g_seq ?_
 refine g_region ?_
 refine gl_v rfl (o_move rfl) ?_
 first | refine gl_v rfl (o_len rfl) ?_ | refine gl_v rfl (o_lenL rfl) ?_
 refine gl_v rfl (o_move rfl) ?_
 first | refine gl_v rfl (o_len rfl) ?_ | refine gl_v rfl (o_lenL rfl) ?_
 refine gl_v rfl (o_neq rfl rfl) ?_
 refine gl_nil ?_
 refine ge_then ?_
 refine g_cond rfl (fun hc1 => ?_) (fun hc1 => ?_)
 ·
  replace hc1 := hs_ hc1
  refine g_seq ?_
  refine g_region ?_
  refine gl_v rfl (o_assign rfl) ?_
  refine gl_nil ?_
  refine ge_then ?_
  refine g_ret ?_
  refine ge_then_ret ?_
  refine ret1 (.inl rfl) rfl rfl _ (⟨bool_v (decide_eq_false (fun h => by have := congrArg List.length h; omega)).symm, rfl⟩) (tO)
 ·
  replace hc1 := hs_ hc1
  have hl : xs.length = ys.length := by omega
  refine g_skip ?_
  refine ge_then ?_
  refine g_seq ?_
  refine g_seq ?_
  refine g_region ?_
  refine gl_v rfl (o_assign rfl) ?_
  refine gl_nil ?_
  refine ge_then ?_
  refine g_block ?_
  refine g_loop (ι := Nat) (fun i => i ≤ xs.length ∧ xs.take i = ys.take i) (fun i => [(5, I64 i), (1, .slice b ys.length d), (0, .slice a xs.length c)]) (fun _ => A :: B :: R) (fun i => xs.length - i) 0 (⟨Nat.zero_le _, rfl⟩) (Keep.cons rfl (Keep.cons rfl (Keep.cons rfl (Keep.nil)))) (tO) ?_
  rintro i ⟨hi, hz⟩
  replace hi : i ≤ xs.length := hi
  replace hz : xs.take i = ys.take i := hz
  refine g_seq ?_
  refine g_seq ?_
  refine g_region ?_
  refine gl_v rfl (o_move rfl) ?_
  refine gl_v rfl (o_move rfl) ?_
  first | refine gl_v rfl (o_len rfl) ?_ | refine gl_v rfl (o_lenL rfl) ?_
  refine gl_v rfl (o_lss rfl rfl) ?_
  refine gl_nil ?_
  refine ge_then ?_
  refine g_cond rfl (fun hc2 => ?_) (fun hc2 => ?_)
  ·
   replace hc2 := hs_ hc2
   obtain ⟨p, hp⟩ : ∃ p, xs[i]? = some p := ⟨_, List.getElem?_eq_getElem (show i < xs.length by omega)⟩
   obtain ⟨q, hq⟩ : ∃ q, ys[i]? = some q := ⟨_, List.getElem?_eq_getElem (show i < ys.length by omega)⟩
   refine g_skip ?_
   refine ge_then ?_
   refine g_seq ?_
   refine g_block ?_
   refine g_seq ?_
   refine g_draw [] [] [(0, .loc), (1, .loc), (2, .loc), (3, .loc), (4, .loc), (5, .loc), (6, .loc), (7, .loc), (8, .loc)] [] mixed (by kernel_rfl) ?_
   refine go_v rfl .none rfl (o_move rfl) ?_
   refine go_v rfl .none rfl (o_move rfl) ?_
   refine go_v rfl .none rfl (o_idxS rfl rfl (show i < xs.length by omega)) ?_
   refine go_v rfl .none rfl (o_loadS rfl (show (xs.map I64)[i * 1]? = some (I64 p) by rw [Nat.mul_one, List.getElem?_map, hp]; rfl)) ?_
   refine go_v rfl .none rfl (o_move rfl) ?_
   refine go_v rfl .none rfl (o_move rfl) ?_
   refine go_v rfl .none rfl (o_idxS rfl rfl (show i < ys.length by omega)) ?_
   refine go_v rfl .none rfl (o_loadS rfl (show (ys.map I64)[i * 1]? = some (I64 q) by rw [Nat.mul_one, List.getElem?_map, hq]; rfl)) ?_
   refine go_v rfl .none rfl (o_neq rfl rfl) ?_
   refine go_nil ?_
   refine ge_then ?_
   refine g_cond rfl (fun hc3 => ?_) (fun hc3 => ?_)
   ·
    replace hc3 := hs_ hc3
    refine g_seq ?_
    refine g_region ?_
    refine gl_v rfl (o_assign rfl) ?_
    refine gl_nil ?_
    refine ge_then ?_
    refine g_ret ?_
    refine ge_block_ret ?_
    refine ge_then_ret ?_
    refine ge_then_ret ?_
    refine ge_block_ret ?_
    refine ge_then_ret ?_
    refine ret1 (.inl rfl) rfl rfl _ (⟨bool_v (decide_eq_false (fun h => by rw [h, hq] at hp; injection hp; omega)).symm, rfl⟩) (tO)
   ·
    replace hc3 := hs_ hc3
    refine g_skip ?_
    refine ge_block ?_
    refine ge_then ?_
    refine g_region ?_
    refine gl_v rfl (o_move rfl) ?_
    refine gl_v rfl (o_addR (((i + 1 : Nat) : Int)) (by rw [wr_i64 (by omega)]; omega) rfl rfl) ?_
    refine gl_v rfl (o_assign rfl) ?_
    refine gl_nil ?_
    have hpq : p = q := by omega
    refine ge_round (i + 1) ⟨show i + 1 ≤ xs.length by omega, by rw [List.take_add_one, List.take_add_one, hz, hp, hq, hpq]⟩ (show xs.length - (i + 1) < xs.length - i by omega) (Keep.cons rfl (Keep.cons rfl (Keep.cons rfl (Keep.nil)))) (tO)
  ·
   replace hc2 := hs_ hc2
   have he : xs = ys := by
     rw [show i = xs.length by omega, List.take_length] at hz; rw [hz, hl, List.take_length]
   refine g_exit ?_
   refine ge_then_exit ?_
   refine ge_then_exit ?_
   refine ge_block_exit ?_
   refine ge_then ?_
   refine g_seq ?_
   refine g_region ?_
   refine gl_v rfl (o_assign rfl) ?_
   refine gl_nil ?_
   refine ge_then ?_
   refine g_ret ?_
   refine ret1 (.inl rfl) rfl rfl _ (⟨bool_v (decide_eq_true he).symm, rfl⟩) (tO)

theorem ep_none {P : Program} {F : FuncId} {args : List Value} {Ms Ns : List Assn} {r : Flt} (h : FnS P F args Ns (ErrP r Ms)) (e : r = none) : FnS P F args Ns (fun u Bs => u = .nilIface ∧ Bs = Ms) := by subst e; exact h
theorem ep_some {P : Program} {F : FuncId} {args : List Value} {Ms Ns : List Assn} {r : Flt} {c : Int} {ws : List Int} (h : FnS P F args Ns (ErrP r Ms)) (e : r = some (c, ws)) : FnS P F args Ns (fun u Bs => ∃ b a cp, u = badV b ∧ Bs = cel b BT [I64 c, .slice a ws.length cp] :: intsA a cp ws :: Ms) := by subst e; exact h
theorem prgF_len {KK : List Knd} {c : Int} {ws : List Int} (h : prgF KK = some (c, ws)) : ws.length ≤ 4 := within_len (fun i c ws => kndF_len i c ws) _ _ h
/-- the program of alive -/
def oneK (E : List Eff) (be b5 b7 : Nat) : List Knd := [⟨[97], 0, 1, none, 0, [], some ⟨b7, 0, none⟩, 1, [⟨[115], some ⟨b5, 0, none⟩, 1, [⟨[120], false, 0, some ⟨be, 0, none⟩, E.length, E⟩]⟩]⟩]
def oneA (E : List Eff) (be b5 b7 b9 : Nat) : Assn := starL [cel b9 57 ((oneK E be b5 b7).flatMap kndC), cel b7 79 (([⟨[115], some ⟨b5, 0, none⟩, 1, [⟨[120], false, 0, some ⟨be, 0, none⟩, E.length, E⟩]⟩] : List Sta).flatMap staC), cel b5 83 (([⟨[120], false, 0, some ⟨be, 0, none⟩, E.length, E⟩] : List Row).flatMap rowC), cel be 38 (E.flatMap effC)]
theorem one_ok {E : List Eff} {be b5 b7 b9 : Nat} (hE : E.length ≤ 10) (he : ∀ e ∈ E, EffOk e) : ∀ h, oneA E be b5 b7 b9 h → PrgOk h (some ⟨b9, 0, none⟩) 1 (oneK E be b5 b7) := fun h s => by
  have h1 : ok63 1 := by unfold ok63; decide
  have h00 : ok63 0 := by unfold ok63; decide
  have s9 : SlR h (.slice (some ⟨b9, 0, none⟩) 1 1) 1 ((oneK E be b5 b7).flatMap kndC) := RdS.get s
  have s7 := RdS.get (v := .slice (some ⟨b7, 0, none⟩) 1 1) (n := 1) (xs := ([⟨[115], some ⟨b5, 0, none⟩, 1, [⟨[120], false, 0, some ⟨be, 0, none⟩, E.length, E⟩]⟩] : List Sta).flatMap staC) s
  have s5 := RdS.get (v := .slice (some ⟨b5, 0, none⟩) 1 1) (n := 1) (xs := ([⟨[120], false, 0, some ⟨be, 0, none⟩, E.length, E⟩] : List Row).flatMap rowC) s
  have se := RdS.get (v := .slice (some ⟨be, 0, none⟩) E.length E.length) (n := E.length) (xs := E.flatMap effC) s
  refine ⟨⟨s9, Nat.le_refl _⟩, (by unfold ok63; first | decide | simp [oneK]), fun k hk => ?_⟩
  obtain rfl := List.mem_singleton.1 hk
  refine ⟨h1, ⟨.inl ⟨rfl, rfl, rfl⟩, Nat.le_refl _⟩, (by unfold ok63; first | decide | simp [oneK]), (fun c hc => absurd hc List.not_mem_nil), ⟨s7, Nat.le_refl _⟩, (by unfold ok63; first | decide | simp [oneK]), fun x hx => ?_⟩
  obtain rfl := List.mem_singleton.1 hx
  refine ⟨h1, ⟨s5, Nat.le_refl _⟩, (by unfold ok63; first | decide | simp [oneK]), fun r hr => ?_⟩
  obtain rfl := List.mem_singleton.1 hr
  exact ⟨h1, ⟨se, Nat.le_refl _⟩, by unfold ok63; simp only; omega, he⟩
theorem nil_ok {h : Hp} : PrgOk h none 0 [] := ⟨⟨.inl ⟨rfl, rfl, rfl⟩, Nat.le_refl _⟩, by unfold ok63; decide, (fun k hk => absurd hk List.not_mem_nil)⟩
def ef (d : Int) (n : By) : Eff := ⟨d, [], [], n, 0, 0, 0⟩
theorem ef_ok {l : List Eff} (h : (l.all fun e => Nat.ble e.ref.length 10 && Nat.ble e.slot.length 10 && Nat.ble e.name.length 10) = true) : ∀ e ∈ l, EffOk e := fun e he => by
  have := List.all_eq_true.1 h e he
  simp only [Bool.and_eq_true, Nat.ble_eq] at this
  exact ⟨by unfold ok63; omega, by unfold ok63; omega, by unfold ok63; omega⟩

set_option maxRecDepth 8000 in
set_option maxHeartbeats 1000000 in
theorem CloneI_spec (a : Option Addr) (c : Nat) (L : List Int) (hL : L.length ≤ 17592186044416) (A : Assn) [RdA (.slice a L.length c) A L.length (L.map I64)] : FnS Tryz.prog 34 [.slice a L.length c] [A]
      (fun u Bs => ∃ a' c', u = .slice a' L.length c' ∧ Bs = [intsA a' c' L, A]) := by
 refine fn_body Tryz.func34 rfl rfl rfl ?_
 intro W0 R
 simp only [List.zipIdx_cons, List.zipIdx_nil, List.map_cons, List.map_nil, Nat.zero_add, Nat.reduceAdd, List.cons_append, List.nil_append]
 refine g_seq ?_
 refine g_region ?_
 refine gl_v rfl (o_assign rfl) ?_
 refine gl_nil ?_
 refine ge_then ?_
 refine g_seq ?_
 refine g_seq ?_
 refine g_region ?_
 refine gl_v rfl (o_move rfl) ?_
 refine gl_v rfl (o_eqlSn rfl rfl) ?_
 refine gl_nil ?_
 refine ge_then ?_
 refine g_cond rfl (fun hc1 => ?_) (fun hc1 => ?_)
 ·
  replace hc1 := hs_ hc1
  obtain rfl : a = none := by simpa using hc1
  refine g_fact (fun _ s => rds_none (l := L.length) (c := c) s) ?_
  rintro ⟨-, rfl, -, hn⟩
  obtain rfl : L = [] := by simpa using hn
  refine g_seq ?_
  refine g_region ?_
  refine gl_v rfl (o_assign rfl) ?_
  refine gl_nil ?_
  refine ge_then ?_
  refine g_ret ?_
  refine ge_then_ret ?_
  refine ret1 (.inl rfl) rfl rfl [intsA none 0 [], A] (⟨none, 0, rfl, rfl⟩) own_nil0
 ·
  replace hc1 := hs_ hc1
  refine g_skip ?_
  refine ge_then ?_
  refine g_seq ?_
  refine g_region ?_
  refine gl_n rfl (o_buildS0) ?_
  rintro _ _ ⟨b5, rfl, rfl⟩
  refine gl_v rfl (o_move rfl) ?_
  refine gl_n rfl (o_appendS rfl rfl sE rfl (by simp) (by simp [List.all_map]; intro x _; rfl) (by omega) (by unfold maxLen; omega)) ?_
  rintro _ _ ⟨a7, c7, rfl, rfl⟩
  refine gl_v rfl (o_assign rfl) ?_
  refine gl_nil ?_
  refine ge_then ?_
  refine g_ret ?_
  refine ret1 (.inl rfl) rfl rfl [intsA a7 c7 L, A] (⟨_, _, by rw [Nat.zero_add], rfl⟩) (by dsimp only [intsA]; rw [Nat.zero_add]; simp only [List.nil_append]; exact (tO))

set_option maxRecDepth 8000 in
set_option maxHeartbeats 1000000 in
theorem Code_nil : FnS Tryz.prog 10 [.nilIface] [] (fun u Bs => u = I64 0 ∧ Bs = []) := by
 refine fn_body Tryz.func10 rfl rfl rfl ?_
 intro W0 R
 simp only [List.zipIdx_cons, List.zipIdx_nil, List.map_cons, List.map_nil, Nat.zero_add, Nat.reduceAdd, List.cons_append, List.nil_append]
 refine g_seq ?_
 refine g_region ?_
 refine gl_v rfl (o_assign rfl) ?_
 refine gl_nil ?_
 refine ge_then ?_
 refine g_seq ?_
 refine g_region ?_
 refine gl_n rfl (o_alloc) ?_
 rintro _ _ ⟨b3, rfl, rfl⟩
 refine gl_nil ?_
 refine ge_then ?_
 refine g_seq ?_
 refine g_block ?_
 refine g_seq ?_
 refine g_region ?_
 refine gl_v rfl (o_move rfl) ?_
 refine gl_v rfl (o_eqlnI rfl) ?_
 refine gl_v rfl (o_assign rfl) ?_
 refine gl_nil ?_
 refine ge_then ?_
 refine g_cond_true rfl ?_
 refine g_seq ?_
 refine g_region ?_
 refine gl_v rfl (o_assign rfl) ?_
 refine gl_nil ?_
 refine ge_then ?_
 refine g_ret ?_
 refine ge_block_ret ?_
 refine ge_then_ret ?_
 refine ret1 (.inl rfl) rfl rfl _ (⟨rfl, rfl⟩) (tO)

set_option maxRecDepth 8000 in
set_option maxHeartbeats 1000000 in
theorem Code_bad {W : World} (hG : Gok W) (b n : Nat) (c : Int) (a : Option Addr) (cp : Nat) : FnS Tryz.prog 10 [badV b] [cel b BT [I64 c, .slice a n cp], base W] (fun u Bs => u = I64 c ∧ Bs = [cel b BT [I64 c, .slice a n cp], base W]) := by
 refine fn_body Tryz.func10 rfl rfl rfl ?_
 intro W0 R
 simp only [List.zipIdx_cons, List.zipIdx_nil, List.map_cons, List.map_nil, Nat.zero_add, Nat.reduceAdd, List.cons_append, List.nil_append]
 refine g_seq ?_
 refine g_region ?_
 refine gl_v rfl (o_assign rfl) ?_
 refine gl_nil ?_
 refine ge_then ?_
 refine g_seq ?_
 refine g_region ?_
 refine gl_n rfl (o_alloc) ?_
 rintro _ _ ⟨b3, rfl, rfl⟩
 refine gl_nil ?_
 refine ge_then ?_
 refine g_seq ?_
 refine g_block ?_
 refine g_seq ?_
 refine g_region ?_
 refine gl_v rfl (o_move rfl) ?_
 refine gl_v rfl (o_eqlIn rfl) ?_
 refine gl_v rfl (o_assign rfl) ?_
 refine gl_nil ?_
 refine ge_then ?_
 refine g_cond_false rfl ?_
 refine g_seq ?_
 refine g_region ?_
 refine gl_v rfl (o_move rfl) ?_
 refine gl_v rfl (o_iface Tryz.underlying89 rfl rfl) ?_
 refine gl_c rfl (o_call rfl (As_hitB hG.et b b3 (.pointer none)) pA) ?_
 rintro _ R ⟨_, ⟨rfl, rfl⟩, rfl⟩
 try simp only [List.cons_append, List.nil_append]
 refine gl_v rfl (o_assign rfl) ?_
 refine gl_nil ?_
 refine ge_then ?_
 refine g_cond_true (rfl) ?_
 refine g_seq ?_
 refine g_region ?_
 first | refine gl_v rfl (o_load rfl rfl) ?_ | refine gl_v rfl (o_loadS rfl rfl) ?_ | refine gl_v rfl (o_loadC rfl) ?_
 refine gl_v rfl (o_nil rfl) ?_
 first | refine gl_v rfl (o_fldS rfl) ?_ | refine gl_v rfl (o_fld rfl) ?_
 first | refine gl_v rfl (o_load rfl rfl) ?_ | refine gl_v rfl (o_loadS rfl rfl) ?_ | refine gl_v rfl (o_loadC rfl) ?_
 refine gl_v rfl (o_assign rfl) ?_
 refine gl_nil ?_
 refine ge_then ?_
 refine g_ret ?_
 refine ge_block_ret ?_
 refine ge_then_ret ?_
 refine ret1 (.inl rfl) rfl rfl _ (⟨rfl, rfl⟩) (tO)

set_option maxRecDepth 8000 in
set_option maxHeartbeats 1000000 in
theorem Where_nil : FnS Tryz.prog 11 [.nilIface] [] (fun u Bs => u = .slice none 0 0 ∧ Bs = []) := by
 refine fn_body Tryz.func11 rfl rfl rfl ?_
 intro W0 R
 simp only [List.zipIdx_cons, List.zipIdx_nil, List.map_cons, List.map_nil, Nat.zero_add, Nat.reduceAdd, List.cons_append, List.nil_append]
 refine g_seq ?_
 refine g_region ?_
 refine gl_v rfl (o_assign rfl) ?_
 refine gl_nil ?_
 refine ge_then ?_
 refine g_seq ?_
 refine g_region ?_
 refine gl_n rfl (o_alloc) ?_
 rintro _ _ ⟨b3, rfl, rfl⟩
 refine gl_nil ?_
 refine ge_then ?_
 refine g_seq ?_
 refine g_seq ?_
 refine g_region ?_
 refine gl_v rfl (o_move rfl) ?_
 refine gl_v rfl (o_iface Tryz.underlying89 rfl rfl) ?_
 refine gl_c rfl (o_call rfl (As_nilB _) pA) ?_
 rintro _ R ⟨_, ⟨rfl, rfl⟩, rfl⟩
 try simp only [List.cons_append, List.nil_append]
 refine gl_nil ?_
 refine ge_then ?_
 refine g_cond_false (rfl) ?_
 refine g_skip ?_
 refine ge_then ?_
 refine g_seq ?_
 refine g_region ?_
 refine gl_v rfl (o_assign rfl) ?_
 refine gl_nil ?_
 refine ge_then ?_
 refine g_ret ?_
 refine ret1 (.inl rfl) rfl rfl _ (⟨rfl, rfl⟩) (tO)

set_option maxRecDepth 8000 in
set_option maxHeartbeats 1000000 in
theorem Where_bad {W : World} (hG : Gok W) (b : Nat) (c : Int) (a : Option Addr) (cp : Nat) (ws : List Int) (hw : ws.length ≤ 10) : FnS Tryz.prog 11 [badV b] [cel b BT [I64 c, .slice a ws.length cp], intsA a cp ws, base W] (fun u Bs => ∃ a' c', u = .slice a' ws.length c' ∧ Bs = [intsA a' c' ws, cel b BT [I64 c, .slice a ws.length cp], intsA a cp ws, base W]) := by
 refine fn_body Tryz.func11 rfl rfl rfl ?_
 intro W0 R
 simp only [List.zipIdx_cons, List.zipIdx_nil, List.map_cons, List.map_nil, Nat.zero_add, Nat.reduceAdd, List.cons_append, List.nil_append]
 refine g_seq ?_
 refine g_region ?_
 refine gl_v rfl (o_assign rfl) ?_
 refine gl_nil ?_
 refine ge_then ?_
 refine g_seq ?_
 refine g_region ?_
 refine gl_n rfl (o_alloc) ?_
 rintro _ _ ⟨b3, rfl, rfl⟩
 refine gl_nil ?_
 refine ge_then ?_
 refine g_seq ?_
 refine g_seq ?_
 refine g_region ?_
 refine gl_v rfl (o_move rfl) ?_
 refine gl_v rfl (o_iface Tryz.underlying89 rfl rfl) ?_
 refine gl_c rfl (o_call rfl (As_hitB hG.et b b3 (.pointer none)) pA) ?_
 rintro _ R ⟨_, ⟨rfl, rfl⟩, rfl⟩
 try simp only [List.cons_append, List.nil_append]
 refine gl_nil ?_
 refine ge_then ?_
 refine g_cond_true (rfl) ?_
 refine g_seq ?_
 refine g_region ?_
 first | refine gl_v rfl (o_load rfl rfl) ?_ | refine gl_v rfl (o_loadS rfl rfl) ?_ | refine gl_v rfl (o_loadC rfl) ?_
 refine gl_v rfl (o_nil rfl) ?_
 first | refine gl_v rfl (o_fldS rfl) ?_ | refine gl_v rfl (o_fld rfl) ?_
 first | refine gl_v rfl (o_load rfl rfl) ?_ | refine gl_v rfl (o_loadS rfl rfl) ?_ | refine gl_v rfl (o_loadC rfl) ?_
 refine gl_c rfl (o_call rfl (CloneI_spec a cp ws (by omega) (intsA a cp ws)) pA) ?_
 rintro _ R ⟨_, ⟨a', c', rfl, rfl⟩, rfl⟩
 try simp only [List.cons_append, List.nil_append]
 refine gl_v rfl (o_assign rfl) ?_
 refine gl_nil ?_
 refine ge_then ?_
 refine g_ret ?_
 refine ge_then_ret ?_
 refine ret1 (.inl rfl) rfl rfl _ (⟨_, _, rfl, rfl⟩) (tO)

set_option maxRecDepth 8000 in
set_option maxHeartbeats 1000000 in
theorem one_spec (E : List Eff) (be : Nat) : FnS Tryz.prog 9 [.slice (some ⟨be, 0, none⟩) E.length E.length] [cel be 38 (E.flatMap effC)] (fun u Bs => ∃ b5 b7 b9, u = .agg #[.slice (some ⟨b9, 0, none⟩) 1 1] ∧ Bs = [oneA E be b5 b7 b9]) := by
 refine fn_body Tryz.func9 rfl rfl rfl ?_
 intro W0 R
 simp only [List.zipIdx_cons, List.zipIdx_nil, List.map_cons, List.map_nil, Nat.zero_add, Nat.reduceAdd, List.cons_append, List.nil_append]
 refine g_seq ?_
 refine g_region ?_
 refine gl_n rfl (o_alloc) ?_
 rintro _ _ ⟨b2, rfl, rfl⟩
 refine gl_nil ?_
 refine ge_then ?_
 refine g_seq ?_
 refine g_region ?_
 refine gl_v rfl (o_move rfl) ?_
 refine gl_v rfl (o_build rfl rfl) ?_
 refine gl_n rfl (o_buildS1A (vs := rowC ⟨[120], false, 0, some ⟨be, 0, none⟩, E.length, E⟩) rfl rfl rfl rfl) ?_
 rintro _ _ ⟨b5, rfl, rfl⟩
 refine gl_v rfl (o_build rfl rfl) ?_
 refine gl_n rfl (o_buildS1A (vs := staC ⟨[115], some ⟨b5, 0, none⟩, 1, [⟨[120], false, 0, some ⟨be, 0, none⟩, E.length, E⟩]⟩) rfl rfl rfl rfl) ?_
 rintro _ _ ⟨b7, rfl, rfl⟩
 refine gl_v rfl (o_build rfl rfl) ?_
 refine gl_n rfl (o_buildS1A (vs := kndC ⟨[97], 0, 1, none, 0, [], some ⟨b7, 0, none⟩, 1, [⟨[115], some ⟨b5, 0, none⟩, 1, [⟨[120], false, 0, some ⟨be, 0, none⟩, E.length, E⟩]⟩]⟩) rfl rfl rfl rfl) ?_
 rintro _ _ ⟨b9, rfl, rfl⟩
 refine gl_v rfl (o_build rfl rfl) ?_
 first | refine gl_u (o_storeSA rfl rfl rfl rfl (by simp; omega) (by simp)) ?_ | refine gl_u (o_storeA rfl rfl rfl rfl rfl) ?_
 refine gl_nil ?_
 refine ge_then ?_
 refine g_ret ?_
 refine ret1c (.inl rfl) rfl rfl rfl rfl [oneA E be b5 b7 b9] ⟨b5, b7, b9, rfl, rfl⟩ (fun h hh => Sat.flat.2 ((tO) h hh))

instance RdA.ofCel {b n cap : Nat} {e : TypeId} {xs : List Value} : RdA (.slice (some ⟨b, 0, none⟩) n cap) (cel b e xs) n xs := ⟨fun a => RdS.get (As := [cel b e xs]) (Sat.one a)⟩
theorem fns_pure {P : Program} {F : FuncId} {args : List Value} {A : Assn} {post : Value → List Assn → Prop} {p : Prop} (h : ∀ h, A h → p) (f : p → FnS P F args [A] post) : FnS P F args [A] post := fun W0 R w s => f (by
  obtain ⟨h1, _, _, _, a, _⟩ := s.sat
  exact h _ a) W0 R w s
theorem prog' (pa : Option Addr) (pc : Nat) (KK : List Knd) (A : Assn) (hA : ∀ h, A h → PrgOk h pa pc KK) : FnS Tryz.prog 5 [.agg #[.slice pa KK.length pc]] [A] (ErrP (prgF KK) [A]) := fns_pure (fun h a => ⟨h, hA h a⟩) (fun hb => prog_spec pa pc KK A hA hb)

set_option maxRecDepth 8000 in
set_option maxHeartbeats 4000000 in
theorem alive_spec {W : World} (hG : Gok W) : FnS Tryz.prog 4 [] [base W] (fun u Bs => u = .bool true ∧ Bs = [base W]) := by
 refine fn_body Tryz.func4 rfl rfl rfl ?_
 intro W0 R
 simp only [List.zipIdx_cons, List.zipIdx_nil, List.map_cons, List.map_nil, Nat.zero_add, Nat.reduceAdd, List.cons_append, List.nil_append]
 refine g_seq ?_
 refine g_region ?_
 refine gl_v rfl (o_assign rfl) ?_
 refine gl_nil ?_
 refine ge_then ?_
 refine g_seq ?_
 refine g_region ?_
 refine gl_v rfl (o_build rfl rfl) ?_
 refine gl_c rfl (o_call rfl (ep_some (prog' none 0 [] (base W) (fun _ _ => nil_ok)) (show prgF [] = some (40, []) by kernel_rfl)) pA) ?_
 rintro _ R ⟨_, ⟨e1, a1, c1, rfl, rfl⟩, rfl⟩
 try simp only [List.cons_append, List.nil_append]
 refine gl_v rfl (o_assign rfl) ?_
 refine gl_nil ?_
 refine ge_then ?_
 refine g_seq ?_
 refine g_region ?_
 refine gl_v rfl (o_build rfl rfl) ?_
 refine gl_n rfl (o_buildS (cs := ([ef 3 [116]] : List Eff).flatMap effC) rfl rfl rfl rfl) ?_
 rintro _ _ ⟨b8, rfl, rfl⟩
 refine gl_c rfl (o_call rfl (one_spec [ef 3 [116]] b8) pA) ?_
 rintro _ R ⟨_, ⟨p2, q2, r2, rfl, rfl⟩, rfl⟩
 try simp only [List.cons_append, List.nil_append]
 refine gl_c rfl (o_call rfl (ep_some (prog' (some ⟨r2, 0, none⟩) 1 (oneK [ef 3 [116]] b8 p2 q2) (oneA [ef 3 [116]] b8 p2 q2 r2) (one_ok (by decide) (ef_ok rfl))) (show prgF (oneK [ef 3 [116]] b8 p2 q2) = some (42, [1, 1, 1, 1]) by kernel_rfl)) pA) ?_
 rintro _ R ⟨_, ⟨e2, a2, c2, rfl, rfl⟩, rfl⟩
 try simp only [List.cons_append, List.nil_append]
 refine gl_v rfl (o_assign rfl) ?_
 refine gl_nil ?_
 refine ge_then ?_
 refine g_seq ?_
 refine g_region ?_
 refine gl_v rfl (o_build rfl rfl) ?_
 refine gl_v rfl (o_build rfl rfl) ?_
 refine gl_n rfl (o_buildS (cs := ([ef 4 [], ef 11 []] : List Eff).flatMap effC) rfl rfl rfl rfl) ?_
 rintro _ _ ⟨b13, rfl, rfl⟩
 refine gl_c rfl (o_call rfl (one_spec [ef 4 [], ef 11 []] b13) pA) ?_
 rintro _ R ⟨_, ⟨p3, q3, r3, rfl, rfl⟩, rfl⟩
 try simp only [List.cons_append, List.nil_append]
 refine gl_c rfl (o_call rfl (ep_some (prog' (some ⟨r3, 0, none⟩) 1 (oneK [ef 4 [], ef 11 []] b13 p3 q3) (oneA [ef 4 [], ef 11 []] b13 p3 q3 r3) (one_ok (by decide) (ef_ok rfl))) (show prgF (oneK [ef 4 [], ef 11 []] b13 p3 q3) = some (45, [1, 1, 1]) by kernel_rfl)) pA) ?_
 rintro _ R ⟨_, ⟨e3, a3, c3, rfl, rfl⟩, rfl⟩
 try simp only [List.cons_append, List.nil_append]
 refine gl_v rfl (o_assign rfl) ?_
 refine gl_nil ?_
 refine ge_then ?_
 refine g_seq ?_
 refine g_region ?_
 refine gl_v rfl (o_build rfl rfl) ?_
 refine gl_v rfl (o_build rfl rfl) ?_
 refine gl_n rfl (o_buildS (cs := ([ef 11 [], ef 5 []] : List Eff).flatMap effC) rfl rfl rfl rfl) ?_
 rintro _ _ ⟨b18, rfl, rfl⟩
 refine gl_c rfl (o_call rfl (one_spec [ef 11 [], ef 5 []] b18) pA) ?_
 rintro _ R ⟨_, ⟨p4, q4, r4, rfl, rfl⟩, rfl⟩
 try simp only [List.cons_append, List.nil_append]
 refine gl_c rfl (o_call rfl (ep_some (prog' (some ⟨r4, 0, none⟩) 1 (oneK [ef 11 [], ef 5 []] b18 p4 q4) (oneA [ef 11 [], ef 5 []] b18 p4 q4 r4) (one_ok (by decide) (ef_ok rfl))) (show prgF (oneK [ef 11 [], ef 5 []] b18 p4 q4) = some (44, [1, 1, 1, 1]) by kernel_rfl)) pA) ?_
 rintro _ R ⟨_, ⟨e4, a4, c4, rfl, rfl⟩, rfl⟩
 try simp only [List.cons_append, List.nil_append]
 refine gl_v rfl (o_assign rfl) ?_
 refine gl_nil ?_
 refine ge_then ?_
 refine g_seq ?_
 refine g_region ?_
 refine gl_v rfl (o_build rfl rfl) ?_
 refine gl_n rfl (o_buildS (cs := ([ef 11 []] : List Eff).flatMap effC) rfl rfl rfl rfl) ?_
 rintro _ _ ⟨b22, rfl, rfl⟩
 refine gl_c rfl (o_call rfl (one_spec [ef 11 []] b22) pA) ?_
 rintro _ R ⟨_, ⟨p5, q5, r5, rfl, rfl⟩, rfl⟩
 try simp only [List.cons_append, List.nil_append]
 refine gl_c rfl (o_call rfl (ep_none (prog' (some ⟨r5, 0, none⟩) 1 (oneK [ef 11 []] b22 p5 q5) (oneA [ef 11 []] b22 p5 q5 r5) (one_ok (by decide) (ef_ok rfl))) (show prgF (oneK [ef 11 []] b22 p5 q5) = none by kernel_rfl)) pA) ?_
 rintro _ R ⟨_, ⟨rfl, rfl⟩, rfl⟩
 try simp only [List.cons_append, List.nil_append]
 refine gl_v rfl (o_eqlnI rfl) ?_
 refine gl_v rfl (o_move rfl) ?_
 refine gl_gT rfl rfl rfl ?_
 refine gl_v rfl (o_move rfl) ?_
 refine gl_gT rfl rfl rfl ?_
 refine gl_c rfl (o_call rfl (Code_bad hG e1 0 40 a1 c1) pA) ?_
 rintro _ R ⟨_, ⟨rfl, rfl⟩, rfl⟩
 try simp only [List.cons_append, List.nil_append]
 refine gl_gT rfl rfl rfl ?_
 refine gl_v rfl (o_is (c := true) (by rfl) (o_eql rfl rfl)) ?_
 refine gl_v rfl (o_pickT rfl rfl rfl) ?_
 refine gl_v rfl (o_move rfl) ?_
 refine gl_gT rfl rfl rfl ?_
 refine gl_v rfl (o_move rfl) ?_
 refine gl_gT rfl rfl rfl ?_
 refine gl_c rfl (o_call rfl (Where_bad hG e1 40 a1 c1 [] (by decide)) pA) ?_
 rintro _ R ⟨_, ⟨w1, x1, rfl, rfl⟩, rfl⟩
 try simp only [List.cons_append, List.nil_append]
 refine gl_gT rfl rfl rfl ?_
 refine gl_v rfl (o_lenL rfl) ?_
 refine gl_gT rfl rfl rfl ?_
 refine gl_v rfl (o_is (c := true) (by rfl) (o_eql rfl rfl)) ?_
 refine gl_v rfl (o_pickT rfl rfl rfl) ?_
 refine gl_v rfl (o_move rfl) ?_
 refine gl_gT rfl rfl rfl ?_
 refine gl_v rfl (o_move rfl) ?_
 refine gl_gT rfl rfl rfl ?_
 refine gl_c rfl (o_call rfl (Code_bad hG e2 4 42 a2 c2) pA) ?_
 rintro _ R ⟨_, ⟨rfl, rfl⟩, rfl⟩
 try simp only [List.cons_append, List.nil_append]
 refine gl_gT rfl rfl rfl ?_
 refine gl_v rfl (o_is (c := true) (by rfl) (o_eql rfl rfl)) ?_
 refine gl_v rfl (o_pickT rfl rfl rfl) ?_
 refine gl_v rfl (o_move rfl) ?_
 refine gl_gT rfl rfl rfl ?_
 refine gl_v rfl (o_move rfl) ?_
 refine gl_gT rfl rfl rfl ?_
 refine gl_c rfl (o_call rfl (Where_bad hG e2 42 a2 c2 [1, 1, 1, 1] (by decide)) pA) ?_
 rintro _ R ⟨_, ⟨w2, x2, rfl, rfl⟩, rfl⟩
 try simp only [List.cons_append, List.nil_append]
 refine gl_gT rfl rfl rfl ?_
 refine gl_n rfl (o_buildS (cs := [1, 1, 1, 1].map I64) rfl rfl rfl rfl) ?_
 rintro _ _ ⟨b45, rfl, rfl⟩
 refine gl_gT rfl rfl rfl ?_
 refine gl_c rfl (o_call rfl (Ints_spec [1, 1, 1, 1] [1, 1, 1, 1] w2 (some ⟨b45, 0, none⟩) x2 4 (intsA w2 x2 [1, 1, 1, 1]) (cel b45 3 ([1, 1, 1, 1].map I64)) (by decide) (by decide)) pA) ?_
 rintro _ R ⟨_, ⟨rfl, rfl⟩, rfl⟩
 try simp only [List.cons_append, List.nil_append]
 refine gl_v rfl (o_pickT rfl rfl rfl) ?_
 refine gl_v rfl (o_move rfl) ?_
 refine gl_gT rfl rfl rfl ?_
 refine gl_v rfl (o_move rfl) ?_
 refine gl_gT rfl rfl rfl ?_
 refine gl_c rfl (o_call rfl (Code_bad hG e3 3 45 a3 c3) pA) ?_
 rintro _ R ⟨_, ⟨rfl, rfl⟩, rfl⟩
 try simp only [List.cons_append, List.nil_append]
 refine gl_gT rfl rfl rfl ?_
 refine gl_v rfl (o_is (c := true) (by rfl) (o_eql rfl rfl)) ?_
 refine gl_v rfl (o_pickT rfl rfl rfl) ?_
 refine gl_v rfl (o_move rfl) ?_
 refine gl_gT rfl rfl rfl ?_
 refine gl_v rfl (o_move rfl) ?_
 refine gl_gT rfl rfl rfl ?_
 refine gl_c rfl (o_call rfl (Where_bad hG e3 45 a3 c3 [1, 1, 1] (by decide)) pA) ?_
 rintro _ R ⟨_, ⟨w3, x3, rfl, rfl⟩, rfl⟩
 try simp only [List.cons_append, List.nil_append]
 refine gl_gT rfl rfl rfl ?_
 refine gl_v rfl (o_lenL rfl) ?_
 refine gl_gT rfl rfl rfl ?_
 refine gl_v rfl (o_is (c := true) (by rfl) (o_eql rfl rfl)) ?_
 refine gl_v rfl (o_pickT rfl rfl rfl) ?_
 refine gl_v rfl (o_move rfl) ?_
 refine gl_gT rfl rfl rfl ?_
 refine gl_v rfl (o_move rfl) ?_
 refine gl_gT rfl rfl rfl ?_
 refine gl_c rfl (o_call rfl (Code_bad hG e4 4 44 a4 c4) pA) ?_
 rintro _ R ⟨_, ⟨rfl, rfl⟩, rfl⟩
 try simp only [List.cons_append, List.nil_append]
 refine gl_gT rfl rfl rfl ?_
 refine gl_v rfl (o_is (c := true) (by rfl) (o_eql rfl rfl)) ?_
 refine gl_v rfl (o_pickT rfl rfl rfl) ?_
 refine gl_v rfl (o_move rfl) ?_
 refine gl_gT rfl rfl rfl ?_
 refine gl_c rfl (o_call rfl (Code_nil) pA) ?_
 rintro _ R ⟨_, ⟨rfl, rfl⟩, rfl⟩
 try simp only [List.cons_append, List.nil_append]
 refine gl_gT rfl rfl rfl ?_
 refine gl_v rfl (o_is (c := true) (by rfl) (o_eql rfl rfl)) ?_
 refine gl_v rfl (o_pickT rfl rfl rfl) ?_
 refine gl_v rfl (o_assign rfl) ?_
 refine gl_nil ?_
 refine ge_then ?_
 refine g_ret ?_
 refine ret1 (.inl rfl) rfl rfl [base W] (⟨rfl, rfl⟩) (tO)

end Go.Proofs.YtgmdlhlmffdbhaaGreatDoor.C
