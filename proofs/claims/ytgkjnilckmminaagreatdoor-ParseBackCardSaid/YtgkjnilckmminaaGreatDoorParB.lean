/-
  Parse: ParseSame, ParseBack. Own work, printed in part by a program of its own.
-/
import Derived.Test.YtgkjnilckmminaaGreatDoorParG
set_option linter.unusedSimpArgs false
set_option linter.unusedVariables false
set_option linter.unusedSectionVars false
namespace Go.Proofs.YtgkjnilckmminaaGreatDoor.L
open Go.L Go.L.Lx Go.L.Pg Go.L.Pa
abbrev m63 : Nat := 9223372036854775806
theorem lens_of {h : Hp} {a : Option Addr} {c : Nat} {K : List Knd} (p : PrgOk h a c K) : K.length ≤ 9223372036854775806 ∧ ∀ k ∈ K, k.cases.length ≤ 9223372036854775806 ∧ k.states.length ≤ 9223372036854775806 ∧ ∀ s ∈ k.states, s.rows.length ≤ 9223372036854775806 ∧ ∀ r ∈ s.rows, r.effs.length ≤ 9223372036854775806 := by
  have h0 := p.len; unfold ok63 at h0
  refine ⟨by omega, fun k hk => ?_⟩
  have h1 := (p.kinds k hk).lenc; have h2 := (p.kinds k hk).lens; unfold ok63 at h1 h2
  refine ⟨by omega, by omega, fun s hs => ?_⟩
  have h3 := ((p.kinds k hk).states s hs).len; unfold ok63 at h3
  refine ⟨by omega, fun r hr => ?_⟩
  have h4 := (((p.kinds k hk).states s hs).rows r hr).len; unfold ok63 at h4
  omega
theorem lenK_of' {K : List Knd} (h : ∀ k ∈ K, k.cases.length ≤ 9223372036854775806 ∧ k.states.length ≤ 9223372036854775806 ∧ ∀ s ∈ k.states, s.rows.length ≤ 9223372036854775806 ∧ ∀ r ∈ s.rows, r.effs.length ≤ 9223372036854775806) : ∀ k ∈ K, LenK k := fun k hk => by
  obtain ⟨h1, h2, h3⟩ := h k hk
  refine ⟨by omega, by omega, fun s hs => ?_⟩
  obtain ⟨h4, h5⟩ := h3 s hs
  exact ⟨by omega, fun r hr => by have := h5 r hr; omega⟩
theorem base_prgP {W : World} {a : Option Addr} {c : Nat} {K : List Knd} (p : PrgOk (hpOf W) a c K) : ∀ h, base W h → PrgOk h a c K := fun h hb => p.imp fun b o e => by
  have hlt : b < W.heap.size := by
    rcases Nat.lt_or_ge b W.heap.size with x | x
    · exact x
    · rw [show hpOf W b = W.heap[b]? from rfl, Array.getElem?_eq_none x] at e; cases e
  rw [hb b hlt]; exact e
theorem strip_idem (K : List Knd) : strip (strip K) = strip K := same_eq (by rw [same_stripL]; exact same_refl K)
theorem printP_cases (K : List Knd) : (∃ c : Int, (c = 1 ∨ c = 5) ∧ printP K = ([], c)) ∨ (∃ K', printP K = (joinS (prgWs K), 0) ∧ progP (joinS (prgWs K)) = .ok K' ∧ strip K' = strip K) := by
  unfold printP
  cases hp : progP (joinS (prgWs K)) with
  | error e =>
    left
    show ∃ c : Int, _ ∧ (if (e.1 : Int) = 5 then (if K.all printableP then ([], 5) else ([], 1)) else ([], 1)) = _
    split
    · split
      · exact ⟨5, .inr rfl, rfl⟩
      · exact ⟨1, .inl rfl, rfl⟩
    · exact ⟨1, .inl rfl, rfl⟩
  | ok K' =>
    show (∃ c : Int, _ ∧ (if sameL kndEq K K' then (joinS (prgWs K), (0 : Int)) else ([], 1)) = _) ∨ ∃ K'', (if sameL kndEq K K' then (joinS (prgWs K), (0 : Int)) else ([], 1)) = _ ∧ _
    split
    · rename_i h; exact .inr ⟨K', rfl, rfl, (same_eq h).symm⟩
    · exact .inl ⟨1, .inl rfl, rfl⟩

set_option maxRecDepth 8000 in
set_option maxHeartbeats 2000000 in
theorem ParseSame_spec {W : World} (hG : Gok W) (a1 : Option Addr) (c1 : Nat) (K1 : List Knd) (p1 : PrgOk (hpOf W) a1 c1 K1) (r1 : ∀ k ∈ K1, KndR k) (a2 : Option Addr) (c2 : Nat) (K2 : List Knd) (p2 : PrgOk (hpOf W) a2 c2 K2) (r2 : ∀ k ∈ K2, KndR k) : FnS Tryz.prog 5 [.agg #[.slice a1 K1.length c1], .agg #[.slice a2 K2.length c2]] [base W] (fun u Bs => u = .bool true ∧ Bs = [base W]) := by
 refine fn_body Tryz.func5 rfl rfl rfl ?_
 intro W0 R
 simp only [List.zipIdx_cons, List.zipIdx_nil, List.map_cons, List.map_nil, Nat.zero_add, Nat.reduceAdd, List.cons_append, List.nil_append]
 refine g_seq ?_
 refine g_region ?_
 refine gl_n rfl (o_boxA rfl) ?_
 rintro _ _ ⟨b2, rfl, rfl⟩
 refine gl_n rfl (o_boxA rfl) ?_
 rintro _ _ ⟨b3, rfl, rfl⟩
 refine gl_v rfl (o_assign rfl) ?_
 refine gl_nil ?_
 refine ge_then ?_
 refine g_seq ?_
 refine g_seq ?_
 refine g_region ?_
 first | refine gl_v rfl (o_loadSA rfl rfl rfl) ?_ | refine gl_v rfl (o_loadA rfl rfl rfl) ?_
 refine gl_c rfl (o_call rfl (Great_spec (base W) K1 a1 c1 (base_prgP p1) (lens_of p1).1 (lenK_of' (lens_of p1).2)) (by repeat (first | exact .nil | (apply Part.cons; · (repeat (first | exact .head | apply Sel.tail)))))) ?_
 rintro _ R ⟨_, ⟨g1, rfl, hg1, rfl⟩, rfl⟩
 try simp only [List.cons_append, List.nil_append]
 refine gl_v rfl (o_move rfl) ?_
 refine gl_g rfl rfl (fun hc1 => ?_) (fun hc1 => ?_) rfl
 ·
  have hc1' := hc1
  first | replace hc1' := of_decide_eq_true hc1' | replace hc1' := lt_f hc1' | replace hc1' := le_f hc1' | replace hc1' := dec_f hc1' | replace hc1' := nlt_t hc1' | replace hc1' := nle_t hc1' | replace hc1' := ndec_t hc1' | replace hc1' := ndec_f hc1' | replace hc1' := nn_t hc1' | replace hc1' := nn_f hc1' | skip
  first | refine gl_v rfl (o_loadSA rfl rfl rfl) ?_ | refine gl_v rfl (o_loadA rfl rfl rfl) ?_
  refine gl_gT rfl rfl hc1 ?_
  refine gl_c rfl (o_call rfl (Great_spec (base W) K2 a2 c2 (base_prgP p2) (lens_of p2).1 (lenK_of' (lens_of p2).2)) (by repeat (first | exact .nil | (apply Part.cons; · (repeat (first | exact .head | apply Sel.tail)))))) ?_
  rintro _ R ⟨_, ⟨g2, rfl, hg2, rfl⟩, rfl⟩
  try simp only [List.cons_append, List.nil_append]
  refine gl_v rfl (o_pickF hc1 rfl rfl) ?_
  refine gl_nil ?_
  refine ge_then ?_
  refine g_cond rfl (fun hc2 => ?_) (fun hc2 => ?_)
  ·
   first | replace hc2 := of_decide_eq_true hc2 | replace hc2 := lt_f hc2 | replace hc2 := le_f hc2 | replace hc2 := dec_f hc2 | replace hc2 := nlt_t hc2 | replace hc2 := nle_t hc2 | replace hc2 := ndec_t hc2 | replace hc2 := ndec_f hc2 | replace hc2 := nn_t hc2 | replace hc2 := nn_f hc2 | skip
   refine g_seq ?_
   refine g_region ?_
   refine gl_c rfl (o_call rfl (alive_spec hG) (by repeat (first | exact .nil | (apply Part.cons; · (repeat (first | exact .head | apply Sel.tail)))))) ?_
   rintro _ R ⟨_, ⟨rfl, rfl⟩, rfl⟩
   try simp only [List.cons_append, List.nil_append]
   refine gl_v rfl (o_assign rfl) ?_
   refine gl_nil ?_
   refine ge_then ?_
   refine g_ret ?_
   refine ge_then_ret ?_
   refine ret1 (.inl rfl) rfl rfl [base W] (⟨rfl, rfl⟩) (To.sat (by repeat (first | exact .nil | exact .done .refl | (apply To.cons; · (repeat (first | exact .head | apply Sel.tail))) | exact .done (by repeat (first | exact .refl | apply Drop.skip)))))
  ·
   first | replace hc2 := of_decide_eq_true hc2 | replace hc2 := lt_f hc2 | replace hc2 := le_f hc2 | replace hc2 := dec_f hc2 | replace hc2 := nlt_t hc2 | replace hc2 := nle_t hc2 | replace hc2 := ndec_t hc2 | replace hc2 := ndec_f hc2 | replace hc2 := nn_t hc2 | replace hc2 := nn_f hc2 | skip
   refine g_skip ?_
   refine ge_then ?_
   refine g_seq ?_
   refine g_draw [0, 4, 7, 13, 18] [4] [(0, .eff), (1, .loc), (2, .loc), (3, .loc), (5, .stab), (6, .stab), (4, .eff), (7, .eff), (8, .loc), (9, .loc), (10, .loc), (11, .loc), (12, .loc), (13, .eff), (14, .loc), (15, .loc), (16, .loc), (17, .loc), (18, .eff), (19, .loc), (20, .loc)] [cel b2 25 [.slice a1 K1.length c1], cel b3 25 [.slice a2 K2.length c2], base W] mixed (by kernel_rfl) ?_
   refine go_c rfl .none rfl (o_call rfl (alive_spec hG) (by repeat (first | exact .nil | (apply Part.cons; · (repeat (first | exact .head | apply Sel.tail)))))) ?_
   rintro _ R ⟨_, ⟨rfl, rfl⟩, rfl⟩
   try simp only [List.cons_append, List.nil_append]
   refine ⟨(fun hG => absurd hG (by decide)), ?_⟩
   refine go_v rfl .none rfl (o_move rfl) ?_
   first | refine go_v rfl (.yes rfl rfl rfl) rfl (o_loadSA rfl rfl rfl) ?_ | refine go_v rfl (.yes rfl rfl rfl) rfl (o_loadA rfl rfl rfl) ?_
   first | refine go_v rfl (.yes rfl rfl rfl) rfl (o_loadSA rfl rfl rfl) ?_ | refine go_v rfl (.yes rfl rfl rfl) rfl (o_loadA rfl rfl rfl) ?_
   first | refine go_vs rfl (.yes rfl rfl rfl) rfl (o_loadSA rfl rfl rfl) (To.sat (by repeat (first | exact .nil | exact .done .refl | (apply To.cons; · (repeat (first | exact .head | apply Sel.tail))) | exact .done (by repeat (first | exact .refl | apply Drop.skip))))) ?_ | refine go_vs rfl (.yes rfl rfl rfl) rfl (o_loadA rfl rfl rfl) (To.sat (by repeat (first | exact .nil | exact .done .refl | (apply To.cons; · (repeat (first | exact .head | apply Sel.tail))) | exact .done (by repeat (first | exact .refl | apply Drop.skip))))) ?_
   first | refine go_vs rfl (.yes rfl rfl rfl) rfl (o_loadSA rfl rfl rfl) (To.sat (by repeat (first | exact .nil | exact .done .refl | (apply To.cons; · (repeat (first | exact .head | apply Sel.tail))) | exact .done (by repeat (first | exact .refl | apply Drop.skip))))) ?_ | refine go_vs rfl (.yes rfl rfl rfl) rfl (o_loadA rfl rfl rfl) (To.sat (by repeat (first | exact .nil | exact .done .refl | (apply To.cons; · (repeat (first | exact .head | apply Sel.tail))) | exact .done (by repeat (first | exact .refl | apply Drop.skip))))) ?_
   refine go_c rfl (.yes rfl rfl rfl) rfl (o_call rfl (Same_spec (base W) K1 K2 a1 a2 c1 c2 (base_prgP p1) (base_prgP p2) (by have := (lens_of p1).1; omega) (lenK_of' (lens_of p1).2)) (by repeat (first | exact .nil | (apply Part.cons; · (repeat (first | exact .head | apply Sel.tail)))))) ?_
   rintro _ R ⟨_, ⟨rfl, rfl⟩, rfl⟩
   try simp only [List.cons_append, List.nil_append]
   refine ⟨(fun _ => (To.sat (by repeat (first | exact .nil | exact .done .refl | (apply To.cons; · (repeat (first | exact .head | apply Sel.tail))) | exact .done (by repeat (first | exact .refl | apply Drop.skip)))))), ?_⟩
   refine go_c rfl (.yes rfl rfl rfl) rfl (o_call rfl (rSame_spec (base W) K1 K2 a1 a2 c1 c2 (base_prgP p1) (base_prgP p2) (lens_of p1).1 (lens_of p1).2) (by repeat (first | exact .nil | (apply Part.cons; · (repeat (first | exact .head | apply Sel.tail)))))) ?_
   rintro _ R ⟨_, ⟨rfl, rfl⟩, rfl⟩
   try simp only [List.cons_append, List.nil_append]
   refine ⟨(fun hG => absurd hG (by decide)), ?_⟩
   refine go_v rfl (.yes rfl rfl rfl) rfl (o_is (c := true) (by simp) (o_eqlb rfl rfl)) ?_
   refine go_v rfl .none rfl (o_pickT rfl rfl rfl) ?_
   refine go_v rfl .none rfl (o_move rfl) ?_
   first | refine go_v rfl (.yes rfl rfl rfl) rfl (o_loadSA rfl rfl rfl) ?_ | refine go_v rfl (.yes rfl rfl rfl) rfl (o_loadA rfl rfl rfl) ?_
   first | refine go_v rfl (.yes rfl rfl rfl) rfl (o_loadSA rfl rfl rfl) ?_ | refine go_v rfl (.yes rfl rfl rfl) rfl (o_loadA rfl rfl rfl) ?_
   refine go_c rfl (.yes rfl rfl rfl) rfl (o_call rfl (Same_spec (base W) K1 K1 a1 a1 c1 c1 (base_prgP p1) (base_prgP p1) (by have := (lens_of p1).1; omega) (lenK_of' (lens_of p1).2)) (by repeat (first | exact .nil | (apply Part.cons; · (repeat (first | exact .head | apply Sel.tail)))))) ?_
   rintro _ R ⟨_, ⟨rfl, rfl⟩, rfl⟩
   try simp only [List.cons_append, List.nil_append]
   rw [same_refl]
   refine ⟨(fun hG => absurd hG (by decide)), ?_⟩
   refine go_v rfl .none rfl (o_pickT rfl rfl rfl) ?_
   refine go_v rfl .none rfl (o_move rfl) ?_
   first | refine go_v rfl (.yes rfl rfl rfl) rfl (o_loadSA rfl rfl rfl) ?_ | refine go_v rfl (.yes rfl rfl rfl) rfl (o_loadA rfl rfl rfl) ?_
   first | refine go_v rfl (.yes rfl rfl rfl) rfl (o_loadSA rfl rfl rfl) ?_ | refine go_v rfl (.yes rfl rfl rfl) rfl (o_loadA rfl rfl rfl) ?_
   refine go_c rfl (.yes rfl rfl rfl) rfl (o_call rfl (Same_spec (base W) K2 K2 a2 a2 c2 c2 (base_prgP p2) (base_prgP p2) (by have := (lens_of p2).1; omega) (lenK_of' (lens_of p2).2)) (by repeat (first | exact .nil | (apply Part.cons; · (repeat (first | exact .head | apply Sel.tail)))))) ?_
   rintro _ R ⟨_, ⟨rfl, rfl⟩, rfl⟩
   try simp only [List.cons_append, List.nil_append]
   rw [same_refl]
   refine ⟨(fun hG => absurd hG (by decide)), ?_⟩
   refine go_v rfl .none rfl (o_pickT rfl rfl rfl) ?_
   refine go_v rfl .none rfl (o_assign rfl) ?_
   refine go_nil ?_
   refine ge_then ?_
   refine g_ret ?_
   refine ret1 (.inl rfl) rfl rfl [base W] (⟨rfl, rfl⟩) (To.sat (by repeat (first | exact .nil | exact .done .refl | (apply To.cons; · (repeat (first | exact .head | apply Sel.tail))) | exact .done (by repeat (first | exact .refl | apply Drop.skip)))))
 ·
  have hc1' := hc1
  first | replace hc1' := of_decide_eq_true hc1' | replace hc1' := lt_f hc1' | replace hc1' := le_f hc1' | replace hc1' := dec_f hc1' | replace hc1' := nlt_t hc1' | replace hc1' := nle_t hc1' | replace hc1' := ndec_t hc1' | replace hc1' := ndec_f hc1' | replace hc1' := nn_t hc1' | replace hc1' := nn_f hc1' | skip
  simp only [putO]
  refine gl_gF rfl rfl hc1 rfl ?_
  refine gl_v rfl (o_pickT hc1 rfl rfl) ?_
  refine gl_nil ?_
  refine ge_then ?_
  refine g_cond_true rfl ?_
  refine g_seq ?_
  refine g_region ?_
  refine gl_c rfl (o_call rfl (alive_spec hG) (by repeat (first | exact .nil | (apply Part.cons; · (repeat (first | exact .head | apply Sel.tail)))))) ?_
  rintro _ R ⟨_, ⟨rfl, rfl⟩, rfl⟩
  try simp only [List.cons_append, List.nil_append]
  refine gl_v rfl (o_assign rfl) ?_
  refine gl_nil ?_
  refine ge_then ?_
  refine g_ret ?_
  refine ge_then_ret ?_
  refine ret1 (.inl rfl) rfl rfl [base W] (⟨rfl, rfl⟩) (To.sat (by repeat (first | exact .nil | exact .done .refl | (apply To.cons; · (repeat (first | exact .head | apply Sel.tail))) | exact .done (by repeat (first | exact .refl | apply Drop.skip)))))

set_option maxRecDepth 8000 in
set_option maxHeartbeats 2000000 in
theorem ParseBack_spec {W : World} (hG : Gok W) (a1 : Option Addr) (c1 : Nat) (K1 : List Knd) (p1 : PrgOk (hpOf W) a1 c1 K1) (r1 : ∀ k ∈ K1, KndR k) : FnS Tryz.prog 6 [.agg #[.slice a1 K1.length c1]] [base W] (fun u Bs => u = .bool true ∧ Bs = [base W]) := by
 refine fn_body Tryz.func6 rfl rfl rfl ?_
 intro W0 R
 simp only [List.zipIdx_cons, List.zipIdx_nil, List.map_cons, List.map_nil, Nat.zero_add, Nat.reduceAdd, List.cons_append, List.nil_append]
 refine g_seq ?_
 refine g_region ?_
 refine gl_n rfl (o_boxA rfl) ?_
 rintro _ _ ⟨b1, rfl, rfl⟩
 refine gl_v rfl (o_assign rfl) ?_
 refine gl_nil ?_
 refine ge_then ?_
 refine g_seq ?_
 refine g_seq ?_
 refine g_region ?_
 refine gl_c rfl (o_call rfl (alive_spec hG) (by repeat (first | exact .nil | (apply Part.cons; · (repeat (first | exact .head | apply Sel.tail)))))) ?_
 rintro _ R ⟨_, ⟨rfl, rfl⟩, rfl⟩
 try simp only [List.cons_append, List.nil_append]
 refine gl_v rfl (o_is (c := false) (by rfl) (o_not rfl)) ?_
 refine gl_nil ?_
 refine ge_then ?_
 refine g_cond_false rfl ?_
 refine g_skip ?_
 refine ge_then ?_
 refine g_seq ?_
 refine g_seq ?_
 refine g_region ?_
 first | refine gl_v rfl (o_loadSA rfl rfl rfl) ?_ | refine gl_v rfl (o_loadA rfl rfl rfl) ?_
 refine gl_c rfl (o_call rfl (Great_spec (base W) K1 a1 c1 (base_prgP p1) (lens_of p1).1 (lenK_of' (lens_of p1).2)) (by repeat (first | exact .nil | (apply Part.cons; · (repeat (first | exact .head | apply Sel.tail)))))) ?_
 rintro _ R ⟨_, ⟨g1, rfl, hg1, rfl⟩, rfl⟩
 try simp only [List.cons_append, List.nil_append]
 refine gl_nil ?_
 refine ge_then ?_
 refine g_cond rfl (fun hc1 => ?_) (fun hc1 => ?_)
 ·
  first | replace hc1 := of_decide_eq_true hc1 | replace hc1 := lt_f hc1 | replace hc1 := le_f hc1 | replace hc1 := dec_f hc1 | replace hc1 := nlt_t hc1 | replace hc1 := nle_t hc1 | replace hc1 := ndec_t hc1 | replace hc1 := ndec_f hc1 | replace hc1 := nn_t hc1 | replace hc1 := nn_f hc1 | skip
  refine g_seq ?_
  refine g_region ?_
  refine gl_v rfl (o_assign rfl) ?_
  refine gl_nil ?_
  refine ge_then ?_
  refine g_ret ?_
  refine ge_then_ret ?_
  refine ret1 (.inl rfl) rfl rfl [base W] (⟨rfl, rfl⟩) (To.sat (by repeat (first | exact .nil | exact .done .refl | (apply To.cons; · (repeat (first | exact .head | apply Sel.tail))) | exact .done (by repeat (first | exact .refl | apply Drop.skip)))))
 ·
  first | replace hc1 := of_decide_eq_true hc1 | replace hc1 := lt_f hc1 | replace hc1 := le_f hc1 | replace hc1 := dec_f hc1 | replace hc1 := nlt_t hc1 | replace hc1 := nle_t hc1 | replace hc1 := ndec_t hc1 | replace hc1 := ndec_f hc1 | replace hc1 := nn_t hc1 | replace hc1 := nn_f hc1 | skip
  have hz := wl_prg r1 (hg1 hc1)
  have hjl := joinS_len (prgWs K1)
  refine g_skip ?_
  refine ge_then ?_
  refine g_seq ?_
  rcases printP_cases K1 with ⟨cc, hcc, hpp⟩ | ⟨K', hpp, hpr, hst⟩
  ·
   refine g_region ?_
   first | refine gl_v rfl (o_loadSA rfl rfl rfl) ?_ | refine gl_v rfl (o_loadA rfl rfl rfl) ?_
   refine gl_c rfl (o_call rfl (Print_spec hG (base W) K1 a1 c1 (base_prgP p1) r1 (by omega)) (by repeat (first | exact .nil | (apply Part.cons; · (repeat (first | exact .head | apply Sel.tail)))))) ?_
   rintro _ R ⟨_, ⟨rfl, rfl⟩, rfl⟩
   try simp only [List.cons_append, List.nil_append]
   rw [hpp]
   refine gl_v rfl (o_move rfl) ?_
   refine gl_v rfl (o_extract rfl rfl) ?_
   refine gl_v rfl (o_extract rfl rfl) ?_
   refine gl_v rfl (o_assign rfl) ?_
   refine gl_v rfl (o_assign rfl) ?_
   refine gl_nil ?_
   refine ge_then ?_
   refine g_seq ?_
   refine g_seq ?_
   refine g_region ?_
   refine gl_v rfl (o_move rfl) ?_
   refine gl_v rfl (o_is (c := true) (by rcases hcc with rfl | rfl <;> rfl) (o_neq rfl rfl)) ?_
   refine gl_nil ?_
   refine ge_then ?_
   refine g_cond_true rfl ?_
   refine g_seq ?_
   refine g_region ?_
   refine gl_v rfl (o_move rfl) ?_
   refine gl_v rfl (o_is (c := true) (by rfl) (o_eqls rfl rfl)) ?_
   refine gl_v rfl (o_assign rfl) ?_
   refine gl_nil ?_
   refine ge_then ?_
   refine g_ret ?_
   refine ge_then_ret ?_
   refine ret1 (.inl rfl) rfl rfl [base W] (⟨rfl, rfl⟩) (To.sat (by repeat (first | exact .nil | exact .done .refl | (apply To.cons; · (repeat (first | exact .head | apply Sel.tail))) | exact .done (by repeat (first | exact .refl | apply Drop.skip)))))
  ·
   refine g_region ?_
   first | refine gl_v rfl (o_loadSA rfl rfl rfl) ?_ | refine gl_v rfl (o_loadA rfl rfl rfl) ?_
   refine gl_c rfl (o_call rfl (Print_spec hG (base W) K1 a1 c1 (base_prgP p1) r1 (by omega)) (by repeat (first | exact .nil | (apply Part.cons; · (repeat (first | exact .head | apply Sel.tail)))))) ?_
   rintro _ R ⟨_, ⟨rfl, rfl⟩, rfl⟩
   try simp only [List.cons_append, List.nil_append]
   rw [hpp]
   refine gl_v rfl (o_move rfl) ?_
   refine gl_v rfl (o_extract rfl rfl) ?_
   refine gl_v rfl (o_extract rfl rfl) ?_
   refine gl_v rfl (o_assign rfl) ?_
   refine gl_v rfl (o_assign rfl) ?_
   refine gl_nil ?_
   refine ge_then ?_
   refine g_seq ?_
   refine g_seq ?_
   refine g_region ?_
   refine gl_v rfl (o_move rfl) ?_
   refine gl_v rfl (o_is (c := false) (by rfl) (o_neq rfl rfl)) ?_
   refine gl_nil ?_
   refine ge_then ?_
   refine g_cond_false rfl ?_
   refine g_skip ?_
   refine ge_then ?_
   refine g_seq ?_
   refine g_region ?_
   refine gl_v rfl (o_move rfl) ?_
   refine gl_c rfl (o_call rfl (Prog_ok hG (base W) (joinS (prgWs K1)) (by omega) K' hpr) (by repeat (first | exact .nil | (apply Part.cons; · (repeat (first | exact .head | apply Sel.tail)))))) ?_
   rintro _ R ⟨_, ⟨pa, pc, K2, hK2, rfl, rfl⟩, rfl⟩
   try simp only [List.cons_append, List.nil_append]
   have hst2 : strip K2 = strip K1 := by rw [← hst, ← hK2, strip_idem]
   have hwl : wl (prgWs K2) = wl (prgWs K1) := by rw [← prgWs_strip, hst2, prgWs_strip]
   refine gl_v rfl (o_move rfl) ?_
   refine gl_v rfl (o_extract rfl rfl) ?_
   refine gl_v rfl (o_extract rfl rfl) ?_
   refine gl_n rfl (o_alloc) ?_
   rintro _ _ ⟨b5, rfl, rfl⟩
   first | refine gl_u (o_storeSA rfl rfl rfl rfl (by simp; omega) (by simp)) ?_ | refine gl_u (o_storeA rfl rfl rfl rfl rfl) ?_
   refine gl_v rfl (o_assign rfl) ?_
   refine gl_nil ?_
   refine ge_then ?_
   refine g_seq ?_
   refine g_region ?_
   first | refine gl_v rfl (o_loadSA rfl rfl rfl) ?_ | refine gl_v rfl (o_loadA rfl rfl rfl) ?_
   refine gl_imp (fun h s => sat_both.2 (Part.to (m := [prgA pa pc K2, base W]) (by repeat (first | exact .nil | (apply Part.cons; · (repeat (first | exact .head | apply Sel.tail))))) s)) ?_
   refine gl_c rfl (o_call rfl (Print_spec hG (both (prgA pa pc K2) (base W)) K2 pa pc (prg_l fun h a => a) (all_R hst2.symm r1) (by rw [hwl]; omega)) (by repeat (first | exact .nil | (apply Part.cons; · (repeat (first | exact .head | apply Sel.tail)))))) ?_
   rintro _ R ⟨_, ⟨rfl, rfl⟩, rfl⟩
   try simp only [List.cons_append, List.nil_append]
   rw [show printP K2 = (joinS (prgWs K1), 0) from by rw [← printP_strip, hst2, printP_strip, hpp]]
   refine gl_imp (fun h s => sat_both.1 (Sel.to (A := both (prgA pa pc K2) (base W)) (by repeat (first | exact .head | apply Sel.tail)) s)) ?_
   try simp only [List.append_eq, List.nil_append, List.cons_append]
   refine gl_v rfl (o_move rfl) ?_
   refine gl_v rfl (o_extract rfl rfl) ?_
   refine gl_v rfl (o_extract rfl rfl) ?_
   refine gl_v rfl (o_assign rfl) ?_
   refine gl_v rfl (o_assign rfl) ?_
   refine gl_nil ?_
   refine ge_then ?_
   refine g_seq ?_
   refine g_region ?_
   refine gl_v rfl (o_move rfl) ?_
   refine gl_v rfl (o_eqlnI rfl) ?_
   refine gl_v rfl (o_move rfl) ?_
   refine gl_gT rfl rfl rfl ?_
   first | refine gl_v rfl (o_loadSA rfl rfl rfl) ?_ | refine gl_v rfl (o_loadA rfl rfl rfl) ?_
   refine gl_gT rfl rfl rfl ?_
   first | refine gl_v rfl (o_loadSA rfl rfl rfl) ?_ | refine gl_v rfl (o_loadA rfl rfl rfl) ?_
   refine gl_gT rfl rfl rfl ?_
   refine gl_imp (fun h s => sat_both.2 (Part.to (m := [prgA pa pc K2, base W]) (by repeat (first | exact .nil | (apply Part.cons; · (repeat (first | exact .head | apply Sel.tail))))) s)) ?_
   refine gl_c rfl (o_call rfl (Same_spec (both (prgA pa pc K2) (base W)) K1 K2 a1 pa c1 pc (prg_r (base_prgP p1)) (prg_l fun h a => a) (by have := (lens_of p1).1; omega) (lenK_of' (lens_of p1).2)) (by repeat (first | exact .nil | (apply Part.cons; · (repeat (first | exact .head | apply Sel.tail)))))) ?_
   rintro _ R ⟨_, ⟨rfl, rfl⟩, rfl⟩
   try simp only [List.cons_append, List.nil_append]
   rw [eq_same hst2.symm]
   refine gl_imp (fun h s => sat_both.1 (Sel.to (A := both (prgA pa pc K2) (base W)) (by repeat (first | exact .head | apply Sel.tail)) s)) ?_
   try simp only [List.append_eq, List.nil_append, List.cons_append]
   refine gl_v rfl (o_pickT rfl rfl rfl) ?_
   refine gl_v rfl (o_move rfl) ?_
   refine gl_gT rfl rfl rfl ?_
   refine gl_v rfl (o_move rfl) ?_
   refine gl_gT rfl rfl rfl ?_
   refine gl_v rfl (o_is (c := true) (by rfl) (o_eql rfl rfl)) ?_
   refine gl_v rfl (o_pickT rfl rfl rfl) ?_
   refine gl_v rfl (o_move rfl) ?_
   refine gl_gT rfl rfl rfl ?_
   refine gl_v rfl (o_move rfl) ?_
   refine gl_gT rfl rfl rfl ?_
   refine gl_v rfl (o_move rfl) ?_
   refine gl_gT rfl rfl rfl ?_
   refine gl_v rfl (o_is (c := true) (by simp) (o_eqls rfl rfl)) ?_
   refine gl_v rfl (o_pickT rfl rfl rfl) ?_
   refine gl_v rfl (o_assign rfl) ?_
   refine gl_nil ?_
   refine ge_then ?_
   refine g_ret ?_
   refine ret1 (.inl rfl) rfl rfl [base W] (⟨rfl, rfl⟩) (To.sat (by repeat (first | exact .nil | exact .done .refl | (apply To.cons; · (repeat (first | exact .head | apply Sel.tail))) | exact .done (by repeat (first | exact .refl | apply Drop.skip)))))

end Go.Proofs.YtgkjnilckmminaaGreatDoor.L
