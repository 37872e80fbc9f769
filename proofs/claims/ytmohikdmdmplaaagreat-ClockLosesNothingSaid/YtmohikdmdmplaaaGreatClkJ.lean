/-
  Clocks made; operations done at once; what is told. Own work, printed in part by a program of its own.
-/
import Derived.Test.YtmohikdmdmplaaaGreatClkI
import Derived.Test.YtmohikdmdmplaaaGreatRingI
set_option linter.unusedSimpArgs false
set_option linter.unusedVariables false
set_option linter.unusedSectionVars false
namespace Go.Proofs.YtmohikdmdmplaaaGreat.L
open Go.L Go.L.Ring Go.L.Post Go.L.Clk Go.L.Whl
def sizeK (s : Int) : Int := if sizeR s = 0 then 0 else 1 + sizeR s
theorem sizeR_in (s : Int) : 0 ≤ sizeR s ∧ sizeR s ≤ 130 := by unfold sizeR; split <;> omega
theorem sizeK_in (s : Int) : 0 ≤ sizeK s ∧ sizeK s ≤ 131 := by have := sizeR_in s; unfold sizeK; split <;> omega
theorem sizeK_val (s : Int) : sizeK s = if 1 ≤ s ∧ s ≤ 64 then 3 + 2 * s else 0 := by unfold sizeK sizeR; (repeat' split) <;> omega
theorem zap_add (L : List Int) (b i : Nat) : ∀ j, zap (zap L b i) (b + i) j = zap L b (i + j)
  | 0 => rfl
  | j + 1 => by rw [zap, zap_add L b i j, ← Nat.add_assoc, zap, Nat.add_assoc]
theorem env_close {X : KX} {B : CB} {L : List Int} {t : Int} {w : Wh} {As R : List Assn} (h : ∀ h, Sat As h → Sat (clkA X B :: memA X.m L t :: ringA X.r X.m (B.b + 1) B.n :: wheel X.wp w :: R) h) : ∀ h, Sat As h → Sat (envK X B L t w :: R) h := ex_close () trivial h
/-- a begun operation, over all that the clock is -/
theorem fns_env {X : KX} {B : CB} {L : List Int} {t : Int} {w : Wh} {P : Program} {f : FuncId} {args : List Value} {co : CO} (h : FnS P f args [clkA X B] (fun u Bs => ∃ p, u = ptr p 0 ∧ Bs = [opK X B p co, clkA X B])) :
    FnS P f args [envK X B L t w] (fun u Bs => ∃ p, u = ptr p 0 ∧ Bs = [opK X B p co, envK X B L t w]) := by
  refine fns_ex (fun x _ => ?_)
  intro W0 R w' s
  refine (h W0 (memA X.m L t :: ringA X.r X.m (B.b + 1) B.n :: wheel X.wp w :: R) w' s).mono ?_
  rintro _ _ ⟨v, Bs, e, ⟨p, e2, rfl⟩, s⟩
  exact ⟨v, _, e, ⟨p, e2, rfl⟩, s.imp fun h s => Sat.tail (fun h s => ex_close () trivial (fun h s => s) h s) s⟩
theorem fns_envW {X : KX} {B : CB} {L : List Int} {t : Int} {w : Wh} {P : Program} {f : FuncId} {args : List Value} {co : CO} (h : FnS P f args [clkA X B, wheel X.wp w] (fun u Bs => ∃ p, u = ptr p 0 ∧ Bs = [opK X B p co, clkA X B, wheel X.wp w])) :
    FnS P f args [envK X B L t w] (fun u Bs => ∃ p, u = ptr p 0 ∧ Bs = [opK X B p co, envK X B L t w]) := by
  refine fns_ex (fun x _ => ?_)
  intro W0 R w' s
  refine (h W0 (memA X.m L t :: ringA X.r X.m (B.b + 1) B.n :: R) w' (s.imp (To.sat (by repeat (first | exact .nil | exact .done .refl | (apply To.cons; · (repeat (first | exact .head | apply Sel.tail))) | exact .done (by repeat (first | exact .refl | apply Drop.skip))))))).mono ?_
  rintro _ _ ⟨v, Bs, e, ⟨p, e2, rfl⟩, s⟩
  exact ⟨v, _, e, ⟨p, e2, rfl⟩, s.imp fun h s => Sat.tail (fun h s => ex_close () trivial (To.sat (by repeat (first | exact .nil | exact .done .refl | (apply To.cons; · (repeat (first | exact .head | apply Sel.tail))) | exact .done (by repeat (first | exact .refl | apply Drop.skip))))) h s) s⟩
def toldL (co : CO) (l : List Int) : List Int := if co.out = 0 then [] else l

set_option maxRecDepth 8000 in
set_option maxHeartbeats 2000000 in
theorem kSize_spec (s : Int) : FnS Tryz.prog 23 [I64 s] [] (fun u Bs => u = I64 (sizeK s) ∧ Bs = []) := by
 refine fn_body Tryz.func23 rfl rfl rfl ?_
 intro W0 R
 simp only [List.zipIdx_cons, List.zipIdx_nil, List.map_cons, List.map_nil, Nat.zero_add, Nat.reduceAdd, List.cons_append, List.nil_append]
 have hs := sizeR_in s
 refine g_seq ?_
 refine g_region ?_
 refine gl_v rfl (o_assign rfl) ?_
 refine gl_nil ?_
 refine ge_then ?_
 refine g_seq ?_
 refine g_region ?_
 refine gl_v rfl (o_move rfl) ?_
 refine gl_c rfl (o_call rfl (Size_spec s) (by repeat (first | exact .nil | (apply Part.cons; · (repeat (first | exact .head | apply Sel.tail)))))) ?_
 rintro _ R ⟨_, ⟨rfl, rfl⟩, rfl⟩
 try simp only [List.cons_append, List.nil_append]
 refine gl_v rfl (o_assign rfl) ?_
 refine gl_nil ?_
 refine ge_then ?_
 refine g_seq ?_
 refine g_seq ?_
 refine g_region ?_
 refine gl_v rfl (o_move rfl) ?_
 refine gl_v rfl (o_eql rfl rfl) ?_
 refine gl_nil ?_
 refine ge_then ?_
 refine g_cond rfl (fun hc1 => ?_) (fun hc1 => ?_)
 ·
  first | replace hc1 := of_decide_eq_true hc1 | replace hc1 := lt_f hc1 | replace hc1 := le_f hc1 | replace hc1 := dec_f hc1 | replace hc1 := nlt_t hc1 | replace hc1 := nle_t hc1 | replace hc1 := ndec_t hc1 | replace hc1 := ndec_f hc1 | replace hc1 := nn_t hc1 | replace hc1 := nn_f hc1 | skip
  refine g_seq ?_
  refine g_region ?_
  refine gl_v rfl (o_assign rfl) ?_
  refine gl_nil ?_
  refine ge_then ?_
  refine g_ret ?_
  refine ge_then_ret ?_
  refine ret1 (.inl rfl) rfl rfl _ (⟨by unfold sizeK; first | (rw [if_pos (by omega)]; done) | (rw [if_pos (by omega)]) | (rw [if_neg (by omega)]), rfl⟩) (To.sat (by repeat (first | exact .nil | exact .done .refl | (apply To.cons; · (repeat (first | exact .head | apply Sel.tail))) | exact .done (by repeat (first | exact .refl | apply Drop.skip)))))
 ·
  first | replace hc1 := of_decide_eq_true hc1 | replace hc1 := lt_f hc1 | replace hc1 := le_f hc1 | replace hc1 := dec_f hc1 | replace hc1 := nlt_t hc1 | replace hc1 := nle_t hc1 | replace hc1 := ndec_t hc1 | replace hc1 := ndec_f hc1 | replace hc1 := nn_t hc1 | replace hc1 := nn_f hc1 | skip
  refine g_skip ?_
  refine ge_then ?_
  refine g_seq ?_
  refine g_region ?_
  refine gl_v rfl (o_move rfl) ?_
  refine gl_v rfl (o_addR (1 + sizeR s) (wr_i64 (by omega)) rfl rfl) ?_
  refine gl_v rfl (o_assign rfl) ?_
  refine gl_nil ?_
  refine ge_then ?_
  refine g_ret ?_
  refine ret1 (.inl rfl) rfl rfl _ (⟨by unfold sizeK; first | (rw [if_pos (by omega)]; done) | (rw [if_pos (by omega)]) | (rw [if_neg (by omega)]), rfl⟩) (To.sat (by repeat (first | exact .nil | exact .done .refl | (apply To.cons; · (repeat (first | exact .head | apply Sel.tail))) | exact .done (by repeat (first | exact .refl | apply Drop.skip)))))

theorem sizeK_ok {n : Nat} (h1 : 1 ≤ n) (h2 : n ≤ 64) : sizeK (n : Int) = ((3 + 2 * n : Nat) : Int) := by rw [sizeK_val, if_pos (by omega)]; omega
theorem kSize_ok {n : Nat} (h1 : 1 ≤ n) (h2 : n ≤ 64) : FnS Tryz.prog 23 [I64 n] [] (fun u Bs => u = I64 ((3 + 2 * n : Nat) : Int) ∧ Bs = []) := by rw [← sizeK_ok h1 h2]; exact kSize_spec n

theorem tupN_add (i : Nat) (t : Int) : ∀ j, tupN j (tupN i t) = tupN (i + j) t
  | 0 => rfl
  | j + 1 => by rw [tupN, tupN_add i t j, ← Nat.add_assoc, tupN]

set_option maxRecDepth 8000 in
set_option maxHeartbeats 2000000 in
theorem kMake_spec (m b n : Nat) (L : List Int) (t : Int) (I : CI ⟨b, n⟩ L) : FnS Tryz.prog 21 [ptr m 0, I64 b, I64 n] [memA m L t] (fun u Bs => ∃ X : KX, u = .tuple #[ptr X.c 0, I64 0] ∧ X.m = m ∧ Bs = [envK X ⟨b, n⟩ (zap L b (3 + 2 * n)) (tupN (3 + 2 * n) t) ⟨0, 0, []⟩]) := by
 refine fn_body Tryz.func21 rfl rfl rfl ?_
 intro W0 R
 simp only [List.zipIdx_cons, List.zipIdx_nil, List.map_cons, List.map_nil, Nat.zero_add, Nat.reduceAdd, List.cons_append, List.nil_append]
 have h1 : 1 ≤ n := I.m1
 have h2 : n ≤ 64 := I.m64
 have h5 : b + 3 + 2 * n ≤ L.length := I.len
 have h6 := I.top
 refine g_seq ?_
 refine g_region ?_
 refine gl_v rfl (o_assign rfl) ?_
 refine gl_v rfl (o_assign rfl) ?_
 refine gl_nil ?_
 refine ge_then ?_
 refine g_seq ?_
 refine g_region ?_
 refine gl_v rfl (o_move rfl) ?_
 refine gl_c rfl (o_call rfl (kSize_ok h1 h2) (by repeat (first | exact .nil | (apply Part.cons; · (repeat (first | exact .head | apply Sel.tail)))))) ?_
 rintro _ R ⟨_, ⟨rfl, rfl⟩, rfl⟩
 try simp only [List.cons_append, List.nil_append]
 refine gl_v rfl (o_assign rfl) ?_
 refine gl_nil ?_
 refine ge_then ?_
 refine g_seq ?_
 refine g_seq ?_
 refine g_region ?_
 refine gl_v rfl (o_move rfl) ?_
 refine gl_v rfl (o_eqlPn rfl rfl) ?_
 refine gl_v rfl (o_move rfl) ?_
 refine gl_gT rfl rfl rfl ?_
 refine gl_v rfl (o_move rfl) ?_
 refine gl_gT rfl rfl rfl ?_
 refine gl_v rfl (o_is (c := false) (by exact decide_eq_false (by omega)) (o_eql rfl rfl)) ?_
 refine gl_v rfl (o_pickF rfl rfl rfl) ?_
 refine gl_v rfl (o_move rfl) ?_
 refine gl_gT rfl rfl rfl ?_
 refine gl_v rfl (o_move rfl) ?_
 refine gl_gT rfl rfl rfl ?_
 refine gl_v rfl (o_is (c := false) (by exact decide_eq_false (by omega)) (o_lss rfl rfl)) ?_
 refine gl_v rfl (o_pickF rfl rfl rfl) ?_
 refine gl_v rfl (o_move rfl) ?_
 refine gl_gT rfl rfl rfl ?_
 refine gl_v rfl (o_move rfl) ?_
 refine gl_gT rfl rfl rfl ?_
 refine gl_v rfl (o_move rfl) ?_
 refine gl_gT rfl rfl rfl ?_
 refine gl_c rfl (o_call rfl (Len_spec m L t) (by repeat (first | exact .nil | (apply Part.cons; · (repeat (first | exact .head | apply Sel.tail)))))) ?_
 rintro _ R ⟨_, ⟨rfl, rfl⟩, rfl⟩
 try simp only [List.cons_append, List.nil_append]
 refine gl_gT rfl rfl rfl ?_
 refine gl_v rfl (o_move rfl) ?_
 refine gl_gT rfl rfl rfl ?_
 refine gl_v rfl (o_subR ((L.length : Int) - ((3 + 2 * n : Nat) : Int)) (wr_i64 (by omega)) rfl rfl) ?_
 refine gl_gT rfl rfl rfl ?_
 refine gl_v rfl (o_is (c := false) (by exact decide_eq_false (by omega)) (o_gtr rfl rfl)) ?_
 refine gl_v rfl (o_pickF rfl rfl rfl) ?_
 refine gl_nil ?_
 refine ge_then ?_
 refine g_cond_false rfl ?_
 refine g_skip ?_
 refine ge_then ?_
 refine g_seq ?_
 refine g_region ?_
 refine gl_v rfl (o_move rfl) ?_
 refine gl_v rfl (o_move rfl) ?_
 refine gl_c rfl (o_call rfl (Store_spec m L t b (by omega) 0) (by repeat (first | exact .nil | (apply Part.cons; · (repeat (first | exact .head | apply Sel.tail)))))) ?_
 rintro _ R ⟨_, ⟨rfl, rfl⟩, rfl⟩
 try simp only [List.cons_append, List.nil_append]
 refine gl_nil ?_
 refine ge_then ?_
 refine g_seq ?_
 refine g_region ?_
 refine gl_v rfl (o_move rfl) ?_
 refine gl_v rfl (o_move rfl) ?_
 refine gl_v rfl (o_addR ((b + 1 : Nat) : Int) (by rw [wr_i64 (by omega)]; omega) rfl rfl) ?_
 refine gl_v rfl (o_move rfl) ?_
 refine gl_c rfl (o_call rfl (Make_spec m (b + 1) n (L.set b 0) _ ⟨h1, h2, by rw [List.length_set]; omega, by rw [List.length_set]; omega⟩) (by repeat (first | exact .nil | (apply Part.cons; · (repeat (first | exact .head | apply Sel.tail)))))) ?_
 rintro _ R ⟨_, ⟨r1, rfl, rfl⟩, rfl⟩
 try simp only [List.cons_append, List.nil_append]
 refine gl_v rfl (o_move rfl) ?_
 refine gl_v rfl (o_extract rfl rfl) ?_
 refine gl_v rfl (o_extract rfl rfl) ?_
 refine gl_v rfl (o_assign rfl) ?_
 refine gl_v rfl (o_assign rfl) ?_
 refine gl_nil ?_
 refine ge_then ?_
 refine g_seq ?_
 refine g_region ?_
 refine gl_v rfl (o_move rfl) ?_
 refine gl_v rfl (o_move rfl) ?_
 refine gl_v rfl (o_move rfl) ?_
 refine gl_v rfl (o_move rfl) ?_
 refine gl_c rfl (o_call rfl (WNew_spec) (by repeat (first | exact .nil | (apply Part.cons; · (repeat (first | exact .head | apply Sel.tail)))))) ?_
 rintro _ R ⟨_, ⟨wp, rfl, rfl⟩, rfl⟩
 try simp only [List.cons_append, List.nil_append]
 refine gl_v rfl (o_build rfl rfl) ?_
 refine gl_n rfl (o_boxA rfl) ?_
 rintro _ _ ⟨b48, rfl, rfl⟩
 refine gl_v rfl (o_assign rfl) ?_
 refine gl_v rfl (o_assign rfl) ?_
 refine gl_nil ?_
 refine ge_then ?_
 refine g_ret ?_
 refine ret2 (.inl rfl) rfl rfl rfl [envK ⟨b48, m, r1, wp⟩ ⟨b, n⟩ (zap L b (3 + 2 * n)) (tupN (3 + 2 * n) t) ⟨0, 0, []⟩] (⟨⟨b48, m, r1, wp⟩, rfl, rfl, rfl⟩) (env_close (by rw [show zap L b (3 + 2 * n) = zap (zap L b 1) (b + 1) (2 + 2 * n) by rw [zap_add, show 1 + (2 + 2 * n) = 3 + 2 * n by omega], show tupN (3 + 2 * n) t = tupN (2 + 2 * n) (tupN 1 t) by rw [tupN_add, show 1 + (2 + 2 * n) = 3 + 2 * n by omega]]; exact (To.sat (by repeat (first | exact .nil | exact .done .refl | (apply To.cons; · (repeat (first | exact .head | apply Sel.tail))) | exact .done (by repeat (first | exact .refl | apply Drop.skip)))))))

set_option maxRecDepth 8000 in
set_option maxHeartbeats 2000000 in
theorem kMake_no (m : Nat) (b s : Int) (L : List Int) (t : Int) (hL : L.length ≤ 65536) (hb : -9223372036854775808 ≤ b ∧ b ≤ 9223372036854775807) (hno : sizeK s = 0 ∨ b < 0 ∨ b > L.length - sizeK s) : FnS Tryz.prog 21 [ptr m 0, I64 b, I64 s] [memA m L t] (fun u Bs => u = .tuple #[.pointer none, I64 1] ∧ Bs = [memA m L t]) := by
 refine fn_body Tryz.func21 rfl rfl rfl ?_
 intro W0 R
 simp only [List.zipIdx_cons, List.zipIdx_nil, List.map_cons, List.map_nil, Nat.zero_add, Nat.reduceAdd, List.cons_append, List.nil_append]
 have hz := sizeK_in s
 refine g_seq ?_
 refine g_region ?_
 refine gl_v rfl (o_assign rfl) ?_
 refine gl_v rfl (o_assign rfl) ?_
 refine gl_nil ?_
 refine ge_then ?_
 refine g_seq ?_
 refine g_region ?_
 refine gl_v rfl (o_move rfl) ?_
 refine gl_c rfl (o_call rfl (kSize_spec s) (by repeat (first | exact .nil | (apply Part.cons; · (repeat (first | exact .head | apply Sel.tail)))))) ?_
 rintro _ R ⟨_, ⟨rfl, rfl⟩, rfl⟩
 try simp only [List.cons_append, List.nil_append]
 refine gl_v rfl (o_assign rfl) ?_
 refine gl_nil ?_
 refine ge_then ?_
 refine g_seq ?_
 refine g_seq ?_
 refine g_region ?_
 refine gl_v rfl (o_move rfl) ?_
 refine gl_v rfl (o_eqlPn rfl rfl) ?_
 refine gl_v rfl (o_move rfl) ?_
 refine gl_gT rfl rfl rfl ?_
 refine gl_v rfl (o_move rfl) ?_
 refine gl_gT rfl rfl rfl ?_
 refine gl_v rfl (o_eql rfl rfl) ?_
 refine gl_v rfl (o_pickF rfl rfl rfl) ?_
 refine gl_v rfl (o_move rfl) ?_
 refine gl_g rfl rfl (fun hc1 => ?_) (fun hc1 => ?_) rfl
 ·
  have hc1' := hc1
  first | replace hc1' := of_decide_eq_true hc1' | replace hc1' := lt_f hc1' | replace hc1' := le_f hc1' | replace hc1' := dec_f hc1' | replace hc1' := nlt_t hc1' | replace hc1' := nle_t hc1' | replace hc1' := ndec_t hc1' | replace hc1' := ndec_f hc1' | replace hc1' := nn_t hc1' | replace hc1' := nn_f hc1' | skip
  refine gl_v rfl (o_move rfl) ?_
  refine gl_gT rfl rfl hc1 ?_
  refine gl_v rfl (o_lss rfl rfl) ?_
  refine gl_v rfl (o_pickF hc1 rfl rfl) ?_
  refine gl_v rfl (o_move rfl) ?_
  refine gl_g rfl rfl (fun hc2 => ?_) (fun hc2 => ?_) rfl
  ·
   have hc2' := hc2
   first | replace hc2' := of_decide_eq_true hc2' | replace hc2' := lt_f hc2' | replace hc2' := le_f hc2' | replace hc2' := dec_f hc2' | replace hc2' := nlt_t hc2' | replace hc2' := nle_t hc2' | replace hc2' := ndec_t hc2' | replace hc2' := ndec_f hc2' | replace hc2' := nn_t hc2' | replace hc2' := nn_f hc2' | skip
   refine gl_v rfl (o_move rfl) ?_
   refine gl_gT rfl rfl hc2 ?_
   refine gl_v rfl (o_move rfl) ?_
   refine gl_gT rfl rfl hc2 ?_
   refine gl_c rfl (o_call rfl (Len_spec m L t) (by repeat (first | exact .nil | (apply Part.cons; · (repeat (first | exact .head | apply Sel.tail)))))) ?_
   rintro _ R ⟨_, ⟨rfl, rfl⟩, rfl⟩
   try simp only [List.cons_append, List.nil_append]
   refine gl_gT rfl rfl hc2 ?_
   refine gl_v rfl (o_move rfl) ?_
   refine gl_gT rfl rfl hc2 ?_
   refine gl_v rfl (o_subR (L.length - sizeK s : Int) (wr_i64 (by omega)) rfl rfl) ?_
   refine gl_gT rfl rfl hc2 ?_
   refine gl_v rfl (o_gtr rfl rfl) ?_
   refine gl_v rfl (o_pickF hc2 rfl rfl) ?_
   refine gl_nil ?_
   refine ge_then ?_
   refine g_cond rfl (fun hc3 => ?_) (fun hc3 => ?_)
   ·
    first | replace hc3 := of_decide_eq_true hc3 | replace hc3 := lt_f hc3 | replace hc3 := le_f hc3 | replace hc3 := dec_f hc3 | replace hc3 := nlt_t hc3 | replace hc3 := nle_t hc3 | replace hc3 := ndec_t hc3 | replace hc3 := ndec_f hc3 | replace hc3 := nn_t hc3 | replace hc3 := nn_f hc3 | skip
    refine g_seq ?_
    refine g_region ?_
    refine gl_v rfl (o_assign rfl) ?_
    refine gl_v rfl (o_assign rfl) ?_
    refine gl_nil ?_
    refine ge_then ?_
    refine g_ret ?_
    refine ge_then_ret ?_
    refine ret2 (.inl rfl) rfl rfl rfl _ (⟨rfl, rfl⟩) (To.sat (by repeat (first | exact .nil | exact .done .refl | (apply To.cons; · (repeat (first | exact .head | apply Sel.tail))) | exact .done (by repeat (first | exact .refl | apply Drop.skip)))))
   ·
    first | replace hc3 := of_decide_eq_true hc3 | replace hc3 := lt_f hc3 | replace hc3 := le_f hc3 | replace hc3 := dec_f hc3 | replace hc3 := nlt_t hc3 | replace hc3 := nle_t hc3 | replace hc3 := ndec_t hc3 | replace hc3 := ndec_f hc3 | replace hc3 := nn_t hc3 | replace hc3 := nn_f hc3 | skip
    omega
  ·
   have hc2' := hc2
   first | replace hc2' := of_decide_eq_true hc2' | replace hc2' := lt_f hc2' | replace hc2' := le_f hc2' | replace hc2' := dec_f hc2' | replace hc2' := nlt_t hc2' | replace hc2' := nle_t hc2' | replace hc2' := ndec_t hc2' | replace hc2' := ndec_f hc2' | replace hc2' := nn_t hc2' | replace hc2' := nn_f hc2' | skip
   simp only [putO]
   refine gl_gF rfl rfl hc2 rfl ?_
   refine gl_gF rfl rfl hc2 rfl ?_
   refine gl_gF rfl rfl hc2 rfl ?_
   refine gl_gF rfl rfl hc2 rfl ?_
   refine gl_gF rfl rfl hc2 rfl ?_
   refine gl_v rfl (o_pickT hc2 rfl rfl) ?_
   refine gl_nil ?_
   refine ge_then ?_
   refine g_cond_true rfl ?_
   refine g_seq ?_
   refine g_region ?_
   refine gl_v rfl (o_assign rfl) ?_
   refine gl_v rfl (o_assign rfl) ?_
   refine gl_nil ?_
   refine ge_then ?_
   refine g_ret ?_
   refine ge_then_ret ?_
   refine ret2 (.inl rfl) rfl rfl rfl _ (⟨rfl, rfl⟩) (To.sat (by repeat (first | exact .nil | exact .done .refl | (apply To.cons; · (repeat (first | exact .head | apply Sel.tail))) | exact .done (by repeat (first | exact .refl | apply Drop.skip)))))
 ·
  have hc1' := hc1
  first | replace hc1' := of_decide_eq_true hc1' | replace hc1' := lt_f hc1' | replace hc1' := le_f hc1' | replace hc1' := dec_f hc1' | replace hc1' := nlt_t hc1' | replace hc1' := nle_t hc1' | replace hc1' := ndec_t hc1' | replace hc1' := ndec_f hc1' | replace hc1' := nn_t hc1' | replace hc1' := nn_f hc1' | skip
  simp only [putO]
  refine gl_gF rfl rfl hc1 rfl ?_
  refine gl_v rfl (o_pickT hc1 rfl rfl) ?_
  refine gl_v rfl (o_move rfl) ?_
  refine gl_gF rfl rfl rfl rfl ?_
  refine gl_gF rfl rfl rfl rfl ?_
  refine gl_gF rfl rfl rfl rfl ?_
  refine gl_gF rfl rfl rfl rfl ?_
  refine gl_gF rfl rfl rfl rfl ?_
  refine gl_gF rfl rfl rfl rfl ?_
  refine gl_v rfl (o_pickT rfl rfl rfl) ?_
  refine gl_nil ?_
  refine ge_then ?_
  refine g_cond_true rfl ?_
  refine g_seq ?_
  refine g_region ?_
  refine gl_v rfl (o_assign rfl) ?_
  refine gl_v rfl (o_assign rfl) ?_
  refine gl_nil ?_
  refine ge_then ?_
  refine g_ret ?_
  refine ge_then_ret ?_
  refine ret2 (.inl rfl) rfl rfl rfl _ (⟨rfl, rfl⟩) (To.sat (by repeat (first | exact .nil | exact .done .refl | (apply To.cons; · (repeat (first | exact .head | apply Sel.tail))) | exact .done (by repeat (first | exact .refl | apply Drop.skip)))))

set_option maxRecDepth 8000 in
set_option maxHeartbeats 2000000 in
theorem kMake_nil (b s : Int) : FnS Tryz.prog 21 [.pointer none, I64 b, I64 s] [] (fun u Bs => u = .tuple #[.pointer none, I64 1] ∧ Bs = []) := by
 refine fn_body Tryz.func21 rfl rfl rfl ?_
 intro W0 R
 simp only [List.zipIdx_cons, List.zipIdx_nil, List.map_cons, List.map_nil, Nat.zero_add, Nat.reduceAdd, List.cons_append, List.nil_append]
 refine g_seq ?_
 refine g_region ?_
 refine gl_v rfl (o_assign rfl) ?_
 refine gl_v rfl (o_assign rfl) ?_
 refine gl_nil ?_
 refine ge_then ?_
 refine g_seq ?_
 refine g_region ?_
 refine gl_v rfl (o_move rfl) ?_
 refine gl_c rfl (o_call rfl (kSize_spec s) (by repeat (first | exact .nil | (apply Part.cons; · (repeat (first | exact .head | apply Sel.tail)))))) ?_
 rintro _ R ⟨_, ⟨rfl, rfl⟩, rfl⟩
 try simp only [List.cons_append, List.nil_append]
 refine gl_v rfl (o_assign rfl) ?_
 refine gl_nil ?_
 refine ge_then ?_
 refine g_seq ?_
 refine g_seq ?_
 refine g_region ?_
 refine gl_v rfl (o_move rfl) ?_
 refine gl_v rfl (o_eqlnn rfl rfl) ?_
 refine gl_v rfl (o_move rfl) ?_
 refine gl_gF rfl rfl rfl rfl ?_
 refine gl_gF rfl rfl rfl rfl ?_
 refine gl_v rfl (o_pickT rfl rfl rfl) ?_
 refine gl_v rfl (o_move rfl) ?_
 refine gl_gF rfl rfl rfl rfl ?_
 refine gl_gF rfl rfl rfl rfl ?_
 refine gl_v rfl (o_pickT rfl rfl rfl) ?_
 refine gl_v rfl (o_move rfl) ?_
 refine gl_gF rfl rfl rfl rfl ?_
 refine gl_gF rfl rfl rfl rfl ?_
 refine gl_gF rfl rfl rfl rfl ?_
 refine gl_gF rfl rfl rfl rfl ?_
 refine gl_gF rfl rfl rfl rfl ?_
 refine gl_gF rfl rfl rfl rfl ?_
 refine gl_v rfl (o_pickT rfl rfl rfl) ?_
 refine gl_nil ?_
 refine ge_then ?_
 refine g_cond_true rfl ?_
 refine g_seq ?_
 refine g_region ?_
 refine gl_v rfl (o_assign rfl) ?_
 refine gl_v rfl (o_assign rfl) ?_
 refine gl_nil ?_
 refine ge_then ?_
 refine g_ret ?_
 refine ge_then_ret ?_
 refine ret2 (.inl rfl) rfl rfl rfl _ (⟨rfl, rfl⟩) (To.sat (by repeat (first | exact .nil | exact .done .refl | (apply To.cons; · (repeat (first | exact .head | apply Sel.tail))) | exact .done (by repeat (first | exact .refl | apply Drop.skip)))))

/-! ### what is told -/
set_option maxRecDepth 8000 in
set_option maxHeartbeats 2000000 in
theorem CloneU_spec (a : Option Addr) (c : Nat) (l : List Int) (hl : l.length ≤ 1000) : FnS Tryz.prog 48 [tl a c l] [tlA a c l] (fun u Bs => ∃ a' c', u = tl a' c' l ∧ Bs = [tlA a' c' l, tlA a c l]) := by
 refine fn_body Tryz.func48 rfl rfl rfl ?_
 intro W0 R
 simp only [List.zipIdx_cons, List.zipIdx_nil, List.map_cons, List.map_nil, Nat.zero_add, Nat.reduceAdd, List.cons_append, List.nil_append]
 refine g_seq ?_
 refine g_region ?_
 refine gl_v rfl (o_assign rfl) ?_
 refine gl_nil ?_
 refine ge_then ?_
 refine g_seq ?_
 refine g_seq ?_
 refine g_region ?_
 refine gl_v rfl (o_move rfl) ?_
 refine gl_v rfl (o_eqlSn rfl rfl) ?_
 refine gl_nil ?_
 refine ge_then ?_
 refine g_cond rfl (fun hc1 => ?_) (fun hc1 => ?_)
 ·
  first | replace hc1 := of_decide_eq_true hc1 | replace hc1 := lt_f hc1 | replace hc1 := le_f hc1 | replace hc1 := dec_f hc1 | replace hc1 := nlt_t hc1 | replace hc1 := nle_t hc1 | replace hc1 := ndec_t hc1 | replace hc1 := ndec_f hc1 | replace hc1 := nn_t hc1 | replace hc1 := nn_f hc1 | skip
  obtain rfl : a = none := by simpa using hc1
  refine g_fact (fun _ s => rds_none (l := l.length) (c := c) s) ?_
  rintro ⟨hl0, hc0, -, -⟩
  obtain rfl : l = [] := List.eq_nil_of_length_eq_zero hl0
  subst hc0
  refine g_seq ?_
  refine g_region ?_
  refine gl_v rfl (o_assign rfl) ?_
  refine gl_nil ?_
  refine ge_then ?_
  refine g_ret ?_
  refine ge_then_ret ?_
  refine ret1 (.inl rfl) rfl rfl [tlA none 0 [], tlA none 0 []] (⟨none, 0, rfl, rfl⟩) (fun h s => own_nil0 h ((To.sat (by repeat (first | exact .nil | exact .done .refl | (apply To.cons; · (repeat (first | exact .head | apply Sel.tail))) | exact .done (by repeat (first | exact .refl | apply Drop.skip))))) h s))
 ·
  first | replace hc1 := of_decide_eq_true hc1 | replace hc1 := lt_f hc1 | replace hc1 := le_f hc1 | replace hc1 := dec_f hc1 | replace hc1 := nlt_t hc1 | replace hc1 := nle_t hc1 | replace hc1 := ndec_t hc1 | replace hc1 := ndec_f hc1 | replace hc1 := nn_t hc1 | replace hc1 := nn_f hc1 | skip
  refine g_skip ?_
  refine ge_then ?_
  refine g_seq ?_
  refine g_region ?_
  refine gl_n rfl (o_buildS0) ?_
  rintro _ _ ⟨b5, rfl, rfl⟩
  refine gl_v rfl (o_move rfl) ?_
  refine gl_n rfl (o_appendS rfl rfl (by repeat (first | exact .head | apply Sel.tail)) rfl (by simp) (by simp [List.all_map]; intro x _; rfl) (by omega) (by unfold maxLen; omega)) ?_
  rintro _ _ ⟨a7, c7, rfl, rfl⟩
  rw [Nat.zero_add, List.nil_append]
  refine gl_v rfl (o_assign rfl) ?_
  refine gl_nil ?_
  refine ge_then ?_
  refine g_ret ?_
  refine ret1 (.inl rfl) rfl rfl [tlA a7 c7 l, tlA a c l] (⟨a7, c7, rfl, rfl⟩) (To.sat (by repeat (first | exact .nil | exact .done .refl | (apply To.cons; · (repeat (first | exact .head | apply Sel.tail))) | exact .done (by repeat (first | exact .refl | apply Drop.skip)))))

set_option maxRecDepth 8000 in
set_option maxHeartbeats 2000000 in
theorem told_Due (X : KX) (p : Nat) (co : CO) (x y : Value) (a0 : Option Addr) (k0 : Nat) (a1 : Option Addr) (k1 : Nat) (a2 : Option Addr) (k2 : Nat) (h0 : co.out ≠ 0) (hl : co.due.length ≤ 1000) : FnS Tryz.prog 42 [ptr p 0, tl a0 k0 co.due] [opC p x y co.out co.val (bxK X (tl a0 k0 co.due) (tl a1 k1 co.cut) (tl a2 k2 co.ref)), tlA a0 k0 co.due, tlA a1 k1 co.cut, tlA a2 k2 co.ref] (fun u Bs => ∃ a' c', u = tl a' c' co.due ∧ Bs = [tlA a' c' co.due, opC p x y co.out co.val (bxK X (tl a0 k0 co.due) (tl a1 k1 co.cut) (tl a2 k2 co.ref)), tlA a0 k0 co.due, tlA a1 k1 co.cut, tlA a2 k2 co.ref]) := by
 refine fn_body Tryz.func42 rfl rfl rfl ?_
 intro W0 R
 simp only [List.zipIdx_cons, List.zipIdx_nil, List.map_cons, List.map_nil, Nat.zero_add, Nat.reduceAdd, List.cons_append, List.nil_append]
 refine g_seq ?_
 refine g_region ?_
 refine gl_v rfl (o_assign rfl) ?_
 refine gl_nil ?_
 refine ge_then ?_
 refine g_seq ?_
 refine g_seq ?_
 refine g_region ?_
 refine gl_v rfl (o_move rfl) ?_
 refine gl_v rfl (o_nil rfl) ?_
 first | refine gl_v rfl (o_fldS rfl) ?_ | refine gl_v rfl (o_fld rfl) ?_
 refine gl_c rfl (o_call rfl (pOver_spec p (bxK X (tl a0 k0 co.due) (tl a1 k1 co.cut) (tl a2 k2 co.ref)) x y co.out co.val) (by repeat (first | exact .nil | (apply Part.cons; · (repeat (first | exact .head | apply Sel.tail)))))) ?_
 rintro _ R ⟨_, ⟨rfl, rfl⟩, rfl⟩
 try simp only [List.cons_append, List.nil_append]
 refine gl_v rfl (o_is (c := false) (by simp [h0]) (o_not rfl)) ?_
 refine gl_nil ?_
 refine ge_then ?_
 refine g_cond_false rfl ?_
 refine g_skip ?_
 refine ge_then ?_
 refine g_seq ?_
 refine g_region ?_
 refine gl_v rfl (o_move rfl) ?_
 refine gl_c rfl (o_call rfl (CloneU_spec a0 k0 co.due hl) (by repeat (first | exact .nil | (apply Part.cons; · (repeat (first | exact .head | apply Sel.tail)))))) ?_
 rintro _ R ⟨_, ⟨a', c', rfl, rfl⟩, rfl⟩
 try simp only [List.cons_append, List.nil_append]
 refine gl_v rfl (o_assign rfl) ?_
 refine gl_nil ?_
 refine ge_then ?_
 refine g_ret ?_
 refine ret1 (.inl rfl) rfl rfl _ (⟨a', c', rfl, rfl⟩) (To.sat (by repeat (first | exact .nil | exact .done .refl | (apply To.cons; · (repeat (first | exact .head | apply Sel.tail))) | exact .done (by repeat (first | exact .refl | apply Drop.skip)))))

set_option maxRecDepth 8000 in
set_option maxHeartbeats 2000000 in
theorem Due_ov (X : KX) (p : Nat) (co : CO) (x y : Value) (a0 : Option Addr) (k0 : Nat) (a1 : Option Addr) (k1 : Nat) (a2 : Option Addr) (k2 : Nat) (h0 : co.out ≠ 0) (hl : co.due.length ≤ 1000) : FnS Tryz.prog 15 [ptr p 0] [opC p x y co.out co.val (bxK X (tl a0 k0 co.due) (tl a1 k1 co.cut) (tl a2 k2 co.ref)), tlA a0 k0 co.due, tlA a1 k1 co.cut, tlA a2 k2 co.ref] (fun u Bs => ∃ a' c', u = tl a' c' co.due ∧ Bs = [tlA a' c' co.due, opC p x y co.out co.val (bxK X (tl a0 k0 co.due) (tl a1 k1 co.cut) (tl a2 k2 co.ref)), tlA a0 k0 co.due, tlA a1 k1 co.cut, tlA a2 k2 co.ref]) := by
 refine fn_body Tryz.func15 rfl rfl rfl ?_
 intro W0 R
 simp only [List.zipIdx_cons, List.zipIdx_nil, List.map_cons, List.map_nil, Nat.zero_add, Nat.reduceAdd, List.cons_append, List.nil_append]
 refine g_seq ?_
 refine g_region ?_
 refine gl_v rfl (o_assign rfl) ?_
 refine gl_nil ?_
 refine ge_then ?_
 refine g_seq ?_
 refine g_region ?_
 refine gl_v rfl (o_move rfl) ?_
 refine gl_v rfl (o_move rfl) ?_
 refine gl_v rfl (o_nil rfl) ?_
 first | refine gl_v rfl (o_fldS rfl) ?_ | refine gl_v rfl (o_fld rfl) ?_
 first | refine gl_v rfl (o_load rfl rfl) ?_ | refine gl_v rfl (o_loadS rfl rfl) ?_ | refine gl_v rfl (o_loadC rfl) ?_
 refine gl_c rfl (o_call rfl (told_Due X p co x y a0 k0 a1 k1 a2 k2 h0 hl) (by repeat (first | exact .nil | (apply Part.cons; · (repeat (first | exact .head | apply Sel.tail)))))) ?_
 rintro _ R ⟨_, ⟨a', c', rfl, rfl⟩, rfl⟩
 try simp only [List.cons_append, List.nil_append]
 refine gl_v rfl (o_assign rfl) ?_
 refine gl_nil ?_
 refine ge_then ?_
 refine g_ret ?_
 refine ret1 (.inl rfl) rfl rfl _ (⟨a', c', rfl, rfl⟩) (To.sat (by repeat (first | exact .nil | exact .done .refl | (apply To.cons; · (repeat (first | exact .head | apply Sel.tail))) | exact .done (by repeat (first | exact .refl | apply Drop.skip)))))

set_option maxRecDepth 8000 in
set_option maxHeartbeats 2000000 in
theorem told0_Due (p : Nat) (bx : BXT) (x y : Value) (v : Value) : FnS Tryz.prog 42 [ptr p 0, v] [opC p x y 0 0 bx] (fun u Bs => u = nilS ∧ Bs = [opC p x y 0 0 bx]) := by
 refine fn_body Tryz.func42 rfl rfl rfl ?_
 intro W0 R
 simp only [List.zipIdx_cons, List.zipIdx_nil, List.map_cons, List.map_nil, Nat.zero_add, Nat.reduceAdd, List.cons_append, List.nil_append]
 refine g_seq ?_
 refine g_region ?_
 refine gl_v rfl (o_assign rfl) ?_
 refine gl_nil ?_
 refine ge_then ?_
 refine g_seq ?_
 refine g_seq ?_
 refine g_region ?_
 refine gl_v rfl (o_move rfl) ?_
 refine gl_v rfl (o_nil rfl) ?_
 first | refine gl_v rfl (o_fldS rfl) ?_ | refine gl_v rfl (o_fld rfl) ?_
 refine gl_c rfl (o_call rfl (pOver_spec p bx x y 0 0) (by repeat (first | exact .nil | (apply Part.cons; · (repeat (first | exact .head | apply Sel.tail)))))) ?_
 rintro _ R ⟨_, ⟨rfl, rfl⟩, rfl⟩
 try simp only [List.cons_append, List.nil_append]
 refine gl_v rfl (o_is (c := true) (by rfl) (o_not rfl)) ?_
 refine gl_nil ?_
 refine ge_then ?_
 refine g_cond_true rfl ?_
 refine g_seq ?_
 refine g_region ?_
 refine gl_v rfl (o_assign rfl) ?_
 refine gl_nil ?_
 refine ge_then ?_
 refine g_ret ?_
 refine ge_then_ret ?_
 refine ret1 (.inl rfl) rfl rfl _ (⟨rfl, rfl⟩) (To.sat (by repeat (first | exact .nil | exact .done .refl | (apply To.cons; · (repeat (first | exact .head | apply Sel.tail))) | exact .done (by repeat (first | exact .refl | apply Drop.skip)))))

set_option maxRecDepth 8000 in
set_option maxHeartbeats 2000000 in
theorem Due_run (p : Nat) (bx : BXT) (x y : Value) (hb : bx.d.oneCell' = true ∧ bx.u.oneCell' = true ∧ bx.r.oneCell' = true) : FnS Tryz.prog 15 [ptr p 0] [opC p x y 0 0 bx] (fun u Bs => u = nilS ∧ Bs = [opC p x y 0 0 bx]) := by
 refine fn_body Tryz.func15 rfl rfl rfl ?_
 intro W0 R
 simp only [List.zipIdx_cons, List.zipIdx_nil, List.map_cons, List.map_nil, Nat.zero_add, Nat.reduceAdd, List.cons_append, List.nil_append]
 refine g_seq ?_
 refine g_region ?_
 refine gl_v rfl (o_assign rfl) ?_
 refine gl_nil ?_
 refine ge_then ?_
 refine g_seq ?_
 refine g_region ?_
 refine gl_v rfl (o_move rfl) ?_
 refine gl_v rfl (o_move rfl) ?_
 refine gl_v rfl (o_nil rfl) ?_
 first | refine gl_v rfl (o_fldS rfl) ?_ | refine gl_v rfl (o_fld rfl) ?_
 first | refine gl_v rfl (o_load rfl rfl) ?_ | refine gl_v rfl (o_loadS rfl rfl) ?_ | refine gl_v rfl (o_loadC rfl) ?_
 refine gl_c rfl (o_call rfl (told0_Due p bx x y _) (by repeat (first | exact .nil | (apply Part.cons; · (repeat (first | exact .head | apply Sel.tail)))))) ?_
 rintro _ R ⟨_, ⟨rfl, rfl⟩, rfl⟩
 try simp only [List.cons_append, List.nil_append]
 refine gl_v rfl (o_assign rfl) ?_
 refine gl_nil ?_
 refine ge_then ?_
 refine g_ret ?_
 refine ret1 (.inl rfl) rfl rfl _ (⟨rfl, rfl⟩) (To.sat (by repeat (first | exact .nil | exact .done .refl | (apply To.cons; · (repeat (first | exact .head | apply Sel.tail))) | exact .done (by repeat (first | exact .refl | apply Drop.skip)))))

theorem KDue_spec (X : KX) (B : CB) (p : Nat) (co : CO) (hv : co.out = 0 → co.val = 0) (hl : co.due.length ≤ 1000) : FnS Tryz.prog 15 [ptr p 0] [opK X B p co] (fun u Bs => ∃ a' c', u = tl a' c' (toldL co co.due) ∧ Bs = [tlA a' c' (toldL co co.due), opK X B p co]) := by
  by_cases ho : co.out = 0
  · have e : toldL co co.due = [] := by unfold toldL; rw [if_pos ho]
    rw [opK_run ho, e]
    have hh : FnS Tryz.prog 15 [ptr p 0] [phK X B p co.cut co.ref co.ph] (fun u Bs => u = nilS ∧ Bs = [phK X B p co.cut co.ref co.ph]) := by
      cases hph : co.ph <;> exact fns_ex (fun x _ => fns_eq (Due_run p _ _ _ ⟨rfl, rfl, rfl⟩) (.cons .head .nil) (fun R => ex_close x trivial (fun h s => s)))
    refine hh.wk fun v Bs h => ⟨_, ⟨none, 0, h.1, rfl⟩, fun h' s => ?_⟩
    rw [h.2] at s; exact own_nil0 h' s
  · have e : toldL co co.due = co.due := by unfold toldL; rw [if_neg ho]
    rw [opK_ov ho, e]
    refine fns_ex (fun x _ => ?_)
    obtain ⟨x, y, a0, k0, a1, k1, a2, k2⟩ := x
    refine (Due_ov X p co x y a0 k0 a1 k1 a2 k2 ho hl).wk fun v Bs h => ?_
    obtain ⟨a', c', h1, h2⟩ := h
    exact ⟨_, ⟨a', c', h1, rfl⟩, fun h' s => by rw [h2] at s; exact Sat.tail (fun _ s => ex_close (x, y, a0, k0, a1, k1, a2, k2) trivial (fun _ s => s) _ s) s⟩

set_option maxRecDepth 8000 in
set_option maxHeartbeats 2000000 in
theorem told_Cut (X : KX) (p : Nat) (co : CO) (x y : Value) (a0 : Option Addr) (k0 : Nat) (a1 : Option Addr) (k1 : Nat) (a2 : Option Addr) (k2 : Nat) (h0 : co.out ≠ 0) (hl : co.cut.length ≤ 1000) : FnS Tryz.prog 42 [ptr p 0, tl a1 k1 co.cut] [opC p x y co.out co.val (bxK X (tl a0 k0 co.due) (tl a1 k1 co.cut) (tl a2 k2 co.ref)), tlA a0 k0 co.due, tlA a1 k1 co.cut, tlA a2 k2 co.ref] (fun u Bs => ∃ a' c', u = tl a' c' co.cut ∧ Bs = [tlA a' c' co.cut, opC p x y co.out co.val (bxK X (tl a0 k0 co.due) (tl a1 k1 co.cut) (tl a2 k2 co.ref)), tlA a0 k0 co.due, tlA a1 k1 co.cut, tlA a2 k2 co.ref]) := by
 refine fn_body Tryz.func42 rfl rfl rfl ?_
 intro W0 R
 simp only [List.zipIdx_cons, List.zipIdx_nil, List.map_cons, List.map_nil, Nat.zero_add, Nat.reduceAdd, List.cons_append, List.nil_append]
 refine g_seq ?_
 refine g_region ?_
 refine gl_v rfl (o_assign rfl) ?_
 refine gl_nil ?_
 refine ge_then ?_
 refine g_seq ?_
 refine g_seq ?_
 refine g_region ?_
 refine gl_v rfl (o_move rfl) ?_
 refine gl_v rfl (o_nil rfl) ?_
 first | refine gl_v rfl (o_fldS rfl) ?_ | refine gl_v rfl (o_fld rfl) ?_
 refine gl_c rfl (o_call rfl (pOver_spec p (bxK X (tl a0 k0 co.due) (tl a1 k1 co.cut) (tl a2 k2 co.ref)) x y co.out co.val) (by repeat (first | exact .nil | (apply Part.cons; · (repeat (first | exact .head | apply Sel.tail)))))) ?_
 rintro _ R ⟨_, ⟨rfl, rfl⟩, rfl⟩
 try simp only [List.cons_append, List.nil_append]
 refine gl_v rfl (o_is (c := false) (by simp [h0]) (o_not rfl)) ?_
 refine gl_nil ?_
 refine ge_then ?_
 refine g_cond_false rfl ?_
 refine g_skip ?_
 refine ge_then ?_
 refine g_seq ?_
 refine g_region ?_
 refine gl_v rfl (o_move rfl) ?_
 refine gl_c rfl (o_call rfl (CloneU_spec a1 k1 co.cut hl) (by repeat (first | exact .nil | (apply Part.cons; · (repeat (first | exact .head | apply Sel.tail)))))) ?_
 rintro _ R ⟨_, ⟨a', c', rfl, rfl⟩, rfl⟩
 try simp only [List.cons_append, List.nil_append]
 refine gl_v rfl (o_assign rfl) ?_
 refine gl_nil ?_
 refine ge_then ?_
 refine g_ret ?_
 refine ret1 (.inl rfl) rfl rfl _ (⟨a', c', rfl, rfl⟩) (To.sat (by repeat (first | exact .nil | exact .done .refl | (apply To.cons; · (repeat (first | exact .head | apply Sel.tail))) | exact .done (by repeat (first | exact .refl | apply Drop.skip)))))

set_option maxRecDepth 8000 in
set_option maxHeartbeats 2000000 in
theorem Cut_ov (X : KX) (p : Nat) (co : CO) (x y : Value) (a0 : Option Addr) (k0 : Nat) (a1 : Option Addr) (k1 : Nat) (a2 : Option Addr) (k2 : Nat) (h0 : co.out ≠ 0) (hl : co.cut.length ≤ 1000) : FnS Tryz.prog 17 [ptr p 0] [opC p x y co.out co.val (bxK X (tl a0 k0 co.due) (tl a1 k1 co.cut) (tl a2 k2 co.ref)), tlA a0 k0 co.due, tlA a1 k1 co.cut, tlA a2 k2 co.ref] (fun u Bs => ∃ a' c', u = tl a' c' co.cut ∧ Bs = [tlA a' c' co.cut, opC p x y co.out co.val (bxK X (tl a0 k0 co.due) (tl a1 k1 co.cut) (tl a2 k2 co.ref)), tlA a0 k0 co.due, tlA a1 k1 co.cut, tlA a2 k2 co.ref]) := by
 refine fn_body Tryz.func17 rfl rfl rfl ?_
 intro W0 R
 simp only [List.zipIdx_cons, List.zipIdx_nil, List.map_cons, List.map_nil, Nat.zero_add, Nat.reduceAdd, List.cons_append, List.nil_append]
 refine g_seq ?_
 refine g_region ?_
 refine gl_v rfl (o_assign rfl) ?_
 refine gl_nil ?_
 refine ge_then ?_
 refine g_seq ?_
 refine g_region ?_
 refine gl_v rfl (o_move rfl) ?_
 refine gl_v rfl (o_move rfl) ?_
 refine gl_v rfl (o_nil rfl) ?_
 first | refine gl_v rfl (o_fldS rfl) ?_ | refine gl_v rfl (o_fld rfl) ?_
 first | refine gl_v rfl (o_load rfl rfl) ?_ | refine gl_v rfl (o_loadS rfl rfl) ?_ | refine gl_v rfl (o_loadC rfl) ?_
 refine gl_c rfl (o_call rfl (told_Cut X p co x y a0 k0 a1 k1 a2 k2 h0 hl) (by repeat (first | exact .nil | (apply Part.cons; · (repeat (first | exact .head | apply Sel.tail)))))) ?_
 rintro _ R ⟨_, ⟨a', c', rfl, rfl⟩, rfl⟩
 try simp only [List.cons_append, List.nil_append]
 refine gl_v rfl (o_assign rfl) ?_
 refine gl_nil ?_
 refine ge_then ?_
 refine g_ret ?_
 refine ret1 (.inl rfl) rfl rfl _ (⟨a', c', rfl, rfl⟩) (To.sat (by repeat (first | exact .nil | exact .done .refl | (apply To.cons; · (repeat (first | exact .head | apply Sel.tail))) | exact .done (by repeat (first | exact .refl | apply Drop.skip)))))

set_option maxRecDepth 8000 in
set_option maxHeartbeats 2000000 in
theorem told0_Cut (p : Nat) (bx : BXT) (x y : Value) (v : Value) : FnS Tryz.prog 42 [ptr p 0, v] [opC p x y 0 0 bx] (fun u Bs => u = nilS ∧ Bs = [opC p x y 0 0 bx]) := by
 refine fn_body Tryz.func42 rfl rfl rfl ?_
 intro W0 R
 simp only [List.zipIdx_cons, List.zipIdx_nil, List.map_cons, List.map_nil, Nat.zero_add, Nat.reduceAdd, List.cons_append, List.nil_append]
 refine g_seq ?_
 refine g_region ?_
 refine gl_v rfl (o_assign rfl) ?_
 refine gl_nil ?_
 refine ge_then ?_
 refine g_seq ?_
 refine g_seq ?_
 refine g_region ?_
 refine gl_v rfl (o_move rfl) ?_
 refine gl_v rfl (o_nil rfl) ?_
 first | refine gl_v rfl (o_fldS rfl) ?_ | refine gl_v rfl (o_fld rfl) ?_
 refine gl_c rfl (o_call rfl (pOver_spec p bx x y 0 0) (by repeat (first | exact .nil | (apply Part.cons; · (repeat (first | exact .head | apply Sel.tail)))))) ?_
 rintro _ R ⟨_, ⟨rfl, rfl⟩, rfl⟩
 try simp only [List.cons_append, List.nil_append]
 refine gl_v rfl (o_is (c := true) (by rfl) (o_not rfl)) ?_
 refine gl_nil ?_
 refine ge_then ?_
 refine g_cond_true rfl ?_
 refine g_seq ?_
 refine g_region ?_
 refine gl_v rfl (o_assign rfl) ?_
 refine gl_nil ?_
 refine ge_then ?_
 refine g_ret ?_
 refine ge_then_ret ?_
 refine ret1 (.inl rfl) rfl rfl _ (⟨rfl, rfl⟩) (To.sat (by repeat (first | exact .nil | exact .done .refl | (apply To.cons; · (repeat (first | exact .head | apply Sel.tail))) | exact .done (by repeat (first | exact .refl | apply Drop.skip)))))

set_option maxRecDepth 8000 in
set_option maxHeartbeats 2000000 in
theorem Cut_run (p : Nat) (bx : BXT) (x y : Value) (hb : bx.d.oneCell' = true ∧ bx.u.oneCell' = true ∧ bx.r.oneCell' = true) : FnS Tryz.prog 17 [ptr p 0] [opC p x y 0 0 bx] (fun u Bs => u = nilS ∧ Bs = [opC p x y 0 0 bx]) := by
 refine fn_body Tryz.func17 rfl rfl rfl ?_
 intro W0 R
 simp only [List.zipIdx_cons, List.zipIdx_nil, List.map_cons, List.map_nil, Nat.zero_add, Nat.reduceAdd, List.cons_append, List.nil_append]
 refine g_seq ?_
 refine g_region ?_
 refine gl_v rfl (o_assign rfl) ?_
 refine gl_nil ?_
 refine ge_then ?_
 refine g_seq ?_
 refine g_region ?_
 refine gl_v rfl (o_move rfl) ?_
 refine gl_v rfl (o_move rfl) ?_
 refine gl_v rfl (o_nil rfl) ?_
 first | refine gl_v rfl (o_fldS rfl) ?_ | refine gl_v rfl (o_fld rfl) ?_
 first | refine gl_v rfl (o_load rfl rfl) ?_ | refine gl_v rfl (o_loadS rfl rfl) ?_ | refine gl_v rfl (o_loadC rfl) ?_
 refine gl_c rfl (o_call rfl (told0_Cut p bx x y _) (by repeat (first | exact .nil | (apply Part.cons; · (repeat (first | exact .head | apply Sel.tail)))))) ?_
 rintro _ R ⟨_, ⟨rfl, rfl⟩, rfl⟩
 try simp only [List.cons_append, List.nil_append]
 refine gl_v rfl (o_assign rfl) ?_
 refine gl_nil ?_
 refine ge_then ?_
 refine g_ret ?_
 refine ret1 (.inl rfl) rfl rfl _ (⟨rfl, rfl⟩) (To.sat (by repeat (first | exact .nil | exact .done .refl | (apply To.cons; · (repeat (first | exact .head | apply Sel.tail))) | exact .done (by repeat (first | exact .refl | apply Drop.skip)))))

theorem KCut_spec (X : KX) (B : CB) (p : Nat) (co : CO) (hv : co.out = 0 → co.val = 0) (hl : co.cut.length ≤ 1000) : FnS Tryz.prog 17 [ptr p 0] [opK X B p co] (fun u Bs => ∃ a' c', u = tl a' c' (toldL co co.cut) ∧ Bs = [tlA a' c' (toldL co co.cut), opK X B p co]) := by
  by_cases ho : co.out = 0
  · have e : toldL co co.cut = [] := by unfold toldL; rw [if_pos ho]
    rw [opK_run ho, e]
    have hh : FnS Tryz.prog 17 [ptr p 0] [phK X B p co.cut co.ref co.ph] (fun u Bs => u = nilS ∧ Bs = [phK X B p co.cut co.ref co.ph]) := by
      cases hph : co.ph <;> exact fns_ex (fun x _ => fns_eq (Cut_run p _ _ _ ⟨rfl, rfl, rfl⟩) (.cons .head .nil) (fun R => ex_close x trivial (fun h s => s)))
    refine hh.wk fun v Bs h => ⟨_, ⟨none, 0, h.1, rfl⟩, fun h' s => ?_⟩
    rw [h.2] at s; exact own_nil0 h' s
  · have e : toldL co co.cut = co.cut := by unfold toldL; rw [if_neg ho]
    rw [opK_ov ho, e]
    refine fns_ex (fun x _ => ?_)
    obtain ⟨x, y, a0, k0, a1, k1, a2, k2⟩ := x
    refine (Cut_ov X p co x y a0 k0 a1 k1 a2 k2 ho hl).wk fun v Bs h => ?_
    obtain ⟨a', c', h1, h2⟩ := h
    exact ⟨_, ⟨a', c', h1, rfl⟩, fun h' s => by rw [h2] at s; exact Sat.tail (fun _ s => ex_close (x, y, a0, k0, a1, k1, a2, k2) trivial (fun _ s => s) _ s) s⟩

set_option maxRecDepth 8000 in
set_option maxHeartbeats 2000000 in
theorem told_Refused (X : KX) (p : Nat) (co : CO) (x y : Value) (a0 : Option Addr) (k0 : Nat) (a1 : Option Addr) (k1 : Nat) (a2 : Option Addr) (k2 : Nat) (h0 : co.out ≠ 0) (hl : co.ref.length ≤ 1000) : FnS Tryz.prog 42 [ptr p 0, tl a2 k2 co.ref] [opC p x y co.out co.val (bxK X (tl a0 k0 co.due) (tl a1 k1 co.cut) (tl a2 k2 co.ref)), tlA a0 k0 co.due, tlA a1 k1 co.cut, tlA a2 k2 co.ref] (fun u Bs => ∃ a' c', u = tl a' c' co.ref ∧ Bs = [tlA a' c' co.ref, opC p x y co.out co.val (bxK X (tl a0 k0 co.due) (tl a1 k1 co.cut) (tl a2 k2 co.ref)), tlA a0 k0 co.due, tlA a1 k1 co.cut, tlA a2 k2 co.ref]) := by
 refine fn_body Tryz.func42 rfl rfl rfl ?_
 intro W0 R
 simp only [List.zipIdx_cons, List.zipIdx_nil, List.map_cons, List.map_nil, Nat.zero_add, Nat.reduceAdd, List.cons_append, List.nil_append]
 refine g_seq ?_
 refine g_region ?_
 refine gl_v rfl (o_assign rfl) ?_
 refine gl_nil ?_
 refine ge_then ?_
 refine g_seq ?_
 refine g_seq ?_
 refine g_region ?_
 refine gl_v rfl (o_move rfl) ?_
 refine gl_v rfl (o_nil rfl) ?_
 first | refine gl_v rfl (o_fldS rfl) ?_ | refine gl_v rfl (o_fld rfl) ?_
 refine gl_c rfl (o_call rfl (pOver_spec p (bxK X (tl a0 k0 co.due) (tl a1 k1 co.cut) (tl a2 k2 co.ref)) x y co.out co.val) (by repeat (first | exact .nil | (apply Part.cons; · (repeat (first | exact .head | apply Sel.tail)))))) ?_
 rintro _ R ⟨_, ⟨rfl, rfl⟩, rfl⟩
 try simp only [List.cons_append, List.nil_append]
 refine gl_v rfl (o_is (c := false) (by simp [h0]) (o_not rfl)) ?_
 refine gl_nil ?_
 refine ge_then ?_
 refine g_cond_false rfl ?_
 refine g_skip ?_
 refine ge_then ?_
 refine g_seq ?_
 refine g_region ?_
 refine gl_v rfl (o_move rfl) ?_
 refine gl_c rfl (o_call rfl (CloneU_spec a2 k2 co.ref hl) (by repeat (first | exact .nil | (apply Part.cons; · (repeat (first | exact .head | apply Sel.tail)))))) ?_
 rintro _ R ⟨_, ⟨a', c', rfl, rfl⟩, rfl⟩
 try simp only [List.cons_append, List.nil_append]
 refine gl_v rfl (o_assign rfl) ?_
 refine gl_nil ?_
 refine ge_then ?_
 refine g_ret ?_
 refine ret1 (.inl rfl) rfl rfl _ (⟨a', c', rfl, rfl⟩) (To.sat (by repeat (first | exact .nil | exact .done .refl | (apply To.cons; · (repeat (first | exact .head | apply Sel.tail))) | exact .done (by repeat (first | exact .refl | apply Drop.skip)))))

set_option maxRecDepth 8000 in
set_option maxHeartbeats 2000000 in
theorem Refused_ov (X : KX) (p : Nat) (co : CO) (x y : Value) (a0 : Option Addr) (k0 : Nat) (a1 : Option Addr) (k1 : Nat) (a2 : Option Addr) (k2 : Nat) (h0 : co.out ≠ 0) (hl : co.ref.length ≤ 1000) : FnS Tryz.prog 28 [ptr p 0] [opC p x y co.out co.val (bxK X (tl a0 k0 co.due) (tl a1 k1 co.cut) (tl a2 k2 co.ref)), tlA a0 k0 co.due, tlA a1 k1 co.cut, tlA a2 k2 co.ref] (fun u Bs => ∃ a' c', u = tl a' c' co.ref ∧ Bs = [tlA a' c' co.ref, opC p x y co.out co.val (bxK X (tl a0 k0 co.due) (tl a1 k1 co.cut) (tl a2 k2 co.ref)), tlA a0 k0 co.due, tlA a1 k1 co.cut, tlA a2 k2 co.ref]) := by
 refine fn_body Tryz.func28 rfl rfl rfl ?_
 intro W0 R
 simp only [List.zipIdx_cons, List.zipIdx_nil, List.map_cons, List.map_nil, Nat.zero_add, Nat.reduceAdd, List.cons_append, List.nil_append]
 refine g_seq ?_
 refine g_region ?_
 refine gl_v rfl (o_assign rfl) ?_
 refine gl_nil ?_
 refine ge_then ?_
 refine g_seq ?_
 refine g_region ?_
 refine gl_v rfl (o_move rfl) ?_
 refine gl_v rfl (o_move rfl) ?_
 refine gl_v rfl (o_nil rfl) ?_
 first | refine gl_v rfl (o_fldS rfl) ?_ | refine gl_v rfl (o_fld rfl) ?_
 first | refine gl_v rfl (o_load rfl rfl) ?_ | refine gl_v rfl (o_loadS rfl rfl) ?_ | refine gl_v rfl (o_loadC rfl) ?_
 refine gl_c rfl (o_call rfl (told_Refused X p co x y a0 k0 a1 k1 a2 k2 h0 hl) (by repeat (first | exact .nil | (apply Part.cons; · (repeat (first | exact .head | apply Sel.tail)))))) ?_
 rintro _ R ⟨_, ⟨a', c', rfl, rfl⟩, rfl⟩
 try simp only [List.cons_append, List.nil_append]
 refine gl_v rfl (o_assign rfl) ?_
 refine gl_nil ?_
 refine ge_then ?_
 refine g_ret ?_
 refine ret1 (.inl rfl) rfl rfl _ (⟨a', c', rfl, rfl⟩) (To.sat (by repeat (first | exact .nil | exact .done .refl | (apply To.cons; · (repeat (first | exact .head | apply Sel.tail))) | exact .done (by repeat (first | exact .refl | apply Drop.skip)))))

set_option maxRecDepth 8000 in
set_option maxHeartbeats 2000000 in
theorem told0_Refused (p : Nat) (bx : BXT) (x y : Value) (v : Value) : FnS Tryz.prog 42 [ptr p 0, v] [opC p x y 0 0 bx] (fun u Bs => u = nilS ∧ Bs = [opC p x y 0 0 bx]) := by
 refine fn_body Tryz.func42 rfl rfl rfl ?_
 intro W0 R
 simp only [List.zipIdx_cons, List.zipIdx_nil, List.map_cons, List.map_nil, Nat.zero_add, Nat.reduceAdd, List.cons_append, List.nil_append]
 refine g_seq ?_
 refine g_region ?_
 refine gl_v rfl (o_assign rfl) ?_
 refine gl_nil ?_
 refine ge_then ?_
 refine g_seq ?_
 refine g_seq ?_
 refine g_region ?_
 refine gl_v rfl (o_move rfl) ?_
 refine gl_v rfl (o_nil rfl) ?_
 first | refine gl_v rfl (o_fldS rfl) ?_ | refine gl_v rfl (o_fld rfl) ?_
 refine gl_c rfl (o_call rfl (pOver_spec p bx x y 0 0) (by repeat (first | exact .nil | (apply Part.cons; · (repeat (first | exact .head | apply Sel.tail)))))) ?_
 rintro _ R ⟨_, ⟨rfl, rfl⟩, rfl⟩
 try simp only [List.cons_append, List.nil_append]
 refine gl_v rfl (o_is (c := true) (by rfl) (o_not rfl)) ?_
 refine gl_nil ?_
 refine ge_then ?_
 refine g_cond_true rfl ?_
 refine g_seq ?_
 refine g_region ?_
 refine gl_v rfl (o_assign rfl) ?_
 refine gl_nil ?_
 refine ge_then ?_
 refine g_ret ?_
 refine ge_then_ret ?_
 refine ret1 (.inl rfl) rfl rfl _ (⟨rfl, rfl⟩) (To.sat (by repeat (first | exact .nil | exact .done .refl | (apply To.cons; · (repeat (first | exact .head | apply Sel.tail))) | exact .done (by repeat (first | exact .refl | apply Drop.skip)))))

set_option maxRecDepth 8000 in
set_option maxHeartbeats 2000000 in
theorem Refused_run (p : Nat) (bx : BXT) (x y : Value) (hb : bx.d.oneCell' = true ∧ bx.u.oneCell' = true ∧ bx.r.oneCell' = true) : FnS Tryz.prog 28 [ptr p 0] [opC p x y 0 0 bx] (fun u Bs => u = nilS ∧ Bs = [opC p x y 0 0 bx]) := by
 refine fn_body Tryz.func28 rfl rfl rfl ?_
 intro W0 R
 simp only [List.zipIdx_cons, List.zipIdx_nil, List.map_cons, List.map_nil, Nat.zero_add, Nat.reduceAdd, List.cons_append, List.nil_append]
 refine g_seq ?_
 refine g_region ?_
 refine gl_v rfl (o_assign rfl) ?_
 refine gl_nil ?_
 refine ge_then ?_
 refine g_seq ?_
 refine g_region ?_
 refine gl_v rfl (o_move rfl) ?_
 refine gl_v rfl (o_move rfl) ?_
 refine gl_v rfl (o_nil rfl) ?_
 first | refine gl_v rfl (o_fldS rfl) ?_ | refine gl_v rfl (o_fld rfl) ?_
 first | refine gl_v rfl (o_load rfl rfl) ?_ | refine gl_v rfl (o_loadS rfl rfl) ?_ | refine gl_v rfl (o_loadC rfl) ?_
 refine gl_c rfl (o_call rfl (told0_Refused p bx x y _) (by repeat (first | exact .nil | (apply Part.cons; · (repeat (first | exact .head | apply Sel.tail)))))) ?_
 rintro _ R ⟨_, ⟨rfl, rfl⟩, rfl⟩
 try simp only [List.cons_append, List.nil_append]
 refine gl_v rfl (o_assign rfl) ?_
 refine gl_nil ?_
 refine ge_then ?_
 refine g_ret ?_
 refine ret1 (.inl rfl) rfl rfl _ (⟨rfl, rfl⟩) (To.sat (by repeat (first | exact .nil | exact .done .refl | (apply To.cons; · (repeat (first | exact .head | apply Sel.tail))) | exact .done (by repeat (first | exact .refl | apply Drop.skip)))))

theorem KRefused_spec (X : KX) (B : CB) (p : Nat) (co : CO) (hv : co.out = 0 → co.val = 0) (hl : co.ref.length ≤ 1000) : FnS Tryz.prog 28 [ptr p 0] [opK X B p co] (fun u Bs => ∃ a' c', u = tl a' c' (toldL co co.ref) ∧ Bs = [tlA a' c' (toldL co co.ref), opK X B p co]) := by
  by_cases ho : co.out = 0
  · have e : toldL co co.ref = [] := by unfold toldL; rw [if_pos ho]
    rw [opK_run ho, e]
    have hh : FnS Tryz.prog 28 [ptr p 0] [phK X B p co.cut co.ref co.ph] (fun u Bs => u = nilS ∧ Bs = [phK X B p co.cut co.ref co.ph]) := by
      cases hph : co.ph <;> exact fns_ex (fun x _ => fns_eq (Refused_run p _ _ _ ⟨rfl, rfl, rfl⟩) (.cons .head .nil) (fun R => ex_close x trivial (fun h s => s)))
    refine hh.wk fun v Bs h => ⟨_, ⟨none, 0, h.1, rfl⟩, fun h' s => ?_⟩
    rw [h.2] at s; exact own_nil0 h' s
  · have e : toldL co co.ref = co.ref := by unfold toldL; rw [if_neg ho]
    rw [opK_ov ho, e]
    refine fns_ex (fun x _ => ?_)
    obtain ⟨x, y, a0, k0, a1, k1, a2, k2⟩ := x
    refine (Refused_ov X p co x y a0 k0 a1 k1 a2 k2 ho hl).wk fun v Bs h => ?_
    obtain ⟨a', c', h1, h2⟩ := h
    exact ⟨_, ⟨a', c', h1, rfl⟩, fun h' s => by rw [h2] at s; exact Sat.tail (fun _ s => ex_close (x, y, a0, k0, a1, k1, a2, k2) trivial (fun _ s => s) _ s) s⟩

set_option maxRecDepth 8000 in
set_option maxHeartbeats 2000000 in
theorem kdone_spec (X : KX) (B : CB) (p : Nat) (L : List Int) (t : Int) (w : Wh) (co : CO) (I : CI B L) (hI : LI L) (hw : WS 1000 w) (h1 : COI co) (k : Nat) (L' : List Int) (w' : Wh) (co' : CO) (hrun : doC B 1000 L w co = (k, L', w', co')) : FnS Tryz.prog 11 [ptr p 0] [opK X B p co, envK X B L t w] (fun u Bs => ∃ t', u = .tuple #[I64 co'.out, I64 k] ∧ Bs = [opK X B p co', envK X B L' t' w']) := by
 refine fn_body Tryz.func11 rfl rfl rfl ?_
 intro W0 R
 simp only [List.zipIdx_cons, List.zipIdx_nil, List.map_cons, List.map_nil, Nat.zero_add, Nat.reduceAdd, List.cons_append, List.nil_append]
 refine g_seq ?_
 refine g_region ?_
 refine gl_v rfl (o_assign rfl) ?_
 refine gl_v rfl (o_assign rfl) ?_
 refine gl_nil ?_
 refine ge_then ?_
 refine g_seq ?_
 refine g_region ?_
 refine gl_v rfl (o_assign rfl) ?_
 refine gl_nil ?_
 refine ge_then ?_
 refine g_seq ?_
 refine g_block ?_
 refine g_loop (ι := Nat × List Int × Wh × CO × Int) (fun x => ∃ j, x.1 + j = k ∧ x.1 ≤ 1000 ∧ doC B (1000 - x.1) x.2.1 x.2.2.1 x.2.2.2.1 = (j, L', w', co') ∧ CI B x.2.1 ∧ LI x.2.1 ∧ WS (1000 - x.1) x.2.2.1 ∧ COI x.2.2.2.1) (fun x => [(4, I64 x.1), (0, ptr p 0)]) (fun x => opK X B p x.2.2.2.1 :: envK X B x.2.1 x.2.2.2.2 x.2.2.1 :: R) (fun x => 1000 - x.1) (0, L, w, co, t) (⟨k, by simp, by simp, hrun, I, hI, hw, h1⟩) (Keep.cons rfl (Keep.cons rfl (Keep.nil))) (To.sat (by repeat (first | exact .nil | exact .done .refl | (apply To.cons; · (repeat (first | exact .head | apply Sel.tail))) | exact .done (by repeat (first | exact .refl | apply Drop.skip))))) ?_
 rintro ⟨i, Lx, wx, ox, tx⟩ ⟨j, hj, hi, hr, hI1, hI2, hI3, hI4⟩
 have hj : i + j = k := hj
 have hi : i ≤ 1000 := hi
 have hr : doC B (1000 - i) Lx wx ox = (j, L', w', co') := hr
 have hI1 : CI B Lx := hI1
 have hI2 : LI Lx := hI2
 have hI3 : WS (1000 - i) wx := hI3
 have hI4 : COI ox := hI4
 dsimp only
 refine g_seq ?_
 refine g_seq ?_
 refine g_region ?_
 refine gl_v rfl (o_move rfl) ?_
 refine gl_v rfl (o_lss rfl rfl) ?_
 refine gl_v rfl (o_move rfl) ?_
 refine gl_g rfl rfl (fun hc1 => ?_) (fun hc1 => ?_) rfl
 ·
  have hc1' := hc1
  first | replace hc1' := of_decide_eq_true hc1' | replace hc1' := lt_f hc1' | replace hc1' := le_f hc1' | replace hc1' := dec_f hc1' | replace hc1' := nlt_t hc1' | replace hc1' := nle_t hc1' | replace hc1' := ndec_t hc1' | replace hc1' := ndec_f hc1' | replace hc1' := nn_t hc1' | replace hc1' := nn_f hc1' | skip
  refine gl_v rfl (o_move rfl) ?_
  refine gl_gT rfl rfl hc1 ?_
  refine gl_v rfl (o_nil rfl) ?_
  refine gl_gT rfl rfl hc1 ?_
  first | refine gl_v rfl (o_fldS rfl) ?_ | refine gl_v rfl (o_fld rfl) ?_
  refine gl_gT rfl rfl hc1 ?_
  refine gl_c rfl (o_call rfl (Over_op X B p ox (fun h => (hI4.run h).2.1)) (by repeat (first | exact .nil | (apply Part.cons; · (repeat (first | exact .head | apply Sel.tail)))))) ?_
  rintro _ R ⟨_, ⟨rfl, rfl⟩, rfl⟩
  try simp only [List.cons_append, List.nil_append]
  refine gl_gT rfl rfl hc1 ?_
  refine gl_v rfl (o_not rfl) ?_
  refine gl_v rfl (o_pickT hc1 rfl rfl) ?_
  refine gl_nil ?_
  refine ge_then ?_
  refine g_cond rfl (fun hc2 => ?_) (fun hc2 => ?_)
  ·
   first | replace hc2 := of_decide_eq_true hc2 | replace hc2 := lt_f hc2 | replace hc2 := le_f hc2 | replace hc2 := dec_f hc2 | replace hc2 := nlt_t hc2 | replace hc2 := nle_t hc2 | replace hc2 := ndec_t hc2 | replace hc2 := ndec_f hc2 | replace hc2 := nn_t hc2 | replace hc2 := nn_f hc2 | skip
   have hov : ox.over = false := hc2
   refine g_skip ?_
   refine ge_then ?_
   refine g_block ?_
   refine g_seq ?_
   refine g_region ?_
   refine gl_v rfl (o_move rfl) ?_
   refine gl_v rfl (o_nil rfl) ?_
   first | refine gl_v rfl (o_fldS rfl) ?_ | refine gl_v rfl (o_fld rfl) ?_
   refine gl_c rfl (o_call rfl (kstep_spec X B p Lx tx wx ox hI1 hI2 hI3.wi hI4) (by repeat (first | exact .nil | (apply Part.cons; · (repeat (first | exact .head | apply Sel.tail)))))) ?_
   rintro _ R ⟨_, ⟨rfl, rfl⟩, rfl⟩
   try simp only [List.cons_append, List.nil_append]
   refine gl_nil ?_
   refine ge_then ?_
   refine g_region ?_
   refine gl_v rfl (o_move rfl) ?_
   refine gl_v rfl (o_addR _ (by first | exact wr_i64 (by omega) | rfl) rfl rfl) ?_
   refine gl_v rfl (o_assign rfl) ?_
   refine gl_nil ?_
   refine ge_block ?_
   obtain ⟨q, hq⟩ : ∃ q, 1000 - i = q + 1 := ⟨999 - i, by omega⟩
   rw [hq, doC_go B q Lx wx ox hov] at hr
   obtain ⟨rfl, hr2⟩ := Prod.mk.inj hr
   obtain ⟨g1, g2, g3⟩ := goC_in (B := B) (k := q) hI2 (hq ▸ hI3) hI4
   refine ge_round (i + 1, (goC B Lx wx ox).1, (goC B Lx wx ox).2.1, (goC B Lx wx ox).2.2, _) ⟨(doC B q (goC B Lx wx ox).1 (goC B Lx wx ox).2.1 (goC B Lx wx ox).2.2).1, by omega, by show i + 1 ≤ 1000; omega, by show doC B (1000 - (i + 1)) _ _ _ = _; rw [show 1000 - (i + 1) = q by omega, ← hr2], hI1.go wx ox, g1, (by show WS (1000 - (i + 1)) _; rw [show 1000 - (i + 1) = q by omega]; exact g2), g3⟩ (by show 1000 - (i + 1) < 1000 - i; omega) (Keep.cons rfl (Keep.cons rfl (Keep.nil))) (To.sat (by repeat (first | exact .nil | exact .done .refl | (apply To.cons; · (repeat (first | exact .head | apply Sel.tail))) | exact .done (by repeat (first | exact .refl | apply Drop.skip)))))
  ·
   first | replace hc2 := of_decide_eq_true hc2 | replace hc2 := lt_f hc2 | replace hc2 := le_f hc2 | replace hc2 := dec_f hc2 | replace hc2 := nlt_t hc2 | replace hc2 := nle_t hc2 | replace hc2 := ndec_t hc2 | replace hc2 := ndec_f hc2 | replace hc2 := nn_t hc2 | replace hc2 := nn_f hc2 | skip
   have hov : ox.over = true := hc2
   refine g_exit ?_
   refine ge_then_exit ?_
   refine ge_then_exit ?_
   refine ge_block_exit ?_
   refine ge_then ?_
   refine g_seq ?_
   have hre : doC B (1000 - i) Lx wx ox = (0, Lx, wx, ox) := by first | exact doC_over _ _ _ _ _ hov | (rw [show 1000 - i = 0 by omega]; rfl)
   rw [hre] at hr
   obtain ⟨rfl, hr2⟩ := Prod.mk.inj hr
   obtain ⟨rfl, hr3⟩ := Prod.mk.inj hr2
   obtain ⟨rfl, rfl⟩ := Prod.mk.inj hr3
   obtain rfl : i = k := by omega
   refine g_region ?_
   refine gl_v rfl (o_move rfl) ?_
   refine gl_v rfl (o_nil rfl) ?_
   first | refine gl_v rfl (o_fldS rfl) ?_ | refine gl_v rfl (o_fld rfl) ?_
   refine gl_c rfl (o_call rfl (Out_op X B p ox (fun h => (hI4.run h).2.1)) (by repeat (first | exact .nil | (apply Part.cons; · (repeat (first | exact .head | apply Sel.tail)))))) ?_
   rintro _ R ⟨_, ⟨rfl, rfl⟩, rfl⟩
   try simp only [List.cons_append, List.nil_append]
   refine gl_v rfl (o_move rfl) ?_
   refine gl_v rfl (o_assign rfl) ?_
   refine gl_v rfl (o_assign rfl) ?_
   refine gl_nil ?_
   refine ge_then ?_
   refine g_ret ?_
   refine ret2 (.inl rfl) rfl rfl rfl _ (⟨_, rfl, rfl⟩) (To.sat (by repeat (first | exact .nil | exact .done .refl | (apply To.cons; · (repeat (first | exact .head | apply Sel.tail))) | exact .done (by repeat (first | exact .refl | apply Drop.skip)))))
 ·
  have hc1' := hc1
  first | replace hc1' := of_decide_eq_true hc1' | replace hc1' := lt_f hc1' | replace hc1' := le_f hc1' | replace hc1' := dec_f hc1' | replace hc1' := nlt_t hc1' | replace hc1' := nle_t hc1' | replace hc1' := ndec_t hc1' | replace hc1' := ndec_f hc1' | replace hc1' := nn_t hc1' | replace hc1' := nn_f hc1' | skip
  simp only [putO]
  refine gl_gF rfl rfl hc1 rfl ?_
  refine gl_gF rfl rfl hc1 rfl ?_
  refine gl_gF rfl rfl hc1 rfl ?_
  refine gl_gF rfl rfl hc1 rfl ?_
  refine gl_v rfl (o_pickF hc1 rfl rfl) ?_
  refine gl_nil ?_
  refine ge_then ?_
  refine g_cond_false rfl ?_
  refine g_exit ?_
  refine ge_then_exit ?_
  refine ge_then_exit ?_
  refine ge_block_exit ?_
  refine ge_then ?_
  refine g_seq ?_
  have hre : doC B (1000 - i) Lx wx ox = (0, Lx, wx, ox) := by first | exact doC_over _ _ _ _ _ hov | (rw [show 1000 - i = 0 by omega]; rfl)
  rw [hre] at hr
  obtain ⟨rfl, hr2⟩ := Prod.mk.inj hr
  obtain ⟨rfl, hr3⟩ := Prod.mk.inj hr2
  obtain ⟨rfl, rfl⟩ := Prod.mk.inj hr3
  obtain rfl : i = k := by omega
  refine g_region ?_
  refine gl_v rfl (o_move rfl) ?_
  refine gl_v rfl (o_nil rfl) ?_
  first | refine gl_v rfl (o_fldS rfl) ?_ | refine gl_v rfl (o_fld rfl) ?_
  refine gl_c rfl (o_call rfl (Out_op X B p ox (fun h => (hI4.run h).2.1)) (by repeat (first | exact .nil | (apply Part.cons; · (repeat (first | exact .head | apply Sel.tail)))))) ?_
  rintro _ R ⟨_, ⟨rfl, rfl⟩, rfl⟩
  try simp only [List.cons_append, List.nil_append]
  refine gl_v rfl (o_move rfl) ?_
  refine gl_v rfl (o_assign rfl) ?_
  refine gl_v rfl (o_assign rfl) ?_
  refine gl_nil ?_
  refine ge_then ?_
  refine g_ret ?_
  refine ret2 (.inl rfl) rfl rfl rfl _ (⟨_, rfl, rfl⟩) (To.sat (by repeat (first | exact .nil | exact .done .refl | (apply To.cons; · (repeat (first | exact .head | apply Sel.tail))) | exact .done (by repeat (first | exact .refl | apply Drop.skip)))))

set_option maxRecDepth 8000 in
set_option maxHeartbeats 2000000 in
theorem kmade_spec (n : Nat) (h1 : 1 ≤ n) (h2 : n ≤ 64) : FnS Tryz.prog 9 [I64 n] [] (fun u Bs => ∃ (X : KX) (t : Int), u = ptr X.c 0 ∧ Bs = [envK X ⟨0, n⟩ (List.replicate (3 + 2 * n) 0) t ⟨0, 0, []⟩]) := by
 refine fn_body Tryz.func9 rfl rfl rfl ?_
 intro W0 R
 simp only [List.zipIdx_cons, List.zipIdx_nil, List.map_cons, List.map_nil, Nat.zero_add, Nat.reduceAdd, List.cons_append, List.nil_append]
 have hc : cnt ((3 + 2 * n : Nat) : Int) = 3 + 2 * n := by have := cnt_of ((3 + 2 * n : Nat) : Int) (by omega); omega
 refine g_seq ?_
 refine g_region ?_
 refine gl_v rfl (o_assign rfl) ?_
 refine gl_nil ?_
 refine ge_then ?_
 refine g_seq ?_
 refine g_region ?_
 refine gl_v rfl (o_move rfl) ?_
 refine gl_c rfl (o_call rfl (kSize_ok h1 h2) (by repeat (first | exact .nil | (apply Part.cons; · (repeat (first | exact .head | apply Sel.tail)))))) ?_
 rintro _ R ⟨_, ⟨rfl, rfl⟩, rfl⟩
 try simp only [List.cons_append, List.nil_append]
 refine gl_c rfl (o_call rfl (New_spec _) (by repeat (first | exact .nil | (apply Part.cons; · (repeat (first | exact .head | apply Sel.tail)))))) ?_
 rintro _ R ⟨_, ⟨m, rfl, rfl⟩, rfl⟩
 try simp only [List.cons_append, List.nil_append]
 rw [hc]
 refine gl_v rfl (o_move rfl) ?_
 refine gl_c rfl (o_call rfl (kMake_spec m 0 n (List.replicate (3 + 2 * n) 0) 0 ⟨h1, h2, by simp, by simp; omega⟩) (by repeat (first | exact .nil | (apply Part.cons; · (repeat (first | exact .head | apply Sel.tail)))))) ?_
 rintro _ R ⟨_, ⟨X, rfl, rfl, rfl⟩, rfl⟩
 try simp only [List.cons_append, List.nil_append]
 rw [zap_rep]
 refine gl_v rfl (o_move rfl) ?_
 refine gl_v rfl (o_extract rfl rfl) ?_
 refine gl_v rfl (o_extract rfl rfl) ?_
 refine gl_v rfl (o_assign rfl) ?_
 refine gl_v rfl (o_assign rfl) ?_
 refine gl_nil ?_
 refine ge_then ?_
 refine g_seq ?_
 refine g_seq ?_
 refine g_region ?_
 refine gl_v rfl (o_move rfl) ?_
 refine gl_v rfl (o_neq rfl rfl) ?_
 refine gl_nil ?_
 refine ge_then ?_
 refine g_cond_false (rfl) ?_
 refine g_skip ?_
 refine ge_then ?_
 refine g_seq ?_
 refine g_region ?_
 refine gl_v rfl (o_move rfl) ?_
 refine gl_v rfl (o_assign rfl) ?_
 refine gl_nil ?_
 refine ge_then ?_
 refine g_ret ?_
 refine ret1 (.inl rfl) rfl rfl _ (⟨X, _, rfl, rfl⟩) (To.sat (by repeat (first | exact .nil | exact .done .refl | (apply To.cons; · (repeat (first | exact .head | apply Sel.tail))) | exact .done (by repeat (first | exact .refl | apply Drop.skip)))))

theorem count_at {l : List Int} {x : Nat} {id : Int} (h : x < l.length) : (l.take (x + 1)).count id = (l.take x).count id + if l.getD x 0 = id then 1 else 0 := by
  rw [List.take_succ_eq_append_getElem h, List.count_append]
  have : l.getD x 0 = l[x] := by rw [List.getD_eq_getElem?_getD, List.getElem?_eq_getElem h]; rfl
  rw [this, List.count_singleton]; simp

set_option maxRecDepth 8000 in
set_option maxHeartbeats 2000000 in
theorem has_spec (v : Value) (l : List Int) (id : Int) (hl : l.length ≤ 1000) (A : Assn) [RdA v A l.length (l.map U64)] : FnS Tryz.prog 14 [v, U64 id] [A] (fun u Bs => u = I64 (l.count id : Nat) ∧ Bs = [A]) := by
 refine fn_body Tryz.func14 rfl rfl rfl ?_
 intro W0 R
 simp only [List.zipIdx_cons, List.zipIdx_nil, List.map_cons, List.map_nil, Nat.zero_add, Nat.reduceAdd, List.cons_append, List.nil_append]
 refine g_seq ?_
 refine g_region ?_
 refine gl_v rfl (o_assign rfl) ?_
 refine gl_nil ?_
 refine ge_then ?_
 refine g_seq ?_
 refine g_region ?_
 refine gl_v rfl (o_assign rfl) ?_
 refine gl_nil ?_
 refine ge_then ?_
 refine g_seq ?_
 refine g_seq ?_
 refine g_region ?_
 refine gl_v rfl (o_assign rfl) ?_
 refine gl_nil ?_
 refine ge_then ?_
 refine g_block ?_
 refine g_loop (ι := Nat) (fun x => x ≤ l.length) (fun x => [(6, I64 x), (5, I64 ((l.take x).count id : Nat)), (0, v), (1, U64 id)]) (fun x => A :: R) (fun x => l.length - x) 0 (Nat.zero_le _) (Keep.cons rfl (Keep.cons rfl (Keep.cons rfl (Keep.cons rfl (Keep.nil))))) (To.sat (by repeat (first | exact .nil | exact .done .refl | (apply To.cons; · (repeat (first | exact .head | apply Sel.tail))) | exact .done (by repeat (first | exact .refl | apply Drop.skip))))) ?_
 rintro x hx
 replace hx : x ≤ l.length := hx
 refine g_seq ?_
 refine g_seq ?_
 refine g_region ?_
 refine gl_v rfl (o_move rfl) ?_
 refine gl_v rfl (o_move rfl) ?_
 first | refine gl_v rfl (o_len rfl) ?_ | refine gl_v rfl (o_lenL rfl) ?_
 refine gl_v rfl (o_lss rfl rfl) ?_
 refine gl_nil ?_
 refine ge_then ?_
 refine g_cond rfl (fun hc1 => ?_) (fun hc1 => ?_)
 ·
  first | replace hc1 := of_decide_eq_true hc1 | replace hc1 := lt_f hc1 | replace hc1 := le_f hc1 | replace hc1 := dec_f hc1 | replace hc1 := nlt_t hc1 | replace hc1 := nle_t hc1 | replace hc1 := ndec_t hc1 | replace hc1 := ndec_f hc1 | replace hc1 := nn_t hc1 | replace hc1 := nn_f hc1 | skip
  have hcb : (l.take x).count id ≤ 1000 := Nat.le_trans List.count_le_length (by rw [List.length_take]; omega)
  refine g_skip ?_
  refine ge_then ?_
  refine g_seq ?_
  refine g_block ?_
  refine g_seq ?_
  refine g_region ?_
  refine gl_v rfl (o_move rfl) ?_
  refine gl_v rfl (o_move rfl) ?_
  refine gl_v rfl (o_idxS rfl rfl (by omega)) ?_
  refine gl_v rfl (o_loadS rfl (map_at (d := 0) (by omega))) ?_
  refine gl_v rfl (o_move rfl) ?_
  refine gl_v rfl (o_eql rfl rfl) ?_
  refine gl_nil ?_
  refine ge_then ?_
  refine g_cond rfl (fun hc2 => ?_) (fun hc2 => ?_)
  ·
   first | replace hc2 := of_decide_eq_true hc2 | replace hc2 := lt_f hc2 | replace hc2 := le_f hc2 | replace hc2 := dec_f hc2 | replace hc2 := nlt_t hc2 | replace hc2 := nle_t hc2 | replace hc2 := ndec_t hc2 | replace hc2 := ndec_f hc2 | replace hc2 := nn_t hc2 | replace hc2 := nn_f hc2 | skip
   refine g_region ?_
   refine gl_v rfl (o_move rfl) ?_
   refine gl_v rfl (o_addR (((l.take x).count id + 1 : Nat) : Int) (by rw [wr_i64 (by omega)]; omega) rfl rfl) ?_
   refine gl_v rfl (o_assign rfl) ?_
   refine gl_nil ?_
   refine ge_block ?_
   refine ge_then ?_
   refine g_region ?_
   refine gl_v rfl (o_move rfl) ?_
   refine gl_v rfl (o_addR ((x + 1 : Nat) : Int) (by rw [wr_i64 (by omega)]; omega) rfl rfl) ?_
   refine gl_v rfl (o_assign rfl) ?_
   refine gl_nil ?_
   refine ge_round (x + 1) (show x + 1 ≤ l.length by omega) (show l.length - (x + 1) < l.length - x by omega) (Keep.cons rfl (Keep.cons (by show some (I64 _) = some (I64 _); rw [count_at (by omega)]; first | rw [if_pos hc2] | rw [if_neg hc2, Nat.add_zero]) (Keep.cons rfl (Keep.cons rfl (Keep.nil))))) (To.sat (by repeat (first | exact .nil | exact .done .refl | (apply To.cons; · (repeat (first | exact .head | apply Sel.tail))) | exact .done (by repeat (first | exact .refl | apply Drop.skip)))))
  ·
   first | replace hc2 := of_decide_eq_true hc2 | replace hc2 := lt_f hc2 | replace hc2 := le_f hc2 | replace hc2 := dec_f hc2 | replace hc2 := nlt_t hc2 | replace hc2 := nle_t hc2 | replace hc2 := ndec_t hc2 | replace hc2 := ndec_f hc2 | replace hc2 := nn_t hc2 | replace hc2 := nn_f hc2 | skip
   refine g_skip ?_
   refine ge_block ?_
   refine ge_then ?_
   refine g_region ?_
   refine gl_v rfl (o_move rfl) ?_
   refine gl_v rfl (o_addR ((x + 1 : Nat) : Int) (by rw [wr_i64 (by omega)]; omega) rfl rfl) ?_
   refine gl_v rfl (o_assign rfl) ?_
   refine gl_nil ?_
   refine ge_round (x + 1) (show x + 1 ≤ l.length by omega) (show l.length - (x + 1) < l.length - x by omega) (Keep.cons rfl (Keep.cons (by show some (I64 _) = some (I64 _); rw [count_at (by omega)]; first | rw [if_pos hc2] | rw [if_neg hc2, Nat.add_zero]) (Keep.cons rfl (Keep.cons rfl (Keep.nil))))) (To.sat (by repeat (first | exact .nil | exact .done .refl | (apply To.cons; · (repeat (first | exact .head | apply Sel.tail))) | exact .done (by repeat (first | exact .refl | apply Drop.skip)))))
 ·
  first | replace hc1 := of_decide_eq_true hc1 | replace hc1 := lt_f hc1 | replace hc1 := le_f hc1 | replace hc1 := dec_f hc1 | replace hc1 := nlt_t hc1 | replace hc1 := nle_t hc1 | replace hc1 := ndec_t hc1 | replace hc1 := ndec_f hc1 | replace hc1 := nn_t hc1 | replace hc1 := nn_f hc1 | skip
  obtain rfl : x = l.length := by omega
  refine g_exit ?_
  refine ge_then_exit ?_
  refine ge_then_exit ?_
  refine ge_block_exit ?_
  refine ge_then ?_
  refine g_seq ?_
  refine g_region ?_
  refine gl_v rfl (o_move rfl) ?_
  refine gl_v rfl (o_assign rfl) ?_
  refine gl_nil ?_
  refine ge_then ?_
  refine g_ret ?_
  refine ret1 (.inl rfl) rfl rfl _ (⟨by rw [List.take_length], rfl⟩) (To.sat (by repeat (first | exact .nil | exact .done .refl | (apply To.cons; · (repeat (first | exact .head | apply Sel.tail))) | exact .done (by repeat (first | exact .refl | apply Drop.skip)))))

end Go.Proofs.YtmohikdmdmplaaaGreat.L
