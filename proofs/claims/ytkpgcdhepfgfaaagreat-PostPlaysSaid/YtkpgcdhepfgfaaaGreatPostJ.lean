/-
  Boxes made; operations done at once. Own work, printed in part by a program of its own.
-/
import Derived.Test.YtkpgcdhepfgfaaaGreatPostI
import Derived.Test.YtkpgcdhepfgfaaaGreatRingI
set_option linter.unusedSimpArgs false
set_option linter.unusedVariables false
set_option linter.unusedSectionVars false
namespace Go.Proofs.YtkpgcdhepfgfaaaGreat.L
open Go.L Go.L.Ring Go.L.Post
def sizeP (s n : Int) : Int := if sizeR s = 0 ∨ sizeR n = 0 then 0 else 2 + sizeR s + sizeR n
theorem sizeR_in (s : Int) : 0 ≤ sizeR s ∧ sizeR s ≤ 130 := by unfold sizeR; split <;> omega
theorem sizeP_in (s n : Int) : 0 ≤ sizeP s n ∧ sizeP s n ≤ 262 := by have := sizeR_in s; have := sizeR_in n; unfold sizeP; split <;> omega
theorem zap_add (L : List Int) (b i : Nat) : ∀ j, zap (zap L b i) (b + i) j = zap L b (i + j)
  | 0 => rfl
  | j + 1 => by rw [zap, zap_add L b i j, ← Nat.add_assoc, zap, Nat.add_assoc]
theorem tupN_add (i : Nat) (t : Int) : ∀ j, tupN j (tupN i t) = tupN (i + j) t
  | 0 => rfl
  | j + 1 => by rw [tupN, tupN_add i t j, ← Nat.add_assoc, tupN]
def PB.sz (B : PB) : Nat := 2 + (2 + 2 * B.nm) + (2 + 2 * B.nn)
theorem PI.zap {B : PB} {L : List Int} (h : PI B L) (i j : Nat) : PI B (Ring.zap L i j) := ⟨h.m1, h.m64, h.n1, h.n64, by rw [zap_len]; exact h.len, by rw [zap_len]; exact h.top⟩
theorem env_close {X : BX} {B : PB} {L : List Int} {t : Int} {As R : List Assn} (h : ∀ h, Sat As h → Sat (bxA X B :: memA X.m L t :: ringA (X.r false) X.m (B.rb false) (B.rn false) :: ringA (X.r true) X.m (B.rb true) (B.rn true) :: R) h) : ∀ h, Sat As h → Sat (envA X B L t :: R) h := ex_close () trivial h
theorem fns_env {X : BX} {B : PB} {L : List Int} {t : Int} {P : Program} {f : FuncId} {args : List Value} {ph : Ph} (h : FnS P f args [bxA X B] (fun u Bs => ∃ p, u = ptr p 0 ∧ Bs = [phA X B p ph, bxA X B])) :
    FnS P f args [envA X B L t] (fun u Bs => ∃ p, u = ptr p 0 ∧ Bs = [postA X B p ⟨ph, 0, 0⟩, envA X B L t]) := by
  refine fns_ex (fun x _ => ?_)
  intro W0 R w s
  refine (h W0 (memA X.m L t :: ringA (X.r false) X.m (B.rb false) (B.rn false) :: ringA (X.r true) X.m (B.rb true) (B.rn true) :: R) w s).mono ?_
  rintro _ _ ⟨v, Bs, e, ⟨p, e2, rfl⟩, s⟩
  refine ⟨v, _, e, ⟨p, e2, rfl⟩, s.imp ?_⟩
  simp only [List.cons_append, List.nil_append]
  exact post_go (fun h s => Sat.tail (fun h s => ex_close () trivial (fun h s => s) h s) s)

set_option maxRecDepth 8000 in
theorem pSize_spec (s n : Int) : FnS Tryz.prog 8 [I64 s, I64 n] [] (fun u Bs => u = I64 (sizeP s n) ∧ Bs = []) := by
 refine fn_body Tryz.func8 rfl rfl rfl ?_
 intro W0 R
 simp only [List.zipIdx_cons, List.zipIdx_nil, List.map_cons, List.map_nil, Nat.zero_add, Nat.reduceAdd, List.cons_append, List.nil_append]
 have hs := sizeR_in s
 have hn := sizeR_in n
 refine g_seq ?_
 refine g_region ?_
 refine gl_v rfl (o_assign rfl) ?_
 refine gl_nil ?_
 refine ge_then ?_
 refine g_seq ?_
 refine g_region ?_
 refine gl_v rfl (o_move rfl) ?_
 refine gl_c rfl (o_call rfl (Size_spec s) (by repeat (first | exact .nil | (apply Part.cons; · (repeat (first | exact .head | apply Sel.tail)))))) ?_
 rintro _ R ⟨_, ⟨rfl, rfl⟩, rfl⟩
 try simp only [List.cons_append, List.nil_append]
 refine gl_v rfl (o_move rfl) ?_
 refine gl_c rfl (o_call rfl (Size_spec n) (by repeat (first | exact .nil | (apply Part.cons; · (repeat (first | exact .head | apply Sel.tail)))))) ?_
 rintro _ R ⟨_, ⟨rfl, rfl⟩, rfl⟩
 try simp only [List.cons_append, List.nil_append]
 refine gl_v rfl (o_assign rfl) ?_
 refine gl_v rfl (o_assign rfl) ?_
 refine gl_nil ?_
 refine ge_then ?_
 refine g_seq ?_
 refine g_seq ?_
 refine g_region ?_
 refine gl_v rfl (o_move rfl) ?_
 refine gl_v rfl (o_eql rfl rfl) ?_
 refine gl_v rfl (o_move rfl) ?_
 refine gl_g rfl rfl (fun hc1 => ?_) (fun hc1 => ?_) rfl
 ·
  have hc1' := hc1
  first | replace hc1' := of_decide_eq_true hc1' | replace hc1' := lt_f hc1' | replace hc1' := le_f hc1' | replace hc1' := dec_f hc1' | replace hc1' := nlt_t hc1' | replace hc1' := nle_t hc1' | replace hc1' := ndec_t hc1' | replace hc1' := ndec_f hc1' | replace hc1' := nn_t hc1' | replace hc1' := nn_f hc1' | skip
  refine gl_v rfl (o_move rfl) ?_
  refine gl_gT rfl rfl hc1 ?_
  refine gl_v rfl (o_eql rfl rfl) ?_
  refine gl_v rfl (o_pickF hc1 rfl rfl) ?_
  refine gl_nil ?_
  refine ge_then ?_
  refine g_cond rfl (fun hc2 => ?_) (fun hc2 => ?_)
  ·
   first | replace hc2 := of_decide_eq_true hc2 | replace hc2 := lt_f hc2 | replace hc2 := le_f hc2 | replace hc2 := dec_f hc2 | replace hc2 := nlt_t hc2 | replace hc2 := nle_t hc2 | replace hc2 := ndec_t hc2 | replace hc2 := ndec_f hc2 | replace hc2 := nn_t hc2 | replace hc2 := nn_f hc2 | skip
   refine g_seq ?_
   refine g_region ?_
   refine gl_v rfl (o_assign rfl) ?_
   refine gl_nil ?_
   refine ge_then ?_
   refine g_ret ?_
   refine ge_then_ret ?_
   refine ret1 (.inl rfl) rfl rfl _ (⟨by unfold sizeP; first | (rw [if_pos (by omega)]; done) | (rw [if_pos (by omega)]) | (rw [if_neg (by omega)]), rfl⟩) (To.sat (by repeat (first | exact .nil | exact .done .refl | (apply To.cons; · (repeat (first | exact .head | apply Sel.tail))) | exact .done (by repeat (first | exact .refl | apply Drop.skip)))))
  ·
   first | replace hc2 := of_decide_eq_true hc2 | replace hc2 := lt_f hc2 | replace hc2 := le_f hc2 | replace hc2 := dec_f hc2 | replace hc2 := nlt_t hc2 | replace hc2 := nle_t hc2 | replace hc2 := ndec_t hc2 | replace hc2 := ndec_f hc2 | replace hc2 := nn_t hc2 | replace hc2 := nn_f hc2 | skip
   refine g_skip ?_
   refine ge_then ?_
   refine g_seq ?_
   refine g_region ?_
   refine gl_v rfl (o_move rfl) ?_
   refine gl_v rfl (o_addR (2 + sizeR s) (wr_i64 (by omega)) rfl rfl) ?_
   refine gl_v rfl (o_move rfl) ?_
   refine gl_v rfl (o_addR (2 + sizeR s + sizeR n) (wr_i64 (by omega)) rfl rfl) ?_
   refine gl_v rfl (o_assign rfl) ?_
   refine gl_nil ?_
   refine ge_then ?_
   refine g_ret ?_
   refine ret1 (.inl rfl) rfl rfl _ (⟨by unfold sizeP; first | (rw [if_pos (by omega)]; done) | (rw [if_pos (by omega)]) | (rw [if_neg (by omega)]), rfl⟩) (To.sat (by repeat (first | exact .nil | exact .done .refl | (apply To.cons; · (repeat (first | exact .head | apply Sel.tail))) | exact .done (by repeat (first | exact .refl | apply Drop.skip)))))
 ·
  have hc1' := hc1
  first | replace hc1' := of_decide_eq_true hc1' | replace hc1' := lt_f hc1' | replace hc1' := le_f hc1' | replace hc1' := dec_f hc1' | replace hc1' := nlt_t hc1' | replace hc1' := nle_t hc1' | replace hc1' := ndec_t hc1' | replace hc1' := ndec_f hc1' | replace hc1' := nn_t hc1' | replace hc1' := nn_f hc1' | skip
  simp only [putO]
  refine gl_gF rfl rfl hc1 rfl ?_
  refine gl_v rfl (o_pickT hc1 rfl rfl) ?_
  refine gl_nil ?_
  refine ge_then ?_
  refine g_cond_true rfl ?_
  refine g_seq ?_
  refine g_region ?_
  refine gl_v rfl (o_assign rfl) ?_
  refine gl_nil ?_
  refine ge_then ?_
  refine g_ret ?_
  refine ge_then_ret ?_
  refine ret1 (.inl rfl) rfl rfl _ (⟨by unfold sizeP; first | (rw [if_pos (by omega)]; done) | (rw [if_pos (by omega)]) | (rw [if_neg (by omega)]), rfl⟩) (To.sat (by repeat (first | exact .nil | exact .done .refl | (apply To.cons; · (repeat (first | exact .head | apply Sel.tail))) | exact .done (by repeat (first | exact .refl | apply Drop.skip)))))

theorem sizeP_ok {nm nn : Nat} (h1 : 1 ≤ nm ∧ nm ≤ 64) (h2 : 1 ≤ nn ∧ nn ≤ 64) : sizeP (nm : Int) (nn : Int) = ((2 + (2 + 2 * nm) + (2 + 2 * nn) : Nat) : Int) := by
  unfold sizeP; rw [sizeR_ok h1.1 h1.2, sizeR_ok h2.1 h2.2, if_neg (by omega)]; omega
theorem pSize_ok {nm nn : Nat} (h1 : 1 ≤ nm ∧ nm ≤ 64) (h2 : 1 ≤ nn ∧ nn ≤ 64) : FnS Tryz.prog 8 [I64 nm, I64 nn] [] (fun u Bs => u = I64 ((2 + (2 + 2 * nm) + (2 + 2 * nn) : Nat) : Int) ∧ Bs = []) := by
  rw [← sizeP_ok h1 h2]; exact pSize_spec nm nn

set_option maxRecDepth 8000 in
theorem pMake_spec (m b nm nn : Nat) (L : List Int) (t : Int) (I : PI ⟨b, nm, nn⟩ L) : FnS Tryz.prog 7 [ptr m 0, I64 b, I64 nm, I64 nn] [memA m L t]
      (fun u Bs => ∃ X : BX, u = .tuple #[ptr X.bx 0, I64 0] ∧ X.m = m ∧ Bs = [envA X ⟨b, nm, nn⟩ (zap L b (PB.sz ⟨b, nm, nn⟩)) (tupN (PB.sz ⟨b, nm, nn⟩) t)]) := by
 refine fn_body Tryz.func7 rfl rfl rfl ?_
 intro W0 R
 simp only [List.zipIdx_cons, List.zipIdx_nil, List.map_cons, List.map_nil, Nat.zero_add, Nat.reduceAdd, List.cons_append, List.nil_append]
 have h1 : 1 ≤ nm := I.m1
 have h2 : nm ≤ 64 := I.m64
 have h3 : 1 ≤ nn := I.n1
 have h4 : nn ≤ 64 := I.n64
 have h5 : b + 6 + 2 * nm + 2 * nn ≤ L.length := I.len
 have h6 := I.top
 refine g_seq ?_
 refine g_region ?_
 refine gl_v rfl (o_assign rfl) ?_
 refine gl_v rfl (o_assign rfl) ?_
 refine gl_nil ?_
 refine ge_then ?_
 refine g_seq ?_
 refine g_region ?_
 refine gl_v rfl (o_move rfl) ?_
 refine gl_v rfl (o_move rfl) ?_
 refine gl_c rfl (o_call rfl (pSize_ok ⟨h1, h2⟩ ⟨h3, h4⟩) (by repeat (first | exact .nil | (apply Part.cons; · (repeat (first | exact .head | apply Sel.tail)))))) ?_
 rintro _ R ⟨_, ⟨rfl, rfl⟩, rfl⟩
 try simp only [List.cons_append, List.nil_append]
 refine gl_v rfl (o_assign rfl) ?_
 refine gl_nil ?_
 refine ge_then ?_
 refine g_seq ?_
 refine g_seq ?_
 refine g_region ?_
 refine gl_v rfl (o_move rfl) ?_
 first | refine gl_v rfl (o_eqlPn rfl rfl) ?_ | refine gl_v rfl (o_eqlnn rfl rfl) ?_
 refine gl_v rfl (o_move rfl) ?_
 refine gl_gT rfl rfl rfl ?_
 refine gl_v rfl (o_move rfl) ?_
 refine gl_gT rfl rfl rfl ?_
 refine gl_v rfl (o_eql rfl rfl) ?_
 refine gl_v rfl (o_pickF rfl rfl rfl) ?_
 refine gl_v rfl (o_move rfl) ?_
 refine gl_gT rfl rfl (by simp; omega) ?_
 refine gl_v rfl (o_move rfl) ?_
 refine gl_gT rfl rfl (by simp; omega) ?_
 refine gl_v rfl (o_lss rfl rfl) ?_
 refine gl_v rfl (o_pickF (by simp; omega) rfl rfl) ?_
 refine gl_v rfl (o_move rfl) ?_
 refine gl_gT rfl rfl (by simp) ?_
 refine gl_v rfl (o_move rfl) ?_
 refine gl_gT rfl rfl (by simp) ?_
 refine gl_v rfl (o_move rfl) ?_
 refine gl_gT rfl rfl (by simp) ?_
 refine gl_c rfl (o_call rfl (Len_spec m L t) (by repeat (first | exact .nil | (apply Part.cons; · (repeat (first | exact .head | apply Sel.tail)))))) ?_
 rintro _ R ⟨_, ⟨rfl, rfl⟩, rfl⟩
 try simp only [List.cons_append, List.nil_append]
 refine gl_gT rfl rfl (by simp) ?_
 refine gl_v rfl (o_move rfl) ?_
 refine gl_gT rfl rfl (by simp) ?_
 refine gl_v rfl (o_subR (L.length - (2 + (2 + 2 * nm) + (2 + 2 * nn) : Nat) : Int) (wr_i64 (by omega)) rfl rfl) ?_
 refine gl_gT rfl rfl (by simp) ?_
 refine gl_v rfl (o_gtr rfl rfl) ?_
 refine gl_v rfl (o_pickF (by simp) rfl rfl) ?_
 refine gl_nil ?_
 refine ge_then ?_
 refine g_cond_false (by simp [opv, slk]; omega) ?_
 refine g_skip ?_
 refine ge_then ?_
 refine g_seq ?_
 refine g_region ?_
 refine gl_v rfl (o_move rfl) ?_
 refine gl_v rfl (o_move rfl) ?_
 refine gl_c rfl (o_call rfl (Store_spec m L t b (by omega) 0) (by repeat (first | exact .nil | (apply Part.cons; · (repeat (first | exact .head | apply Sel.tail)))))) ?_
 rintro _ R ⟨_, ⟨rfl, rfl⟩, rfl⟩
 try simp only [List.cons_append, List.nil_append]
 refine gl_nil ?_
 refine ge_then ?_
 refine g_seq ?_
 refine g_region ?_
 refine gl_v rfl (o_move rfl) ?_
 refine gl_v rfl (o_move rfl) ?_
 refine gl_v rfl (o_addR ((b + 1 : Nat) : Int) (by rw [wr_i64 (by omega)]; omega) rfl rfl) ?_
 refine gl_c rfl (o_call rfl (Store_spec m (L.set b 0) _ (b + 1) (by rw [List.length_set]; omega) 0) (by repeat (first | exact .nil | (apply Part.cons; · (repeat (first | exact .head | apply Sel.tail)))))) ?_
 rintro _ R ⟨_, ⟨rfl, rfl⟩, rfl⟩
 try simp only [List.cons_append, List.nil_append]
 refine gl_nil ?_
 refine ge_then ?_
 refine g_seq ?_
 refine g_region ?_
 refine gl_v rfl (o_move rfl) ?_
 refine gl_v rfl (o_move rfl) ?_
 refine gl_v rfl (o_build rfl rfl) ?_
 refine gl_n rfl (o_boxA rfl) ?_
 rintro _ _ ⟨b43, rfl, rfl⟩
 refine gl_v rfl (o_assign rfl) ?_
 refine gl_nil ?_
 refine ge_then ?_
 refine g_seq ?_
 refine g_region ?_
 refine gl_v rfl (o_move rfl) ?_
 refine gl_v rfl (o_move rfl) ?_
 refine gl_v rfl (o_move rfl) ?_
 refine gl_v rfl (o_addR ((b + 2 : Nat) : Int) (by rw [wr_i64 (by omega)]; omega) rfl rfl) ?_
 refine gl_v rfl (o_move rfl) ?_
 refine gl_c rfl (o_call rfl (Make_spec m (b + 2) nm ((L.set b 0).set (b + 1) 0) _ ⟨h1, h2, by simp; omega, by simp; omega⟩) (by repeat (first | exact .nil | (apply Part.cons; · (repeat (first | exact .head | apply Sel.tail)))))) ?_
 rintro _ R ⟨_, ⟨r1, rfl, rfl⟩, rfl⟩
 try simp only [List.cons_append, List.nil_append]
 refine gl_v rfl (o_move rfl) ?_
 refine gl_v rfl (o_extract rfl rfl) ?_
 refine gl_v rfl (o_extract rfl rfl) ?_
 refine gl_v rfl (o_nil rfl) ?_
 first | refine gl_v rfl (o_fldS rfl) ?_ | refine gl_v rfl (o_fld rfl) ?_
 first | refine gl_u (o_store rfl rfl rfl rfl) ?_ | refine gl_u (o_storeS rfl rfl rfl (by first | assumption | omega | simp)) ?_
 refine gl_nil ?_
 refine ge_then ?_
 refine g_seq ?_
 refine g_region ?_
 refine gl_v rfl (o_move rfl) ?_
 refine gl_v rfl (o_move rfl) ?_
 refine gl_v rfl (o_move rfl) ?_
 refine gl_v rfl (o_addR ((b + 2 : Nat) : Int) (by rw [wr_i64 (by omega)]; omega) rfl rfl) ?_
 refine gl_v rfl (o_move rfl) ?_
 refine gl_c rfl (o_call rfl (Size_ok nm h1 h2) (by repeat (first | exact .nil | (apply Part.cons; · (repeat (first | exact .head | apply Sel.tail)))))) ?_
 rintro _ R ⟨_, ⟨rfl, rfl⟩, rfl⟩
 try simp only [List.cons_append, List.nil_append]
 refine gl_v rfl (o_addR ((b + 2 + (2 + 2 * nm) : Nat) : Int) (by rw [wr_i64 (by omega)]; omega) rfl rfl) ?_
 refine gl_v rfl (o_move rfl) ?_
 refine gl_c rfl (o_call rfl (Make_spec m (b + 2 + (2 + 2 * nm)) nn (zap ((L.set b 0).set (b + 1) 0) (b + 2) (2 + 2 * nm)) _ ⟨h3, h4, by rw [zap_len]; simp; omega, by rw [zap_len]; simp; omega⟩) (by repeat (first | exact .nil | (apply Part.cons; · (repeat (first | exact .head | apply Sel.tail)))))) ?_
 rintro _ R ⟨_, ⟨r2, rfl, rfl⟩, rfl⟩
 try simp only [List.cons_append, List.nil_append]
 refine gl_v rfl (o_move rfl) ?_
 refine gl_v rfl (o_extract rfl rfl) ?_
 refine gl_v rfl (o_extract rfl rfl) ?_
 refine gl_v rfl (o_nil rfl) ?_
 first | refine gl_v rfl (o_fldS rfl) ?_ | refine gl_v rfl (o_fld rfl) ?_
 first | refine gl_u (o_store rfl rfl rfl rfl) ?_ | refine gl_u (o_storeS rfl rfl rfl (by first | assumption | omega | simp)) ?_
 refine gl_nil ?_
 refine ge_then ?_
 refine g_seq ?_
 refine g_region ?_
 refine gl_v rfl (o_move rfl) ?_
 refine gl_v rfl (o_assign rfl) ?_
 refine gl_v rfl (o_assign rfl) ?_
 refine gl_nil ?_
 refine ge_then ?_
 refine g_ret ?_
 refine ret2 (.inl rfl) rfl rfl rfl [envA ⟨b43, m, r1, r2⟩ ⟨b, nm, nn⟩ (zap L b (PB.sz ⟨b, nm, nn⟩)) (tupN (PB.sz ⟨b, nm, nn⟩) t)] (⟨⟨b43, m, r1, r2⟩, rfl, rfl, rfl⟩) (env_close (by rw [show zap L b (PB.sz ⟨b, nm, nn⟩) = zap (zap (zap L b 2) (b + 2) (2 + 2 * nm)) (b + 2 + (2 + 2 * nm)) (2 + 2 * nn) by rw [zap_add, zap_add, ← Nat.add_assoc]; rfl, show tupN (PB.sz ⟨b, nm, nn⟩) t = tupN (2 + 2 * nn) (tupN (2 + 2 * nm) (tupN 2 t)) by rw [tupN_add, tupN_add, ← Nat.add_assoc]; rfl]; exact (To.sat (by repeat (first | exact .nil | exact .done .refl | (apply To.cons; · (repeat (first | exact .head | apply Sel.tail))) | exact .done (by repeat (first | exact .refl | apply Drop.skip)))))))

set_option maxRecDepth 8000 in
theorem pMake_no (m : Nat) (b s n : Int) (L : List Int) (t : Int) (hL : L.length ≤ 65536) (hb : -9223372036854775808 ≤ b ∧ b ≤ 9223372036854775807) (hno : sizeP s n = 0 ∨ b < 0 ∨ b > L.length - sizeP s n) : FnS Tryz.prog 7 [ptr m 0, I64 b, I64 s, I64 n] [memA m L t]
      (fun u Bs => u = .tuple #[.pointer none, I64 1] ∧ Bs = [memA m L t]) := by
 refine fn_body Tryz.func7 rfl rfl rfl ?_
 intro W0 R
 simp only [List.zipIdx_cons, List.zipIdx_nil, List.map_cons, List.map_nil, Nat.zero_add, Nat.reduceAdd, List.cons_append, List.nil_append]
 have hz := sizeP_in s n
 refine g_seq ?_
 refine g_region ?_
 refine gl_v rfl (o_assign rfl) ?_
 refine gl_v rfl (o_assign rfl) ?_
 refine gl_nil ?_
 refine ge_then ?_
 refine g_seq ?_
 refine g_region ?_
 refine gl_v rfl (o_move rfl) ?_
 refine gl_v rfl (o_move rfl) ?_
 refine gl_c rfl (o_call rfl (pSize_spec s n) (by repeat (first | exact .nil | (apply Part.cons; · (repeat (first | exact .head | apply Sel.tail)))))) ?_
 rintro _ R ⟨_, ⟨rfl, rfl⟩, rfl⟩
 try simp only [List.cons_append, List.nil_append]
 refine gl_v rfl (o_assign rfl) ?_
 refine gl_nil ?_
 refine ge_then ?_
 refine g_seq ?_
 refine g_seq ?_
 refine g_region ?_
 refine gl_v rfl (o_move rfl) ?_
 first | refine gl_v rfl (o_eqlPn rfl rfl) ?_ | refine gl_v rfl (o_eqlnn rfl rfl) ?_
 refine gl_v rfl (o_move rfl) ?_
 refine gl_gT rfl rfl rfl ?_
 refine gl_v rfl (o_move rfl) ?_
 refine gl_gT rfl rfl rfl ?_
 refine gl_v rfl (o_eql rfl rfl) ?_
 refine gl_v rfl (o_pickF rfl rfl rfl) ?_
 refine gl_v rfl (o_move rfl) ?_
 refine gl_g rfl rfl (fun hc1 => ?_) (fun hc1 => ?_) rfl
 ·
  have hc1' := hc1
  first | replace hc1' := of_decide_eq_true hc1' | replace hc1' := lt_f hc1' | replace hc1' := le_f hc1' | replace hc1' := dec_f hc1' | replace hc1' := nlt_t hc1' | replace hc1' := nle_t hc1' | replace hc1' := ndec_t hc1' | replace hc1' := ndec_f hc1' | replace hc1' := nn_t hc1' | replace hc1' := nn_f hc1' | skip
  refine gl_v rfl (o_move rfl) ?_
  refine gl_gT rfl rfl hc1 ?_
  refine gl_v rfl (o_lss rfl rfl) ?_
  refine gl_v rfl (o_pickF hc1 rfl rfl) ?_
  refine gl_v rfl (o_move rfl) ?_
  refine gl_g rfl rfl (fun hc2 => ?_) (fun hc2 => ?_) rfl
  ·
   have hc2' := hc2
   first | replace hc2' := of_decide_eq_true hc2' | replace hc2' := lt_f hc2' | replace hc2' := le_f hc2' | replace hc2' := dec_f hc2' | replace hc2' := nlt_t hc2' | replace hc2' := nle_t hc2' | replace hc2' := ndec_t hc2' | replace hc2' := ndec_f hc2' | replace hc2' := nn_t hc2' | replace hc2' := nn_f hc2' | skip
   refine gl_v rfl (o_move rfl) ?_
   refine gl_gT rfl rfl hc2 ?_
   refine gl_v rfl (o_move rfl) ?_
   refine gl_gT rfl rfl hc2 ?_
   refine gl_c rfl (o_call rfl (Len_spec m L t) (by repeat (first | exact .nil | (apply Part.cons; · (repeat (first | exact .head | apply Sel.tail)))))) ?_
   rintro _ R ⟨_, ⟨rfl, rfl⟩, rfl⟩
   try simp only [List.cons_append, List.nil_append]
   refine gl_gT rfl rfl hc2 ?_
   refine gl_v rfl (o_move rfl) ?_
   refine gl_gT rfl rfl hc2 ?_
   refine gl_v rfl (o_subR (L.length - sizeP s n : Int) (wr_i64 (by omega)) rfl rfl) ?_
   refine gl_gT rfl rfl hc2 ?_
   refine gl_v rfl (o_gtr rfl rfl) ?_
   refine gl_v rfl (o_pickF hc2 rfl rfl) ?_
   refine gl_nil ?_
   refine ge_then ?_
   refine g_cond rfl (fun hc3 => ?_) (fun hc3 => ?_)
   ·
    first | replace hc3 := of_decide_eq_true hc3 | replace hc3 := lt_f hc3 | replace hc3 := le_f hc3 | replace hc3 := dec_f hc3 | replace hc3 := nlt_t hc3 | replace hc3 := nle_t hc3 | replace hc3 := ndec_t hc3 | replace hc3 := ndec_f hc3 | replace hc3 := nn_t hc3 | replace hc3 := nn_f hc3 | skip
    refine g_seq ?_
    refine g_region ?_
    refine gl_v rfl (o_assign rfl) ?_
    refine gl_v rfl (o_assign rfl) ?_
    refine gl_nil ?_
    refine ge_then ?_
    refine g_ret ?_
    refine ge_then_ret ?_
    refine ret2 (.inl rfl) rfl rfl rfl _ (⟨rfl, rfl⟩) (To.sat (by repeat (first | exact .nil | exact .done .refl | (apply To.cons; · (repeat (first | exact .head | apply Sel.tail))) | exact .done (by repeat (first | exact .refl | apply Drop.skip)))))
   ·
    first | replace hc3 := of_decide_eq_true hc3 | replace hc3 := lt_f hc3 | replace hc3 := le_f hc3 | replace hc3 := dec_f hc3 | replace hc3 := nlt_t hc3 | replace hc3 := nle_t hc3 | replace hc3 := ndec_t hc3 | replace hc3 := ndec_f hc3 | replace hc3 := nn_t hc3 | replace hc3 := nn_f hc3 | skip
    omega
  ·
   have hc2' := hc2
   first | replace hc2' := of_decide_eq_true hc2' | replace hc2' := lt_f hc2' | replace hc2' := le_f hc2' | replace hc2' := dec_f hc2' | replace hc2' := nlt_t hc2' | replace hc2' := nle_t hc2' | replace hc2' := ndec_t hc2' | replace hc2' := ndec_f hc2' | replace hc2' := nn_t hc2' | replace hc2' := nn_f hc2' | skip
   simp only [putO]
   refine gl_gF rfl rfl hc2 rfl ?_
   refine gl_gF rfl rfl hc2 rfl ?_
   refine gl_gF rfl rfl hc2 rfl ?_
   refine gl_gF rfl rfl hc2 rfl ?_
   refine gl_gF rfl rfl hc2 rfl ?_
   refine gl_v rfl (o_pickT hc2 rfl rfl) ?_
   refine gl_nil ?_
   refine ge_then ?_
   refine g_cond_true rfl ?_
   refine g_seq ?_
   refine g_region ?_
   refine gl_v rfl (o_assign rfl) ?_
   refine gl_v rfl (o_assign rfl) ?_
   refine gl_nil ?_
   refine ge_then ?_
   refine g_ret ?_
   refine ge_then_ret ?_
   refine ret2 (.inl rfl) rfl rfl rfl _ (⟨rfl, rfl⟩) (To.sat (by repeat (first | exact .nil | exact .done .refl | (apply To.cons; · (repeat (first | exact .head | apply Sel.tail))) | exact .done (by repeat (first | exact .refl | apply Drop.skip)))))
 ·
  have hc1' := hc1
  first | replace hc1' := of_decide_eq_true hc1' | replace hc1' := lt_f hc1' | replace hc1' := le_f hc1' | replace hc1' := dec_f hc1' | replace hc1' := nlt_t hc1' | replace hc1' := nle_t hc1' | replace hc1' := ndec_t hc1' | replace hc1' := ndec_f hc1' | replace hc1' := nn_t hc1' | replace hc1' := nn_f hc1' | skip
  simp only [putO]
  refine gl_gF rfl rfl hc1 rfl ?_
  refine gl_v rfl (o_pickT hc1 rfl rfl) ?_
  refine gl_v rfl (o_move rfl) ?_
  refine gl_gF rfl rfl rfl rfl ?_
  refine gl_gF rfl rfl rfl rfl ?_
  refine gl_gF rfl rfl rfl rfl ?_
  refine gl_gF rfl rfl rfl rfl ?_
  refine gl_gF rfl rfl rfl rfl ?_
  refine gl_gF rfl rfl rfl rfl ?_
  refine gl_v rfl (o_pickT rfl rfl rfl) ?_
  refine gl_nil ?_
  refine ge_then ?_
  refine g_cond_true rfl ?_
  refine g_seq ?_
  refine g_region ?_
  refine gl_v rfl (o_assign rfl) ?_
  refine gl_v rfl (o_assign rfl) ?_
  refine gl_nil ?_
  refine ge_then ?_
  refine g_ret ?_
  refine ge_then_ret ?_
  refine ret2 (.inl rfl) rfl rfl rfl _ (⟨rfl, rfl⟩) (To.sat (by repeat (first | exact .nil | exact .done .refl | (apply To.cons; · (repeat (first | exact .head | apply Sel.tail))) | exact .done (by repeat (first | exact .refl | apply Drop.skip)))))

set_option maxRecDepth 8000 in
theorem pMake_nil (b s n : Int) : FnS Tryz.prog 7 [.pointer none, I64 b, I64 s, I64 n] [] (fun u Bs => u = .tuple #[.pointer none, I64 1] ∧ Bs = []) := by
 refine fn_body Tryz.func7 rfl rfl rfl ?_
 intro W0 R
 simp only [List.zipIdx_cons, List.zipIdx_nil, List.map_cons, List.map_nil, Nat.zero_add, Nat.reduceAdd, List.cons_append, List.nil_append]
 refine g_seq ?_
 refine g_region ?_
 refine gl_v rfl (o_assign rfl) ?_
 refine gl_v rfl (o_assign rfl) ?_
 refine gl_nil ?_
 refine ge_then ?_
 refine g_seq ?_
 refine g_region ?_
 refine gl_v rfl (o_move rfl) ?_
 refine gl_v rfl (o_move rfl) ?_
 refine gl_c rfl (o_call rfl (pSize_spec s n) (by repeat (first | exact .nil | (apply Part.cons; · (repeat (first | exact .head | apply Sel.tail)))))) ?_
 rintro _ R ⟨_, ⟨rfl, rfl⟩, rfl⟩
 try simp only [List.cons_append, List.nil_append]
 refine gl_v rfl (o_assign rfl) ?_
 refine gl_nil ?_
 refine ge_then ?_
 refine g_seq ?_
 refine g_seq ?_
 refine g_region ?_
 refine gl_v rfl (o_move rfl) ?_
 first | refine gl_v rfl (o_eqlPn rfl rfl) ?_ | refine gl_v rfl (o_eqlnn rfl rfl) ?_
 refine gl_v rfl (o_move rfl) ?_
 refine gl_gF rfl rfl rfl rfl ?_
 refine gl_gF rfl rfl rfl rfl ?_
 refine gl_v rfl (o_pickT rfl rfl rfl) ?_
 refine gl_v rfl (o_move rfl) ?_
 refine gl_gF rfl rfl rfl rfl ?_
 refine gl_gF rfl rfl rfl rfl ?_
 refine gl_v rfl (o_pickT rfl rfl rfl) ?_
 refine gl_v rfl (o_move rfl) ?_
 refine gl_gF rfl rfl rfl rfl ?_
 refine gl_gF rfl rfl rfl rfl ?_
 refine gl_gF rfl rfl rfl rfl ?_
 refine gl_gF rfl rfl rfl rfl ?_
 refine gl_gF rfl rfl rfl rfl ?_
 refine gl_gF rfl rfl rfl rfl ?_
 refine gl_v rfl (o_pickT rfl rfl rfl) ?_
 refine gl_nil ?_
 refine ge_then ?_
 refine g_cond_true rfl ?_
 refine g_seq ?_
 refine g_region ?_
 refine gl_v rfl (o_assign rfl) ?_
 refine gl_v rfl (o_assign rfl) ?_
 refine gl_nil ?_
 refine ge_then ?_
 refine g_ret ?_
 refine ge_then_ret ?_
 refine ret2 (.inl rfl) rfl rfl rfl _ (⟨rfl, rfl⟩) (To.sat (by repeat (first | exact .nil | exact .done .refl | (apply To.cons; · (repeat (first | exact .head | apply Sel.tail))) | exact .done (by repeat (first | exact .refl | apply Drop.skip)))))

set_option maxRecDepth 8000 in
theorem pdone_spec (X : BX) (B : PB) (p : Nat) (L : List Int) (t : Int) (po : PO) (I : PI B L) (hI : LI L) (h1 : POI po) (k : Nat) (L' : List Int) (po' : PO) (hrun : doP B 100 L po = (k, L', po')) : FnS Tryz.prog 20 [ptr p 0] [postA X B p po, envA X B L t]
      (fun u Bs => ∃ t', u = .tuple #[I64 po'.out, U64 po'.val, I64 k] ∧ Bs = [postA X B p po', envA X B L' t']) := by
 refine fn_body Tryz.func20 rfl rfl rfl ?_
 intro W0 R
 simp only [List.zipIdx_cons, List.zipIdx_nil, List.map_cons, List.map_nil, Nat.zero_add, Nat.reduceAdd, List.cons_append, List.nil_append]
 refine g_seq ?_
 refine g_region ?_
 refine gl_v rfl (o_assign rfl) ?_
 refine gl_v rfl (o_assign rfl) ?_
 refine gl_v rfl (o_assign rfl) ?_
 refine gl_nil ?_
 refine ge_then ?_
 refine g_seq ?_
 refine g_region ?_
 refine gl_v rfl (o_assign rfl) ?_
 refine gl_nil ?_
 refine ge_then ?_
 refine g_seq ?_
 refine g_block ?_
 refine g_loop (ι := Nat × List Int × PO × Int) (fun x => ∃ j, x.1 + j = k ∧ x.1 ≤ 100 ∧ doP B (100 - x.1) x.2.1 x.2.2.1 = (j, L', po') ∧ PI B x.2.1 ∧ LI x.2.1 ∧ POI x.2.2.1) (fun x => [(5, I64 x.1), (0, ptr p 0)]) (fun x => postA X B p x.2.2.1 :: envA X B x.2.1 x.2.2.2 :: R) (fun x => 100 - x.1) (0, L, po, t) (⟨k, by simp, by simp, hrun, I, hI, h1⟩) (Keep.cons rfl (Keep.cons rfl (Keep.nil))) (To.sat (by repeat (first | exact .nil | exact .done .refl | (apply To.cons; · (repeat (first | exact .head | apply Sel.tail))) | exact .done (by repeat (first | exact .refl | apply Drop.skip))))) ?_
 rintro ⟨i, Lx, ox, tx⟩ ⟨j, hj, hi, hr, hI1, hI2, hI3⟩
 have hj : i + j = k := hj
 have hi : i ≤ 100 := hi
 have hr : doP B (100 - i) Lx ox = (j, L', po') := hr
 have hI1 : PI B Lx := hI1
 have hI2 : LI Lx := hI2
 have hI3 : POI ox := hI3
 dsimp only
 refine g_seq ?_
 refine g_seq ?_
 refine g_region ?_
 refine gl_v rfl (o_move rfl) ?_
 refine gl_v rfl (o_lss rfl rfl) ?_
 refine gl_v rfl (o_move rfl) ?_
 refine gl_g rfl rfl (fun hc1 => ?_) (fun hc1 => ?_) rfl
 ·
  have hc1' := hc1
  first | replace hc1' := of_decide_eq_true hc1' | replace hc1' := lt_f hc1' | replace hc1' := le_f hc1' | replace hc1' := dec_f hc1' | replace hc1' := nlt_t hc1' | replace hc1' := nle_t hc1' | replace hc1' := ndec_t hc1' | replace hc1' := ndec_f hc1' | replace hc1' := nn_t hc1' | replace hc1' := nn_f hc1' | skip
  refine gl_v rfl (o_move rfl) ?_
  refine gl_gT rfl rfl hc1 ?_
  refine gl_v rfl (o_nil rfl) ?_
  refine gl_gT rfl rfl hc1 ?_
  first | refine gl_v rfl (o_fldS rfl) ?_ | refine gl_v rfl (o_fld rfl) ?_
  refine gl_gT rfl rfl hc1 ?_
  refine gl_c rfl (o_call rfl (Over_post X B p ox) (by repeat (first | exact .nil | (apply Part.cons; · (repeat (first | exact .head | apply Sel.tail)))))) ?_
  rintro _ R ⟨_, ⟨rfl, rfl⟩, rfl⟩
  try simp only [List.cons_append, List.nil_append]
  refine gl_gT rfl rfl hc1 ?_
  refine gl_v rfl (o_not rfl) ?_
  refine gl_v rfl (o_pickT hc1 rfl rfl) ?_
  refine gl_nil ?_
  refine ge_then ?_
  refine g_cond rfl (fun hc2 => ?_) (fun hc2 => ?_)
  ·
   first | replace hc2 := of_decide_eq_true hc2 | replace hc2 := lt_f hc2 | replace hc2 := le_f hc2 | replace hc2 := dec_f hc2 | replace hc2 := nlt_t hc2 | replace hc2 := nle_t hc2 | replace hc2 := ndec_t hc2 | replace hc2 := ndec_f hc2 | replace hc2 := nn_t hc2 | replace hc2 := nn_f hc2 | skip
   have hov : ox.over = false := hc2
   refine g_skip ?_
   refine ge_then ?_
   refine g_block ?_
   refine g_seq ?_
   refine g_region ?_
   refine gl_v rfl (o_move rfl) ?_
   refine gl_v rfl (o_nil rfl) ?_
   first | refine gl_v rfl (o_fldS rfl) ?_ | refine gl_v rfl (o_fld rfl) ?_
   refine gl_c rfl (o_call rfl (pstep_spec X B p Lx tx ox hI1 hI3) (by repeat (first | exact .nil | (apply Part.cons; · (repeat (first | exact .head | apply Sel.tail)))))) ?_
   rintro _ R ⟨_, ⟨rfl, rfl⟩, rfl⟩
   try simp only [List.cons_append, List.nil_append]
   refine gl_nil ?_
   refine ge_then ?_
   refine g_region ?_
   refine gl_v rfl (o_move rfl) ?_
   refine gl_v rfl (o_addR _ (by first | exact wr_i64 (by omega) | rfl) rfl rfl) ?_
   refine gl_v rfl (o_assign rfl) ?_
   refine gl_nil ?_
   refine ge_block ?_
   obtain ⟨q, hq⟩ : ∃ q, 100 - i = q + 1 := ⟨99 - i, by omega⟩
   rw [hq, doP_go B q Lx ox hov] at hr
   obtain ⟨rfl, hr2⟩ := Prod.mk.inj hr
   refine ge_round (i + 1, goPL B Lx ox, goPO B Lx ox, _) ⟨(doP B q (goPL B Lx ox) (goPO B Lx ox)).1, by omega, by show i + 1 ≤ 100; omega, by show doP B (100 - (i + 1)) _ _ = _; rw [show 100 - (i + 1) = q by omega, ← hr2], hI1.go ox, (goP_in hI2 hI3).1, (goP_in hI2 hI3).2⟩ (by show 100 - (i + 1) < 100 - i; omega) (Keep.cons rfl (Keep.cons rfl (Keep.nil))) (To.sat (by repeat (first | exact .nil | exact .done .refl | (apply To.cons; · (repeat (first | exact .head | apply Sel.tail))) | exact .done (by repeat (first | exact .refl | apply Drop.skip)))))
  ·
   first | replace hc2 := of_decide_eq_true hc2 | replace hc2 := lt_f hc2 | replace hc2 := le_f hc2 | replace hc2 := dec_f hc2 | replace hc2 := nlt_t hc2 | replace hc2 := nle_t hc2 | replace hc2 := ndec_t hc2 | replace hc2 := ndec_f hc2 | replace hc2 := nn_t hc2 | replace hc2 := nn_f hc2 | skip
   have hov : ox.over = true := hc2
   refine g_exit ?_
   refine ge_then_exit ?_
   refine ge_then_exit ?_
   refine ge_block_exit ?_
   refine ge_then ?_
   refine g_seq ?_
   have hre : doP B (100 - i) Lx ox = (0, Lx, ox) := by first | exact doP_over _ _ _ _ hov | (rw [show 100 - i = 0 by omega]; rfl)
   rw [hre] at hr
   obtain ⟨rfl, hr2⟩ := Prod.mk.inj hr
   obtain ⟨rfl, rfl⟩ := Prod.mk.inj hr2
   obtain rfl : i = k := by omega
   refine g_draw [3, 7] [3, 7] [(0, .loc), (1, .loc), (2, .loc), (4, .stab), (5, .stab), (6, .stab), (8, .stab), (3, .eff), (7, .eff), (9, .loc), (10, .loc), (11, .loc)] [] mixed (by kernel_rfl) ?_
   refine go_v rfl .none rfl (o_move rfl) ?_
   refine go_v rfl .none rfl (o_nil rfl) ?_
   first | refine go_v rfl .none rfl (o_fldS rfl) ?_ | refine go_v rfl .none rfl (o_fld rfl) ?_
   refine go_vs rfl .none rfl (o_move rfl) (fun _ _ => trivial) ?_
   refine go_vs rfl .none rfl (o_nil rfl) (fun _ _ => trivial) ?_
   first | refine go_vs rfl .none rfl (o_fldS rfl) (fun _ _ => trivial) ?_ | refine go_vs rfl .none rfl (o_fld rfl) (fun _ _ => trivial) ?_
   refine go_vs rfl .none rfl (o_move rfl) (fun _ _ => trivial) ?_
   refine go_c rfl .none rfl (o_call rfl (pOut_spec X B p ox) (by repeat (first | exact .nil | (apply Part.cons; · (repeat (first | exact .head | apply Sel.tail)))))) ?_
   rintro _ R ⟨_, ⟨rfl, rfl⟩, rfl⟩
   try simp only [List.cons_append, List.nil_append]
   refine ⟨(fun _ => (fun _ _ => trivial)), ?_⟩
   refine go_c rfl .none rfl (o_call rfl (pVal_spec X B p ox hI3) (by repeat (first | exact .nil | (apply Part.cons; · (repeat (first | exact .head | apply Sel.tail)))))) ?_
   rintro _ R ⟨_, ⟨rfl, rfl⟩, rfl⟩
   try simp only [List.cons_append, List.nil_append]
   refine ⟨(fun _ => (fun _ _ => trivial)), ?_⟩
   refine go_v rfl .none rfl (o_assign rfl) ?_
   refine go_v rfl .none rfl (o_assign rfl) ?_
   refine go_v rfl .none rfl (o_assign rfl) ?_
   refine go_nil ?_
   refine ge_then ?_
   refine g_ret ?_
   refine ret3 (.inl rfl) rfl rfl rfl rfl _ (⟨_, rfl, rfl⟩) (To.sat (by repeat (first | exact .nil | exact .done .refl | (apply To.cons; · (repeat (first | exact .head | apply Sel.tail))) | exact .done (by repeat (first | exact .refl | apply Drop.skip)))))
 ·
  have hc1' := hc1
  first | replace hc1' := of_decide_eq_true hc1' | replace hc1' := lt_f hc1' | replace hc1' := le_f hc1' | replace hc1' := dec_f hc1' | replace hc1' := nlt_t hc1' | replace hc1' := nle_t hc1' | replace hc1' := ndec_t hc1' | replace hc1' := ndec_f hc1' | replace hc1' := nn_t hc1' | replace hc1' := nn_f hc1' | skip
  simp only [putO]
  refine gl_gF rfl rfl hc1 rfl ?_
  refine gl_gF rfl rfl hc1 rfl ?_
  refine gl_gF rfl rfl hc1 rfl ?_
  refine gl_gF rfl rfl hc1 rfl ?_
  refine gl_v rfl (o_pickF hc1 rfl rfl) ?_
  refine gl_nil ?_
  refine ge_then ?_
  refine g_cond_false rfl ?_
  refine g_exit ?_
  refine ge_then_exit ?_
  refine ge_then_exit ?_
  refine ge_block_exit ?_
  refine ge_then ?_
  refine g_seq ?_
  have hre : doP B (100 - i) Lx ox = (0, Lx, ox) := by first | exact doP_over _ _ _ _ hov | (rw [show 100 - i = 0 by omega]; rfl)
  rw [hre] at hr
  obtain ⟨rfl, hr2⟩ := Prod.mk.inj hr
  obtain ⟨rfl, rfl⟩ := Prod.mk.inj hr2
  obtain rfl : i = k := by omega
  refine g_draw [3, 7] [3, 7] [(0, .loc), (1, .loc), (2, .loc), (4, .stab), (5, .stab), (6, .stab), (8, .stab), (3, .eff), (7, .eff), (9, .loc), (10, .loc), (11, .loc)] [] mixed (by kernel_rfl) ?_
  refine go_v rfl .none rfl (o_move rfl) ?_
  refine go_v rfl .none rfl (o_nil rfl) ?_
  first | refine go_v rfl .none rfl (o_fldS rfl) ?_ | refine go_v rfl .none rfl (o_fld rfl) ?_
  refine go_vs rfl .none rfl (o_move rfl) (fun _ _ => trivial) ?_
  refine go_vs rfl .none rfl (o_nil rfl) (fun _ _ => trivial) ?_
  first | refine go_vs rfl .none rfl (o_fldS rfl) (fun _ _ => trivial) ?_ | refine go_vs rfl .none rfl (o_fld rfl) (fun _ _ => trivial) ?_
  refine go_vs rfl .none rfl (o_move rfl) (fun _ _ => trivial) ?_
  refine go_c rfl .none rfl (o_call rfl (pOut_spec X B p ox) (by repeat (first | exact .nil | (apply Part.cons; · (repeat (first | exact .head | apply Sel.tail)))))) ?_
  rintro _ R ⟨_, ⟨rfl, rfl⟩, rfl⟩
  try simp only [List.cons_append, List.nil_append]
  refine ⟨(fun _ => (fun _ _ => trivial)), ?_⟩
  refine go_c rfl .none rfl (o_call rfl (pVal_spec X B p ox hI3) (by repeat (first | exact .nil | (apply Part.cons; · (repeat (first | exact .head | apply Sel.tail)))))) ?_
  rintro _ R ⟨_, ⟨rfl, rfl⟩, rfl⟩
  try simp only [List.cons_append, List.nil_append]
  refine ⟨(fun _ => (fun _ _ => trivial)), ?_⟩
  refine go_v rfl .none rfl (o_assign rfl) ?_
  refine go_v rfl .none rfl (o_assign rfl) ?_
  refine go_v rfl .none rfl (o_assign rfl) ?_
  refine go_nil ?_
  refine ge_then ?_
  refine g_ret ?_
  refine ret3 (.inl rfl) rfl rfl rfl rfl _ (⟨_, rfl, rfl⟩) (To.sat (by repeat (first | exact .nil | exact .done .refl | (apply To.cons; · (repeat (first | exact .head | apply Sel.tail))) | exact .done (by repeat (first | exact .refl | apply Drop.skip)))))

set_option maxRecDepth 8000 in
theorem palive_spec : FnS Tryz.prog 4 [] [] (fun u Bs => u = .bool true ∧ Bs = []) := by
 refine fn_body Tryz.func4 rfl rfl rfl ?_
 intro W0 R
 simp only [List.zipIdx_cons, List.zipIdx_nil, List.map_cons, List.map_nil, Nat.zero_add, Nat.reduceAdd, List.cons_append, List.nil_append]
 refine g_seq ?_
 refine g_region ?_
 refine gl_v rfl (o_assign rfl) ?_
 refine gl_nil ?_
 refine ge_then ?_
 refine g_seq ?_
 refine g_region ?_
 refine gl_c rfl (o_call rfl (New_spec 12) (by repeat (first | exact .nil | (apply Part.cons; · (repeat (first | exact .head | apply Sel.tail)))))) ?_
 rintro _ R ⟨_, ⟨m, rfl, rfl⟩, rfl⟩
 try simp only [List.cons_append, List.nil_append]
 change GL _ _ _ _ _ _ (memA m [0, 0, 0, 0, 0, 0, 0, 0, 0, 0, 0, 0] 0 :: _) _
 refine gl_c rfl (o_call rfl (pMake_spec m 0 1 2 [0, 0, 0, 0, 0, 0, 0, 0, 0, 0, 0, 0] 0 ⟨by decide, by decide, by decide, by decide, by decide, by decide⟩) (by repeat (first | exact .nil | (apply Part.cons; · (repeat (first | exact .head | apply Sel.tail)))))) ?_
 rintro _ R ⟨_, ⟨X, rfl, rfl, rfl⟩, rfl⟩
 try simp only [List.cons_append, List.nil_append]
 change GL _ _ _ _ _ _ (envA X ⟨0, 1, 2⟩ [0, 0, 0, 0, 0, 0, 0, 0, 0, 0, 0, 0] _ :: _) _
 refine gl_v rfl (o_move rfl) ?_
 refine gl_v rfl (o_extract rfl rfl) ?_
 refine gl_v rfl (o_extract rfl rfl) ?_
 refine gl_v rfl (o_assign rfl) ?_
 refine gl_v rfl (o_assign rfl) ?_
 refine gl_nil ?_
 refine ge_then ?_
 refine g_seq ?_
 refine g_seq ?_
 refine g_region ?_
 refine gl_v rfl (o_move rfl) ?_
 refine gl_v rfl (o_neq rfl rfl) ?_
 refine gl_v rfl (o_move rfl) ?_
 refine gl_gT rfl rfl rfl ?_
 refine gl_v rfl (o_move rfl) ?_
 refine gl_gT rfl rfl rfl ?_
 first | refine gl_v rfl (o_eqlPn rfl rfl) ?_ | refine gl_v rfl (o_eqlnn rfl rfl) ?_
 refine gl_v rfl (o_pickF rfl rfl rfl) ?_
 refine gl_nil ?_
 refine ge_then ?_
 refine g_cond_false (rfl) ?_
 refine g_skip ?_
 refine ge_then ?_
 refine g_seq ?_
 refine g_region ?_
 refine gl_v rfl (o_move rfl) ?_
 refine gl_c rfl (o_call rfl (fns_env (bTell_spec X ⟨0, 1, 2⟩ 7)) (by repeat (first | exact .nil | (apply Part.cons; · (repeat (first | exact .head | apply Sel.tail)))))) ?_
 rintro _ R ⟨_, ⟨p0, rfl, rfl⟩, rfl⟩
 try simp only [List.cons_append, List.nil_append]
 refine gl_c rfl (o_call rfl (pdone_spec X ⟨0, 1, 2⟩ p0 [0, 0, 0, 0, 0, 0, 0, 0, 0, 0, 0, 0] _ ⟨.put false ⟨0, 0, 7, 0, 0⟩, 0, 0⟩ ⟨by decide, by decide, by decide, by decide, by decide, by decide⟩ (by unfold LI; decide) (fun _ => ⟨⟨⟨by decide, by decide, by decide, by decide, by decide, by decide, by decide⟩, rfl⟩, rfl⟩) 7 [1, 0, 1, 0, 1, 7, 0, 0, 0, 0, 0, 0] ⟨.swp false 0, 7, 0⟩ (by kernel_rfl)) (by repeat (first | exact .nil | (apply Part.cons; · (repeat (first | exact .head | apply Sel.tail)))))) ?_
 rintro _ R ⟨_, ⟨t0, rfl, rfl⟩, rfl⟩
 try simp only [List.cons_append, List.nil_append]
 refine gl_v rfl (o_move rfl) ?_
 refine gl_v rfl (o_extract rfl rfl) ?_
 refine gl_v rfl (o_extract rfl rfl) ?_
 refine gl_v rfl (o_extract rfl rfl) ?_
 refine gl_v rfl (o_assign rfl) ?_
 refine gl_v rfl (o_assign rfl) ?_
 refine gl_v rfl (o_assign rfl) ?_
 refine gl_nil ?_
 refine ge_then ?_
 refine g_seq ?_
 refine g_region ?_
 refine gl_v rfl (o_move rfl) ?_
 refine gl_c rfl (o_call rfl (fns_env (bTell_spec X ⟨0, 1, 2⟩ 8)) (by repeat (first | exact .nil | (apply Part.cons; · (repeat (first | exact .head | apply Sel.tail)))))) ?_
 rintro _ R ⟨_, ⟨p1, rfl, rfl⟩, rfl⟩
 try simp only [List.cons_append, List.nil_append]
 refine gl_c rfl (o_call rfl (pdone_spec X ⟨0, 1, 2⟩ p1 [1, 0, 1, 0, 1, 7, 0, 0, 0, 0, 0, 0] _ ⟨.put false ⟨0, 0, 8, 0, 0⟩, 0, 0⟩ ⟨by decide, by decide, by decide, by decide, by decide, by decide⟩ (by unfold LI; decide) (fun _ => ⟨⟨⟨by decide, by decide, by decide, by decide, by decide, by decide, by decide⟩, rfl⟩, rfl⟩) 2 [1, 0, 1, 0, 1, 7, 0, 0, 0, 0, 0, 0] ⟨.put false ⟨1, 2, 8, 1, 0⟩, 2, 0⟩ (by kernel_rfl)) (by repeat (first | exact .nil | (apply Part.cons; · (repeat (first | exact .head | apply Sel.tail)))))) ?_
 rintro _ R ⟨_, ⟨t1, rfl, rfl⟩, rfl⟩
 try simp only [List.cons_append, List.nil_append]
 refine gl_v rfl (o_move rfl) ?_
 refine gl_v rfl (o_extract rfl rfl) ?_
 refine gl_v rfl (o_extract rfl rfl) ?_
 refine gl_v rfl (o_extract rfl rfl) ?_
 refine gl_v rfl (o_assign rfl) ?_
 refine gl_v rfl (o_assign rfl) ?_
 refine gl_v rfl (o_assign rfl) ?_
 refine gl_nil ?_
 refine ge_then ?_
 refine g_seq ?_
 refine g_region ?_
 refine gl_v rfl (o_move rfl) ?_
 refine gl_c rfl (o_call rfl (fns_env (bBegin_spec X ⟨0, 1, 2⟩ )) (by repeat (first | exact .nil | (apply Part.cons; · (repeat (first | exact .head | apply Sel.tail)))))) ?_
 rintro _ R ⟨_, ⟨p2, rfl, rfl⟩, rfl⟩
 try simp only [List.cons_append, List.nil_append]
 refine gl_c rfl (o_call rfl (pdone_spec X ⟨0, 1, 2⟩ p2 [1, 0, 1, 0, 1, 7, 0, 0, 0, 0, 0, 0] _ ⟨.set 2, 0, 0⟩ ⟨by decide, by decide, by decide, by decide, by decide, by decide⟩ (by unfold LI; decide) (fun _ => ⟨(show (0 : Int) ≤ 2 ∧ (2 : Int) ≤ 18446744073709551615 by decide), rfl⟩) 1 [2, 0, 1, 0, 1, 7, 0, 0, 0, 0, 0, 0] ⟨.set 2, 1, 0⟩ (by kernel_rfl)) (by repeat (first | exact .nil | (apply Part.cons; · (repeat (first | exact .head | apply Sel.tail)))))) ?_
 rintro _ R ⟨_, ⟨t2, rfl, rfl⟩, rfl⟩
 try simp only [List.cons_append, List.nil_append]
 refine gl_v rfl (o_move rfl) ?_
 refine gl_v rfl (o_extract rfl rfl) ?_
 refine gl_v rfl (o_extract rfl rfl) ?_
 refine gl_v rfl (o_extract rfl rfl) ?_
 refine gl_v rfl (o_assign rfl) ?_
 refine gl_v rfl (o_assign rfl) ?_
 refine gl_v rfl (o_assign rfl) ?_
 refine gl_nil ?_
 refine ge_then ?_
 refine g_seq ?_
 refine g_region ?_
 refine gl_v rfl (o_move rfl) ?_
 refine gl_c rfl (o_call rfl (fns_env (bFetch_spec X ⟨0, 1, 2⟩ )) (by repeat (first | exact .nil | (apply Part.cons; · (repeat (first | exact .head | apply Sel.tail)))))) ?_
 rintro _ R ⟨_, ⟨p3, rfl, rfl⟩, rfl⟩
 try simp only [List.cons_append, List.nil_append]
 refine gl_c rfl (o_call rfl (pdone_spec X ⟨0, 1, 2⟩ p3 [2, 0, 1, 0, 1, 7, 0, 0, 0, 0, 0, 0] _ ⟨.of false ⟨5, 0, 0, 0, 0⟩, 0, 0⟩ ⟨by decide, by decide, by decide, by decide, by decide, by decide⟩ (by unfold LI; decide) (fun _ => ⟨⟨⟨by decide, by decide, by decide, by decide, by decide, by decide, by decide⟩, rfl⟩, rfl⟩) 5 [2, 0, 1, 1, 2, 7, 0, 0, 0, 0, 0, 0] ⟨.of false ⟨9, 1, 7, 0, 0⟩, 1, 7⟩ (by kernel_rfl)) (by repeat (first | exact .nil | (apply Part.cons; · (repeat (first | exact .head | apply Sel.tail)))))) ?_
 rintro _ R ⟨_, ⟨t3, rfl, rfl⟩, rfl⟩
 try simp only [List.cons_append, List.nil_append]
 refine gl_v rfl (o_move rfl) ?_
 refine gl_v rfl (o_extract rfl rfl) ?_
 refine gl_v rfl (o_extract rfl rfl) ?_
 refine gl_v rfl (o_extract rfl rfl) ?_
 refine gl_v rfl (o_assign rfl) ?_
 refine gl_v rfl (o_assign rfl) ?_
 refine gl_v rfl (o_assign rfl) ?_
 refine gl_nil ?_
 refine ge_then ?_
 refine g_seq ?_
 refine g_region ?_
 refine gl_v rfl (o_move rfl) ?_
 refine gl_c rfl (o_call rfl (fns_env (Settle_f X ⟨0, 1, 2⟩ )) (by repeat (first | exact .nil | (apply Part.cons; · (repeat (first | exact .head | apply Sel.tail)))))) ?_
 rintro _ R ⟨_, ⟨p4, rfl, rfl⟩, rfl⟩
 try simp only [List.cons_append, List.nil_append]
 refine gl_c rfl (o_call rfl (pdone_spec X ⟨0, 1, 2⟩ p4 [2, 0, 1, 1, 2, 7, 0, 0, 0, 0, 0, 0] _ ⟨.sto false, 0, 0⟩ ⟨by decide, by decide, by decide, by decide, by decide, by decide⟩ (by unfold LI; decide) (fun _ => ⟨trivial, rfl⟩) 5 [0, 0, 1, 1, 2, 7, 0, 0, 0, 0, 0, 0] ⟨.look false false ⟨7, 4, 0, 0, 1⟩, 4, 0⟩ (by kernel_rfl)) (by repeat (first | exact .nil | (apply Part.cons; · (repeat (first | exact .head | apply Sel.tail)))))) ?_
 rintro _ R ⟨_, ⟨t4, rfl, rfl⟩, rfl⟩
 try simp only [List.cons_append, List.nil_append]
 refine gl_v rfl (o_move rfl) ?_
 refine gl_v rfl (o_extract rfl rfl) ?_
 refine gl_v rfl (o_extract rfl rfl) ?_
 refine gl_v rfl (o_extract rfl rfl) ?_
 refine gl_v rfl (o_assign rfl) ?_
 refine gl_v rfl (o_assign rfl) ?_
 refine gl_v rfl (o_assign rfl) ?_
 refine gl_nil ?_
 refine ge_then ?_
 refine g_seq ?_
 refine g_region ?_
 refine gl_v rfl (o_move rfl) ?_
 refine gl_c rfl (o_call rfl (fns_env (Settle_t X ⟨0, 1, 2⟩ )) (by repeat (first | exact .nil | (apply Part.cons; · (repeat (first | exact .head | apply Sel.tail)))))) ?_
 rintro _ R ⟨_, ⟨p5, rfl, rfl⟩, rfl⟩
 try simp only [List.cons_append, List.nil_append]
 refine gl_c rfl (o_call rfl (pdone_spec X ⟨0, 1, 2⟩ p5 [0, 0, 1, 1, 2, 7, 0, 0, 0, 0, 0, 0] _ ⟨.sto true, 0, 0⟩ ⟨by decide, by decide, by decide, by decide, by decide, by decide⟩ (by unfold LI; decide) (fun _ => ⟨trivial, rfl⟩) 3 [3, 0, 1, 1, 2, 7, 0, 0, 0, 0, 0, 0] ⟨.look true true ⟨7, 4, 0, 0, 0⟩, 4, 0⟩ (by kernel_rfl)) (by repeat (first | exact .nil | (apply Part.cons; · (repeat (first | exact .head | apply Sel.tail)))))) ?_
 rintro _ R ⟨_, ⟨t5, rfl, rfl⟩, rfl⟩
 try simp only [List.cons_append, List.nil_append]
 refine gl_nil ?_
 refine ge_then ?_
 refine g_seq ?_
 refine g_region ?_
 refine gl_v rfl (o_move rfl) ?_
 refine gl_c rfl (o_call rfl (fns_env (bTell_spec X ⟨0, 1, 2⟩ 9)) (by repeat (first | exact .nil | (apply Part.cons; · (repeat (first | exact .head | apply Sel.tail)))))) ?_
 rintro _ R ⟨_, ⟨p6, rfl, rfl⟩, rfl⟩
 try simp only [List.cons_append, List.nil_append]
 refine gl_c rfl (o_call rfl (pdone_spec X ⟨0, 1, 2⟩ p6 [3, 0, 1, 1, 2, 7, 0, 0, 0, 0, 0, 0] _ ⟨.put false ⟨0, 0, 9, 0, 0⟩, 0, 0⟩ ⟨by decide, by decide, by decide, by decide, by decide, by decide⟩ (by unfold LI; decide) (fun _ => ⟨⟨⟨by decide, by decide, by decide, by decide, by decide, by decide, by decide⟩, rfl⟩, rfl⟩) 6 [3, 0, 2, 1, 3, 9, 0, 0, 0, 0, 0, 0] ⟨.see false, 1, 0⟩ (by kernel_rfl)) (by repeat (first | exact .nil | (apply Part.cons; · (repeat (first | exact .head | apply Sel.tail)))))) ?_
 rintro _ R ⟨_, ⟨t6, rfl, rfl⟩, rfl⟩
 try simp only [List.cons_append, List.nil_append]
 refine gl_v rfl (o_move rfl) ?_
 refine gl_v rfl (o_extract rfl rfl) ?_
 refine gl_v rfl (o_extract rfl rfl) ?_
 refine gl_v rfl (o_extract rfl rfl) ?_
 refine gl_v rfl (o_assign rfl) ?_
 refine gl_v rfl (o_assign rfl) ?_
 refine gl_v rfl (o_assign rfl) ?_
 refine gl_nil ?_
 refine ge_then ?_
 refine g_seq ?_
 refine g_region ?_
 refine gl_v rfl (o_move rfl) ?_
 refine gl_c rfl (o_call rfl (fns_env (bPush_spec X ⟨0, 1, 2⟩ 5)) (by repeat (first | exact .nil | (apply Part.cons; · (repeat (first | exact .head | apply Sel.tail)))))) ?_
 rintro _ R ⟨_, ⟨p7, rfl, rfl⟩, rfl⟩
 try simp only [List.cons_append, List.nil_append]
 refine gl_c rfl (o_call rfl (pdone_spec X ⟨0, 1, 2⟩ p7 [3, 0, 2, 1, 3, 9, 0, 0, 0, 0, 0, 0] _ ⟨.put true ⟨0, 0, 5, 0, 0⟩, 0, 0⟩ ⟨by decide, by decide, by decide, by decide, by decide, by decide⟩ (by unfold LI; decide) (fun _ => ⟨⟨⟨by decide, by decide, by decide, by decide, by decide, by decide, by decide⟩, rfl⟩, rfl⟩) 7 [1, 0, 2, 1, 3, 9, 1, 0, 1, 5, 0, 0] ⟨.swp true 3, 7, 0⟩ (by kernel_rfl)) (by repeat (first | exact .nil | (apply Part.cons; · (repeat (first | exact .head | apply Sel.tail)))))) ?_
 rintro _ R ⟨_, ⟨t7, rfl, rfl⟩, rfl⟩
 try simp only [List.cons_append, List.nil_append]
 refine gl_v rfl (o_move rfl) ?_
 refine gl_v rfl (o_extract rfl rfl) ?_
 refine gl_v rfl (o_extract rfl rfl) ?_
 refine gl_v rfl (o_extract rfl rfl) ?_
 refine gl_v rfl (o_assign rfl) ?_
 refine gl_v rfl (o_assign rfl) ?_
 refine gl_v rfl (o_assign rfl) ?_
 refine gl_nil ?_
 refine ge_then ?_
 refine g_seq ?_
 refine g_region ?_
 refine gl_v rfl (o_move rfl) ?_
 refine gl_c rfl (o_call rfl (fns_env (bAsk_spec X ⟨0, 1, 2⟩ (by decide) 1)) (by repeat (first | exact .nil | (apply Part.cons; · (repeat (first | exact .head | apply Sel.tail)))))) ?_
 rintro _ R ⟨_, ⟨p8, rfl, rfl⟩, rfl⟩
 try simp only [List.cons_append, List.nil_append]
 refine gl_c rfl (o_call rfl (pdone_spec X ⟨0, 1, 2⟩ p8 [1, 0, 2, 1, 3, 9, 1, 0, 1, 5, 0, 0] _ ⟨.ask 1, 0, 0⟩ ⟨by decide, by decide, by decide, by decide, by decide, by decide⟩ (by unfold LI; decide) (fun _ => ⟨(show (0 : Int) ≤ 1 ∧ (1 : Int) ≤ 18446744073709551615 by decide), rfl⟩) 7 [1, 1, 2, 1, 3, 9, 2, 0, 1, 5, 1, 1] ⟨.see true, 1, 0⟩ (by kernel_rfl)) (by repeat (first | exact .nil | (apply Part.cons; · (repeat (first | exact .head | apply Sel.tail)))))) ?_
 rintro _ R ⟨_, ⟨t8, rfl, rfl⟩, rfl⟩
 try simp only [List.cons_append, List.nil_append]
 refine gl_v rfl (o_move rfl) ?_
 refine gl_v rfl (o_extract rfl rfl) ?_
 refine gl_v rfl (o_extract rfl rfl) ?_
 refine gl_v rfl (o_extract rfl rfl) ?_
 refine gl_v rfl (o_assign rfl) ?_
 refine gl_v rfl (o_assign rfl) ?_
 refine gl_v rfl (o_assign rfl) ?_
 refine gl_nil ?_
 refine ge_then ?_
 refine g_seq ?_
 refine g_region ?_
 refine gl_v rfl (o_move rfl) ?_
 refine gl_c rfl (o_call rfl (fns_env (bAsk_spec X ⟨0, 1, 2⟩ (by decide) 1)) (by repeat (first | exact .nil | (apply Part.cons; · (repeat (first | exact .head | apply Sel.tail)))))) ?_
 rintro _ R ⟨_, ⟨p9, rfl, rfl⟩, rfl⟩
 try simp only [List.cons_append, List.nil_append]
 refine gl_c rfl (o_call rfl (pdone_spec X ⟨0, 1, 2⟩ p9 [1, 1, 2, 1, 3, 9, 2, 0, 1, 5, 1, 1] _ ⟨.ask 1, 0, 0⟩ ⟨by decide, by decide, by decide, by decide, by decide, by decide⟩ (by unfold LI; decide) (fun _ => ⟨(show (0 : Int) ≤ 1 ∧ (1 : Int) ≤ 18446744073709551615 by decide), rfl⟩) 1 [1, 1, 2, 1, 3, 9, 2, 0, 1, 5, 1, 1] ⟨.ask 1, 4, 0⟩ (by kernel_rfl)) (by repeat (first | exact .nil | (apply Part.cons; · (repeat (first | exact .head | apply Sel.tail)))))) ?_
 rintro _ R ⟨_, ⟨t9, rfl, rfl⟩, rfl⟩
 try simp only [List.cons_append, List.nil_append]
 refine gl_v rfl (o_move rfl) ?_
 refine gl_v rfl (o_extract rfl rfl) ?_
 refine gl_v rfl (o_extract rfl rfl) ?_
 refine gl_v rfl (o_extract rfl rfl) ?_
 refine gl_v rfl (o_assign rfl) ?_
 refine gl_v rfl (o_assign rfl) ?_
 refine gl_v rfl (o_assign rfl) ?_
 refine gl_nil ?_
 refine ge_then ?_
 refine g_seq ?_
 refine g_region ?_
 refine gl_v rfl (o_move rfl) ?_
 refine gl_v rfl (o_eql rfl rfl) ?_
 refine gl_v rfl (o_move rfl) ?_
 refine gl_gT rfl rfl rfl ?_
 refine gl_v rfl (o_move rfl) ?_
 refine gl_gT rfl rfl rfl ?_
 refine gl_v rfl (o_eql rfl rfl) ?_
 refine gl_v rfl (o_pickT rfl rfl rfl) ?_
 refine gl_v rfl (o_move rfl) ?_
 refine gl_gT rfl rfl rfl ?_
 refine gl_v rfl (o_move rfl) ?_
 refine gl_gT rfl rfl rfl ?_
 refine gl_v rfl (o_eql rfl rfl) ?_
 refine gl_v rfl (o_pickT rfl rfl rfl) ?_
 refine gl_v rfl (o_move rfl) ?_
 refine gl_gT rfl rfl rfl ?_
 refine gl_v rfl (o_move rfl) ?_
 refine gl_gT rfl rfl rfl ?_
 refine gl_v rfl (o_eql rfl rfl) ?_
 refine gl_v rfl (o_pickT rfl rfl rfl) ?_
 refine gl_v rfl (o_move rfl) ?_
 refine gl_gT rfl rfl rfl ?_
 refine gl_v rfl (o_move rfl) ?_
 refine gl_gT rfl rfl rfl ?_
 refine gl_v rfl (o_eql rfl rfl) ?_
 refine gl_v rfl (o_pickT rfl rfl rfl) ?_
 refine gl_v rfl (o_move rfl) ?_
 refine gl_gT rfl rfl rfl ?_
 refine gl_v rfl (o_move rfl) ?_
 refine gl_gT rfl rfl rfl ?_
 refine gl_v rfl (o_eql rfl rfl) ?_
 refine gl_v rfl (o_pickT rfl rfl rfl) ?_
 refine gl_v rfl (o_move rfl) ?_
 refine gl_gT rfl rfl rfl ?_
 refine gl_v rfl (o_move rfl) ?_
 refine gl_gT rfl rfl rfl ?_
 refine gl_v rfl (o_eql rfl rfl) ?_
 refine gl_v rfl (o_pickT rfl rfl rfl) ?_
 refine gl_v rfl (o_move rfl) ?_
 refine gl_gT rfl rfl rfl ?_
 refine gl_v rfl (o_move rfl) ?_
 refine gl_gT rfl rfl rfl ?_
 refine gl_v rfl (o_eql rfl rfl) ?_
 refine gl_v rfl (o_pickT rfl rfl rfl) ?_
 refine gl_v rfl (o_move rfl) ?_
 refine gl_gT rfl rfl rfl ?_
 refine gl_v rfl (o_move rfl) ?_
 refine gl_gT rfl rfl rfl ?_
 refine gl_v rfl (o_eql rfl rfl) ?_
 refine gl_v rfl (o_pickT rfl rfl rfl) ?_
 refine gl_v rfl (o_move rfl) ?_
 refine gl_gT rfl rfl rfl ?_
 refine gl_v rfl (o_move rfl) ?_
 refine gl_gT rfl rfl rfl ?_
 refine gl_v rfl (o_eql rfl rfl) ?_
 refine gl_v rfl (o_pickT rfl rfl rfl) ?_
 refine gl_v rfl (o_move rfl) ?_
 refine gl_gT rfl rfl rfl ?_
 refine gl_v rfl (o_move rfl) ?_
 refine gl_gT rfl rfl rfl ?_
 refine gl_v rfl (o_eql rfl rfl) ?_
 refine gl_v rfl (o_pickT rfl rfl rfl) ?_
 refine gl_v rfl (o_move rfl) ?_
 refine gl_gT rfl rfl rfl ?_
 refine gl_v rfl (o_move rfl) ?_
 refine gl_gT rfl rfl rfl ?_
 refine gl_v rfl (o_eql rfl rfl) ?_
 refine gl_v rfl (o_pickT rfl rfl rfl) ?_
 refine gl_v rfl (o_move rfl) ?_
 refine gl_gT rfl rfl rfl ?_
 refine gl_v rfl (o_move rfl) ?_
 refine gl_gT rfl rfl rfl ?_
 refine gl_v rfl (o_eql rfl rfl) ?_
 refine gl_v rfl (o_pickT rfl rfl rfl) ?_
 refine gl_v rfl (o_move rfl) ?_
 refine gl_gT rfl rfl rfl ?_
 refine gl_v rfl (o_move rfl) ?_
 refine gl_gT rfl rfl rfl ?_
 refine gl_v rfl (o_eql rfl rfl) ?_
 refine gl_v rfl (o_pickT rfl rfl rfl) ?_
 refine gl_v rfl (o_move rfl) ?_
 refine gl_gT rfl rfl rfl ?_
 refine gl_v rfl (o_move rfl) ?_
 refine gl_gT rfl rfl rfl ?_
 refine gl_v rfl (o_eql rfl rfl) ?_
 refine gl_v rfl (o_pickT rfl rfl rfl) ?_
 refine gl_v rfl (o_move rfl) ?_
 refine gl_gT rfl rfl rfl ?_
 refine gl_v rfl (o_move rfl) ?_
 refine gl_gT rfl rfl rfl ?_
 refine gl_v rfl (o_eql rfl rfl) ?_
 refine gl_v rfl (o_pickT rfl rfl rfl) ?_
 refine gl_v rfl (o_move rfl) ?_
 refine gl_gT rfl rfl rfl ?_
 refine gl_v rfl (o_move rfl) ?_
 refine gl_gT rfl rfl rfl ?_
 refine gl_v rfl (o_eql rfl rfl) ?_
 refine gl_v rfl (o_pickT rfl rfl rfl) ?_
 refine gl_v rfl (o_assign rfl) ?_
 refine gl_nil ?_
 refine ge_then ?_
 refine g_ret ?_
 refine ret1 (.inl rfl) rfl rfl _ (⟨rfl, rfl⟩) (To.sat (by repeat (first | exact .nil | exact .done .refl | (apply To.cons; · (repeat (first | exact .head | apply Sel.tail))) | exact .done (by repeat (first | exact .refl | apply Drop.skip)))))

end Go.Proofs.YtkpgcdhepfgfaaaGreat.L
