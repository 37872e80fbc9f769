/-
  ClockOnTime. Own work, printed in part by a program of its own.
-/
import Derived.Test.YtmohikdmdmplaaaGreatClkC
import Derived.Test.YtmohikdmdmplaaaGreatClockO
set_option linter.unusedSimpArgs false
set_option linter.unusedVariables false
set_option linter.unusedSectionVars false
namespace Go.Proofs.YtmohikdmdmplaaaGreat.L
open Go.L Go.L.Ring Go.L.Post Go.L.Clk Go.L.Whl
theorem KIds_env (X : KX) (B : CB) (L : List Int) (t : Int) (w : Wh) (hw : WI w) : FnS Tryz.prog 30 [ptr X.c 0] [envK X B L t w] (fun u Bs => ∃ a' c', u = .slice a' w.T.length c' ∧ Bs = [own (.slice a' w.T.length c') 22 1 w.T.length (w.T.map fun t => U64 t.id), envK X B L t w]) := by
  refine fns_ex (fun x _ => ?_)
  intro W0 R w' s
  refine (KIds_spec X B w hw W0 (memA X.m L t :: ringA X.r X.m (B.b + 1) B.n :: R) w' (s.imp (To.sat (by repeat (first | exact .nil | exact .done .refl | (apply To.cons; · (repeat (first | exact .head | apply Sel.tail))) | exact .done (by repeat (first | exact .refl | apply Drop.skip))))))).mono ?_
  rintro _ _ ⟨v, Bs, e, ⟨a', c', e2, rfl⟩, s⟩
  exact ⟨v, _, e, ⟨a', c', e2, rfl⟩, s.imp fun h s => Sat.tail (fun h s => ex_close () trivial (To.sat (by repeat (first | exact .nil | exact .done .refl | (apply To.cons; · (repeat (first | exact .head | apply Sel.tail))) | exact .done (by repeat (first | exact .refl | apply Drop.skip))))) h s) s⟩

attribute [local irreducible] opK envK doC foldW foldCut foldRef tickR dueL oW oQ wT mx qv
set_option maxRecDepth 8000 in
set_option maxHeartbeats 1500000 in
theorem ontime_w (ad : Option Addr) (cap : Nat) (s : List Int) (hs : ∀ x ∈ s, -9223372036854775808 ≤ x ∧ x ≤ 9223372036854775807) (hsl : s.length ≤ 9223372036854775807) (x1 : Int) (g1 : -9223372036854775808 ≤ x1 ∧ x1 ≤ 9223372036854775807) (A : Assn) [RdA (.slice ad s.length cap) A s.length (s.map fun x : Int => Value.int .i64 x)] (F n : Nat) (hF : (F : Int) = x1 % 600) (hn : n = min s.length 16) (D : Nat → Nat) (hDD : ∀ j, (D j : Int) = 1 + s.getD j 0 % 300) : FnS Tryz.prog 5 [.slice ad s.length cap, I64 x1] [A] (fun u Bs => u = .bool true ∧ Bs = [A]) := by
  refine fn_body Tryz.func5 rfl rfl rfl ?_
  intro W0 R
  simp only [List.zipIdx_cons, List.zipIdx_nil, List.map_cons, List.map_nil, Nat.zero_add, Nat.reduceAdd, List.cons_append, List.nil_append]
  have hF6 : F ≤ 599 := by omega
  have hn16 : n ≤ 16 := by omega
  have hns : n ≤ s.length := by omega
  have hD1 : ∀ j, 1 ≤ D j ∧ D j ≤ 300 := fun j => by have := hDD j; omega
  have hD : ∀ j, 1 ≤ D j ∧ D j ≤ 4095 := fun j => by have := hD1 j; omega
  have hmx := mx_in D hD1
  have hsi : ∀ j, -9223372036854775808 ≤ s.getD j 0 ∧ s.getD j 0 ≤ 9223372036854775807 := fun j => by
    rw [List.getD_eq_getElem?_getD]
    cases e : s[j]? with
    | none => simp
    | some x => exact hs x (List.mem_of_getElem? e)
  have K0 := KQ.zero (n := 16) (by decide) (by decide)
  refine g_seq ?_
  refine g_region ?_
  refine gl_v rfl (o_assign rfl) ?_
  refine gl_nil ?_
  refine ge_then ?_
  refine g_seq ?_
  refine g_seq ?_
  refine g_region ?_
  refine gl_c rfl (o_call rfl (kalive_spec) (by repeat (first | exact .nil | (apply Part.cons; · (repeat (first | exact .head | apply Sel.tail)))))) ?_
  rintro _ R ⟨_, ⟨rfl, rfl⟩, rfl⟩
  try simp only [List.cons_append, List.nil_append]
  refine gl_v rfl (o_is (c := false) (by rfl) (o_not rfl)) ?_
  refine gl_nil ?_
  refine ge_then ?_
  refine g_cond_false rfl ?_
  refine g_skip ?_
  refine ge_then ?_
  refine g_seq ?_
  refine g_region ?_
  refine gl_c rfl (o_call rfl (kmade_spec 16 (by decide) (by decide)) (by repeat (first | exact .nil | (apply Part.cons; · (repeat (first | exact .head | apply Sel.tail)))))) ?_
  rintro _ R ⟨_, ⟨X, t0, rfl, rfl⟩, rfl⟩
  try simp only [List.cons_append, List.nil_append]
  refine gl_v rfl (o_assign rfl) ?_
  refine gl_nil ?_
  refine ge_then ?_
  refine g_seq ?_
  refine g_seq ?_
  refine g_region ?_
  refine gl_v rfl (o_move rfl) ?_
  refine gl_v rfl (o_eqlPn rfl rfl) ?_
  refine gl_nil ?_
  refine ge_then ?_
  refine g_cond_false rfl ?_
  refine g_skip ?_
  refine ge_then ?_
  refine g_seq ?_
  refine g_region ?_
  refine gl_v rfl (o_move rfl) ?_
  refine gl_c rfl (o_call rfl (mod_spec x1 600 (by decide) g1) (by repeat (first | exact .nil | (apply Part.cons; · (repeat (first | exact .head | apply Sel.tail)))))) ?_
  rintro _ R ⟨_, ⟨rfl, rfl⟩, rfl⟩
  try simp only [List.cons_append, List.nil_append]
  rw [← hF]
  refine gl_v rfl (o_assign rfl) ?_
  refine gl_nil ?_
  refine ge_then ?_
  refine g_seq ?_
  refine g_seq ?_
  refine g_region ?_
  refine gl_v rfl (o_assign rfl) ?_
  refine gl_nil ?_
  refine ge_then ?_
  refine g_block ?_
  refine g_loop (ι := Nat × List Int × Int) (fun x => x.1 ≤ F ∧ KQ ⟨0, 16⟩ (2900000 - 1000 * x.1) x.2.1 (⟨x.1, 0, []⟩ : Wh) 0 []) (fun x => [(7, I64 x.1), (6, I64 F), (5, ptr X.c 0), (4, .bool false), (0, (.slice ad s.length cap))]) (fun x => envK X ⟨0, 16⟩ x.2.1 x.2.2 (⟨x.1, 0, []⟩ : Wh) :: A :: R) (fun x => F - x.1) (0, List.replicate (3 + 2 * 16) 0, t0) (⟨Nat.zero_le _, K0.le (show 2900000 - 1000 * 0 ≤ 3000000 by decide)⟩) (Keep.cons rfl (Keep.cons rfl (Keep.cons rfl (Keep.cons rfl (Keep.cons rfl (Keep.nil)))))) (To.sat (by repeat (first | exact .nil | exact .done .refl | (apply To.cons; · (repeat (first | exact .head | apply Sel.tail))) | exact .done (by repeat (first | exact .refl | apply Drop.skip))))) ?_
  rintro ⟨i, Lx, tx⟩ ⟨hi, hK⟩
  replace hi : i ≤ F := hi
  replace hK : KQ ⟨0, 16⟩ (2900000 - 1000 * i) Lx (⟨i, 0, []⟩ : Wh) 0 [] := hK
  dsimp only
  refine g_seq ?_
  refine g_seq ?_
  refine g_region ?_
  refine gl_v rfl (o_move rfl) ?_
  refine gl_v rfl (o_move rfl) ?_
  refine gl_v rfl (o_lss rfl rfl) ?_
  refine gl_nil ?_
  refine ge_then ?_
  refine g_cond rfl (fun hc1 => ?_) (fun hc1 => ?_)
  ·
    first | replace hc1 := of_decide_eq_true hc1 | replace hc1 := lt_f hc1 | replace hc1 := le_f hc1 | replace hc1 := dec_f hc1 | replace hc1 := nlt_t hc1 | replace hc1 := nle_t hc1 | replace hc1 := ndec_t hc1 | replace hc1 := ndec_f hc1 | replace hc1 := nn_t hc1 | replace hc1 := nn_f hc1 | skip
    have hik : i < F := by omega
    refine g_skip ?_
    refine ge_then ?_
    refine g_seq ?_
    refine g_block ?_
    refine g_region ?_
    refine gl_v rfl (o_move rfl) ?_
    obtain ⟨c2, L2, ph2, e2, K2⟩ := (hK.le (j := 1000 + (2900000 - 1000 * (i + 1))) (by omega)).beat
    have hw2 : tickR (foldW [] (⟨i, 0, []⟩ : Wh)) = (⟨(i + 1), 0, []⟩ : Wh) := by unfold foldW tickR; rfl
    rw [hw2] at e2 K2
    refine gl_c rfl (o_call rfl (fns_envW (Beat_spec X ⟨0, 16⟩ (by decide) (⟨i, 0, []⟩ : Wh) (hK.n ⟨0, 16⟩))) (by repeat (first | exact .nil | (apply Part.cons; · (repeat (first | exact .head | apply Sel.tail)))))) ?_
    rintro _ R ⟨_, ⟨p1, rfl, rfl⟩, rfl⟩
    try simp only [List.cons_append, List.nil_append]
    refine gl_c rfl (o_call rfl (kdone_spec X ⟨0, 16⟩ p1 Lx _ (⟨i, 0, []⟩ : Wh) (beatC ⟨0, 16⟩ (⟨i, 0, []⟩ : Wh)) hK.I hK.hL (hK.hw.le (by omega)) (beatC_ok (by decide) (hK.n ⟨0, 16⟩)) c2 L2 ((⟨(i + 1), 0, []⟩ : Wh)) ⟨ph2, 1, 0, (dueL (foldW [] (⟨i, 0, []⟩ : Wh))).map (·.id), foldCut [] (⟨i, 0, []⟩ : Wh), foldRef [] (⟨i, 0, []⟩ : Wh)⟩ e2) (by repeat (first | exact .nil | (apply Part.cons; · (repeat (first | exact .head | apply Sel.tail)))))) ?_
    rintro _ R ⟨_, ⟨t2, rfl, rfl⟩, rfl⟩
    try simp only [List.cons_append, List.nil_append]
    refine gl_nil ?_
    refine ge_block ?_
    refine ge_then ?_
    refine g_region ?_
    refine gl_v rfl (o_move rfl) ?_
    refine gl_v rfl (o_addR ((i + 1 : Nat) : Int) (by rw [wr_i64 (by omega)]; omega) rfl rfl) ?_
    refine gl_v rfl (o_assign rfl) ?_
    refine gl_nil ?_
    refine ge_round (i + 1, L2, t2) ⟨show i + 1 ≤ F by omega, K2⟩ (show F - (i + 1) < F - i by omega) (Keep.cons rfl (Keep.cons rfl (Keep.cons rfl (Keep.cons rfl (Keep.cons rfl (Keep.nil)))))) (To.sat (by repeat (first | exact .nil | exact .done .refl | (apply To.cons; · (repeat (first | exact .head | apply Sel.tail))) | exact .done (by repeat (first | exact .refl | apply Drop.skip)))))
  ·
    first | replace hc1 := of_decide_eq_true hc1 | replace hc1 := lt_f hc1 | replace hc1 := le_f hc1 | replace hc1 := dec_f hc1 | replace hc1 := nlt_t hc1 | replace hc1 := nle_t hc1 | replace hc1 := ndec_t hc1 | replace hc1 := ndec_f hc1 | replace hc1 := nn_t hc1 | replace hc1 := nn_f hc1 | skip
    have hik : i = F := by omega
    rw [hik] at hK
    rw [hik]
    refine g_exit ?_
    refine ge_then_exit ?_
    refine ge_then_exit ?_
    refine ge_block_exit ?_
    refine ge_then ?_
    refine g_seq ?_
    refine g_region ?_
    refine gl_v rfl (o_move rfl) ?_
    refine gl_v rfl (o_lenL rfl) ?_
    refine gl_v rfl (o_min ((n : Nat) : Int) (by rw [hn]; split <;> omega) rfl rfl) ?_
    refine gl_v rfl (o_assign rfl) ?_
    refine gl_nil ?_
    refine ge_then ?_
    refine g_seq ?_
    refine g_region ?_
    refine gl_v rfl (o_assign rfl) ?_
    refine gl_nil ?_
    refine ge_then ?_
    refine g_seq ?_
    refine g_seq ?_
    refine g_region ?_
    refine gl_v rfl (o_assign rfl) ?_
    refine gl_nil ?_
    refine ge_then ?_
    refine g_block ?_
    refine g_loop (ι := Nat × List Int × Int) (fun x => x.1 ≤ n ∧ KQ ⟨0, 16⟩ (2200000 - 1000 * x.1) x.2.1 (⟨F, 0, []⟩ : Wh) 0 (qv D x.1)) (fun x => [(10, I64 x.1), (9, I64 (mx D x.1 : Nat)), (8, I64 n), (6, I64 F), (5, ptr X.c 0), (4, .bool false), (0, (.slice ad s.length cap))]) (fun x => envK X ⟨0, 16⟩ x.2.1 x.2.2 (⟨F, 0, []⟩ : Wh) :: A :: R) (fun x => n - x.1) (0, Lx, tx) (⟨Nat.zero_le _, by rw [show qv D 0 = [] by unfold qv; rfl]; exact hK.le (show 2200000 - 1000 * 0 ≤ _ by omega)⟩) ((Keep.cons rfl (Keep.cons (by show some (I64 _) = some (I64 _); rw [show mx D 0 = 0 by unfold mx; rfl]; rfl) (Keep.cons rfl (Keep.cons rfl (Keep.cons rfl (Keep.cons rfl (Keep.cons rfl (Keep.nil))))))))) (To.sat (by repeat (first | exact .nil | exact .done .refl | (apply To.cons; · (repeat (first | exact .head | apply Sel.tail))) | exact .done (by repeat (first | exact .refl | apply Drop.skip))))) ?_
    clear hK
    rintro ⟨i, Lx, tx⟩ ⟨hi2, hK⟩
    replace hi2 : i ≤ n := hi2
    replace hK : KQ ⟨0, 16⟩ (2200000 - 1000 * i) Lx (⟨F, 0, []⟩ : Wh) 0 (qv D i) := hK
    dsimp only
    have hm1 := hmx i; have hm2 := hmx (i + 1)
    refine g_seq ?_
    refine g_seq ?_
    refine g_region ?_
    refine gl_v rfl (o_move rfl) ?_
    refine gl_v rfl (o_move rfl) ?_
    refine gl_v rfl (o_lss rfl rfl) ?_
    refine gl_nil ?_
    refine ge_then ?_
    refine g_cond rfl (fun hc2 => ?_) (fun hc2 => ?_)
    ·
      first | replace hc2 := of_decide_eq_true hc2 | replace hc2 := lt_f hc2 | replace hc2 := le_f hc2 | replace hc2 := dec_f hc2 | replace hc2 := nlt_t hc2 | replace hc2 := nle_t hc2 | replace hc2 := ndec_t hc2 | replace hc2 := ndec_f hc2 | replace hc2 := nn_t hc2 | replace hc2 := nn_f hc2 | skip
      have hin : i < n := by omega
      refine g_skip ?_
      refine ge_then ?_
      refine g_seq ?_
      refine g_block ?_
      refine g_seq ?_
      refine g_region ?_
      refine gl_v rfl (o_move rfl) ?_
      refine gl_v rfl (o_move rfl) ?_
      refine gl_v rfl (o_idxS rfl rfl (show i < s.length by omega)) ?_
      refine gl_v rfl (o_loadS rfl (map_at (d := 0) (by omega))) ?_
      refine gl_c rfl (o_call rfl (mod_spec (s.getD i 0) 300 (by decide) (hsi i)) (by repeat (first | exact .nil | (apply Part.cons; · (repeat (first | exact .head | apply Sel.tail)))))) ?_
      rintro _ R ⟨_, ⟨rfl, rfl⟩, rfl⟩
      try simp only [List.cons_append, List.nil_append]
      refine gl_v rfl (o_addR ((D i : Nat) : Int) (by have := hD1 i; rw [← hDD i]; exact wr_i64 (by omega)) rfl rfl) ?_
      refine gl_v rfl (o_assign rfl) ?_
      refine gl_nil ?_
      refine ge_then ?_
      refine g_seq ?_
      refine g_region ?_
      refine gl_v rfl (o_move rfl) ?_
      refine gl_v rfl (o_move rfl) ?_
      refine gl_v rfl (o_max ((mx D (i + 1) : Nat) : Int) (by rw [mx]; split <;> omega) rfl rfl) ?_
      refine gl_v rfl (o_assign rfl) ?_
      refine gl_nil ?_
      refine ge_then ?_
      refine g_seq ?_
      refine g_region ?_
      refine gl_v rfl (o_move rfl) ?_
      refine gl_v rfl (o_move rfl) ?_
      refine gl_v rfl (o_convR ((i : Nat) : Int) (wr_u64 (by omega)) rfl) ?_
      refine gl_v rfl (o_move rfl) ?_
      obtain ⟨L3, ph3, e3, K3⟩ := (hK.le (j := 1000 + (2200000 - 1000 * (i + 1))) (by omega)).ask (by rw [qv_len]; show i < 16; omega) (by rw [qv_len]; omega) (show (0 : Int) ≤ i by omega) (show (i : Int) ≤ 1125899906842624 by omega) (show 1 ≤ (D i : Int) ∧ (D i : Int) ≤ 4095 by have := hD i; omega)
      rw [← qv_succ D i] at K3
      refine gl_c rfl (o_call rfl (fns_env (Ask_spec X ⟨0, 16⟩ (i : Int) (D i) (by omega))) (by repeat (first | exact .nil | (apply Part.cons; · (repeat (first | exact .head | apply Sel.tail)))))) ?_
      rintro _ R ⟨_, ⟨p2, rfl, rfl⟩, rfl⟩
      try simp only [List.cons_append, List.nil_append]
      refine gl_c rfl (o_call rfl (kdone_spec X ⟨0, 16⟩ p2 Lx _ (⟨F, 0, []⟩ : Wh) (askC (i : Int) (D i)) hK.I hK.hL (hK.hw.le (by omega)) (askC_ok (by omega)) 5 L3 ((⟨F, 0, []⟩ : Wh)) ⟨ph3, 1, 0, [], [], []⟩ e3) (by repeat (first | exact .nil | (apply Part.cons; · (repeat (first | exact .head | apply Sel.tail)))))) ?_
      rintro _ R ⟨_, ⟨t3, rfl, rfl⟩, rfl⟩
      try simp only [List.cons_append, List.nil_append]
      refine gl_v rfl (o_move rfl) ?_
      refine gl_v rfl (o_extract rfl rfl) ?_
      refine gl_v rfl (o_extract rfl rfl) ?_
      refine gl_v rfl (o_assign rfl) ?_
      refine gl_v rfl (o_assign rfl) ?_
      refine gl_nil ?_
      refine ge_then ?_
      refine g_seq ?_
      refine g_region ?_
      refine gl_v rfl (o_move rfl) ?_
      refine gl_v rfl (o_is (c := false) (by rfl) (o_neq rfl rfl)) ?_
      refine gl_nil ?_
      refine ge_then ?_
      refine g_cond_false rfl ?_
      refine g_skip ?_
      refine ge_block ?_
      refine ge_then ?_
      refine g_region ?_
      refine gl_v rfl (o_move rfl) ?_
      refine gl_v rfl (o_addR ((i + 1 : Nat) : Int) (by rw [wr_i64 (by omega)]; omega) rfl rfl) ?_
      refine gl_v rfl (o_assign rfl) ?_
      refine gl_nil ?_
      refine ge_round (i + 1, L3, t3) ⟨show i + 1 ≤ n by omega, K3⟩ (show n - (i + 1) < n - i by omega) (Keep.cons rfl (Keep.cons rfl (Keep.cons rfl (Keep.cons rfl (Keep.cons rfl (Keep.cons rfl (Keep.cons rfl (Keep.nil)))))))) (To.sat (by repeat (first | exact .nil | exact .done .refl | (apply To.cons; · (repeat (first | exact .head | apply Sel.tail))) | exact .done (by repeat (first | exact .refl | apply Drop.skip)))))
    ·
      first | replace hc2 := of_decide_eq_true hc2 | replace hc2 := lt_f hc2 | replace hc2 := le_f hc2 | replace hc2 := dec_f hc2 | replace hc2 := nlt_t hc2 | replace hc2 := nle_t hc2 | replace hc2 := ndec_t hc2 | replace hc2 := ndec_f hc2 | replace hc2 := nn_t hc2 | replace hc2 := nn_f hc2 | skip
      have hin : i = n := by omega
      rw [hin] at hK
      rw [hin]
      refine g_exit ?_
      refine ge_then_exit ?_
      refine ge_then_exit ?_
      refine ge_block_exit ?_
      refine ge_then ?_
      refine g_seq ?_
      refine g_seq ?_
      refine g_region ?_
      refine gl_v rfl (o_assign rfl) ?_
      refine gl_nil ?_
      refine ge_then ?_
      refine g_block ?_
      refine g_loop (ι := Nat × List Int × Int) (fun x => x.1 ≤ mx D n ∧ ∃ h, KQ ⟨0, 16⟩ (1900000 - 1000 * x.1) x.2.1 (oW D F n x.1) h (oQ D n x.1)) (fun x => [(14, I64 ((x.1 + 1 : Nat) : Int)), (9, I64 (mx D n : Nat)), (8, I64 n), (6, I64 F), (5, ptr X.c 0), (4, .bool false), (0, (.slice ad s.length cap))]) (fun x => envK X ⟨0, 16⟩ x.2.1 x.2.2 (oW D F n x.1) :: A :: R) (fun x => mx D n - x.1) (0, Lx, tx) (⟨Nat.zero_le _, 0, by rw [show oW D F n 0 = ⟨F, 0, []⟩ by unfold oW; rfl, show oQ D n 0 = qv D n by unfold oQ; rfl]; exact hK.le (show 1900000 - 1000 * 0 ≤ _ by omega)⟩) (Keep.cons rfl (Keep.cons rfl (Keep.cons rfl (Keep.cons rfl (Keep.cons rfl (Keep.cons rfl (Keep.cons rfl (Keep.nil)))))))) (by rw [show oW D F n (0, Lx, tx).1 = ⟨F, 0, []⟩ by unfold oW; rfl]; exact (To.sat (by repeat (first | exact .nil | exact .done .refl | (apply To.cons; · (repeat (first | exact .head | apply Sel.tail))) | exact .done (by repeat (first | exact .refl | apply Drop.skip)))))) ?_
      clear hK
      have hmn := hmx n
      rintro ⟨τ, Lx, tx⟩ ⟨hi3, h, hK⟩
      replace hi3 : τ ≤ mx D n := hi3
      replace hK : KQ ⟨0, 16⟩ (1900000 - 1000 * τ) Lx (oW D F n (τ)) h (oQ D n (τ)) := hK
      dsimp only
      refine g_seq ?_
      refine g_seq ?_
      refine g_region ?_
      refine gl_v rfl (o_move rfl) ?_
      refine gl_v rfl (o_move rfl) ?_
      refine gl_v rfl (o_leq rfl rfl) ?_
      refine gl_nil ?_
      refine ge_then ?_
      refine g_cond rfl (fun hc3 => ?_) (fun hc3 => ?_)
      ·
        first | replace hc3 := of_decide_eq_true hc3 | replace hc3 := lt_f hc3 | replace hc3 := le_f hc3 | replace hc3 := dec_f hc3 | replace hc3 := nlt_t hc3 | replace hc3 := nle_t hc3 | replace hc3 := ndec_t hc3 | replace hc3 := ndec_f hc3 | replace hc3 := nn_t hc3 | replace hc3 := nn_f hc3 | skip
        have hτ : τ < mx D n := by omega
        refine g_skip ?_
        refine ge_then ?_
        refine g_seq ?_
        refine g_block ?_
        refine g_seq ?_
        refine g_region ?_
        refine gl_v rfl (o_move rfl) ?_
        obtain ⟨c4, L4, ph3, e4, K4⟩ := (hK.le (j := 1000 + (1900000 - 1000 * (τ + 1))) (by omega)).beat
        obtain ⟨f1, f2, f3⟩ := o_fold D F n τ hD (by omega)
        have f4 := o_next D F n τ hD (by omega)
        rw [f4, f1, f2, f3] at e4
        rw [f4] at K4
        refine gl_c rfl (o_call rfl (fns_envW (Beat_spec X ⟨0, 16⟩ (by decide) (oW D F n (τ)) (hK.n ⟨0, 16⟩))) (by repeat (first | exact .nil | (apply Part.cons; · (repeat (first | exact .head | apply Sel.tail)))))) ?_
        rintro _ R ⟨_, ⟨p3, rfl, rfl⟩, rfl⟩
        try simp only [List.cons_append, List.nil_append]
        refine gl_v rfl (o_assign rfl) ?_
        refine gl_nil ?_
        refine ge_then ?_
        refine g_seq ?_
        refine g_region ?_
        refine gl_v rfl (o_move rfl) ?_
        refine gl_c rfl (o_call rfl (kdone_spec X ⟨0, 16⟩ p3 Lx _ (oW D F n (τ)) (beatC ⟨0, 16⟩ (oW D F n (τ))) hK.I hK.hL (hK.hw.le (by omega)) (beatC_ok (by decide) (hK.n ⟨0, 16⟩)) c4 L4 ((oW D F n (τ + 1))) ⟨ph3, 1, 0, ((dueL (wT D F n τ)).map (·.id)), [], []⟩ e4) (by repeat (first | exact .nil | (apply Part.cons; · (repeat (first | exact .head | apply Sel.tail)))))) ?_
        rintro _ R ⟨_, ⟨t4, rfl, rfl⟩, rfl⟩
        try simp only [List.cons_append, List.nil_append]
        refine gl_nil ?_
        refine ge_then ?_
        refine g_seq ?_
        refine g_region ?_
        refine gl_v rfl (o_move rfl) ?_
        refine gl_c rfl (o_call rfl (KDue_spec X ⟨0, 16⟩ p3 ⟨ph3, 1, 0, ((dueL (wT D F n τ)).map (·.id)), [], []⟩ (fun h => by cases h) (by rw [List.length_map]; have := due_len D F n τ; omega)) (by repeat (first | exact .nil | (apply Part.cons; · (repeat (first | exact .head | apply Sel.tail)))))) ?_
        rintro _ R ⟨_, ⟨d3, k3, rfl, rfl⟩, rfl⟩
        try simp only [List.cons_append, List.nil_append]
        rw [show toldL ⟨ph3, 1, 0, ((dueL (wT D F n τ)).map (·.id)), [], []⟩ ((dueL (wT D F n τ)).map (·.id)) = ((dueL (wT D F n τ)).map (·.id)) from rfl]
        have hdl : ((dueL (wT D F n τ)).map (·.id)).length ≤ n := by rw [List.length_map]; exact due_len D F n τ
        have hdc := fun (i : Nat) (hi : i < n) => due_count D F n τ hD hi
        generalize ((dueL (wT D F n τ)).map (·.id)) = du at hdl hdc ⊢
        refine gl_v rfl (o_assign rfl) ?_
        refine gl_nil ?_
        refine ge_then ?_
        refine g_seq ?_
        refine g_seq ?_
        refine g_region ?_
        refine gl_v rfl (o_assign rfl) ?_
        refine gl_nil ?_
        refine ge_then ?_
        refine g_block ?_
        refine g_loop (ι := Nat) (fun x => x ≤ n) (fun x => [(17, I64 x), (16, tl d3 k3 du), (15, ptr p3 0), (14, I64 ((τ + 1 : Nat) : Int)), (9, I64 (mx D n : Nat)), (8, I64 n), (6, I64 F), (5, ptr X.c 0), (4, .bool false), (0, (.slice ad s.length cap))]) (fun x => tlA d3 k3 du :: opK X ⟨0, 16⟩ p3 ⟨ph3, 1, 0, du, [], []⟩ :: envK X ⟨0, 16⟩ L4 t4 (oW D F n (τ + 1)) :: A :: R) (fun x => n - x) 0 (Nat.zero_le _) (Keep.cons rfl (Keep.cons rfl (Keep.cons rfl (Keep.cons rfl (Keep.cons rfl (Keep.cons rfl (Keep.cons rfl (Keep.cons rfl (Keep.cons rfl (Keep.cons rfl (Keep.nil))))))))))) (To.sat (by repeat (first | exact .nil | exact .done .refl | (apply To.cons; · (repeat (first | exact .head | apply Sel.tail))) | exact .done (by repeat (first | exact .refl | apply Drop.skip))))) ?_
        rintro i hi4
        replace hi4 : i ≤ n := hi4
        refine g_seq ?_
        refine g_seq ?_
        refine g_region ?_
        refine gl_v rfl (o_move rfl) ?_
        refine gl_v rfl (o_move rfl) ?_
        refine gl_v rfl (o_lss rfl rfl) ?_
        refine gl_nil ?_
        refine ge_then ?_
        refine g_cond rfl (fun hc4 => ?_) (fun hc4 => ?_)
        ·
          first | replace hc4 := of_decide_eq_true hc4 | replace hc4 := lt_f hc4 | replace hc4 := le_f hc4 | replace hc4 := dec_f hc4 | replace hc4 := nlt_t hc4 | replace hc4 := nle_t hc4 | replace hc4 := ndec_t hc4 | replace hc4 := ndec_f hc4 | replace hc4 := nn_t hc4 | replace hc4 := nn_f hc4 | skip
          have hin : i < n := by omega
          refine g_skip ?_
          refine ge_then ?_
          refine g_seq ?_
          refine g_block ?_
          refine g_seq ?_
          refine g_region ?_
          refine gl_v rfl (o_assign rfl) ?_
          refine gl_nil ?_
          refine ge_then ?_
          refine g_seq ?_
          refine g_seq ?_
          refine g_region ?_
          refine gl_v rfl (o_move rfl) ?_
          refine gl_v rfl (o_move rfl) ?_
          refine gl_v rfl (o_idxS rfl rfl (show i < s.length by omega)) ?_
          refine gl_v rfl (o_loadS rfl (map_at (d := 0) (by omega))) ?_
          refine gl_c rfl (o_call rfl (mod_spec (s.getD i 0) 300 (by decide) (hsi i)) (by repeat (first | exact .nil | (apply Part.cons; · (repeat (first | exact .head | apply Sel.tail)))))) ?_
          rintro _ R ⟨_, ⟨rfl, rfl⟩, rfl⟩
          try simp only [List.cons_append, List.nil_append]
          refine gl_v rfl (o_addR ((D i : Nat) : Int) (by have := hD1 i; rw [← hDD i]; exact wr_i64 (by omega)) rfl rfl) ?_
          refine gl_v rfl (o_move rfl) ?_
          refine gl_v rfl (o_eql rfl rfl) ?_
          refine gl_nil ?_
          refine ge_then ?_
          refine g_cond rfl (fun hc5 => ?_) (fun hc5 => ?_)
          ·
            first | replace hc5 := of_decide_eq_true hc5 | replace hc5 := lt_f hc5 | replace hc5 := le_f hc5 | replace hc5 := dec_f hc5 | replace hc5 := nlt_t hc5 | replace hc5 := nle_t hc5 | replace hc5 := ndec_t hc5 | replace hc5 := ndec_f hc5 | replace hc5 := nn_t hc5 | replace hc5 := nn_f hc5 | skip
            have hde : D i = τ + 1 := by omega
            refine g_region ?_
            refine gl_v rfl (o_assign rfl) ?_
            refine gl_nil ?_
            refine ge_then ?_
            refine g_seq ?_
            refine g_region ?_
            refine gl_v rfl (o_move rfl) ?_
            refine gl_v rfl (o_move rfl) ?_
            refine gl_v rfl (o_convR ((i : Nat) : Int) (wr_u64 (by omega)) rfl) ?_
            refine gl_c rfl (o_call rfl (has_spec (tl d3 k3 du) du (i : Int) (by omega) (tlA d3 k3 du)) (by repeat (first | exact .nil | (apply Part.cons; · (repeat (first | exact .head | apply Sel.tail)))))) ?_
            rintro _ R ⟨_, ⟨rfl, rfl⟩, rfl⟩
            try simp only [List.cons_append, List.nil_append]
            refine gl_v rfl (o_move rfl) ?_
            refine gl_v rfl (o_is (c := false) (by rw [hdc i hin]; simp [hde]) (o_neq rfl rfl)) ?_
            refine gl_nil ?_
            refine ge_then ?_
            refine g_cond_false rfl ?_
            refine g_skip ?_
            refine ge_block ?_
            refine ge_then ?_
            refine g_region ?_
            refine gl_v rfl (o_move rfl) ?_
            refine gl_v rfl (o_addR ((i + 1 : Nat) : Int) (by rw [wr_i64 (by omega)]; omega) rfl rfl) ?_
            refine gl_v rfl (o_assign rfl) ?_
            refine gl_nil ?_
            refine ge_round (i + 1) (show i + 1 ≤ n by omega) (show n - (i + 1) < n - i by omega) (Keep.cons rfl (Keep.cons rfl (Keep.cons rfl (Keep.cons rfl (Keep.cons rfl (Keep.cons rfl (Keep.cons rfl (Keep.cons rfl (Keep.cons rfl (Keep.cons rfl (Keep.nil))))))))))) (To.sat (by repeat (first | exact .nil | exact .done .refl | (apply To.cons; · (repeat (first | exact .head | apply Sel.tail))) | exact .done (by repeat (first | exact .refl | apply Drop.skip)))))
          ·
            first | replace hc5 := of_decide_eq_true hc5 | replace hc5 := lt_f hc5 | replace hc5 := le_f hc5 | replace hc5 := dec_f hc5 | replace hc5 := nlt_t hc5 | replace hc5 := nle_t hc5 | replace hc5 := ndec_t hc5 | replace hc5 := ndec_f hc5 | replace hc5 := nn_t hc5 | replace hc5 := nn_f hc5 | skip
            have hde : ¬ D i = τ + 1 := by omega
            refine g_skip ?_
            refine ge_then ?_
            refine g_seq ?_
            refine g_region ?_
            refine gl_v rfl (o_move rfl) ?_
            refine gl_v rfl (o_move rfl) ?_
            refine gl_v rfl (o_convR ((i : Nat) : Int) (wr_u64 (by omega)) rfl) ?_
            refine gl_c rfl (o_call rfl (has_spec (tl d3 k3 du) du (i : Int) (by omega) (tlA d3 k3 du)) (by repeat (first | exact .nil | (apply Part.cons; · (repeat (first | exact .head | apply Sel.tail)))))) ?_
            rintro _ R ⟨_, ⟨rfl, rfl⟩, rfl⟩
            try simp only [List.cons_append, List.nil_append]
            refine gl_v rfl (o_move rfl) ?_
            refine gl_v rfl (o_is (c := false) (by rw [hdc i hin]; simp [hde]) (o_neq rfl rfl)) ?_
            refine gl_nil ?_
            refine ge_then ?_
            refine g_cond_false rfl ?_
            refine g_skip ?_
            refine ge_block ?_
            refine ge_then ?_
            refine g_region ?_
            refine gl_v rfl (o_move rfl) ?_
            refine gl_v rfl (o_addR ((i + 1 : Nat) : Int) (by rw [wr_i64 (by omega)]; omega) rfl rfl) ?_
            refine gl_v rfl (o_assign rfl) ?_
            refine gl_nil ?_
            refine ge_round (i + 1) (show i + 1 ≤ n by omega) (show n - (i + 1) < n - i by omega) (Keep.cons rfl (Keep.cons rfl (Keep.cons rfl (Keep.cons rfl (Keep.cons rfl (Keep.cons rfl (Keep.cons rfl (Keep.cons rfl (Keep.cons rfl (Keep.cons rfl (Keep.nil))))))))))) (To.sat (by repeat (first | exact .nil | exact .done .refl | (apply To.cons; · (repeat (first | exact .head | apply Sel.tail))) | exact .done (by repeat (first | exact .refl | apply Drop.skip)))))
        ·
          first | replace hc4 := of_decide_eq_true hc4 | replace hc4 := lt_f hc4 | replace hc4 := le_f hc4 | replace hc4 := dec_f hc4 | replace hc4 := nlt_t hc4 | replace hc4 := nle_t hc4 | replace hc4 := ndec_t hc4 | replace hc4 := ndec_f hc4 | replace hc4 := nn_t hc4 | replace hc4 := nn_f hc4 | skip
          refine g_exit ?_
          refine ge_then_exit ?_
          refine ge_then_exit ?_
          refine ge_block_exit ?_
          refine ge_then ?_
          refine g_seq ?_
          refine g_region ?_
          refine gl_v rfl (o_move rfl) ?_
          refine gl_c rfl (o_call rfl (KCut_spec X ⟨0, 16⟩ p3 ⟨ph3, 1, 0, du, [], []⟩ (fun h => by cases h) (by simp)) (by repeat (first | exact .nil | (apply Part.cons; · (repeat (first | exact .head | apply Sel.tail)))))) ?_
          rintro _ R ⟨_, ⟨d4, k4, rfl, rfl⟩, rfl⟩
          try simp only [List.cons_append, List.nil_append]
          rw [show toldL (⟨ph3, 1, 0, du, [], []⟩ : CO) [] = [] from rfl]
          refine gl_v rfl (o_lenL rfl) ?_
          refine gl_v rfl (o_move rfl) ?_
          refine gl_c rfl (o_call rfl (KRefused_spec X ⟨0, 16⟩ p3 ⟨ph3, 1, 0, du, [], []⟩ (fun h => by cases h) (by simp)) (by repeat (first | exact .nil | (apply Part.cons; · (repeat (first | exact .head | apply Sel.tail)))))) ?_
          rintro _ R ⟨_, ⟨d5, k5, rfl, rfl⟩, rfl⟩
          try simp only [List.cons_append, List.nil_append]
          rw [show toldL (⟨ph3, 1, 0, du, [], []⟩ : CO) [] = [] from rfl]
          refine gl_v rfl (o_lenL rfl) ?_
          refine gl_v rfl (o_addR 0 (by rfl) rfl rfl) ?_
          refine gl_v rfl (o_is (c := false) (by rfl) (o_neq rfl rfl)) ?_
          refine gl_nil ?_
          refine ge_then ?_
          refine g_cond_false rfl ?_
          refine g_skip ?_
          refine ge_block ?_
          refine ge_then ?_
          refine g_region ?_
          refine gl_v rfl (o_move rfl) ?_
          refine gl_v rfl (o_addR ((τ + 1 + 1 : Nat) : Int) (by rw [wr_i64 (by omega)]; omega) rfl rfl) ?_
          refine gl_v rfl (o_assign rfl) ?_
          refine gl_nil ?_
          refine ge_round (τ + 1, L4, t4) ⟨show τ + 1 ≤ mx D n by omega, h + (oQ D n τ).length, by show KQ _ _ _ _ _ (oQ D n (τ + 1)); rw [show oQ D n (τ + 1) = [] by unfold oQ; rw [if_neg (by omega)]]; exact K4⟩ (show mx D n - (τ + 1) < mx D n - τ by omega) (Keep.cons rfl (Keep.cons rfl (Keep.cons rfl (Keep.cons rfl (Keep.cons rfl (Keep.cons rfl (Keep.cons rfl (Keep.nil)))))))) (To.sat (by repeat (first | exact .nil | exact .done .refl | (apply To.cons; · (repeat (first | exact .head | apply Sel.tail))) | exact .done (by repeat (first | exact .refl | apply Drop.skip)))))
      ·
        first | replace hc3 := of_decide_eq_true hc3 | replace hc3 := lt_f hc3 | replace hc3 := le_f hc3 | replace hc3 := dec_f hc3 | replace hc3 := nlt_t hc3 | replace hc3 := nle_t hc3 | replace hc3 := ndec_t hc3 | replace hc3 := ndec_f hc3 | replace hc3 := nn_t hc3 | replace hc3 := nn_f hc3 | skip
        have hτ : τ = mx D n := by omega
        rw [hτ] at hK
        rw [hτ]
        refine g_exit ?_
        refine ge_then_exit ?_
        refine ge_then_exit ?_
        refine ge_block_exit ?_
        refine ge_then ?_
        refine g_seq ?_
        refine g_region ?_
        refine gl_v rfl (o_move rfl) ?_
        have K9 := hK.le (j := 1000) (by omega)
        have K9n : Lx.getD 0 0 = ((F + mx D n : Nat) : Int) := by rw [show ((F + mx D n : Nat) : Int) = ((oW D F n (mx D n)).now : Int) by rw [o_now]]; exact K9.now
        refine gl_c rfl (o_call rfl (fns_env (KNow_spec X ⟨0, 16⟩)) (by repeat (first | exact .nil | (apply Part.cons; · (repeat (first | exact .head | apply Sel.tail)))))) ?_
        rintro _ R ⟨_, ⟨p9, rfl, rfl⟩, rfl⟩
        try simp only [List.cons_append, List.nil_append]
        refine gl_v rfl (o_assign rfl) ?_
        refine gl_nil ?_
        refine ge_then ?_
        refine g_seq ?_
        refine g_region ?_
        refine gl_v rfl (o_move rfl) ?_
        refine gl_c rfl (o_call rfl (kdone_spec X ⟨0, 16⟩ p9 Lx _ (oW D F n (mx D n)) nowC K9.I K9.hL (K9.hw.le (by decide)) nowC_ok 1 Lx (oW D F n (mx D n)) ⟨.now, 1, Lx.getD 0 0, [], [], []⟩ now_done) (by repeat (first | exact .nil | (apply Part.cons; · (repeat (first | exact .head | apply Sel.tail)))))) ?_
        rintro _ R ⟨_, ⟨t9, rfl, rfl⟩, rfl⟩
        try simp only [List.cons_append, List.nil_append]
        refine gl_nil ?_
        refine ge_then ?_
        refine g_seq ?_
        refine g_region ?_
        refine gl_v rfl (o_move rfl) ?_
        refine gl_c rfl (o_call rfl (KIds_env X ⟨0, 16⟩ Lx t9 (oW D F n (mx D n)) K9.hw.wi) (by repeat (first | exact .nil | (apply Part.cons; · (repeat (first | exact .head | apply Sel.tail)))))) ?_
        rintro _ R ⟨_, ⟨d9, k9, rfl, rfl⟩, rfl⟩
        try simp only [List.cons_append, List.nil_append]
        refine gl_v rfl (o_lenL rfl) ?_
        refine gl_v rfl (o_is (c := true) (by rw [o_end]; rfl) (o_eql rfl rfl)) ?_
        refine gl_v rfl (o_move rfl) ?_
        refine gl_gT rfl rfl rfl ?_
        refine gl_v rfl (o_move rfl) ?_
        refine gl_gT rfl rfl rfl ?_
        refine gl_v rfl (o_nil rfl) ?_
        refine gl_gT rfl rfl rfl ?_
        first | refine gl_v rfl (o_fldS rfl) ?_ | refine gl_v rfl (o_fld rfl) ?_
        refine gl_gT rfl rfl rfl ?_
        refine gl_c rfl (o_call rfl (Val_op X ⟨0, 16⟩ p9 ⟨.now, 1, Lx.getD 0 0, [], [], []⟩ (fun h => by cases h)) (by repeat (first | exact .nil | (apply Part.cons; · (repeat (first | exact .head | apply Sel.tail)))))) ?_
        rintro _ R ⟨_, ⟨rfl, rfl⟩, rfl⟩
        try simp only [List.cons_append, List.nil_append]
        refine gl_gT rfl rfl rfl ?_
        refine gl_v rfl (o_move rfl) ?_
        refine gl_gT rfl rfl rfl ?_
        refine gl_v rfl (o_move rfl) ?_
        refine gl_gT rfl rfl rfl ?_
        refine gl_v rfl (o_addR ((F + mx D n : Nat) : Int) (by rw [wr_i64 (by omega)]; omega) rfl rfl) ?_
        refine gl_gT rfl rfl rfl ?_
        refine gl_v rfl (o_convR ((F + mx D n : Nat) : Int) (wr_u64 (by have := hmx n; omega)) rfl) ?_
        refine gl_gT rfl rfl rfl ?_
        refine gl_v rfl (o_is (c := true) (by rw [K9n]; exact decide_eq_true rfl) (o_eql rfl rfl)) ?_
        refine gl_v rfl (o_pickT rfl rfl rfl) ?_
        refine gl_v rfl (o_assign rfl) ?_
        refine gl_nil ?_
        refine ge_then ?_
        refine g_ret ?_
        refine ret1 (.inl rfl) rfl rfl [A] (⟨rfl, rfl⟩) (To.sat (by repeat (first | exact .nil | exact .done .refl | (apply To.cons; · (repeat (first | exact .head | apply Sel.tail))) | exact .done (by repeat (first | exact .refl | apply Drop.skip)))))

theorem ontime_spec (ad : Option Addr) (cap : Nat) (s : List Int) (hs : ∀ x ∈ s, -9223372036854775808 ≤ x ∧ x ≤ 9223372036854775807) (hsl : s.length ≤ 9223372036854775807) (x1 : Int) (g1 : -9223372036854775808 ≤ x1 ∧ x1 ≤ 9223372036854775807) (A : Assn) [RdA (.slice ad s.length cap) A s.length (s.map fun x : Int => Value.int .i64 x)] : FnS Tryz.prog 5 [.slice ad s.length cap, I64 x1] [A] (fun u Bs => u = .bool true ∧ Bs = [A]) :=
  ontime_w ad cap s hs hsl x1 g1 A (x1 % 600).toNat (min s.length 16) (by omega) rfl (fun j => (1 + s.getD j 0 % 300).toNat) (fun j => by omega)

end Go.Proofs.YtmohikdmdmplaaaGreat.L
