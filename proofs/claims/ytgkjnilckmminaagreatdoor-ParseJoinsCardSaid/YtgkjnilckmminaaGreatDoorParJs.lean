/-
  Parse: ParseJoins. Own work, printed in part by a program of its own.
-/
import Derived.Test.YtgkjnilckmminaaGreatDoorParL
import Derived.Test.YtgkjnilckmminaaGreatDoorParQ
import Derived.Test.YtgkjnilckmminaaGreatDoorParN
set_option linter.unusedSimpArgs false
set_option linter.unusedVariables false
set_option linter.unusedSectionVars false
namespace Go.L.Pa
open Go.L Go.L.Lx Go.L.Pg
/-- a slice's back -/
theorem RdH.rest {h : Hp} {a : Option Addr} {n c i sz : Nat} {xs : List Value} (s : RdH h a c n xs) (hl : xs.length = n * sz) (hi : i ≤ n) : RdH h (if c = i then a else a.map (fun x : Addr => x.add (i * sz))) (c - i) (n - i) (xs.drop (i * sz)) := by
  obtain ⟨s, hnc⟩ := s
  refine ⟨?_, by omega⟩
  by_cases hci : c = i
  · rw [if_pos hci]
    have hn : n = i := by omega
    subst hn; subst hci
    have hd : xs.drop (c * sz) = [] := List.drop_eq_nil_of_le (by omega)
    rw [hd, Nat.sub_self]
    rcases s with ⟨h1, h2, h3⟩ | ⟨b, off, spot, cap, h1, h2, h3⟩
    · simp only [Value.slice.injEq] at h1; obtain ⟨rfl, -, rfl⟩ := h1; exact .inl ⟨rfl, rfl, rfl⟩
    · simp only [Value.slice.injEq, true_and] at h1; obtain ⟨rfl, rfl⟩ := h1
      exact .inr ⟨b, off, spot, 0, rfl, fun h0 => by omega, fun j x hx => by simp at hx⟩
  · rw [if_neg hci]
    rcases s with ⟨h1, h2, h3⟩ | ⟨b, off, spot, cap, h1, h2, h3⟩
    · simp only [Value.slice.injEq] at h1; obtain ⟨rfl, h4, rfl⟩ := h1; omega
    · simp only [Value.slice.injEq, true_and] at h1; obtain ⟨rfl, rfl⟩ := h1
      simp only [Option.map_some]
      by_cases h0 : i * sz = 0
      · have e : Addr.add ⟨b, off, spot⟩ (i * sz) = ⟨b, off, spot⟩ := by unfold Addr.add; rw [if_pos h0]
        rw [e, h0, List.drop_zero]
        exact .inr ⟨b, off, spot, c - i, rfl, fun h5 => h2 (by omega), h3⟩
      · have e : Addr.add ⟨b, off, spot⟩ (i * sz) = ⟨b, off + i * sz, none⟩ := by unfold Addr.add; rw [if_neg h0]
        rw [e]
        refine .inr ⟨b, off + i * sz, none, c - i, rfl, fun _ => rfl, fun j x hx => ⟨rfl, ?_⟩⟩
        rw [List.getElem?_drop] at hx
        obtain ⟨-, cs, e2, fz, h5, h6⟩ := h3 _ x hx
        exact ⟨cs, e2, fz, h5, by rw [Nat.add_assoc]; exact h6⟩
theorem flat_len' {α : Type} (f : α → List Value) (sz : Nat) (hf : ∀ x, (f x).length = sz) : ∀ l : List α, (l.flatMap f).length = l.length * sz
  | [] => by simp
  | x :: l => by rw [List.flatMap_cons, List.length_append, flat_len' f sz hf l, hf, List.length_cons, Nat.add_mul]; omega
theorem PrgOk.front {h : Hp} {a : Option Addr} {c : Nat} {X Y : List Knd} (p : PrgOk h a c (X ++ Y)) : PrgOk h a c X := by
  have h1 := p.rd.to (i := X.length) (sz := 5) (by rw [List.length_append]; omega)
  rw [flat_to kndC 5 kndC_len, List.take_left] at h1
  have h2 := p.len; unfold ok63 at h2; rw [List.length_append] at h2
  exact ⟨h1, by unfold ok63; omega, fun k hk => p.kinds k (List.mem_append_left _ hk)⟩
theorem PrgOk.back {h : Hp} {a : Option Addr} {c i : Nat} {X Y : List Knd} (p : PrgOk h a c (X ++ Y)) (hi : i = X.length) : PrgOk h (if c = i then a else a.map (fun x : Addr => x.add (i * 5))) (c - i) Y := by
  subst hi
  have h1 := RdH.rest p.rd (i := X.length) (sz := 5) (flat_len' kndC 5 kndC_len _) (by rw [List.length_append]; omega)
  rw [List.flatMap_append, List.drop_left' (flat_len' kndC 5 kndC_len X), List.length_append, Nat.add_sub_cancel_left] at h1
  have h2 := p.len; unfold ok63 at h2; rw [List.length_append] at h2
  exact ⟨h1, by unfold ok63; omega, fun k hk => p.kinds k (List.mem_append_right _ hk)⟩
theorem strip_ln (K : List Knd) : (strip K).length = K.length := by unfold strip; rw [List.length_map]
theorem strip_two {K A B : List Knd} (h : strip K = strip A ++ strip B) : ∃ X Y, K = X ++ Y ∧ strip X = strip A ∧ strip Y = strip B ∧ X.length = A.length := by
  obtain ⟨X, Y, rfl, h1, h2⟩ := List.map_eq_append_iff.1 h
  exact ⟨X, Y, rfl, h1, h2, by have := congrArg List.length h1; rw [List.length_map] at this; rw [this, strip_ln]⟩
end Go.L.Pa
namespace Go.Proofs.YtgkjnilckmminaaGreatDoor.L
open Go.L Go.L.Lx Go.L.Pg Go.L.Pa
theorem fact_of {A : Assn} {As R : List Assn} {p : Prop} (s : Sel A As R) (f : ∀ h, A h → p) : ∀ h, Sat As h → p := fun h x => by
  obtain ⟨h1, h2, d, e, a, _⟩ := s.to x; exact f _ a
theorem wl_knds {K : List Knd} {n : Nat} (h : wl (prgWs K) ≤ n) : K.length ≤ n ∧ ∀ k ∈ K, wl (kndWs k) ≤ n := by
  constructor
  · have h1 := len_wl (prgWs K)
    have h2 : K.length ≤ (prgWs K).length := by unfold prgWs; exact len_flat kndWs (fun k => by unfold kndWs topWs; simp only [List.length_append, List.length_cons]; omega) K
    omega
  · intro k hk
    have : wl (kndWs k) ≤ wl (prgWs K) := wl_mem kndWs hk
    omega
theorem strip_idem (K : List Knd) : strip (strip K) = strip K := same_eq (by rw [same_stripL]; exact same_refl K)
theorem Prog_any {W : World} (hG : Gok W) (M : Assn) [HB W M] (l : By) (hl : l.length ≤ 9223372036854775807) : FnS Tryz.prog 11 [S l] [M] (fun u Bs => ∃ sa sn sc v A, u = .tuple #[.agg #[.slice sa sn sc], v] ∧ Bs = [A, M]) := by
  cases h : progP l with
  | ok K => exact (Prog_ok hG M l hl K h).mono fun v Bs ⟨a, c, K', _, h2, h3⟩ => ⟨_, _, _, _, _, h2, h3⟩
  | error e => exact (Prog_er hG M l hl e h).mono fun v Bs ⟨b, h2, h3⟩ => ⟨_, _, _, _, _, h2, h3⟩
theorem Same_n (M : Assn) (K1 K2 : List Knd) (n1 n2 : Nat) (a1 a2 : Option Addr) (c1 c2 : Nat) (e1 : n1 = K1.length) (e2 : n2 = K2.length) (h1 : ∀ h, M h → PrgOk h a1 c1 K1) (h2 : ∀ h, M h → PrgOk h a2 c2 K2) (hn : wl (prgWs K1) ≤ 1000000) (hs : strip K1 = strip K2) :
    FnS Tryz.prog 20 [.agg #[.slice a1 n1 c1], .agg #[.slice a2 n2 c2]] [M] (fun u Bs => u = .bool true ∧ Bs = [M]) := by
  subst e1; subst e2
  obtain ⟨g1, g2⟩ := wl_knds hn
  refine (Same_spec M K1 K2 a1 a2 c1 c2 h1 h2 (by omega) (fun k hk => lenK_of (by have h1 := g2 k hk; have := len_wl (kndWs k); unfold wBig; omega))).mono ?_
  rintro u Bs ⟨rfl, rfl⟩
  rw [eq_same hs]; exact ⟨rfl, rfl⟩

set_option maxRecDepth 8000 in
set_option maxHeartbeats 1000000 in
theorem Joins_big {W : World} (hG : Gok W) (a b : By) (ha : a.length ≤ 140737488351232) (hb : b.length ≤ 140737488351232) (h : 16000 < a.length + b.length) : FnS Tryz.prog 8 [S a, S b] [base W] (fun u Bs => u = .bool true ∧ Bs = [base W]) := by
 refine fn_body Tryz.func8 rfl rfl rfl ?_
 intro W0 R
 simp only [List.zipIdx_cons, List.zipIdx_nil, List.map_cons, List.map_nil, Nat.zero_add, Nat.reduceAdd, List.cons_append, List.nil_append]
 refine g_seq ?_
 refine g_region ?_
 refine gl_v rfl (o_assign rfl) ?_
 refine gl_nil ?_
 refine ge_then ?_
 refine g_seq ?_
 refine g_seq ?_
 refine g_region ?_
 refine gl_c rfl (o_call rfl (alive_spec hG) (by repeat (first | exact .nil | (apply Part.cons; · (repeat (first | exact .head | apply Sel.tail)))))) ?_
 rintro _ R ⟨_, ⟨rfl, rfl⟩, rfl⟩
 try simp only [List.cons_append, List.nil_append]
 refine gl_v rfl (o_is (c := false) (by rfl) (o_not rfl)) ?_
 refine gl_nil ?_
 refine ge_then ?_
 refine g_cond_false rfl ?_
 refine g_skip ?_
 refine ge_then ?_
 refine g_seq ?_
 refine g_seq ?_
 refine g_region ?_
 refine gl_v rfl (o_move rfl) ?_
 refine gl_v rfl (o_lens rfl) ?_
 refine gl_v rfl (o_move rfl) ?_
 refine gl_v rfl (o_lens rfl) ?_
 refine gl_v rfl (o_addR ((a.length + b.length : Nat) : Int) (by rw [wr_i64 (by omega)]; omega) rfl rfl) ?_
 refine gl_v rfl (o_is (c := true) (by (simp <;> omega)) (o_gtr rfl rfl)) ?_
 refine gl_nil ?_
 refine ge_then ?_
 refine g_cond_true rfl ?_
 refine g_seq ?_
 refine g_region ?_
 refine gl_v rfl (o_assign rfl) ?_
 refine gl_nil ?_
 refine ge_then ?_
 refine g_ret ?_
 refine ge_then_ret ?_
 refine ret1 (.inl rfl) rfl rfl [base W] (⟨rfl, rfl⟩) (To.sat (by repeat (first | exact .nil | exact .done .refl | (apply To.cons; · (repeat (first | exact .head | apply Sel.tail))) | exact .done (by repeat (first | exact .refl | apply Drop.skip)))))

set_option maxRecDepth 8000 in
set_option maxHeartbeats 1000000 in
theorem Joins_31 {W : World} (hG : Gok W) (a b : By) (ha : a.length ≤ 140737488351232) (hb : b.length ≤ 140737488351232) (h : a.length + b.length ≤ 16000) (n : Nat) (hp : progP a = .error (31, n)) : FnS Tryz.prog 8 [S a, S b] [base W] (fun u Bs => u = .bool true ∧ Bs = [base W]) := by
 refine fn_body Tryz.func8 rfl rfl rfl ?_
 intro W0 R
 simp only [List.zipIdx_cons, List.zipIdx_nil, List.map_cons, List.map_nil, Nat.zero_add, Nat.reduceAdd, List.cons_append, List.nil_append]
 refine g_seq ?_
 refine g_region ?_
 refine gl_v rfl (o_assign rfl) ?_
 refine gl_nil ?_
 refine ge_then ?_
 refine g_seq ?_
 refine g_seq ?_
 refine g_region ?_
 refine gl_c rfl (o_call rfl (alive_spec hG) (by repeat (first | exact .nil | (apply Part.cons; · (repeat (first | exact .head | apply Sel.tail)))))) ?_
 rintro _ R ⟨_, ⟨rfl, rfl⟩, rfl⟩
 try simp only [List.cons_append, List.nil_append]
 refine gl_v rfl (o_is (c := false) (by rfl) (o_not rfl)) ?_
 refine gl_nil ?_
 refine ge_then ?_
 refine g_cond_false rfl ?_
 refine g_skip ?_
 refine ge_then ?_
 refine g_seq ?_
 refine g_seq ?_
 refine g_region ?_
 refine gl_v rfl (o_move rfl) ?_
 refine gl_v rfl (o_lens rfl) ?_
 refine gl_v rfl (o_move rfl) ?_
 refine gl_v rfl (o_lens rfl) ?_
 refine gl_v rfl (o_addR ((a.length + b.length : Nat) : Int) (by rw [wr_i64 (by omega)]; omega) rfl rfl) ?_
 refine gl_v rfl (o_is (c := false) (by (simp <;> omega)) (o_gtr rfl rfl)) ?_
 refine gl_nil ?_
 refine ge_then ?_
 refine g_cond_false rfl ?_
 refine g_skip ?_
 refine ge_then ?_
 refine g_seq ?_
 refine g_region ?_
 refine gl_v rfl (o_move rfl) ?_
 refine gl_c rfl (o_call rfl (Prog_er hG (base W) a (by omega) (31, n) hp) (by repeat (first | exact .nil | (apply Part.cons; · (repeat (first | exact .head | apply Sel.tail)))))) ?_
 rintro _ R ⟨_, ⟨be, rfl, rfl⟩, rfl⟩
 try simp only [List.cons_append, List.nil_append]
 refine gl_v rfl (o_move rfl) ?_
 refine gl_v rfl (o_extract rfl rfl) ?_
 refine gl_v rfl (o_extract rfl rfl) ?_
 refine gl_n rfl (o_alloc) ?_
 rintro _ _ ⟨b5, rfl, rfl⟩
 first | refine gl_u (o_storeSA rfl rfl rfl rfl (by simp; omega) (by simp)) ?_ | refine gl_u (o_storeA rfl rfl rfl rfl rfl) ?_
 refine gl_v rfl (o_assign rfl) ?_
 refine gl_nil ?_
 refine ge_then ?_
 refine g_seq ?_
 refine g_region ?_
 refine gl_v rfl (o_move rfl) ?_
 refine gl_c rfl (o_call rfl (Prog_any hG (base W) b (by omega)) (by repeat (first | exact .nil | (apply Part.cons; · (repeat (first | exact .head | apply Sel.tail)))))) ?_
 rintro _ R ⟨_, ⟨saq, snq, scq, vq, Aq, rfl, rfl⟩, rfl⟩
 try simp only [List.cons_append, List.nil_append]
 refine gl_v rfl (o_move rfl) ?_
 refine gl_v rfl (o_extract rfl rfl) ?_
 refine gl_v rfl (o_extract rfl rfl) ?_
 refine gl_n rfl (o_alloc) ?_
 rintro _ _ ⟨b7, rfl, rfl⟩
 first | refine gl_u (o_storeSA rfl rfl rfl rfl (by simp; omega) (by simp)) ?_ | refine gl_u (o_storeA rfl rfl rfl rfl rfl) ?_
 refine gl_v rfl (o_assign rfl) ?_
 refine gl_nil ?_
 refine ge_then ?_
 refine g_seq ?_
 refine g_region ?_
 refine gl_v rfl (o_move rfl) ?_
 refine gl_v rfl (o_adds (m := [10]) rfl rfl (by simp only [List.length_cons, List.length_nil]; omega)) ?_
 refine gl_v rfl (o_move rfl) ?_
 refine gl_v rfl (o_adds rfl rfl (by simp only [List.length_append, List.length_cons, List.length_nil]; omega)) ?_
 refine gl_c rfl (o_call rfl (Prog_any hG (base W) (a ++ [10] ++ b) (by simp only [List.length_append, List.length_cons, List.length_nil]; omega)) (by repeat (first | exact .nil | (apply Part.cons; · (repeat (first | exact .head | apply Sel.tail)))))) ?_
 rintro _ R ⟨_, ⟨sar, snr, scr, vr, Ar, rfl, rfl⟩, rfl⟩
 try simp only [List.cons_append, List.nil_append]
 refine gl_v rfl (o_move rfl) ?_
 refine gl_v rfl (o_extract rfl rfl) ?_
 refine gl_v rfl (o_extract rfl rfl) ?_
 refine gl_n rfl (o_alloc) ?_
 rintro _ _ ⟨b9, rfl, rfl⟩
 first | refine gl_u (o_storeSA rfl rfl rfl rfl (by simp; omega) (by simp)) ?_ | refine gl_u (o_storeA rfl rfl rfl rfl rfl) ?_
 refine gl_v rfl (o_assign rfl) ?_
 refine gl_nil ?_
 refine ge_then ?_
 refine g_seq ?_
 refine g_seq ?_
 refine g_region ?_
 refine gl_v rfl (o_move rfl) ?_
 refine gl_v rfl (o_neqIn rfl) ?_
 refine gl_nil ?_
 refine ge_then ?_
 refine g_cond_true rfl ?_
 refine g_seq ?_
 refine g_region ?_
 refine gl_v rfl (o_move rfl) ?_
 refine gl_c rfl (o_call rfl (Code_err hG be (31, n)) (by repeat (first | exact .nil | (apply Part.cons; · (repeat (first | exact .head | apply Sel.tail)))))) ?_
 rintro _ R ⟨_, ⟨rfl, rfl⟩, rfl⟩
 try simp only [List.cons_append, List.nil_append]
 refine gl_v rfl (o_is (c := true) (by rfl) (o_eql rfl rfl)) ?_
 refine gl_v rfl (o_move rfl) ?_
 refine gl_gF rfl rfl rfl rfl ?_
 refine gl_gF rfl rfl rfl rfl ?_
 refine gl_gF rfl rfl rfl rfl ?_
 refine gl_gU rfl rfl rfl ?_
 refine gl_gU rfl rfl rfl ?_
 refine gl_gU rfl rfl rfl ?_
 refine gl_gU rfl rfl rfl ?_
 refine gl_gU rfl rfl rfl ?_
 refine gl_gU rfl rfl rfl ?_
 refine gl_gU rfl rfl rfl ?_
 refine gl_gU rfl rfl rfl ?_
 refine gl_gU rfl rfl rfl ?_
 refine gl_gU rfl rfl rfl ?_
 refine gl_gU rfl rfl rfl ?_
 refine gl_gU rfl rfl rfl ?_
 refine gl_gU rfl rfl rfl ?_
 refine gl_gU rfl rfl rfl ?_
 refine gl_gU rfl rfl rfl ?_
 refine gl_gU rfl rfl rfl ?_
 refine gl_gU rfl rfl rfl ?_
 refine gl_gF rfl rfl rfl rfl ?_
 refine gl_v rfl (o_pickT rfl rfl rfl) ?_
 refine gl_v rfl (o_assign rfl) ?_
 refine gl_nil ?_
 refine ge_then ?_
 refine g_ret ?_
 refine ge_then_ret ?_
 refine ret1 (.inl rfl) rfl rfl [base W] (⟨rfl, rfl⟩) (To.sat (by repeat (first | exact .nil | exact .done .refl | (apply To.cons; · (repeat (first | exact .head | apply Sel.tail))) | exact .done (by repeat (first | exact .refl | apply Drop.skip)))))

set_option maxRecDepth 8000 in
set_option maxHeartbeats 1000000 in
theorem Joins_same {W : World} (hG : Gok W) (a b : By) (ha : a.length ≤ 140737488351232) (hb : b.length ≤ 140737488351232) (h : a.length + b.length ≤ 16000) (e e' : Err) (hp : progP a = .error e) (h31 : e.1 ≠ 31) (hr : progP (a ++ [10] ++ b) = .error e') (he : e' = e) : FnS Tryz.prog 8 [S a, S b] [base W] (fun u Bs => u = .bool true ∧ Bs = [base W]) := by
 refine fn_body Tryz.func8 rfl rfl rfl ?_
 intro W0 R
 simp only [List.zipIdx_cons, List.zipIdx_nil, List.map_cons, List.map_nil, Nat.zero_add, Nat.reduceAdd, List.cons_append, List.nil_append]
 subst he
 refine g_seq ?_
 refine g_region ?_
 refine gl_v rfl (o_assign rfl) ?_
 refine gl_nil ?_
 refine ge_then ?_
 refine g_seq ?_
 refine g_seq ?_
 refine g_region ?_
 refine gl_c rfl (o_call rfl (alive_spec hG) (by repeat (first | exact .nil | (apply Part.cons; · (repeat (first | exact .head | apply Sel.tail)))))) ?_
 rintro _ R ⟨_, ⟨rfl, rfl⟩, rfl⟩
 try simp only [List.cons_append, List.nil_append]
 refine gl_v rfl (o_is (c := false) (by rfl) (o_not rfl)) ?_
 refine gl_nil ?_
 refine ge_then ?_
 refine g_cond_false rfl ?_
 refine g_skip ?_
 refine ge_then ?_
 refine g_seq ?_
 refine g_seq ?_
 refine g_region ?_
 refine gl_v rfl (o_move rfl) ?_
 refine gl_v rfl (o_lens rfl) ?_
 refine gl_v rfl (o_move rfl) ?_
 refine gl_v rfl (o_lens rfl) ?_
 refine gl_v rfl (o_addR ((a.length + b.length : Nat) : Int) (by rw [wr_i64 (by omega)]; omega) rfl rfl) ?_
 refine gl_v rfl (o_is (c := false) (by (simp <;> omega)) (o_gtr rfl rfl)) ?_
 refine gl_nil ?_
 refine ge_then ?_
 refine g_cond_false rfl ?_
 refine g_skip ?_
 refine ge_then ?_
 refine g_seq ?_
 refine g_region ?_
 refine gl_v rfl (o_move rfl) ?_
 refine gl_c rfl (o_call rfl (Prog_er hG (base W) a (by omega) e' hp) (by repeat (first | exact .nil | (apply Part.cons; · (repeat (first | exact .head | apply Sel.tail)))))) ?_
 rintro _ R ⟨_, ⟨be, rfl, rfl⟩, rfl⟩
 try simp only [List.cons_append, List.nil_append]
 refine gl_v rfl (o_move rfl) ?_
 refine gl_v rfl (o_extract rfl rfl) ?_
 refine gl_v rfl (o_extract rfl rfl) ?_
 refine gl_n rfl (o_alloc) ?_
 rintro _ _ ⟨b5, rfl, rfl⟩
 first | refine gl_u (o_storeSA rfl rfl rfl rfl (by simp; omega) (by simp)) ?_ | refine gl_u (o_storeA rfl rfl rfl rfl rfl) ?_
 refine gl_v rfl (o_assign rfl) ?_
 refine gl_nil ?_
 refine ge_then ?_
 refine g_seq ?_
 refine g_region ?_
 refine gl_v rfl (o_move rfl) ?_
 refine gl_c rfl (o_call rfl (Prog_any hG (base W) b (by omega)) (by repeat (first | exact .nil | (apply Part.cons; · (repeat (first | exact .head | apply Sel.tail)))))) ?_
 rintro _ R ⟨_, ⟨saq, snq, scq, vq, Aq, rfl, rfl⟩, rfl⟩
 try simp only [List.cons_append, List.nil_append]
 refine gl_v rfl (o_move rfl) ?_
 refine gl_v rfl (o_extract rfl rfl) ?_
 refine gl_v rfl (o_extract rfl rfl) ?_
 refine gl_n rfl (o_alloc) ?_
 rintro _ _ ⟨b7, rfl, rfl⟩
 first | refine gl_u (o_storeSA rfl rfl rfl rfl (by simp; omega) (by simp)) ?_ | refine gl_u (o_storeA rfl rfl rfl rfl rfl) ?_
 refine gl_v rfl (o_assign rfl) ?_
 refine gl_nil ?_
 refine ge_then ?_
 refine g_seq ?_
 refine g_region ?_
 refine gl_v rfl (o_move rfl) ?_
 refine gl_v rfl (o_adds (m := [10]) rfl rfl (by simp only [List.length_cons, List.length_nil]; omega)) ?_
 refine gl_v rfl (o_move rfl) ?_
 refine gl_v rfl (o_adds rfl rfl (by simp only [List.length_append, List.length_cons, List.length_nil]; omega)) ?_
 refine gl_c rfl (o_call rfl (Prog_er hG (base W) (a ++ [10] ++ b) (by simp only [List.length_append, List.length_cons, List.length_nil]; omega) e' hr) (by repeat (first | exact .nil | (apply Part.cons; · (repeat (first | exact .head | apply Sel.tail)))))) ?_
 rintro _ R ⟨_, ⟨br, rfl, rfl⟩, rfl⟩
 try simp only [List.cons_append, List.nil_append]
 refine gl_v rfl (o_move rfl) ?_
 refine gl_v rfl (o_extract rfl rfl) ?_
 refine gl_v rfl (o_extract rfl rfl) ?_
 refine gl_n rfl (o_alloc) ?_
 rintro _ _ ⟨b9, rfl, rfl⟩
 first | refine gl_u (o_storeSA rfl rfl rfl rfl (by simp; omega) (by simp)) ?_ | refine gl_u (o_storeA rfl rfl rfl rfl rfl) ?_
 refine gl_v rfl (o_assign rfl) ?_
 refine gl_nil ?_
 refine ge_then ?_
 refine g_seq ?_
 refine g_seq ?_
 refine g_region ?_
 refine gl_v rfl (o_move rfl) ?_
 refine gl_v rfl (o_neqIn rfl) ?_
 refine gl_nil ?_
 refine ge_then ?_
 refine g_cond_true rfl ?_
 refine g_seq ?_
 refine g_region ?_
 refine gl_v rfl (o_move rfl) ?_
 refine gl_c rfl (o_call rfl (Code_err hG be e') (by repeat (first | exact .nil | (apply Part.cons; · (repeat (first | exact .head | apply Sel.tail)))))) ?_
 rintro _ R ⟨_, ⟨rfl, rfl⟩, rfl⟩
 try simp only [List.cons_append, List.nil_append]
 refine gl_v rfl (o_is (c := false) (by simp; omega) (o_eql rfl rfl)) ?_
 refine gl_v rfl (o_move rfl) ?_
 refine gl_gT rfl rfl rfl ?_
 refine gl_v rfl (o_move rfl) ?_
 refine gl_gT rfl rfl rfl ?_
 refine gl_v rfl (o_neqIn rfl) ?_
 refine gl_gT rfl rfl rfl ?_
 refine gl_v rfl (o_move rfl) ?_
 refine gl_gT rfl rfl rfl ?_
 refine gl_v rfl (o_move rfl) ?_
 refine gl_gT rfl rfl rfl ?_
 refine gl_c rfl (o_call rfl (Code_err hG br e') (by repeat (first | exact .nil | (apply Part.cons; · (repeat (first | exact .head | apply Sel.tail)))))) ?_
 rintro _ R ⟨_, ⟨rfl, rfl⟩, rfl⟩
 try simp only [List.cons_append, List.nil_append]
 refine gl_gT rfl rfl rfl ?_
 refine gl_v rfl (o_move rfl) ?_
 refine gl_gT rfl rfl rfl ?_
 refine gl_c rfl (o_call rfl (Code_err hG be e') (by repeat (first | exact .nil | (apply Part.cons; · (repeat (first | exact .head | apply Sel.tail)))))) ?_
 rintro _ R ⟨_, ⟨rfl, rfl⟩, rfl⟩
 try simp only [List.cons_append, List.nil_append]
 refine gl_gT rfl rfl rfl ?_
 refine gl_v rfl (o_is (c := true) (by simp) (o_eql rfl rfl)) ?_
 refine gl_gT rfl rfl rfl ?_
 refine gl_v rfl (o_move rfl) ?_
 refine gl_gT rfl rfl rfl ?_
 refine gl_v rfl (o_move rfl) ?_
 refine gl_gT rfl rfl rfl ?_
 refine gl_c rfl (o_call rfl (At_err hG br e') (by repeat (first | exact .nil | (apply Part.cons; · (repeat (first | exact .head | apply Sel.tail)))))) ?_
 rintro _ R ⟨_, ⟨rfl, rfl⟩, rfl⟩
 try simp only [List.cons_append, List.nil_append]
 refine gl_gT rfl rfl rfl ?_
 refine gl_v rfl (o_move rfl) ?_
 refine gl_gT rfl rfl rfl ?_
 refine gl_c rfl (o_call rfl (At_err hG be e') (by repeat (first | exact .nil | (apply Part.cons; · (repeat (first | exact .head | apply Sel.tail)))))) ?_
 rintro _ R ⟨_, ⟨rfl, rfl⟩, rfl⟩
 try simp only [List.cons_append, List.nil_append]
 refine gl_gT rfl rfl rfl ?_
 refine gl_v rfl (o_is (c := true) (by simp) (o_eql rfl rfl)) ?_
 refine gl_gT rfl rfl rfl ?_
 refine gl_v rfl (o_pickT rfl rfl rfl) ?_
 refine gl_gT rfl rfl rfl ?_
 refine gl_v rfl (o_move rfl) ?_
 refine gl_gF rfl rfl rfl rfl ?_
 refine gl_gF rfl rfl rfl rfl ?_
 refine gl_gF rfl rfl rfl rfl ?_
 refine gl_gT rfl rfl rfl ?_
 refine gl_v rfl (o_pickT rfl rfl rfl) ?_
 refine gl_gT rfl rfl rfl ?_
 refine gl_v rfl (o_pickT rfl rfl rfl) ?_
 refine gl_v rfl (o_pickF rfl rfl rfl) ?_
 refine gl_v rfl (o_assign rfl) ?_
 refine gl_nil ?_
 refine ge_then ?_
 refine g_ret ?_
 refine ge_then_ret ?_
 refine ret1 (.inl rfl) rfl rfl [base W] (⟨rfl, rfl⟩) (To.sat (by repeat (first | exact .nil | exact .done .refl | (apply To.cons; · (repeat (first | exact .head | apply Sel.tail))) | exact .done (by repeat (first | exact .refl | apply Drop.skip)))))

set_option maxRecDepth 8000 in
set_option maxHeartbeats 1000000 in
theorem Joins_30 {W : World} (hG : Gok W) (a b : By) (ha : a.length ≤ 140737488351232) (hb : b.length ≤ 140737488351232) (h : a.length + b.length ≤ 16000) (e e' : Err) (hp : progP a = .error e) (h31 : e.1 ≠ 31) (hr : progP (a ++ [10] ++ b) = .error e') (h30 : e.1 = 30) (hc : e'.1 ≠ e.1) : FnS Tryz.prog 8 [S a, S b] [base W] (fun u Bs => u = .bool true ∧ Bs = [base W]) := by
 refine fn_body Tryz.func8 rfl rfl rfl ?_
 intro W0 R
 simp only [List.zipIdx_cons, List.zipIdx_nil, List.map_cons, List.map_nil, Nat.zero_add, Nat.reduceAdd, List.cons_append, List.nil_append]
 refine g_seq ?_
 refine g_region ?_
 refine gl_v rfl (o_assign rfl) ?_
 refine gl_nil ?_
 refine ge_then ?_
 refine g_seq ?_
 refine g_seq ?_
 refine g_region ?_
 refine gl_c rfl (o_call rfl (alive_spec hG) (by repeat (first | exact .nil | (apply Part.cons; · (repeat (first | exact .head | apply Sel.tail)))))) ?_
 rintro _ R ⟨_, ⟨rfl, rfl⟩, rfl⟩
 try simp only [List.cons_append, List.nil_append]
 refine gl_v rfl (o_is (c := false) (by rfl) (o_not rfl)) ?_
 refine gl_nil ?_
 refine ge_then ?_
 refine g_cond_false rfl ?_
 refine g_skip ?_
 refine ge_then ?_
 refine g_seq ?_
 refine g_seq ?_
 refine g_region ?_
 refine gl_v rfl (o_move rfl) ?_
 refine gl_v rfl (o_lens rfl) ?_
 refine gl_v rfl (o_move rfl) ?_
 refine gl_v rfl (o_lens rfl) ?_
 refine gl_v rfl (o_addR ((a.length + b.length : Nat) : Int) (by rw [wr_i64 (by omega)]; omega) rfl rfl) ?_
 refine gl_v rfl (o_is (c := false) (by (simp <;> omega)) (o_gtr rfl rfl)) ?_
 refine gl_nil ?_
 refine ge_then ?_
 refine g_cond_false rfl ?_
 refine g_skip ?_
 refine ge_then ?_
 refine g_seq ?_
 refine g_region ?_
 refine gl_v rfl (o_move rfl) ?_
 refine gl_c rfl (o_call rfl (Prog_er hG (base W) a (by omega) e hp) (by repeat (first | exact .nil | (apply Part.cons; · (repeat (first | exact .head | apply Sel.tail)))))) ?_
 rintro _ R ⟨_, ⟨be, rfl, rfl⟩, rfl⟩
 try simp only [List.cons_append, List.nil_append]
 refine gl_v rfl (o_move rfl) ?_
 refine gl_v rfl (o_extract rfl rfl) ?_
 refine gl_v rfl (o_extract rfl rfl) ?_
 refine gl_n rfl (o_alloc) ?_
 rintro _ _ ⟨b5, rfl, rfl⟩
 first | refine gl_u (o_storeSA rfl rfl rfl rfl (by simp; omega) (by simp)) ?_ | refine gl_u (o_storeA rfl rfl rfl rfl rfl) ?_
 refine gl_v rfl (o_assign rfl) ?_
 refine gl_nil ?_
 refine ge_then ?_
 refine g_seq ?_
 refine g_region ?_
 refine gl_v rfl (o_move rfl) ?_
 refine gl_c rfl (o_call rfl (Prog_any hG (base W) b (by omega)) (by repeat (first | exact .nil | (apply Part.cons; · (repeat (first | exact .head | apply Sel.tail)))))) ?_
 rintro _ R ⟨_, ⟨saq, snq, scq, vq, Aq, rfl, rfl⟩, rfl⟩
 try simp only [List.cons_append, List.nil_append]
 refine gl_v rfl (o_move rfl) ?_
 refine gl_v rfl (o_extract rfl rfl) ?_
 refine gl_v rfl (o_extract rfl rfl) ?_
 refine gl_n rfl (o_alloc) ?_
 rintro _ _ ⟨b7, rfl, rfl⟩
 first | refine gl_u (o_storeSA rfl rfl rfl rfl (by simp; omega) (by simp)) ?_ | refine gl_u (o_storeA rfl rfl rfl rfl rfl) ?_
 refine gl_v rfl (o_assign rfl) ?_
 refine gl_nil ?_
 refine ge_then ?_
 refine g_seq ?_
 refine g_region ?_
 refine gl_v rfl (o_move rfl) ?_
 refine gl_v rfl (o_adds (m := [10]) rfl rfl (by simp only [List.length_cons, List.length_nil]; omega)) ?_
 refine gl_v rfl (o_move rfl) ?_
 refine gl_v rfl (o_adds rfl rfl (by simp only [List.length_append, List.length_cons, List.length_nil]; omega)) ?_
 refine gl_c rfl (o_call rfl (Prog_er hG (base W) (a ++ [10] ++ b) (by simp only [List.length_append, List.length_cons, List.length_nil]; omega) e' hr) (by repeat (first | exact .nil | (apply Part.cons; · (repeat (first | exact .head | apply Sel.tail)))))) ?_
 rintro _ R ⟨_, ⟨br, rfl, rfl⟩, rfl⟩
 try simp only [List.cons_append, List.nil_append]
 refine gl_v rfl (o_move rfl) ?_
 refine gl_v rfl (o_extract rfl rfl) ?_
 refine gl_v rfl (o_extract rfl rfl) ?_
 refine gl_n rfl (o_alloc) ?_
 rintro _ _ ⟨b9, rfl, rfl⟩
 first | refine gl_u (o_storeSA rfl rfl rfl rfl (by simp; omega) (by simp)) ?_ | refine gl_u (o_storeA rfl rfl rfl rfl rfl) ?_
 refine gl_v rfl (o_assign rfl) ?_
 refine gl_nil ?_
 refine ge_then ?_
 refine g_seq ?_
 refine g_seq ?_
 refine g_region ?_
 refine gl_v rfl (o_move rfl) ?_
 refine gl_v rfl (o_neqIn rfl) ?_
 refine gl_nil ?_
 refine ge_then ?_
 refine g_cond_true rfl ?_
 refine g_seq ?_
 refine g_region ?_
 refine gl_v rfl (o_move rfl) ?_
 refine gl_c rfl (o_call rfl (Code_err hG be e) (by repeat (first | exact .nil | (apply Part.cons; · (repeat (first | exact .head | apply Sel.tail)))))) ?_
 rintro _ R ⟨_, ⟨rfl, rfl⟩, rfl⟩
 try simp only [List.cons_append, List.nil_append]
 refine gl_v rfl (o_is (c := false) (by simp; omega) (o_eql rfl rfl)) ?_
 refine gl_v rfl (o_move rfl) ?_
 refine gl_gT rfl rfl rfl ?_
 refine gl_v rfl (o_move rfl) ?_
 refine gl_gT rfl rfl rfl ?_
 refine gl_v rfl (o_neqIn rfl) ?_
 refine gl_gT rfl rfl rfl ?_
 refine gl_v rfl (o_move rfl) ?_
 refine gl_gT rfl rfl rfl ?_
 refine gl_v rfl (o_move rfl) ?_
 refine gl_gT rfl rfl rfl ?_
 refine gl_c rfl (o_call rfl (Code_err hG br e') (by repeat (first | exact .nil | (apply Part.cons; · (repeat (first | exact .head | apply Sel.tail)))))) ?_
 rintro _ R ⟨_, ⟨rfl, rfl⟩, rfl⟩
 try simp only [List.cons_append, List.nil_append]
 refine gl_gT rfl rfl rfl ?_
 refine gl_v rfl (o_move rfl) ?_
 refine gl_gT rfl rfl rfl ?_
 refine gl_c rfl (o_call rfl (Code_err hG be e) (by repeat (first | exact .nil | (apply Part.cons; · (repeat (first | exact .head | apply Sel.tail)))))) ?_
 rintro _ R ⟨_, ⟨rfl, rfl⟩, rfl⟩
 try simp only [List.cons_append, List.nil_append]
 refine gl_gT rfl rfl rfl ?_
 refine gl_v rfl (o_is (c := false) (by simp; omega) (o_eql rfl rfl)) ?_
 refine gl_gT rfl rfl rfl ?_
 refine gl_v rfl (o_move rfl) ?_
 refine gl_gF rfl rfl rfl rfl ?_
 refine gl_gF rfl rfl rfl rfl ?_
 refine gl_gF rfl rfl rfl rfl ?_
 refine gl_gF rfl rfl rfl rfl ?_
 refine gl_gF rfl rfl rfl rfl ?_
 refine gl_gT rfl rfl rfl ?_
 refine gl_v rfl (o_pickF rfl rfl rfl) ?_
 refine gl_gT rfl rfl rfl ?_
 refine gl_v rfl (o_move rfl) ?_
 refine gl_gT rfl rfl rfl ?_
 refine gl_v rfl (o_move rfl) ?_
 refine gl_gT rfl rfl rfl ?_
 refine gl_c rfl (o_call rfl (Code_err hG be e) (by repeat (first | exact .nil | (apply Part.cons; · (repeat (first | exact .head | apply Sel.tail)))))) ?_
 rintro _ R ⟨_, ⟨rfl, rfl⟩, rfl⟩
 try simp only [List.cons_append, List.nil_append]
 refine gl_gT rfl rfl rfl ?_
 refine gl_v rfl (o_is (c := true) (by simp; omega) (o_eql rfl rfl)) ?_
 refine gl_gT rfl rfl rfl ?_
 refine gl_v rfl (o_pickF rfl rfl rfl) ?_
 refine gl_gT rfl rfl rfl ?_
 refine gl_v rfl (o_pickT rfl rfl rfl) ?_
 refine gl_v rfl (o_pickF rfl rfl rfl) ?_
 refine gl_v rfl (o_assign rfl) ?_
 refine gl_nil ?_
 refine ge_then ?_
 refine g_ret ?_
 refine ge_then_ret ?_
 refine ret1 (.inl rfl) rfl rfl [base W] (⟨rfl, rfl⟩) (To.sat (by repeat (first | exact .nil | exact .done .refl | (apply To.cons; · (repeat (first | exact .head | apply Sel.tail))) | exact .done (by repeat (first | exact .refl | apply Drop.skip)))))

set_option maxRecDepth 8000 in
set_option maxHeartbeats 1000000 in
theorem Joins_30b {W : World} (hG : Gok W) (a b : By) (ha : a.length ≤ 140737488351232) (hb : b.length ≤ 140737488351232) (h : a.length + b.length ≤ 16000) (e e' : Err) (hp : progP a = .error e) (h31 : e.1 ≠ 31) (hr : progP (a ++ [10] ++ b) = .error e') (h30 : e.1 = 30) (hc : e'.1 = e.1) (hd : e'.2 ≠ e.2) : FnS Tryz.prog 8 [S a, S b] [base W] (fun u Bs => u = .bool true ∧ Bs = [base W]) := by
 refine fn_body Tryz.func8 rfl rfl rfl ?_
 intro W0 R
 simp only [List.zipIdx_cons, List.zipIdx_nil, List.map_cons, List.map_nil, Nat.zero_add, Nat.reduceAdd, List.cons_append, List.nil_append]
 refine g_seq ?_
 refine g_region ?_
 refine gl_v rfl (o_assign rfl) ?_
 refine gl_nil ?_
 refine ge_then ?_
 refine g_seq ?_
 refine g_seq ?_
 refine g_region ?_
 refine gl_c rfl (o_call rfl (alive_spec hG) (by repeat (first | exact .nil | (apply Part.cons; · (repeat (first | exact .head | apply Sel.tail)))))) ?_
 rintro _ R ⟨_, ⟨rfl, rfl⟩, rfl⟩
 try simp only [List.cons_append, List.nil_append]
 refine gl_v rfl (o_is (c := false) (by rfl) (o_not rfl)) ?_
 refine gl_nil ?_
 refine ge_then ?_
 refine g_cond_false rfl ?_
 refine g_skip ?_
 refine ge_then ?_
 refine g_seq ?_
 refine g_seq ?_
 refine g_region ?_
 refine gl_v rfl (o_move rfl) ?_
 refine gl_v rfl (o_lens rfl) ?_
 refine gl_v rfl (o_move rfl) ?_
 refine gl_v rfl (o_lens rfl) ?_
 refine gl_v rfl (o_addR ((a.length + b.length : Nat) : Int) (by rw [wr_i64 (by omega)]; omega) rfl rfl) ?_
 refine gl_v rfl (o_is (c := false) (by (simp <;> omega)) (o_gtr rfl rfl)) ?_
 refine gl_nil ?_
 refine ge_then ?_
 refine g_cond_false rfl ?_
 refine g_skip ?_
 refine ge_then ?_
 refine g_seq ?_
 refine g_region ?_
 refine gl_v rfl (o_move rfl) ?_
 refine gl_c rfl (o_call rfl (Prog_er hG (base W) a (by omega) e hp) (by repeat (first | exact .nil | (apply Part.cons; · (repeat (first | exact .head | apply Sel.tail)))))) ?_
 rintro _ R ⟨_, ⟨be, rfl, rfl⟩, rfl⟩
 try simp only [List.cons_append, List.nil_append]
 refine gl_v rfl (o_move rfl) ?_
 refine gl_v rfl (o_extract rfl rfl) ?_
 refine gl_v rfl (o_extract rfl rfl) ?_
 refine gl_n rfl (o_alloc) ?_
 rintro _ _ ⟨b5, rfl, rfl⟩
 first | refine gl_u (o_storeSA rfl rfl rfl rfl (by simp; omega) (by simp)) ?_ | refine gl_u (o_storeA rfl rfl rfl rfl rfl) ?_
 refine gl_v rfl (o_assign rfl) ?_
 refine gl_nil ?_
 refine ge_then ?_
 refine g_seq ?_
 refine g_region ?_
 refine gl_v rfl (o_move rfl) ?_
 refine gl_c rfl (o_call rfl (Prog_any hG (base W) b (by omega)) (by repeat (first | exact .nil | (apply Part.cons; · (repeat (first | exact .head | apply Sel.tail)))))) ?_
 rintro _ R ⟨_, ⟨saq, snq, scq, vq, Aq, rfl, rfl⟩, rfl⟩
 try simp only [List.cons_append, List.nil_append]
 refine gl_v rfl (o_move rfl) ?_
 refine gl_v rfl (o_extract rfl rfl) ?_
 refine gl_v rfl (o_extract rfl rfl) ?_
 refine gl_n rfl (o_alloc) ?_
 rintro _ _ ⟨b7, rfl, rfl⟩
 first | refine gl_u (o_storeSA rfl rfl rfl rfl (by simp; omega) (by simp)) ?_ | refine gl_u (o_storeA rfl rfl rfl rfl rfl) ?_
 refine gl_v rfl (o_assign rfl) ?_
 refine gl_nil ?_
 refine ge_then ?_
 refine g_seq ?_
 refine g_region ?_
 refine gl_v rfl (o_move rfl) ?_
 refine gl_v rfl (o_adds (m := [10]) rfl rfl (by simp only [List.length_cons, List.length_nil]; omega)) ?_
 refine gl_v rfl (o_move rfl) ?_
 refine gl_v rfl (o_adds rfl rfl (by simp only [List.length_append, List.length_cons, List.length_nil]; omega)) ?_
 refine gl_c rfl (o_call rfl (Prog_er hG (base W) (a ++ [10] ++ b) (by simp only [List.length_append, List.length_cons, List.length_nil]; omega) e' hr) (by repeat (first | exact .nil | (apply Part.cons; · (repeat (first | exact .head | apply Sel.tail)))))) ?_
 rintro _ R ⟨_, ⟨br, rfl, rfl⟩, rfl⟩
 try simp only [List.cons_append, List.nil_append]
 refine gl_v rfl (o_move rfl) ?_
 refine gl_v rfl (o_extract rfl rfl) ?_
 refine gl_v rfl (o_extract rfl rfl) ?_
 refine gl_n rfl (o_alloc) ?_
 rintro _ _ ⟨b9, rfl, rfl⟩
 first | refine gl_u (o_storeSA rfl rfl rfl rfl (by simp; omega) (by simp)) ?_ | refine gl_u (o_storeA rfl rfl rfl rfl rfl) ?_
 refine gl_v rfl (o_assign rfl) ?_
 refine gl_nil ?_
 refine ge_then ?_
 refine g_seq ?_
 refine g_seq ?_
 refine g_region ?_
 refine gl_v rfl (o_move rfl) ?_
 refine gl_v rfl (o_neqIn rfl) ?_
 refine gl_nil ?_
 refine ge_then ?_
 refine g_cond_true rfl ?_
 refine g_seq ?_
 refine g_region ?_
 refine gl_v rfl (o_move rfl) ?_
 refine gl_c rfl (o_call rfl (Code_err hG be e) (by repeat (first | exact .nil | (apply Part.cons; · (repeat (first | exact .head | apply Sel.tail)))))) ?_
 rintro _ R ⟨_, ⟨rfl, rfl⟩, rfl⟩
 try simp only [List.cons_append, List.nil_append]
 refine gl_v rfl (o_is (c := false) (by simp; omega) (o_eql rfl rfl)) ?_
 refine gl_v rfl (o_move rfl) ?_
 refine gl_gT rfl rfl rfl ?_
 refine gl_v rfl (o_move rfl) ?_
 refine gl_gT rfl rfl rfl ?_
 refine gl_v rfl (o_neqIn rfl) ?_
 refine gl_gT rfl rfl rfl ?_
 refine gl_v rfl (o_move rfl) ?_
 refine gl_gT rfl rfl rfl ?_
 refine gl_v rfl (o_move rfl) ?_
 refine gl_gT rfl rfl rfl ?_
 refine gl_c rfl (o_call rfl (Code_err hG br e') (by repeat (first | exact .nil | (apply Part.cons; · (repeat (first | exact .head | apply Sel.tail)))))) ?_
 rintro _ R ⟨_, ⟨rfl, rfl⟩, rfl⟩
 try simp only [List.cons_append, List.nil_append]
 refine gl_gT rfl rfl rfl ?_
 refine gl_v rfl (o_move rfl) ?_
 refine gl_gT rfl rfl rfl ?_
 refine gl_c rfl (o_call rfl (Code_err hG be e) (by repeat (first | exact .nil | (apply Part.cons; · (repeat (first | exact .head | apply Sel.tail)))))) ?_
 rintro _ R ⟨_, ⟨rfl, rfl⟩, rfl⟩
 try simp only [List.cons_append, List.nil_append]
 refine gl_gT rfl rfl rfl ?_
 refine gl_v rfl (o_is (c := true) (by simp; omega) (o_eql rfl rfl)) ?_
 refine gl_gT rfl rfl rfl ?_
 refine gl_v rfl (o_move rfl) ?_
 refine gl_gT rfl rfl rfl ?_
 refine gl_v rfl (o_move rfl) ?_
 refine gl_gT rfl rfl rfl ?_
 refine gl_c rfl (o_call rfl (At_err hG br e') (by repeat (first | exact .nil | (apply Part.cons; · (repeat (first | exact .head | apply Sel.tail)))))) ?_
 rintro _ R ⟨_, ⟨rfl, rfl⟩, rfl⟩
 try simp only [List.cons_append, List.nil_append]
 refine gl_gT rfl rfl rfl ?_
 refine gl_v rfl (o_move rfl) ?_
 refine gl_gT rfl rfl rfl ?_
 refine gl_c rfl (o_call rfl (At_err hG be e) (by repeat (first | exact .nil | (apply Part.cons; · (repeat (first | exact .head | apply Sel.tail)))))) ?_
 rintro _ R ⟨_, ⟨rfl, rfl⟩, rfl⟩
 try simp only [List.cons_append, List.nil_append]
 refine gl_gT rfl rfl rfl ?_
 refine gl_v rfl (o_is (c := false) (by simp; omega) (o_eql rfl rfl)) ?_
 refine gl_gT rfl rfl rfl ?_
 refine gl_v rfl (o_pickT rfl rfl rfl) ?_
 refine gl_gT rfl rfl rfl ?_
 refine gl_v rfl (o_move rfl) ?_
 refine gl_gT rfl rfl rfl ?_
 refine gl_v rfl (o_move rfl) ?_
 refine gl_gT rfl rfl rfl ?_
 refine gl_c rfl (o_call rfl (Code_err hG be e) (by repeat (first | exact .nil | (apply Part.cons; · (repeat (first | exact .head | apply Sel.tail)))))) ?_
 rintro _ R ⟨_, ⟨rfl, rfl⟩, rfl⟩
 try simp only [List.cons_append, List.nil_append]
 refine gl_gT rfl rfl rfl ?_
 refine gl_v rfl (o_is (c := true) (by simp; omega) (o_eql rfl rfl)) ?_
 refine gl_gT rfl rfl rfl ?_
 refine gl_v rfl (o_pickF rfl rfl rfl) ?_
 refine gl_gT rfl rfl rfl ?_
 refine gl_v rfl (o_pickT rfl rfl rfl) ?_
 refine gl_v rfl (o_pickF rfl rfl rfl) ?_
 refine gl_v rfl (o_assign rfl) ?_
 refine gl_nil ?_
 refine ge_then ?_
 refine g_ret ?_
 refine ge_then_ret ?_
 refine ret1 (.inl rfl) rfl rfl [base W] (⟨rfl, rfl⟩) (To.sat (by repeat (first | exact .nil | exact .done .refl | (apply To.cons; · (repeat (first | exact .head | apply Sel.tail))) | exact .done (by repeat (first | exact .refl | apply Drop.skip)))))

set_option maxRecDepth 8000 in
set_option maxHeartbeats 1000000 in
theorem Joins_f {W : World} (hG : Gok W) (a b : By) (ha : a.length ≤ 140737488351232) (hb : b.length ≤ 140737488351232) (h : a.length + b.length ≤ 16000) (K : List Knd) (f : Err) (hp : progP a = .ok K) (hq : progP b = .error f) (hf : f.2 ≤ b.length) (hr : progP (a ++ [10] ++ b) = .error (f.1, f.2 + (a.length + 1))) : FnS Tryz.prog 8 [S a, S b] [base W] (fun u Bs => u = .bool true ∧ Bs = [base W]) := by
 refine fn_body Tryz.func8 rfl rfl rfl ?_
 intro W0 R
 simp only [List.zipIdx_cons, List.zipIdx_nil, List.map_cons, List.map_nil, Nat.zero_add, Nat.reduceAdd, List.cons_append, List.nil_append]
 refine g_seq ?_
 refine g_region ?_
 refine gl_v rfl (o_assign rfl) ?_
 refine gl_nil ?_
 refine ge_then ?_
 refine g_seq ?_
 refine g_seq ?_
 refine g_region ?_
 refine gl_c rfl (o_call rfl (alive_spec hG) (by repeat (first | exact .nil | (apply Part.cons; · (repeat (first | exact .head | apply Sel.tail)))))) ?_
 rintro _ R ⟨_, ⟨rfl, rfl⟩, rfl⟩
 try simp only [List.cons_append, List.nil_append]
 refine gl_v rfl (o_is (c := false) (by rfl) (o_not rfl)) ?_
 refine gl_nil ?_
 refine ge_then ?_
 refine g_cond_false rfl ?_
 refine g_skip ?_
 refine ge_then ?_
 refine g_seq ?_
 refine g_seq ?_
 refine g_region ?_
 refine gl_v rfl (o_move rfl) ?_
 refine gl_v rfl (o_lens rfl) ?_
 refine gl_v rfl (o_move rfl) ?_
 refine gl_v rfl (o_lens rfl) ?_
 refine gl_v rfl (o_addR ((a.length + b.length : Nat) : Int) (by rw [wr_i64 (by omega)]; omega) rfl rfl) ?_
 refine gl_v rfl (o_is (c := false) (by (simp <;> omega)) (o_gtr rfl rfl)) ?_
 refine gl_nil ?_
 refine ge_then ?_
 refine g_cond_false rfl ?_
 refine g_skip ?_
 refine ge_then ?_
 refine g_seq ?_
 refine g_region ?_
 refine gl_v rfl (o_move rfl) ?_
 refine gl_c rfl (o_call rfl (Prog_ok hG (base W) a (by omega) K hp) (by repeat (first | exact .nil | (apply Part.cons; · (repeat (first | exact .head | apply Sel.tail)))))) ?_
 rintro _ R ⟨_, ⟨ap, cp, Lp, hLp, rfl, rfl⟩, rfl⟩
 try simp only [List.cons_append, List.nil_append]
 refine gl_v rfl (o_move rfl) ?_
 refine gl_v rfl (o_extract rfl rfl) ?_
 refine gl_v rfl (o_extract rfl rfl) ?_
 refine gl_n rfl (o_alloc) ?_
 rintro _ _ ⟨b5, rfl, rfl⟩
 first | refine gl_u (o_storeSA rfl rfl rfl rfl (by simp; omega) (by simp)) ?_ | refine gl_u (o_storeA rfl rfl rfl rfl rfl) ?_
 refine gl_v rfl (o_assign rfl) ?_
 refine gl_nil ?_
 refine ge_then ?_
 refine g_seq ?_
 refine g_region ?_
 refine gl_v rfl (o_move rfl) ?_
 refine gl_c rfl (o_call rfl (Prog_er hG (base W) b (by omega) f hq) (by repeat (first | exact .nil | (apply Part.cons; · (repeat (first | exact .head | apply Sel.tail)))))) ?_
 rintro _ R ⟨_, ⟨bf, rfl, rfl⟩, rfl⟩
 try simp only [List.cons_append, List.nil_append]
 refine gl_v rfl (o_move rfl) ?_
 refine gl_v rfl (o_extract rfl rfl) ?_
 refine gl_v rfl (o_extract rfl rfl) ?_
 refine gl_n rfl (o_alloc) ?_
 rintro _ _ ⟨b7, rfl, rfl⟩
 first | refine gl_u (o_storeSA rfl rfl rfl rfl (by simp; omega) (by simp)) ?_ | refine gl_u (o_storeA rfl rfl rfl rfl rfl) ?_
 refine gl_v rfl (o_assign rfl) ?_
 refine gl_nil ?_
 refine ge_then ?_
 refine g_seq ?_
 refine g_region ?_
 refine gl_v rfl (o_move rfl) ?_
 refine gl_v rfl (o_adds (m := [10]) rfl rfl (by simp only [List.length_cons, List.length_nil]; omega)) ?_
 refine gl_v rfl (o_move rfl) ?_
 refine gl_v rfl (o_adds rfl rfl (by simp only [List.length_append, List.length_cons, List.length_nil]; omega)) ?_
 refine gl_c rfl (o_call rfl (Prog_er hG (base W) (a ++ [10] ++ b) (by simp only [List.length_append, List.length_cons, List.length_nil]; omega) (f.1, f.2 + (a.length + 1)) hr) (by repeat (first | exact .nil | (apply Part.cons; · (repeat (first | exact .head | apply Sel.tail)))))) ?_
 rintro _ R ⟨_, ⟨br, rfl, rfl⟩, rfl⟩
 try simp only [List.cons_append, List.nil_append]
 refine gl_v rfl (o_move rfl) ?_
 refine gl_v rfl (o_extract rfl rfl) ?_
 refine gl_v rfl (o_extract rfl rfl) ?_
 refine gl_n rfl (o_alloc) ?_
 rintro _ _ ⟨b9, rfl, rfl⟩
 first | refine gl_u (o_storeSA rfl rfl rfl rfl (by simp; omega) (by simp)) ?_ | refine gl_u (o_storeA rfl rfl rfl rfl rfl) ?_
 refine gl_v rfl (o_assign rfl) ?_
 refine gl_nil ?_
 refine ge_then ?_
 refine g_seq ?_
 refine g_seq ?_
 refine g_region ?_
 refine gl_v rfl (o_move rfl) ?_
 refine gl_v rfl (o_neqnI rfl) ?_
 refine gl_nil ?_
 refine ge_then ?_
 refine g_cond_false rfl ?_
 refine g_skip ?_
 refine ge_then ?_
 refine g_seq ?_
 refine g_seq ?_
 refine g_region ?_
 refine gl_v rfl (o_move rfl) ?_
 refine gl_v rfl (o_neqIn rfl) ?_
 refine gl_nil ?_
 refine ge_then ?_
 refine g_cond_true rfl ?_
 refine g_seq ?_
 refine g_region ?_
 refine gl_v rfl (o_move rfl) ?_
 refine gl_v rfl (o_neqIn rfl) ?_
 refine gl_v rfl (o_move rfl) ?_
 refine gl_gT rfl rfl rfl ?_
 refine gl_v rfl (o_move rfl) ?_
 refine gl_gT rfl rfl rfl ?_
 refine gl_c rfl (o_call rfl (Code_err hG br (f.1, f.2 + (a.length + 1))) (by repeat (first | exact .nil | (apply Part.cons; · (repeat (first | exact .head | apply Sel.tail)))))) ?_
 rintro _ R ⟨_, ⟨rfl, rfl⟩, rfl⟩
 try simp only [List.cons_append, List.nil_append]
 refine gl_gT rfl rfl rfl ?_
 refine gl_v rfl (o_move rfl) ?_
 refine gl_gT rfl rfl rfl ?_
 refine gl_c rfl (o_call rfl (Code_err hG bf f) (by repeat (first | exact .nil | (apply Part.cons; · (repeat (first | exact .head | apply Sel.tail)))))) ?_
 rintro _ R ⟨_, ⟨rfl, rfl⟩, rfl⟩
 try simp only [List.cons_append, List.nil_append]
 refine gl_gT rfl rfl rfl ?_
 refine gl_v rfl (o_is (c := true) (by simp) (o_eql rfl rfl)) ?_
 refine gl_v rfl (o_pickT rfl rfl rfl) ?_
 refine gl_v rfl (o_move rfl) ?_
 refine gl_gT rfl rfl rfl ?_
 refine gl_v rfl (o_move rfl) ?_
 refine gl_gT rfl rfl rfl ?_
 refine gl_c rfl (o_call rfl (At_err hG br (f.1, f.2 + (a.length + 1))) (by repeat (first | exact .nil | (apply Part.cons; · (repeat (first | exact .head | apply Sel.tail)))))) ?_
 rintro _ R ⟨_, ⟨rfl, rfl⟩, rfl⟩
 try simp only [List.cons_append, List.nil_append]
 refine gl_gT rfl rfl rfl ?_
 refine gl_v rfl (o_move rfl) ?_
 refine gl_gT rfl rfl rfl ?_
 refine gl_c rfl (o_call rfl (At_err hG bf f) (by repeat (first | exact .nil | (apply Part.cons; · (repeat (first | exact .head | apply Sel.tail)))))) ?_
 rintro _ R ⟨_, ⟨rfl, rfl⟩, rfl⟩
 try simp only [List.cons_append, List.nil_append]
 refine gl_gT rfl rfl rfl ?_
 refine gl_v rfl (o_move rfl) ?_
 refine gl_gT rfl rfl rfl ?_
 refine gl_v rfl (o_lens rfl) ?_
 refine gl_gT rfl rfl rfl ?_
 refine gl_v rfl (o_addR ((f.2 + a.length : Nat) : Int) (by rw [wr_i64 (by omega)]; omega) rfl rfl) ?_
 refine gl_gT rfl rfl rfl ?_
 refine gl_v rfl (o_addR ((f.2 + a.length + 1 : Nat) : Int) (by rw [wr_i64 (by omega)]; omega) rfl rfl) ?_
 refine gl_gT rfl rfl rfl ?_
 refine gl_v rfl (o_is (c := true) (by (simp <;> omega)) (o_eql rfl rfl)) ?_
 refine gl_gT rfl rfl rfl ?_
 refine gl_v rfl (o_move rfl) ?_
 refine gl_gF rfl rfl rfl rfl ?_
 refine gl_gF rfl rfl rfl rfl ?_
 refine gl_gF rfl rfl rfl rfl ?_
 refine gl_gT rfl rfl rfl ?_
 refine gl_v rfl (o_pickT rfl rfl rfl) ?_
 refine gl_v rfl (o_pickT rfl rfl rfl) ?_
 refine gl_v rfl (o_assign rfl) ?_
 refine gl_nil ?_
 refine ge_then ?_
 refine g_ret ?_
 refine ge_then_ret ?_
 refine ret1 (.inl rfl) rfl rfl [base W] (⟨rfl, rfl⟩) (To.sat (by repeat (first | exact .nil | exact .done .refl | (apply To.cons; · (repeat (first | exact .head | apply Sel.tail))) | exact .done (by repeat (first | exact .refl | apply Drop.skip)))))

set_option maxRecDepth 8000 in
set_option maxHeartbeats 1000000 in
theorem Joins_ok {W : World} (hG : Gok W) (a b : By) (ha : a.length ≤ 140737488351232) (hb : b.length ≤ 140737488351232) (h : a.length + b.length ≤ 16000) (K J : List Knd) (hp : progP a = .ok K) (hq : progP b = .ok J) (hr : progP (a ++ [10] ++ b) = .ok (K ++ J)) : FnS Tryz.prog 8 [S a, S b] [base W] (fun u Bs => u = .bool true ∧ Bs = [base W]) := by
 refine fn_body Tryz.func8 rfl rfl rfl ?_
 intro W0 R
 simp only [List.zipIdx_cons, List.zipIdx_nil, List.map_cons, List.map_nil, Nat.zero_add, Nat.reduceAdd, List.cons_append, List.nil_append]
 obtain ⟨-, hw5, hw6⟩ := prg_inv hr
 refine g_seq ?_
 refine g_region ?_
 refine gl_v rfl (o_assign rfl) ?_
 refine gl_nil ?_
 refine ge_then ?_
 refine g_seq ?_
 refine g_seq ?_
 refine g_region ?_
 refine gl_c rfl (o_call rfl (alive_spec hG) (by repeat (first | exact .nil | (apply Part.cons; · (repeat (first | exact .head | apply Sel.tail)))))) ?_
 rintro _ R ⟨_, ⟨rfl, rfl⟩, rfl⟩
 try simp only [List.cons_append, List.nil_append]
 refine gl_v rfl (o_is (c := false) (by rfl) (o_not rfl)) ?_
 refine gl_nil ?_
 refine ge_then ?_
 refine g_cond_false rfl ?_
 refine g_skip ?_
 refine ge_then ?_
 refine g_seq ?_
 refine g_seq ?_
 refine g_region ?_
 refine gl_v rfl (o_move rfl) ?_
 refine gl_v rfl (o_lens rfl) ?_
 refine gl_v rfl (o_move rfl) ?_
 refine gl_v rfl (o_lens rfl) ?_
 refine gl_v rfl (o_addR ((a.length + b.length : Nat) : Int) (by rw [wr_i64 (by omega)]; omega) rfl rfl) ?_
 refine gl_v rfl (o_is (c := false) (by (simp <;> omega)) (o_gtr rfl rfl)) ?_
 refine gl_nil ?_
 refine ge_then ?_
 refine g_cond_false rfl ?_
 refine g_skip ?_
 refine ge_then ?_
 refine g_seq ?_
 refine g_region ?_
 refine gl_v rfl (o_move rfl) ?_
 refine gl_c rfl (o_call rfl (Prog_ok hG (base W) a (by omega) K hp) (by repeat (first | exact .nil | (apply Part.cons; · (repeat (first | exact .head | apply Sel.tail)))))) ?_
 rintro _ R ⟨_, ⟨ap, cp, Lp, hLp, rfl, rfl⟩, rfl⟩
 try simp only [List.cons_append, List.nil_append]
 refine gl_v rfl (o_move rfl) ?_
 refine gl_v rfl (o_extract rfl rfl) ?_
 refine gl_v rfl (o_extract rfl rfl) ?_
 refine gl_n rfl (o_alloc) ?_
 rintro _ _ ⟨b5, rfl, rfl⟩
 first | refine gl_u (o_storeSA rfl rfl rfl rfl (by simp; omega) (by simp)) ?_ | refine gl_u (o_storeA rfl rfl rfl rfl rfl) ?_
 refine gl_v rfl (o_assign rfl) ?_
 refine gl_nil ?_
 refine ge_then ?_
 refine g_seq ?_
 refine g_region ?_
 refine gl_v rfl (o_move rfl) ?_
 refine gl_c rfl (o_call rfl (Prog_ok hG (base W) b (by omega) J hq) (by repeat (first | exact .nil | (apply Part.cons; · (repeat (first | exact .head | apply Sel.tail)))))) ?_
 rintro _ R ⟨_, ⟨aq, cq, Lq, hLq, rfl, rfl⟩, rfl⟩
 try simp only [List.cons_append, List.nil_append]
 refine gl_v rfl (o_move rfl) ?_
 refine gl_v rfl (o_extract rfl rfl) ?_
 refine gl_v rfl (o_extract rfl rfl) ?_
 refine gl_n rfl (o_alloc) ?_
 rintro _ _ ⟨b7, rfl, rfl⟩
 first | refine gl_u (o_storeSA rfl rfl rfl rfl (by simp; omega) (by simp)) ?_ | refine gl_u (o_storeA rfl rfl rfl rfl rfl) ?_
 refine gl_v rfl (o_assign rfl) ?_
 refine gl_nil ?_
 refine ge_then ?_
 refine g_seq ?_
 refine g_region ?_
 refine gl_v rfl (o_move rfl) ?_
 refine gl_v rfl (o_adds (m := [10]) rfl rfl (by simp only [List.length_cons, List.length_nil]; omega)) ?_
 refine gl_v rfl (o_move rfl) ?_
 refine gl_v rfl (o_adds rfl rfl (by simp only [List.length_append, List.length_cons, List.length_nil]; omega)) ?_
 refine gl_c rfl (o_call rfl (Prog_ok hG (base W) (a ++ [10] ++ b) (by simp only [List.length_append, List.length_cons, List.length_nil]; omega) (K ++ J) hr) (by repeat (first | exact .nil | (apply Part.cons; · (repeat (first | exact .head | apply Sel.tail)))))) ?_
 rintro _ R ⟨_, ⟨ar, cr, Lr, hLr, rfl, rfl⟩, rfl⟩
 try simp only [List.cons_append, List.nil_append]
 obtain ⟨X, Y, rfl, hX, hY, hXl⟩ := strip_two (A := Lp) (B := Lq) (K := Lr) (by rw [hLr, hLp, hLq])
 have hww : wl (prgWs (X ++ Y)) ≤ 1000000 := by rw [← prgWs_strip, hLr]; rw [List.length_append, List.length_append] at hw6; rw [List.length_append, List.length_append] at hw5; omega
 have hwa : wl (prgWs (X ++ Y)) = wl (prgWs X) + wl (prgWs Y) := by unfold prgWs; rw [List.flatMap_append, wl_app]
 have hwX : wl (prgWs X) ≤ 1000000 := by omega
 have hwY : wl (prgWs Y) ≤ 1000000 := by omega
 have hYl : Y.length = Lq.length := (strip_ln Y).symm.trans ((congrArg List.length hY).trans (strip_ln Lq))
 have hcc := (wl_knds hww).1
 rw [List.length_append] at hcc
 refine gl_v rfl (o_move rfl) ?_
 refine gl_v rfl (o_extract rfl rfl) ?_
 refine gl_v rfl (o_extract rfl rfl) ?_
 refine gl_n rfl (o_alloc) ?_
 rintro _ _ ⟨b9, rfl, rfl⟩
 first | refine gl_u (o_storeSA rfl rfl rfl rfl (by simp; omega) (by simp)) ?_ | refine gl_u (o_storeA rfl rfl rfl rfl rfl) ?_
 refine gl_v rfl (o_assign rfl) ?_
 refine gl_nil ?_
 refine ge_then ?_
 refine g_seq ?_
 refine g_seq ?_
 refine g_region ?_
 refine gl_v rfl (o_move rfl) ?_
 refine gl_v rfl (o_neqnI rfl) ?_
 refine gl_nil ?_
 refine ge_then ?_
 refine g_cond_false rfl ?_
 refine g_skip ?_
 refine ge_then ?_
 refine g_seq ?_
 refine g_seq ?_
 refine g_region ?_
 refine gl_v rfl (o_move rfl) ?_
 refine gl_v rfl (o_neqnI rfl) ?_
 refine gl_nil ?_
 refine ge_then ?_
 refine g_cond_false rfl ?_
 refine g_skip ?_
 refine ge_then ?_
 refine g_seq ?_
 refine g_seq ?_
 refine g_region ?_
 refine gl_v rfl (o_move rfl) ?_
 refine gl_v rfl (o_neqnI rfl) ?_
 refine gl_v rfl (o_move rfl) ?_
 refine gl_gT rfl rfl rfl ?_
 first | refine gl_v rfl (o_fldS rfl) ?_ | refine gl_v rfl (o_fld rfl) ?_
 refine gl_gT rfl rfl rfl ?_
 first | refine gl_v rfl (o_load rfl rfl) ?_ | refine gl_v rfl (o_loadS rfl rfl) ?_ | refine gl_v rfl (o_loadC rfl) ?_
 refine gl_gT rfl rfl rfl ?_
 first | refine gl_v rfl (o_len rfl) ?_ | refine gl_v rfl (o_lenL rfl) ?_
 refine gl_gT rfl rfl rfl ?_
 first | refine gl_v rfl (o_fldS rfl) ?_ | refine gl_v rfl (o_fld rfl) ?_
 refine gl_gT rfl rfl rfl ?_
 first | refine gl_v rfl (o_load rfl rfl) ?_ | refine gl_v rfl (o_loadS rfl rfl) ?_ | refine gl_v rfl (o_loadC rfl) ?_
 refine gl_gT rfl rfl rfl ?_
 first | refine gl_v rfl (o_len rfl) ?_ | refine gl_v rfl (o_lenL rfl) ?_
 refine gl_gT rfl rfl rfl ?_
 first | refine gl_v rfl (o_fldS rfl) ?_ | refine gl_v rfl (o_fld rfl) ?_
 refine gl_gT rfl rfl rfl ?_
 first | refine gl_v rfl (o_load rfl rfl) ?_ | refine gl_v rfl (o_loadS rfl rfl) ?_ | refine gl_v rfl (o_loadC rfl) ?_
 refine gl_gT rfl rfl rfl ?_
 first | refine gl_v rfl (o_len rfl) ?_ | refine gl_v rfl (o_lenL rfl) ?_
 refine gl_gT rfl rfl rfl ?_
 refine gl_v rfl (o_addR ((Lp.length + Lq.length : Nat) : Int) (by rw [wr_i64 (by omega)]; omega) rfl rfl) ?_
 refine gl_gT rfl rfl rfl ?_
 refine gl_v rfl (o_is (c := false) (by rw [List.length_append]; (simp <;> omega)) (o_neq rfl rfl)) ?_
 refine gl_v rfl (o_pickF rfl rfl rfl) ?_
 refine gl_nil ?_
 refine ge_then ?_
 refine g_cond_false rfl ?_
 refine g_skip ?_
 refine ge_then ?_
 refine g_seq ?_
 refine g_fact (p := (X ++ Y).length ≤ cr) (fact_of (A := prgA ar cr (X ++ Y)) (by repeat (first | exact .head | apply Sel.tail)) fun h p => p.rd.2) ?_
 intro hcap
 rw [List.length_append] at hcap
 refine g_region ?_
 first | refine gl_v rfl (o_fldS rfl) ?_ | refine gl_v rfl (o_fld rfl) ?_
 first | refine gl_v rfl (o_load rfl rfl) ?_ | refine gl_v rfl (o_loadS rfl rfl) ?_ | refine gl_v rfl (o_loadC rfl) ?_
 first | refine gl_v rfl (o_fldS rfl) ?_ | refine gl_v rfl (o_fld rfl) ?_
 first | refine gl_v rfl (o_load rfl rfl) ?_ | refine gl_v rfl (o_loadS rfl rfl) ?_ | refine gl_v rfl (o_loadC rfl) ?_
 first | refine gl_v rfl (o_len rfl) ?_ | refine gl_v rfl (o_lenL rfl) ?_
 refine gl_v rfl (o_slTo rfl rfl (show Lp.length ≤ cr by omega)) ?_
 refine gl_v rfl (o_build rfl rfl) ?_
 refine gl_n rfl (o_alloc) ?_
 rintro _ _ ⟨b11, rfl, rfl⟩
 first | refine gl_u (o_storeSA rfl rfl rfl rfl (by simp; omega) (by simp)) ?_ | refine gl_u (o_storeA rfl rfl rfl rfl rfl) ?_
 refine gl_nil ?_
 refine ge_then ?_
 refine g_seq ?_
 refine g_region ?_
 first | refine gl_v rfl (o_fldS rfl) ?_ | refine gl_v rfl (o_fld rfl) ?_
 first | refine gl_v rfl (o_load rfl rfl) ?_ | refine gl_v rfl (o_loadS rfl rfl) ?_ | refine gl_v rfl (o_loadC rfl) ?_
 first | refine gl_v rfl (o_fldS rfl) ?_ | refine gl_v rfl (o_fld rfl) ?_
 first | refine gl_v rfl (o_load rfl rfl) ?_ | refine gl_v rfl (o_loadS rfl rfl) ?_ | refine gl_v rfl (o_loadC rfl) ?_
 first | refine gl_v rfl (o_len rfl) ?_ | refine gl_v rfl (o_lenL rfl) ?_
 refine gl_v rfl (o_slFrom rfl rfl (by rw [List.length_append]; omega)) ?_
 refine gl_v rfl (o_build rfl rfl) ?_
 refine gl_n rfl (o_alloc) ?_
 rintro _ _ ⟨b12, rfl, rfl⟩
 first | refine gl_u (o_storeSA rfl rfl rfl rfl (by simp; omega) (by simp)) ?_ | refine gl_u (o_storeA rfl rfl rfl rfl rfl) ?_
 refine gl_nil ?_
 refine ge_then ?_
 refine g_seq ?_
 refine g_region ?_
 first | refine gl_v rfl (o_loadSA rfl rfl rfl) ?_ | refine gl_v rfl (o_loadA rfl rfl rfl) ?_
 first | refine gl_v rfl (o_loadSA rfl rfl rfl) ?_ | refine gl_v rfl (o_loadA rfl rfl rfl) ?_
 refine gl_imp (fun h s => sat_both.2 (Part.to (m := [prgA ar cr (X ++ Y), prgA ap cp Lp]) (by repeat (first | exact .nil | (apply Part.cons; · (repeat (first | exact .head | apply Sel.tail))))) s)) ?_
 refine gl_c rfl (o_call rfl (Same_n (both (prgA ar cr (X ++ Y)) (prgA ap cp Lp)) X Lp _ _ ar ap cr cp hXl.symm rfl (prg_l fun h p => PrgOk.front p) (prg_r fun h p => p) hwX hX) (by repeat (first | exact .nil | (apply Part.cons; · (repeat (first | exact .head | apply Sel.tail)))))) ?_
 rintro _ R ⟨_, ⟨rfl, rfl⟩, rfl⟩
 try simp only [List.cons_append, List.nil_append]
 refine gl_imp (fun h s => sat_both.1 (Sel.to (A := both (prgA ar cr (X ++ Y)) (prgA ap cp Lp)) (by repeat (first | exact .head | apply Sel.tail)) s)) ?_
 try simp only [List.append_eq, List.nil_append, List.cons_append]
 refine gl_v rfl (o_move rfl) ?_
 refine gl_gT rfl rfl rfl ?_
 first | refine gl_v rfl (o_loadSA rfl rfl rfl) ?_ | refine gl_v rfl (o_loadA rfl rfl rfl) ?_
 refine gl_gT rfl rfl rfl ?_
 first | refine gl_v rfl (o_loadSA rfl rfl rfl) ?_ | refine gl_v rfl (o_loadA rfl rfl rfl) ?_
 refine gl_gT rfl rfl rfl ?_
 refine gl_imp (fun h s => sat_both.2 (Part.to (m := [prgA ar cr (X ++ Y), prgA aq cq Lq]) (by repeat (first | exact .nil | (apply Part.cons; · (repeat (first | exact .head | apply Sel.tail))))) s)) ?_
 refine gl_c rfl (o_call rfl (Same_n (both (prgA ar cr (X ++ Y)) (prgA aq cq Lq)) Y Lq _ _ (if cr = Lp.length then ar else ar.map (fun x : Addr => x.add (Lp.length * 5))) aq (cr - Lp.length) cq (by rw [List.length_append]; omega) rfl (prg_l fun h p => PrgOk.back p hXl.symm) (prg_r fun h p => p) hwY hY) (by repeat (first | exact .nil | (apply Part.cons; · (repeat (first | exact .head | apply Sel.tail)))))) ?_
 rintro _ R ⟨_, ⟨rfl, rfl⟩, rfl⟩
 try simp only [List.cons_append, List.nil_append]
 refine gl_imp (fun h s => sat_both.1 (Sel.to (A := both (prgA ar cr (X ++ Y)) (prgA aq cq Lq)) (by repeat (first | exact .head | apply Sel.tail)) s)) ?_
 try simp only [List.append_eq, List.nil_append, List.cons_append]
 refine gl_v rfl (o_pickT rfl rfl rfl) ?_
 refine gl_v rfl (o_assign rfl) ?_
 refine gl_nil ?_
 refine ge_then ?_
 refine g_ret ?_
 refine ret1 (.inl rfl) rfl rfl [base W] (⟨rfl, rfl⟩) (To.sat (by repeat (first | exact .nil | exact .done .refl | (apply To.cons; · (repeat (first | exact .head | apply Sel.tail))) | exact .done (by repeat (first | exact .refl | apply Drop.skip)))))

theorem ParseJoins_spec {W : World} (hG : Gok W) (a b : By) (ha : a.length ≤ 140737488351232) (hb : b.length ≤ 140737488351232) : FnS Tryz.prog 8 [S a, S b] [base W] (fun u Bs => u = .bool true ∧ Bs = [base W]) := by
  by_cases hbig : 16000 < a.length + b.length
  · exact Joins_big hG a b ha hb hbig
  have h : a.length + b.length ≤ 16000 := by omega
  have hj := join_prg h
  have hab : a ++ [10] ++ b = a ++ 10 :: b := by rw [List.append_assoc]; rfl
  rw [← hab] at hj
  cases hp : progP a with
  | error e =>
    rw [hp] at hj
    by_cases h31 : e.1 = 31
    · obtain ⟨e1, e2⟩ := e
      obtain rfl : e1 = 31 := h31
      exact Joins_31 hG a b ha hb h e2 hp
    rcases hj with hj | ⟨e', hr, hj⟩
    · exact absurd hj h31
    by_cases he : e' = e
    · exact Joins_same hG a b ha hb h e e' hp h31 hr he
    have h30 : e.1 = 30 := hj.resolve_left he
    by_cases hc : e'.1 = e.1
    · exact Joins_30b hG a b ha hb h e e' hp h31 hr h30 hc fun hd => he (Prod.ext hc hd)
    · exact Joins_30 hG a b ha hb h e e' hp h31 hr h30 hc
  | ok K =>
    rw [hp] at hj
    cases hq : progP b with
    | error f => simp only [hq] at hj; exact Joins_f hG a b ha hb h K f hp hq (prg_at hq).2 hj
    | ok J => simp only [hq] at hj; exact Joins_ok hG a b ha hb h K J hp hq hj

end Go.Proofs.YtgkjnilckmminaaGreatDoor.L
